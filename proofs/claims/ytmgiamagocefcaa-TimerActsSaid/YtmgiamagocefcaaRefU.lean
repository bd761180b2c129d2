/- The document's own answer (freshetref6): who is by then. -/
import Derived.Test.YtmgiamagocefcaaRefD
namespace Go.Proofs.Ytmgiamagocefcaa
open Go.Xs
open Enc (enc)

theorem upto_unique {at_ : Int} {L l : List (Int × Int)} (h : SS byAt (L.filter fun e => decide (byAt e ≤ at_)) l) : l = upto at_ L :=
  h.unique ((isort_SS L).filter at_)

theorem c21 {mb : Nat} {v : Value} {L : List (Int × Int)} {H : List Chunk} (hL : Slc 42 v L H) (hlen : L.length < 2 ^ 38) (at_ : Int) :
    Tri Try.prog 21 #[.pointer (some ⟨mb, 0, none⟩), .int .i64 at_] [mseg mb v, H] (fun r S => ∃ Ho, Slc 42 r (upto at_ L) Ho ∧ S = [Ho, mseg mb v, H]) := by
  refine Tri.forget (ycallee Try.fx21 (Nat.le_of_ble_eq_true rfl) ?_)
  unfold Try.x21
  obtain ⟨a, c, rfl⟩ := hL.isSlice
  refine yseq ?_
  refine yregion ?_
  refine yp pC ?_
  refine ynil ?_
  refine tnorm ?_
  refine yseq ?_
  refine yregion ?_
  refine yp pC ?_
  refine ynil ?_
  refine tnorm ?_
  refine yseq ?_
  refine yseq ?_
  refine yregion ?_
  refine yp pC ?_
  refine ynil ?_
  refine tnorm ?_
  refine yblock ?_
  refine yloop (σ := Nat) (fun i E S => Has E [(0, .pointer (some ⟨mb, 0, none⟩)), (1, .int .i64 at_), (6, .int .i64 i)] ∧ i ≤ L.length ∧ ∃ l lv G, SS byAt ((L.take i).filter fun e => decide (byAt e ≤ at_)) l ∧ Slc 42 lv l G ∧ E 5 = lv ∧ Junk S [G, mseg mb (.slice a L.length c), H]) (fun i => L.length - i) 0 ⟨⟨rfl, rfl, rfl, trivial⟩, Nat.zero_le _, [], _, [], ⟨.nil, fun _ => rfl⟩, .nil, rfl, .of⟩ fun i E S ⟨hE, hi, l, lv, G, hS, hl, hE5, hJ⟩ => ?_
  have hll : l.length ≤ i := by
    have h1 : l = isort byAt ((L.take i).filter fun e => decide (byAt e ≤ at_)) := hS.eq
    have h2 := (isort_perm (key := byAt) ((L.take i).filter fun e => decide (byAt e ≤ at_))).length_eq
    rw [← h1] at h2
    have h3 := List.length_filter_le (fun e => decide (byAt e ≤ at_)) (L.take i)
    have h4 := List.length_take_le i L
    omega
  obtain ⟨al, cl, rfl⟩ := hl.isSlice
  have hE2 : Has E [(5, .slice al l.length cl), (0, .pointer (some ⟨mb, 0, none⟩)), (1, .int .i64 at_), (6, .int .i64 i)] := ⟨hE5, hE⟩
  obtain ⟨E0, e0⟩ := has_puts hE2; subst e0; clear hE2
  refine yforget hJ ?_
  refine yseq ?_
  refine yseq ?_
  refine yregion ?_
  refine yp (pI rfl) ?_
  refine yp (pP rfl) ?_
  refine yp (pNilc rfl) ?_
  refine yp (pFadr rfl) ?_
  refine ycons (yload1 rfl rfl ?_)
  refine yp (pLen rfl) ?_
  refine yp (pLt rfl rfl) ?_
  refine ynil ?_
  refine tnorm ?_
  refine ycondD rfl (fun h => ?_) (fun h => ?_)
  · have hlt : i < L.length := by omega
    obtain ⟨b, sp, fz, hz, rfl, _, rfl, rfl⟩ := hL.at' (by intro h; simp [h] at hlt)
    have htk : L.take (i + 1) = L.take i ++ [L[i]] := by rw [List.take_add_one, List.getElem?_eq_getElem hlt]; rfl
    have hget : L[i]? = some L[i] := List.getElem?_eq_getElem hlt
    have hload : ((cells (L ++ sp)).toArray.toList)[0 + i * 2 + 1]? = some (.int .i64 L[i].2) := (row_cell (kk := 2) (j := 1) hlt rfl (by omega)).trans rfl
    generalize L[i] = e at htk hget hload
    refine yskip ?_
    refine tnorm ?_
    refine yseq ?_
    refine yblock ?_
    refine yseq ?_
    refine yseq ?_
    refine yregion ?_
    refine yp (pP rfl) ?_
    refine yp (pNilc rfl) ?_
    refine yp (pFadr rfl) ?_
    refine ycons (yload1 rfl rfl ?_)
    refine yp (pI rfl) ?_
    refine yp (pIxN rfl rfl (by omega)) ?_
    refine yp (pFadr rfl) ?_
    refine ycons (yload1 (v := .int .i64 e.2) rfl hload ?_)
    refine yp (pI rfl) ?_
    refine yp (pGt rfl rfl) ?_
    refine ynil ?_
    refine tnorm ?_
    refine ycondD rfl (fun h2 => ?_) (fun h2 => ?_)
    · refine yexit ?_
      refine texit ?_
      refine bexit ?_
      refine tnorm ?_
      refine yregion ?_
      refine yp (pI rfl) ?_
      refine yp (pInc rfl rfl (by omega)) ?_
      refine yp (pI rfl) ?_
      refine ynil ?_
      refine tnorm ?_
      refine ⟨i + 1, ⟨⟨rfl, rfl, rfl, trivial⟩, by omega, l, _, G, ?_, hl, rfl, .of⟩, by omega⟩
      rw [htk, List.filter_append, List.filter_cons_of_neg (fun h9 => by have h8 := of_decide_eq_true h9; simp only [byAt] at h8; omega), List.filter_nil, List.append_nil]
      exact hS
    refine yskip ?_
    refine tnorm ?_
    refine yseq ?_
    refine yregion ?_
    refine yp (pS rfl) ?_
    refine yp (pLen rfl) ?_
    refine yp (pI rfl) ?_
    refine ynil ?_
    refine tnorm ?_
    refine ycut (fun E S => ∃ k : Nat, Has E [(0, .pointer (some ⟨mb, 0, none⟩)), (1, .int .i64 at_), (5, .slice al l.length cl), (6, .int .i64 i), (7, .int .i64 k)] ∧ k ≤ l.length ∧ SS byAt ((L.take (i + 1)).filter fun e => decide (byAt e ≤ at_)) (l.take k ++ e :: l.drop k) ∧ Junk S [G, mseg mb (.slice (some ⟨b, 0, none⟩) L.length (L.length + sp.length)), [(b, .cells (cells (L ++ sp)).toArray 42 fz)]]) ?_ ?_
    · refine yblock ?_
      refine yloop (σ := Nat) (fun k E S => Has E [(0, .pointer (some ⟨mb, 0, none⟩)), (1, .int .i64 at_), (5, .slice al l.length cl), (6, .int .i64 i), (7, .int .i64 k)] ∧ k ≤ l.length ∧ (∀ x ∈ l.drop k, e.2 < byAt x) ∧ Junk S [G, mseg mb (.slice (some ⟨b, 0, none⟩) L.length (L.length + sp.length)), [(b, .cells (cells (L ++ sp)).toArray 42 fz)]]) (fun k => k) l.length ⟨⟨rfl, rfl, rfl, rfl, rfl, trivial⟩, Nat.le_refl _, by simp, .of⟩ fun k E S ⟨hE, hk, hgt, hJ⟩ => ?_
      obtain ⟨E0, e0⟩ := has_puts hE; subst e0; clear hE
      refine yforget hJ ?_
      have hins : (k = 0 ∨ ∃ w, l[k - 1]? = some w ∧ w.2 ≤ e.2) → SS byAt ((L.take (i + 1)).filter fun e => decide (byAt e ≤ at_)) (l.take k ++ e :: l.drop k) := by
        intro hk0
        rw [htk, List.filter_append, List.filter_cons_of_pos (by simp only [byAt]; exact decide_eq_true (by omega)), List.filter_nil]
        refine SS.insert (by rw [List.take_append_drop]; exact hS) (fun x hx => ?_) hgt
        rcases hk0 with rfl | ⟨w, hw, hle⟩
        · simp at hx
        · by_cases hk1 : k = 0
          · subst hk1; simp at hx
          obtain ⟨hwl, _⟩ := List.getElem?_eq_some_iff.1 hw
          have : l.take k = l.take (k - 1) ++ [w] := by
            rw [show k = k - 1 + 1 from by omega, List.take_add_one, hw]; rfl
          rw [this] at hx
          simp at hx
          subst hx
          exact hle
      refine yseq ?_
      refine yseq ?_
      refine ydraw ?_
      refine ytq (pI rfl) ?_
      refine ytq (pGt rfl rfl) ?_
      refine ytq (pB rfl) ?_
      by_cases hk0 : (0 : Int) < k
      · rw [decide_eq_true hk0]
        obtain ⟨w, hw⟩ : ∃ w, l[k - 1]? = some w := ⟨_, List.getElem?_eq_getElem (by omega)⟩
        obtain ⟨hwl, hwe⟩ := List.getElem?_eq_some_iff.1 hw
        obtain ⟨b2, sp2, fz2, hz2, rfl, _, rfl, rfl⟩ := hl.at' (by intro h; simp [h] at hwl)
        have hload2 : ((cells (l ++ sp2)).toArray.toList)[0 + (k - 1) * 2 + 1]? = some (.int .i64 w.2) := (row_cell (kk := 2) (j := 1) hwl rfl (by omega)).trans (by rw [hwe]; rfl)
        refine ytgT rfl ?_
        refine ytq (pS rfl) ?_
        refine ytgT rfl ?_
        refine ytq (pI rfl) ?_
        refine ytgT rfl ?_
        refine ytq (pDec rfl rfl (by omega)) ?_
        refine ytgT rfl ?_
        refine ytq (pIxN rfl rfl (by omega)) ?_
        refine ytgT rfl ?_
        refine ytq (pFadr rfl) ?_
        refine ytgT rfl ?_
        refine ytl1 (v := .int .i64 w.2) rfl hload2 ?_
        refine ytgT rfl ?_
        refine ytq (pP rfl) ?_
        refine ytgT rfl ?_
        refine ytq (pNilc rfl) ?_
        refine ytgT rfl ?_
        refine ytq (pFadr rfl) ?_
        refine ytgT rfl ?_
        refine ytl1 rfl rfl ?_
        refine ytgT rfl ?_
        refine ytq (pI rfl) ?_
        refine ytgT rfl ?_
        refine ytq (pIxN rfl rfl (by omega)) ?_
        refine ytgT rfl ?_
        refine ytq (pFadr rfl) ?_
        refine ytgT rfl ?_
        refine ytl1 (v := .int .i64 e.2) rfl hload ?_
        refine ytgT rfl ?_
        refine ytq (pGt rfl rfl) ?_
        refine ytq (pPickT rfl rfl) ?_
        refine ytdone ?_
        refine tnorm ?_
        by_cases hwe2 : e.2 < w.2
        · rw [decide_eq_true hwe2]
          refine ycondT rfl ?_
          refine yskip ?_
          refine tnorm ?_
          refine yblock ?_
          refine yregion ?_
          refine yp (pI rfl) ?_
          refine yp (pDec rfl rfl (by omega)) ?_
          refine yp (pI rfl) ?_
          refine ynil ?_
          refine bnorm ?_
          refine tnorm ?_
          refine ⟨k - 1, ⟨⟨rfl, rfl, rfl, rfl, rfl, trivial⟩, by omega, ?_, .of⟩, by omega⟩
          intro x hx
          have hd : l.drop (k - 1) = w :: l.drop k := by
            have := List.drop_eq_getElem_cons hwl
            rw [hwe, show k - 1 + 1 = k from by omega] at this
            exact this
          rw [hd] at hx
          rcases List.mem_cons.1 hx with rfl | hx
          · exact hwe2
          · exact hgt x hx
        · rw [decide_eq_false hwe2]
          refine ycondF rfl ?_
          refine yexit ?_
          refine texit ?_
          refine texit ?_
          refine bexit ?_
          refine tnorm ?_
          exact ⟨k, ⟨rfl, rfl, rfl, rfl, rfl, trivial⟩, hk, hins (.inr ⟨w, hw, by omega⟩), .of⟩
      · rw [decide_eq_false hk0]
        refine ytgF rfl ?_
        refine ytgF rfl ?_
        refine ytgF rfl ?_
        refine ytgF rfl ?_
        refine ytgF rfl ?_
        refine ytgF rfl ?_
        refine ytgF rfl ?_
        refine ytgF rfl ?_
        refine ytgF rfl ?_
        refine ytgF rfl ?_
        refine ytgF rfl ?_
        refine ytgF rfl ?_
        refine ytgF rfl ?_
        refine ytgF rfl ?_
        refine ytgF rfl ?_
        refine ytq (pPickF rfl rfl) ?_
        refine ytdone ?_
        refine tnorm ?_
        refine ycondF rfl ?_
        refine yexit ?_
        refine texit ?_
        refine texit ?_
        refine bexit ?_
        refine tnorm ?_
        exact ⟨k, ⟨rfl, rfl, rfl, rfl, rfl, trivial⟩, hk, hins (.inl (by omega)), .of⟩
    rintro E S ⟨k, hE, hk, hSk, hJ⟩
    obtain ⟨E0, e0⟩ := has_puts hE; subst e0; clear hE
    refine yforget hJ ?_
    rcases hl.inv with ⟨hlv, rfl, rfl⟩ | ⟨b2, sp2, fz2, hz2, hlv, rfl⟩
    · obtain rfl : k = 0 := by simpa using hk
      cases hlv
      refine ydraw ?_
      refine ytq (pS rfl) ?_
      refine ytq (pI rfl) ?_
      refine ytq (v := .slice none 0 0) rfl ?_
      refine ytq (pP rfl) ?_
      refine ytq (pNilc rfl) ?_
      refine ytq (pFadr rfl) ?_
      refine ytl1 rfl rfl ?_
      refine ytq (pI rfl) ?_
      refine ytq (pIxN rfl rfl (by omega)) ?_
      refine ytlN (l := enc e) rfl (row_elem' hget rfl) rfl ?_
      refine ytq (pS rfl) ?_
      refine ytq (pI rfl) ?_
      refine ytq (v := .slice none 0 0) rfl ?_
      refine ytaltC (ybsl0 fun p50 => ⟨by simp, ?_⟩) ?_
      · refine ytaltC (yapp (Y := ([] : List (Int × Int))) rfl rfl Slc.empty .nil rfl (0, 0) rfl (by simp) (by simp) fun v1 H1 hL1 => ⟨by simp, ?_⟩) ?_
        · refine ytalt (ybsl1 e rfl rfl (by decide) (by decide) rfl fun p62 => ?_) ytno
          refine ytalt (yapp (Y := [e]) rfl rfl hL1 (.lit (b := p62) (e := 42) ?_ rfl) rfl (0, 0) rfl (by simp) (by simp) fun v2 H2 hL2 => ?_) ytno
          · simp
          refine ytalt (yapp (Y := ([] : List (Int × Int))) rfl rfl hL2 .nil rfl (0, 0) rfl (by simp) (by simp) fun v3 H3 hL3 => ?_) ytno
          obtain ⟨a3, c3, rfl⟩ := hL3.isSlice
          refine ytq (pS rfl) ?_
          refine ytdone ?_
          refine bnorm ?_
          refine tnorm ?_
          refine yregion ?_
          refine yp (pI rfl) ?_
          refine yp (pInc rfl rfl (by omega)) ?_
          refine yp (pI rfl) ?_
          refine ynil ?_
          refine tnorm ?_
          refine ⟨i + 1, ⟨⟨rfl, rfl, rfl, trivial⟩, by omega, (([] : List (Int × Int)).take 0 ++ e :: ([] : List (Int × Int)).drop 0), .slice a3 ([] ++ ([] : List (Int × Int)) ++ [e] ++ ([] : List (Int × Int))).length c3, H3, ?_, ?_, rfl, .of⟩, by omega⟩
          · exact hSk
          · simpa using hL3

        · refine ytalt (ybsl1 e rfl rfl (by decide) (by decide) rfl fun p62 => ?_) ytno
          refine ytaltC (yapp (Y := ([] : List (Int × Int))) rfl rfl Slc.empty .nil rfl (0, 0) rfl (by simp) (by simp) fun v1 H1 hL1 => ⟨by simp, ?_⟩) ytno
          refine ytalt (yapp (Y := [e]) rfl rfl hL1 (.lit (b := p62) (e := 42) ?_ rfl) rfl (0, 0) rfl (by simp) (by simp) fun v2 H2 hL2 => ?_) ytno
          · simp
          refine ytalt (yapp (Y := ([] : List (Int × Int))) rfl rfl hL2 .nil rfl (0, 0) rfl (by simp) (by simp) fun v3 H3 hL3 => ?_) ytno
          obtain ⟨a3, c3, rfl⟩ := hL3.isSlice
          refine ytq (pS rfl) ?_
          refine ytdone ?_
          refine bnorm ?_
          refine tnorm ?_
          refine yregion ?_
          refine yp (pI rfl) ?_
          refine yp (pInc rfl rfl (by omega)) ?_
          refine yp (pI rfl) ?_
          refine ynil ?_
          refine tnorm ?_
          refine ⟨i + 1, ⟨⟨rfl, rfl, rfl, trivial⟩, by omega, (([] : List (Int × Int)).take 0 ++ e :: ([] : List (Int × Int)).drop 0), .slice a3 ([] ++ ([] : List (Int × Int)) ++ [e] ++ ([] : List (Int × Int))).length c3, H3, ?_, ?_, rfl, .of⟩, by omega⟩
          · exact hSk
          · simpa using hL3

      · refine ytalt (ybsl1 e rfl rfl (by decide) (by decide) rfl fun p62 => ?_) ytno
        refine ytaltC (ybsl0 fun p50 => ⟨by simp, ?_⟩) ytno
        refine ytaltC (yapp (Y := ([] : List (Int × Int))) rfl rfl Slc.empty .nil rfl (0, 0) rfl (by simp) (by simp) fun v1 H1 hL1 => ⟨by simp, ?_⟩) ytno
        refine ytalt (yapp (Y := [e]) rfl rfl hL1 (.lit (b := p62) (e := 42) ?_ rfl) rfl (0, 0) rfl (by simp) (by simp) fun v2 H2 hL2 => ?_) ytno
        · simp
        refine ytalt (yapp (Y := ([] : List (Int × Int))) rfl rfl hL2 .nil rfl (0, 0) rfl (by simp) (by simp) fun v3 H3 hL3 => ?_) ytno
        obtain ⟨a3, c3, rfl⟩ := hL3.isSlice
        refine ytq (pS rfl) ?_
        refine ytdone ?_
        refine bnorm ?_
        refine tnorm ?_
        refine yregion ?_
        refine yp (pI rfl) ?_
        refine yp (pInc rfl rfl (by omega)) ?_
        refine yp (pI rfl) ?_
        refine ynil ?_
        refine tnorm ?_
        refine ⟨i + 1, ⟨⟨rfl, rfl, rfl, trivial⟩, by omega, (([] : List (Int × Int)).take 0 ++ e :: ([] : List (Int × Int)).drop 0), .slice a3 ([] ++ ([] : List (Int × Int)) ++ [e] ++ ([] : List (Int × Int))).length c3, H3, ?_, ?_, rfl, .of⟩, by omega⟩
        · exact hSk
        · simpa using hL3
    · cases hlv
      refine ydraw ?_
      refine ytq (pS rfl) ?_
      refine ytq (pI rfl) ?_
      refine ytq (pSlTo rfl rfl (by omega)) ?_
      refine ytq (pP rfl) ?_
      refine ytq (pNilc rfl) ?_
      refine ytq (pFadr rfl) ?_
      refine ytl1 rfl rfl ?_
      refine ytq (pI rfl) ?_
      refine ytq (pIxN rfl rfl (by omega)) ?_
      refine ytlN (l := enc e) rfl (row_elem' hget rfl) rfl ?_
      refine ytq (pS rfl) ?_
      refine ytq (pI rfl) ?_
      refine ytq (pSlFrom rfl rfl (by omega)) ?_
      refine ytaltC (ybsl0 fun p50 => ⟨by simp, ?_⟩) ?_
      · refine ytaltC (yapp (Y := (l.take k)) rfl rfl Slc.empty (Src.head (b := b2) (L := l) (sp := sp2) (ty := 42) (fz := fz2) ?_ hk) rfl (0, 0) rfl (by rw [List.length_take]; simp; omega) (by rw [List.length_take]; simp; omega) fun v1 H1 hL1 => ⟨by simp, ?_⟩) ?_
        · simp
        · refine ytalt (ybsl1 e rfl rfl (by decide) (by decide) rfl fun p62 => ?_) ytno
          refine ytalt (yapp (Y := [e]) rfl rfl hL1 (.lit (b := p62) (e := 42) ?_ rfl) rfl (0, 0) rfl (by simp; omega) (by simp; omega) fun v2 H2 hL2 => ?_) ytno
          · simp
          refine ytalt (yapp (Y := (l.drop k)) rfl rfl hL2 (Src.tail (b := b2) (L := l) (sp := sp2) (ty := 42) (fz := fz2) (j := k) ?_ rfl hk) rfl (0, 0) rfl (by simp; omega) (by simp; omega) fun v3 H3 hL3 => ?_) ytno
          · simp
          obtain ⟨a3, c3, rfl⟩ := hL3.isSlice
          refine ytq (pS rfl) ?_
          refine ytdone ?_
          refine bnorm ?_
          refine tnorm ?_
          refine yregion ?_
          refine yp (pI rfl) ?_
          refine yp (pInc rfl rfl (by omega)) ?_
          refine yp (pI rfl) ?_
          refine ynil ?_
          refine tnorm ?_
          refine ⟨i + 1, ⟨⟨rfl, rfl, rfl, trivial⟩, by omega, (l.take k ++ e :: l.drop k), .slice a3 ([] ++ (l.take k) ++ [e] ++ (l.drop k)).length c3, H3, ?_, ?_, rfl, .of⟩, by omega⟩
          · exact hSk
          · simpa using hL3

        · refine ytalt (ybsl1 e rfl rfl (by decide) (by decide) rfl fun p62 => ?_) ytno
          refine ytaltC (yapp (Y := (l.take k)) rfl rfl Slc.empty (Src.head (b := b2) (L := l) (sp := sp2) (ty := 42) (fz := fz2) ?_ hk) rfl (0, 0) rfl (by rw [List.length_take]; simp; omega) (by rw [List.length_take]; simp; omega) fun v1 H1 hL1 => ⟨by simp, ?_⟩) ytno
          · simp
          refine ytalt (yapp (Y := [e]) rfl rfl hL1 (.lit (b := p62) (e := 42) ?_ rfl) rfl (0, 0) rfl (by simp; omega) (by simp; omega) fun v2 H2 hL2 => ?_) ytno
          · simp
          refine ytalt (yapp (Y := (l.drop k)) rfl rfl hL2 (Src.tail (b := b2) (L := l) (sp := sp2) (ty := 42) (fz := fz2) (j := k) ?_ rfl hk) rfl (0, 0) rfl (by simp; omega) (by simp; omega) fun v3 H3 hL3 => ?_) ytno
          · simp
          obtain ⟨a3, c3, rfl⟩ := hL3.isSlice
          refine ytq (pS rfl) ?_
          refine ytdone ?_
          refine bnorm ?_
          refine tnorm ?_
          refine yregion ?_
          refine yp (pI rfl) ?_
          refine yp (pInc rfl rfl (by omega)) ?_
          refine yp (pI rfl) ?_
          refine ynil ?_
          refine tnorm ?_
          refine ⟨i + 1, ⟨⟨rfl, rfl, rfl, trivial⟩, by omega, (l.take k ++ e :: l.drop k), .slice a3 ([] ++ (l.take k) ++ [e] ++ (l.drop k)).length c3, H3, ?_, ?_, rfl, .of⟩, by omega⟩
          · exact hSk
          · simpa using hL3

      · refine ytalt (ybsl1 e rfl rfl (by decide) (by decide) rfl fun p62 => ?_) ytno
        refine ytaltC (ybsl0 fun p50 => ⟨by simp, ?_⟩) ytno
        refine ytaltC (yapp (Y := (l.take k)) rfl rfl Slc.empty (Src.head (b := b2) (L := l) (sp := sp2) (ty := 42) (fz := fz2) ?_ hk) rfl (0, 0) rfl (by rw [List.length_take]; simp; omega) (by rw [List.length_take]; simp; omega) fun v1 H1 hL1 => ⟨by simp, ?_⟩) ytno
        · simp
        refine ytalt (yapp (Y := [e]) rfl rfl hL1 (.lit (b := p62) (e := 42) ?_ rfl) rfl (0, 0) rfl (by simp; omega) (by simp; omega) fun v2 H2 hL2 => ?_) ytno
        · simp
        refine ytalt (yapp (Y := (l.drop k)) rfl rfl hL2 (Src.tail (b := b2) (L := l) (sp := sp2) (ty := 42) (fz := fz2) (j := k) ?_ rfl hk) rfl (0, 0) rfl (by simp; omega) (by simp; omega) fun v3 H3 hL3 => ?_) ytno
        · simp
        obtain ⟨a3, c3, rfl⟩ := hL3.isSlice
        refine ytq (pS rfl) ?_
        refine ytdone ?_
        refine bnorm ?_
        refine tnorm ?_
        refine yregion ?_
        refine yp (pI rfl) ?_
        refine yp (pInc rfl rfl (by omega)) ?_
        refine yp (pI rfl) ?_
        refine ynil ?_
        refine tnorm ?_
        refine ⟨i + 1, ⟨⟨rfl, rfl, rfl, trivial⟩, by omega, (l.take k ++ e :: l.drop k), .slice a3 ([] ++ (l.take k) ++ [e] ++ (l.drop k)).length c3, H3, ?_, ?_, rfl, .of⟩, by omega⟩
        · exact hSk
        · simpa using hL3
  · refine yexit ?_
    refine texit ?_
    refine texit ?_
    refine bexit ?_
    refine tnorm ?_
    refine yseq ?_
    refine yregion ?_
    refine yp (pS rfl) ?_
    refine yp (pS rfl) ?_
    refine ynil ?_
    refine tnorm ?_
    refine yret ?_
    have hfull : L.take i = L := List.take_of_length_le (by omega)
    rw [hfull] at hS
    have hu := upto_unique hS
    rw [← hu]
    exact yfin (rS rfl) ⟨_, .of, G, hl, rfl⟩
end Go.Proofs.Ytmgiamagocefcaa
