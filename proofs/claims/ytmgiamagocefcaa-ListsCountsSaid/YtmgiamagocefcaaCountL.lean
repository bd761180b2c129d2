/- ListsCounts: what it computes. -/
import Derived.Test.YtmgiamagocefcaaCounts
namespace Go.Proofs.Ytmgiamagocefcaa
open Go.Xs
open Enc (enc)

theorem c13 {S : Segs} (n : Int) {v w : Value} {T D : List Int} (hT : Src S v T) (_hm : T.length ≤ maxLen) (_hq : ∀ a ∈ T, InI a) (hD : Src S w D) (_hm2 : D.length ≤ maxLen) (_hq2 : ∀ a ∈ D, InI a) : Tri Try.prog 13 #[.int .i64 n, v, w] S (fun r S' => r = .bool true ∧ S' = S) := by
  refine Tri.forget (ycallee Try.fx13 (Nat.le_of_ble_eq_true rfl) ?_)
  unfold Try.x13
  obtain ⟨at0, ct0, rfl⟩ := hT.isSlice
  obtain ⟨ad0, cd0, rfl⟩ := hD.isSlice
  refine yseq ?_
  refine yregion ?_
  refine yp pC ?_
  refine ynil ?_
  refine tnorm ?_
  refine yseq ?_
  refine yseq ?_
  refine yregion ?_
  refine yp (pI rfl) ?_
  refine yp (pLt rfl rfl) ?_
  refine yp (pB rfl) ?_
  by_cases h1 : n < 0
  · rw [decide_eq_true h1]
    refine ygF rfl ?_
    refine ygF rfl ?_
    refine yp (pPickT rfl rfl) ?_
    refine yp (pB rfl) ?_
    refine ygF rfl ?_
    refine ygF rfl ?_
    refine ygF rfl ?_
    refine yp (pPickT rfl rfl) ?_
    refine yp (pB rfl) ?_
    refine ygF rfl ?_
    refine ygF rfl ?_
    refine ygF rfl ?_
    refine yp (pPickT rfl rfl) ?_
    refine ynil ?_
    refine tnorm ?_
    refine ycondT rfl ?_
    refine yseq ?_
    refine yregion ?_
    refine ycons (ycall c27 rfl rfl fun r S' h => ?_)
    obtain ⟨rfl, rfl⟩ := h
    refine yp (pB rfl) ?_
    refine ynil ?_
    refine tnorm ?_
    refine yret ?_
    refine tret ?_
    exact yfin (rB rfl) ⟨_, .of, rfl, rfl⟩
  rw [decide_eq_false h1]
  refine ygT rfl ?_
  refine yop (pI rfl) ?_
  refine ygT rfl ?_
  refine yop (pGt rfl rfl) ?_
  refine yp (pPickF rfl rfl) ?_
  refine yp (pB rfl) ?_
  by_cases h2 : 20 < n
  · rw [decide_eq_true h2]
    refine ygF rfl ?_
    refine ygF rfl ?_
    refine ygF rfl ?_
    refine yp (pPickT rfl rfl) ?_
    refine yp (pB rfl) ?_
    refine ygF rfl ?_
    refine ygF rfl ?_
    refine ygF rfl ?_
    refine yp (pPickT rfl rfl) ?_
    refine ynil ?_
    refine tnorm ?_
    refine ycondT rfl ?_
    refine yseq ?_
    refine yregion ?_
    refine ycons (ycall c27 rfl rfl fun r S' h => ?_)
    obtain ⟨rfl, rfl⟩ := h
    refine yp (pB rfl) ?_
    refine ynil ?_
    refine tnorm ?_
    refine yret ?_
    refine tret ?_
    exact yfin (rB rfl) ⟨_, .of, rfl, rfl⟩
  rw [decide_eq_false h2]
  refine ygT rfl ?_
  refine yop (pS rfl) ?_
  refine ygT rfl ?_
  refine yop (pLen rfl) ?_
  refine ygT rfl ?_
  refine yop (pGt rfl rfl) ?_
  refine yp (pPickF rfl rfl) ?_
  refine yp (pB rfl) ?_
  by_cases h3 : 20 < (T.length : Int)
  · rw [decide_eq_true h3]
    refine ygF rfl ?_
    refine ygF rfl ?_
    refine ygF rfl ?_
    refine yp (pPickT rfl rfl) ?_
    refine ynil ?_
    refine tnorm ?_
    refine ycondT rfl ?_
    refine yseq ?_
    refine yregion ?_
    refine ycons (ycall c27 rfl rfl fun r S' h => ?_)
    obtain ⟨rfl, rfl⟩ := h
    refine yp (pB rfl) ?_
    refine ynil ?_
    refine tnorm ?_
    refine yret ?_
    refine tret ?_
    exact yfin (rB rfl) ⟨_, .of, rfl, rfl⟩
  rw [decide_eq_false h3]
  refine ygT rfl ?_
  refine yop (pS rfl) ?_
  refine ygT rfl ?_
  refine yop (pLen rfl) ?_
  refine ygT rfl ?_
  refine yop (pGt rfl rfl) ?_
  refine yp (pPickF rfl rfl) ?_
  refine ynil ?_
  refine tnorm ?_
  by_cases h4 : 20 < (D.length : Int)
  · rw [decide_eq_true h4]
    refine ycondT rfl ?_
    refine yseq ?_
    refine yregion ?_
    refine ycons (ycall c27 rfl rfl fun r S' h => ?_)
    obtain ⟨rfl, rfl⟩ := h
    refine yp (pB rfl) ?_
    refine ynil ?_
    refine tnorm ?_
    refine yret ?_
    refine tret ?_
    exact yfin (rB rfl) ⟨_, .of, rfl, rfl⟩
  rw [decide_eq_false h4]
  obtain ⟨N, rfl⟩ := Int.eq_ofNat_of_zero_le (show 0 ≤ n from by omega)
  refine ycondF rfl ?_
  refine yskip ?_
  refine tnorm ?_
  refine yseq ?_
  refine yregion ?_
  refine ycons (ycall (c28 3) rfl rfl fun r S' h => ?_)
  obtain ⟨lb, rfl, rfl⟩ := h
  rw [show max (3 : Int) 0 = 3 from by decide]
  refine yp (pP rfl) ?_
  refine ynil ?_
  refine tnorm ?_
  refine yseq ?_
  refine yseq ?_
  refine yregion ?_
  refine yp (pP rfl) ?_
  refine yp (pNilP rfl rfl) ?_
  refine ynil ?_
  refine tnorm ?_
  refine ycondF rfl ?_
  refine yskip ?_
  refine tnorm ?_
  refine yseq ?_
  refine yregion ?_
  refine ycons (ymksl (m := 20) (cap := 20) rfl rfl (by omega) rfl (by omega) (by omega) fun bi => ?_)
  rw [replicate_cells (z := [.bool false]) 20 false rfl]
  refine yp (pS rfl) ?_
  refine ynil ?_
  refine tnorm ?_
  refine yseq ?_
  refine yregion ?_
  refine yp (pI rfl) ?_
  refine yp (pI rfl) ?_
  refine ynil ?_
  refine tnorm ?_
  refine yseq ?_
  refine yseq ?_
  refine yregion ?_
  refine yp pC ?_
  refine ynil ?_
  refine tnorm ?_
  refine yblock ?_
  have hci0 : CI [] [] (List.replicate 20 false) := by
    refine ⟨by simp, by simp, by simp, fun k hk => ?_, by simp⟩
    rw [List.getElem?_replicate, if_pos hk]; simp
  refine yloop (σ := Nat) (fun i E S' => Has E [(0, .int .i64 N), (1, .slice at0 T.length ct0), (2, .slice ad0 D.length cd0), (7, .pointer (some ⟨lb, 0, none⟩)), (8, .slice (some ⟨bi, 0, none⟩) 20 20), (9, .int .i64 N), (10, .int .i64 i)] ∧ i ≤ N ∧ ∃ (A : List Int) (I : List Bool) (u : Value) (H : List Chunk), CI A [] I ∧ A.length = i ∧ (∀ e ∈ A, e < i) ∧ Slc 3 u A H ∧ Junk S' (lseg lb 3 u (.slice none 0 0) :: H :: iseg bi I :: S)) (fun i => N - i) 0 ⟨⟨rfl, rfl, rfl, rfl, rfl, rfl, rfl, trivial⟩, Nat.zero_le _, [], _, _, [], hci0, rfl, by simp, .nil, .of⟩ fun i E S' ⟨hE, hi, A, I, u, H, hci, hal, hlt, hA, hJ⟩ => ?_
  obtain ⟨E0, e0⟩ := has_puts hE; subst e0; clear hE
  refine yforget hJ ?_
  refine yseq ?_
  refine yseq ?_
  refine yregion ?_
  refine yp (pI rfl) ?_
  refine yp (pI rfl) ?_
  refine yp (pLt rfl rfl) ?_
  refine ynil ?_
  refine tnorm ?_
  refine ycondD rfl (fun h => ?_) (fun h => ?_)
  · have hadd : addL (i : Int) A [] = A ++ [(i : Int)] := by
      rw [addL, if_neg]
      rintro (h | h)
      · have := hlt _ h; omega
      · cases h
    have hci2 := hci.add (k := i) (by omega)
    rw [hadd] at hci2
    refine yskip ?_
    refine tnorm ?_
    refine yseq ?_
    refine yblock ?_
    refine yseq ?_
    refine yregion ?_
    refine yp (pP rfl) ?_
    refine yp (pI rfl) ?_
    refine ycons (ycall (c29 (lb := lb) (most := 3) (B := []) hA .nil (by omega) (by decide) i) rfl rfl fun r S' h => ?_)
    obtain ⟨rfl, u1, H1, hA1, rfl⟩ := h
    rw [hadd] at hA1
    refine ynil ?_
    refine tnorm ?_
    refine yregion ?_
    refine yp (pS rfl) ?_
    refine yp (pI rfl) ?_
    refine yp (pIxN rfl rfl (by omega)) ?_
    refine ycons (ystoreE (y := true) rfl (by rw [hci.len]; omega) rfl rfl (.inl rfl) ?_)
    refine ynil ?_
    refine bnorm ?_
    refine tnorm ?_
    refine yregion ?_
    refine yp (pI rfl) ?_
    refine yp (pInc rfl rfl (by omega)) ?_
    refine yp (pI rfl) ?_
    refine ynil ?_
    refine tnorm ?_
    refine ⟨i + 1, ⟨⟨rfl, rfl, rfl, rfl, rfl, rfl, rfl, trivial⟩, by omega, _, _, u1, H1, hci2, by simp; omega, ?_, hA1, .of⟩, by omega⟩
    intro e he
    rcases List.mem_append.1 he with he | he
    · have := hlt e he; omega
    · rw [List.mem_singleton.1 he]; omega
  obtain rfl : i = N := by omega
  refine yexit ?_
  refine texit ?_
  refine texit ?_
  refine bexit ?_
  refine tnorm ?_
  refine yseq ?_
  refine yseq ?_
  refine yregion ?_
  refine yp pC ?_
  refine ynil ?_
  refine tnorm ?_
  refine yblock ?_
  refine yloop (σ := Nat) (fun j E S' => Has E [(0, .int .i64 i), (1, .slice at0 T.length ct0), (2, .slice ad0 D.length cd0), (7, .pointer (some ⟨lb, 0, none⟩)), (8, .slice (some ⟨bi, 0, none⟩) 20 20), (9, .int .i64 i), (11, .int .i64 j)] ∧ j ≤ T.length ∧ ∃ (A B : List Int) (I : List Bool) (u : Value) (H : List Chunk) (v : Value) (G : List Chunk), CI A B I ∧ A.length + B.length = i ∧ Slc 3 u A H ∧ Slc 3 v B G ∧ Junk S' (lseg lb 3 u v :: H :: G :: iseg bi I :: S)) (fun j => T.length - j) 0 ⟨⟨rfl, rfl, rfl, rfl, rfl, rfl, rfl, trivial⟩, Nat.zero_le _, A, [], I, u, H, _, [], hci, by simpa using hal, hA, .nil, .of⟩ fun j E S' ⟨hE, hj, A, B, I, u, H, v, G, hci, hal, hA, hB, hJ⟩ => ?_
  obtain ⟨E0, e0⟩ := has_puts hE; subst e0; clear hE
  refine yforget hJ ?_
  refine yseq ?_
  refine yseq ?_
  refine yregion ?_
  refine yp (pI rfl) ?_
  refine yp (pS rfl) ?_
  refine yp (pLen rfl) ?_
  refine yp (pLt rfl rfl) ?_
  refine ynil ?_
  refine tnorm ?_
  refine ycondD rfl (fun h => ?_) (fun h => ?_)
  · have hlt : j < T.length := by omega
    obtain ⟨b, o, ca, ty, fz, rfl, hm', hmem, hg, _⟩ := hT.get (by intro h; simp [h] at hlt)
    have hg0 := hg j 0 hlt (by decide)
    generalize T[j] = t at hg0
    refine yskip ?_
    refine tnorm ?_
    refine yseq ?_
    refine yblock ?_
    refine yseq ?_
    refine yregion ?_
    refine yp (pS rfl) ?_
    refine yp (pI rfl) ?_
    refine yp (pIxN rfl rfl (by omega)) ?_
    refine ycons (yloadM (S := lseg lb 3 u v :: H :: G :: iseg bi I :: S) (v := .int .i64 t) (by repeat (first | exact hmem | apply List.mem_cons_of_mem)) rfl hg0 ?_)
    refine ycons (ycall (c26 t 20 (by decide)) rfl rfl fun r S' h => ?_)
    obtain ⟨rfl, rfl⟩ := h
    have hr := round_lt t 20 (by decide)
    generalize round t 20 = k0 at hr
    obtain ⟨k, rfl⟩ := Int.eq_ofNat_of_zero_le hr.1
    have hik := hci.is k (by omega)
    refine yp (pI rfl) ?_
    refine ynil ?_
    refine tnorm ?_
    refine yseq ?_
    refine ydrawR (R := [iseg bi I]) (by simp) ?_
    refine ytq (pP rfl) ?_
    refine ytq (pI rfl) ?_
    refine ytq (pS rfl) ?_
    refine ytq (pI rfl) ?_
    refine ytq (pIxN rfl rfl (by omega)) ?_
    refine ytl1 rfl (boolAt hik) ?_
    refine ytaltC (ycall (c31 (lb := lb) (most := 3) hA hB (by omega) (by omega) k) rfl rfl fun r S' h => ?_) ytno
    obtain ⟨rfl, u1, H1, v1, G1, hA1, hB1, rfl⟩ := h
    refine ⟨by simp, ?_⟩
    generalize decide ((k : Int) ∈ A ∨ (k : Int) ∈ B) = bb
    refine ytq (pNeB rfl rfl) ?_
    rw [show (!(bb == bb)) = false from by simp]
    have hsum := (tch_nodup (most := 3) (k := (k : Int)) hci.nd).2
    refine ytdone ?_
    refine tnorm ?_
    refine ycondF rfl ?_
    refine yskip ?_
    refine bnorm ?_
    refine tnorm ?_
    refine yregion ?_
    refine yp (pI rfl) ?_
    refine yp (pInc rfl rfl (by omega)) ?_
    refine yp (pI rfl) ?_
    refine ynil ?_
    refine tnorm ?_
    exact ⟨j + 1, ⟨⟨rfl, rfl, rfl, rfl, rfl, rfl, rfl, trivial⟩, by omega, _, _, I, u1, H1, v1, G1, hci.touch, by omega, hA1, hB1, .of⟩, by omega⟩
  refine yexit ?_
  refine texit ?_
  refine texit ?_
  refine bexit ?_
  refine tnorm ?_
  refine yseq ?_
  refine yseq ?_
  refine yregion ?_
  refine yp pC ?_
  refine ynil ?_
  refine tnorm ?_
  refine yblock ?_
  refine yloop (σ := Nat) (fun j E S' => ∃ (A B : List Int), Has E [(0, .int .i64 i), (2, .slice ad0 D.length cd0), (7, .pointer (some ⟨lb, 0, none⟩)), (8, .slice (some ⟨bi, 0, none⟩) 20 20), (9, .int .i64 (A.length + B.length : Nat)), (13, .int .i64 j)] ∧ j ≤ D.length ∧ ∃ (I : List Bool) (u : Value) (H : List Chunk) (v : Value) (G : List Chunk), CI A B I ∧ A.length + B.length ≤ i ∧ Slc 3 u A H ∧ Slc 3 v B G ∧ Junk S' (lseg lb 3 u v :: H :: G :: iseg bi I :: S)) (fun j => D.length - j) 0 ⟨A, B, ⟨rfl, rfl, rfl, rfl, by rw [hal]; rfl, rfl, trivial⟩, Nat.zero_le _, I, u, H, v, G, hci, by omega, hA, hB, .of⟩ fun j E S' ⟨A, B, hE, hj, I, u, H, v, G, hci, hal, hA, hB, hJ⟩ => ?_
  obtain ⟨E0, e0⟩ := has_puts hE; subst e0; clear hE
  refine yforget hJ ?_
  refine yseq ?_
  refine yseq ?_
  refine yregion ?_
  refine yp (pI rfl) ?_
  refine yp (pS rfl) ?_
  refine yp (pLen rfl) ?_
  refine yp (pLt rfl rfl) ?_
  refine ynil ?_
  refine tnorm ?_
  refine ycondD rfl (fun h => ?_) (fun h => ?_)
  · have hlt : j < D.length := by omega
    obtain ⟨b, o, ca, ty, fz, rfl, hm', hmem, hg, _⟩ := hD.get (by intro h; simp [h] at hlt)
    have hg0 := hg j 0 hlt (by decide)
    generalize D[j] = t at hg0
    refine yskip ?_
    refine tnorm ?_
    refine yseq ?_
    refine yblock ?_
    refine yseq ?_
    refine yregion ?_
    refine yp (pS rfl) ?_
    refine yp (pI rfl) ?_
    refine yp (pIxN rfl rfl (by omega)) ?_
    refine ycons (yloadM (S := lseg lb 3 u v :: H :: G :: iseg bi I :: S) (v := .int .i64 t) (by repeat (first | exact hmem | apply List.mem_cons_of_mem)) rfl hg0 ?_)
    refine ycons (ycall (c26 t 20 (by decide)) rfl rfl fun r S' h => ?_)
    obtain ⟨rfl, rfl⟩ := h
    have hr := round_lt t 20 (by decide)
    generalize round t 20 = k0 at hr
    obtain ⟨k, rfl⟩ := Int.eq_ofNat_of_zero_le hr.1
    have hik := hci.is k (by omega)
    have hcd := hci.drop (k := k) (by omega)
    have hout : ¬ ((k : Int) ∈ A.erase (k : Int) ∨ (k : Int) ∈ B.erase (k : Int)) := fun h => ((mem_erase2 hci.nd _ _).1 h).1 rfl
    have hcnt := erase_count (k := (k : Int)) hci.nd
    have hno : ¬ ((k : Int) ∈ A ∨ (k : Int) ∈ B) → A.erase (k : Int) = A ∧ B.erase (k : Int) = B := fun h => ⟨List.erase_of_not_mem fun h2 => h (.inl h2), List.erase_of_not_mem fun h2 => h (.inr h2)⟩
    refine yp (pI rfl) ?_
    refine ynil ?_
    refine tnorm ?_
    refine yseq ?_
    refine yseq ?_
    refine ydrawR (R := [iseg bi I]) (by simp) ?_
    refine ytq (pP rfl) ?_
    refine ytq (pI rfl) ?_
    refine ytq (pS rfl) ?_
    refine ytq (pI rfl) ?_
    refine ytq (pIxN rfl rfl (by omega)) ?_
    refine ytl1 rfl (boolAt hik) ?_
    refine ytaltC (ycall (c33 (lb := lb) (most := 3) hA hB (by omega) (by omega) k) rfl rfl fun r S' h => ?_) ytno
    obtain ⟨rfl, u1, H1, v1, G1, hA1, hB1, rfl⟩ := h
    refine ⟨by simp, ?_⟩
    rw [← Bool.decide_or]
    have hpos : ((k : Int) ∈ A ∨ (k : Int) ∈ B) → 0 < A.length + B.length := fun h => by have := hcnt h; omega
    generalize hbb : decide ((k : Int) ∈ A ∨ (k : Int) ∈ B) = bb at hik
    refine ytq (pNeB rfl rfl) ?_
    rw [show (!(bb == bb)) = false from by simp]
    refine ytdone ?_
    refine tnorm ?_
    refine ycondF rfl ?_
    refine yskip ?_
    refine tnorm ?_
    refine yseq ?_
    refine yseq ?_
    refine yregion ?_
    refine yp (pS rfl) ?_
    refine yp (pI rfl) ?_
    refine yp (pIxN rfl rfl (by omega)) ?_
    refine ycons (yload1 rfl (boolAt hik) ?_)
    cases bb with
    | true =>
      have hyes := of_decide_eq_true hbb
      have hc1 := hcnt hyes
      refine ynil ?_
      refine tnorm ?_
      refine ycondT rfl ?_
      refine yregion ?_
      refine yp (pI rfl) ?_
      refine yp (pDec rfl rfl (by omega)) ?_
      refine yp (pI rfl) ?_
      refine ynil ?_
      refine tnorm ?_
      refine yseq ?_
      refine yregion ?_
      refine yp (pS rfl) ?_
      refine yp (pI rfl) ?_
      refine yp (pIxN rfl rfl (by omega)) ?_
      refine ycons (ystoreE (y := false) rfl (by rw [hci.len]; omega) rfl rfl (.inl rfl) ?_)
      refine ynil ?_
      refine tnorm ?_
      refine yseq ?_
      refine yregion ?_
      refine yp (pP rfl) ?_
      refine yp (pI rfl) ?_
      refine ycons (ycall (c31 (lb := lb) (most := 3) hA1 hB1 (by omega) (by omega) k) rfl rfl fun r S' h => ?_)
      obtain ⟨rfl, u2, H2, v2, G2, hA2, hB2, rfl⟩ := h
      rw [decide_eq_false hout]
      rw [tchA, if_neg hout] at hA2
      rw [tchB, if_neg hout] at hB2
      refine ynil ?_
      refine tnorm ?_
      refine ycondF rfl ?_
      refine yskip ?_
      refine bnorm ?_
      refine tnorm ?_
      refine yregion ?_
      refine yp (pI rfl) ?_
      refine yp (pInc rfl rfl (by omega)) ?_
      refine yp (pI rfl) ?_
      refine ynil ?_
      refine tnorm ?_
      refine ⟨j + 1, ⟨_, _, ⟨rfl, rfl, rfl, rfl, ?_, rfl, trivial⟩, by omega, _, u2, H2, v2, G2, hcd, by omega, hA2, hB2, .of⟩, by omega⟩
      show Value.int .i64 ((A.length + B.length - 1 : Nat) : Int) = .int .i64 (((A.erase (k : Int)).length + (B.erase (k : Int)).length : Nat) : Int)
      congr 2; omega
    | false =>
      obtain ⟨hn1, hn2⟩ := hno (of_decide_eq_false hbb)
      have hl1 := congrArg List.length hn1
      have hl2 := congrArg List.length hn2
      have hla := List.length_erase_le (l := A) (a := (k : Int))
      have hlb := List.length_erase_le (l := B) (a := (k : Int))
      refine ynil ?_
      refine tnorm ?_
      refine ycondF rfl ?_
      refine yskip ?_
      refine tnorm ?_
      refine yseq ?_
      refine yregion ?_
      refine yp (pS rfl) ?_
      refine yp (pI rfl) ?_
      refine yp (pIxN rfl rfl (by omega)) ?_
      refine ycons (ystoreE (y := false) rfl (by rw [hci.len]; omega) rfl rfl (.inl rfl) ?_)
      refine ynil ?_
      refine tnorm ?_
      refine yseq ?_
      refine yregion ?_
      refine yp (pP rfl) ?_
      refine yp (pI rfl) ?_
      refine ycons (ycall (c31 (lb := lb) (most := 3) hA1 hB1 (by omega) (by omega) k) rfl rfl fun r S' h => ?_)
      obtain ⟨rfl, u2, H2, v2, G2, hA2, hB2, rfl⟩ := h
      rw [decide_eq_false hout]
      rw [tchA, if_neg hout] at hA2
      rw [tchB, if_neg hout] at hB2
      refine ynil ?_
      refine tnorm ?_
      refine ycondF rfl ?_
      refine yskip ?_
      refine bnorm ?_
      refine tnorm ?_
      refine yregion ?_
      refine yp (pI rfl) ?_
      refine yp (pInc rfl rfl (by omega)) ?_
      refine yp (pI rfl) ?_
      refine ynil ?_
      refine tnorm ?_
      refine ⟨j + 1, ⟨_, _, ⟨rfl, rfl, rfl, rfl, ?_, rfl, trivial⟩, by omega, _, u2, H2, v2, G2, hcd, by omega, hA2, hB2, .of⟩, by omega⟩
      show Value.int .i64 ((A.length + B.length : Nat) : Int) = .int .i64 (((A.erase (k : Int)).length + (B.erase (k : Int)).length : Nat) : Int)
      congr 2; omega
  refine yexit ?_
  refine texit ?_
  refine texit ?_
  refine bexit ?_
  refine tnorm ?_
  refine yseq ?_
  refine yregion ?_
  refine yp (pP rfl) ?_
  refine ycons (ycall (c35 (lb := lb) (most := 3) hA hB) rfl rfl fun r S' h => ?_)
  obtain ⟨rfl, rfl⟩ := h
  refine yp (pU rfl) ?_
  refine yp (pExt rfl rfl) ?_
  refine yp (pExt rfl rfl) ?_
  refine yp (pI rfl) ?_
  refine yp (pI rfl) ?_
  refine ynil ?_
  refine tnorm ?_
  refine yseq ?_
  refine yregion ?_
  refine yp (pP rfl) ?_
  refine ycons (ycall (c36 (lb := lb) (most := 3) hA hB (by omega) (by omega) (-1)) rfl rfl fun r S' h => ?_)
  obtain ⟨Ho, hLo, rfl⟩ := h
  rw [show firstL (-1) (A ++ B) = A ++ B from by simp [firstL]] at hLo
  have hUl : (A ++ B).length = A.length + B.length := List.length_append
  have hnd := hci.nd
  have hrng := hci.rng
  have hI0 : ∀ k : Nat, k < 20 → I[k]? = some (decide ((k : Int) ∈ A ++ B)) := by
    intro k hk
    rw [hci.is k hk]
    congr 1
    rw [decide_eq_decide, List.mem_append]
  generalize hU : A ++ B = U at hLo hUl hnd hrng hI0
  obtain ⟨ao, co, rfl⟩ := hLo.isSlice
  refine yp (pS rfl) ?_
  refine ynil ?_
  refine tnorm ?_
  refine yseq ?_
  refine yseq ?_
  refine yregion ?_
  refine yp pC ?_
  refine ynil ?_
  refine tnorm ?_
  refine yblock ?_
  refine yloop (σ := Nat) (fun q E S' => Has E [(9, .int .i64 (A.length + B.length : Nat)), (15, .int .i64 A.length), (16, .int .i64 B.length), (8, .slice (some ⟨bi, 0, none⟩) 20 20), (17, .slice ao U.length co), (18, .int .i64 q)] ∧ q ≤ U.length ∧ ∃ I2 : List Bool, I2.length = 20 ∧ (∀ k : Nat, k < 20 → I2[k]? = some (decide ((k : Int) ∈ U.drop q))) ∧ Junk S' (Ho :: iseg bi I2 :: S)) (fun q => U.length - q) 0 ⟨⟨rfl, rfl, rfl, rfl, rfl, rfl, trivial⟩, Nat.zero_le _, I, hci.len, hI0, .of⟩ fun q E S' ⟨hE, hq, I2, hIl, hI2, hJ⟩ => ?_
  obtain ⟨E0, e0⟩ := has_puts hE; subst e0; clear hE
  refine yforget hJ ?_
  refine yseq ?_
  refine yseq ?_
  refine yregion ?_
  refine yp (pI rfl) ?_
  refine yp (pS rfl) ?_
  refine yp (pLen rfl) ?_
  refine yp (pLt rfl rfl) ?_
  refine ynil ?_
  refine tnorm ?_
  refine ycondD rfl (fun h => ?_) (fun h => ?_)
  · have hlt : q < U.length := by omega
    have hd2 : U.drop q = U[q] :: U.drop (q + 1) := List.drop_eq_getElem_cons hlt
    have hr := hrng U[q] (List.getElem_mem hlt)
    have hnd2 : (U.drop q).Nodup := hnd.sublist (List.drop_sublist q U)
    have hload : ∀ sp : List Int, ((cells (U ++ sp)).toArray.toList)[0 + q * 1 + 0]? = some (.int .i64 U[q]) := fun sp => (row_cell (kk := 1) (j := 0) hlt rfl (by omega)).trans rfl
    generalize U[q] = t at hd2 hr hload
    obtain ⟨k, rfl⟩ := Int.eq_ofNat_of_zero_le hr.1
    obtain ⟨b2, sp2, fz2, hz2, rfl, _, rfl, rfl⟩ := hLo.at' (by intro h; simp [h] at hlt)
    have hik := hI2 k (by omega)
    rw [hd2, decide_eq_true (List.mem_cons_self)] at hik
    refine yskip ?_
    refine tnorm ?_
    refine yseq ?_
    refine yblock ?_
    refine yseq ?_
    refine yseq ?_
    refine yregion ?_
    refine yp (pS rfl) ?_
    refine yp (pI rfl) ?_
    refine yp (pIxN rfl rfl (by omega)) ?_
    refine ycons (yload1 (v := .int .i64 (k : Int)) rfl (hload sp2) ?_)
    refine yp (pLt rfl rfl) ?_
    refine yp (pB rfl) ?_
    refine ygT rfl ?_
    refine yop (pS rfl) ?_
    refine ygT rfl ?_
    refine yop (pI rfl) ?_
    refine ygT rfl ?_
    refine yop (pIxN rfl rfl (by omega)) ?_
    refine ygT rfl ?_
    refine yload1 (v := .int .i64 (k : Int)) rfl (hload sp2) ?_
    refine ygT rfl ?_
    refine yop (pGe rfl rfl) ?_
    refine yp (pPickF rfl rfl) ?_
    refine yp (pB rfl) ?_
    rw [decide_eq_false (show ¬ (20 : Int) ≤ (k : Int) from by omega)]
    refine ygT rfl ?_
    refine yop (pS rfl) ?_
    refine ygT rfl ?_
    refine yop (pS rfl) ?_
    refine ygT rfl ?_
    refine yop (pI rfl) ?_
    refine ygT rfl ?_
    refine yop (pIxN rfl rfl (by omega)) ?_
    refine ygT rfl ?_
    refine yload1 (v := .int .i64 (k : Int)) rfl (hload sp2) ?_
    refine ygT rfl ?_
    refine yop (pIxN rfl rfl (by omega)) ?_
    refine ygT rfl ?_
    refine yload1 rfl (boolAt hik) ?_
    refine ygT rfl ?_
    refine yop (pNot rfl) ?_
    refine yp (pPickF rfl rfl) ?_
    refine ynil ?_
    refine tnorm ?_
    refine ycondF rfl ?_
    refine yskip ?_
    refine tnorm ?_
    refine yregion ?_
    refine yp (pS rfl) ?_
    refine yp (pS rfl) ?_
    refine yp (pI rfl) ?_
    refine yp (pIxN rfl rfl (by omega)) ?_
    refine ycons (yload1 (v := .int .i64 (k : Int)) rfl (hload sp2) ?_)
    refine yp (pIxN rfl rfl (by omega)) ?_
    refine ycons (ystoreE (y := false) rfl (by rw [hIl]; omega) rfl rfl (.inl rfl) ?_)
    refine ynil ?_
    refine bnorm ?_
    refine tnorm ?_
    refine yregion ?_
    refine yp (pI rfl) ?_
    refine yp (pInc rfl rfl (by omega)) ?_
    refine yp (pI rfl) ?_
    refine ynil ?_
    refine tnorm ?_
    refine ⟨q + 1, ⟨⟨rfl, rfl, rfl, rfl, rfl, rfl, trivial⟩, by omega, I2.set k false, by rw [List.length_set]; exact hIl, fun j hj => ?_, .of⟩, by omega⟩
    rw [hd2] at hnd2
    obtain ⟨hkn, _⟩ := List.nodup_cons.1 hnd2
    by_cases hjk : k = j
    · subst hjk
      rw [List.getElem?_set_self (by rw [hIl]; omega), decide_eq_false hkn]
    · rw [List.getElem?_set_ne hjk, hI2 j hj, hd2]
      congr 1
      rw [decide_eq_decide]
      constructor
      · intro h
        rcases List.mem_cons.1 h with h | h
        · omega
        · exact h
      · exact fun h => List.mem_cons_of_mem _ h
  · refine yexit ?_
    refine texit ?_
    refine texit ?_
    refine bexit ?_
    refine tnorm ?_
    refine yseq ?_
    refine yregion ?_
    refine yp (pI rfl) ?_
    refine yp (pI rfl) ?_
    refine yp (pAddN rfl rfl (by omega)) ?_
    refine yp (pI rfl) ?_
    refine yp (pEq rfl rfl) ?_
    refine yp (pB rfl) ?_
    rw [decide_eq_true (rfl : ((A.length + B.length : Nat) : Int) = ((A.length + B.length : Nat) : Int))]
    refine ygT rfl ?_
    refine yop (pS rfl) ?_
    refine ygT rfl ?_
    refine yop (pLen rfl) ?_
    refine ygT rfl ?_
    refine yop (pI rfl) ?_
    refine ygT rfl ?_
    refine yop (pEq rfl rfl) ?_
    refine yp (pPickT rfl rfl) ?_
    refine yp (pB rfl) ?_
    rw [decide_eq_true (show (U.length : Int) = ((A.length + B.length : Nat) : Int) from by rw [hUl])]
    refine ygT rfl ?_
    refine yop (pI rfl) ?_
    refine ygT rfl ?_
    refine yop (pLe rfl rfl) ?_
    refine yp (pPickT rfl rfl) ?_
    refine yp (pB rfl) ?_
    rw [decide_eq_true hci.few]
    refine ygT rfl ?_
    refine ycall c27 rfl rfl fun r S' h => ?_
    obtain ⟨rfl, rfl⟩ := h
    refine yp (pPickT rfl rfl) ?_
    refine yp (pB rfl) ?_
    refine ynil ?_
    refine tnorm ?_
    refine yret ?_
    exact yfin (rB rfl) ⟨_, .of, rfl, rfl⟩
end Go.Proofs.Ytmgiamagocefcaa
