/- ListsLRU: what it computes. -/
import Derived.Test.YtmgiamagocefcaaRefL
import Derived.Test.YtmgiamagocefcaaPlaces
namespace Go.Proofs.Ytmgiamagocefcaa
open Go.Xs
open Enc (enc)

theorem addL_nodup {k : Int} {A B : List Int} (h : (A ++ B).Nodup) : (addL k A B ++ B).Nodup ∧ (addL k A B).length ≤ A.length + 1 := by
  unfold addL
  split
  · exact ⟨h, by omega⟩
  · next hk =>
    refine ⟨?_, by simp⟩
    have hp : (A ++ [k] ++ B).Perm (k :: (A ++ B)) := by
      rw [List.append_assoc]
      exact List.perm_middle
    refine hp.nodup_iff.2 (List.nodup_cons.2 ⟨fun hm => hk (List.mem_append.1 hm), h⟩)
theorem erase_nodup {k : Int} {A B : List Int} (h : (A ++ B).Nodup) : (A.erase k ++ B.erase k).Nodup :=
  h.sublist (List.Sublist.append List.erase_sublist List.erase_sublist)
theorem tch_nodup {most k : Int} {A B : List Int} (h : (A ++ B).Nodup) : (tchA most k A B ++ tchB most k A B).Nodup ∧ (tchA most k A B).length + (tchB most k A B).length = A.length + B.length := by
  by_cases hk : k ∈ A ∨ k ∈ B
  · have hp := tch_perm (most := most) h hk
    have hl := hp.length_eq
    rw [List.length_append, List.length_append] at hl
    exact ⟨hp.nodup_iff.2 h, hl⟩
  · unfold tchA tchB
    rw [if_neg hk, if_neg hk]
    exact ⟨h, rfl⟩

theorem c7 {S : Segs} (most stop : Int) {v : Value} {T : List (Int × Int × Int)} (hT : Src S v T) (_hm : T.length ≤ maxLen) (_hq : ∀ a ∈ T, InA a) : Tri Try.prog 7 #[.int .i64 most, v, .int .i64 stop] S (fun r S' => r = .bool true ∧ S' = S) := by
  refine Tri.forget (ycallee Try.fx7 (Nat.le_of_ble_eq_true rfl) ?_)
  unfold Try.x7
  obtain ⟨at0, ct0, rfl⟩ := hT.isSlice
  refine yseq ?_
  refine yregion ?_
  refine yp pC ?_
  refine ynil ?_
  refine tnorm ?_
  refine yseq ?_
  refine yseq ?_
  refine yregion ?_
  refine yp (pS rfl) ?_
  refine yp (pLen rfl) ?_
  refine yp (pGt rfl rfl) ?_
  refine ynil ?_
  refine tnorm ?_
  by_cases h1 : 60 < (T.length : Int)
  · refine ycondD rfl (fun _ => ?_) (fun h => absurd h1 h)
    refine yseq ?_
    refine yregion ?_
    refine ycons (ycall c27 rfl rfl fun r S' h => ?_)
    obtain ⟨rfl, rfl⟩ := h
    refine yp (pB rfl) ?_
    refine ynil ?_
    refine tnorm ?_
    refine yret ?_
    refine tret ?_
    exact yfin (rB rfl) ⟨_, .of, rfl, rfl⟩
  refine ycondD rfl (fun h => absurd h h1) (fun _ => ?_)
  refine yskip ?_
  refine tnorm ?_
  refine yseq ?_
  refine yregion ?_
  refine yp (pI rfl) ?_
  refine ycons (ycall (c28 most) rfl rfl fun r S' h => ?_)
  obtain ⟨lb, rfl, rfl⟩ := h
  refine yp (pP rfl) ?_
  refine ynil ?_
  refine tnorm ?_
  refine yseq ?_
  refine yregion ?_
  refine yp (pI rfl) ?_
  refine yp (v := .agg #[.int .i64 most, .slice none 0 0, .slice none 0 0]) rfl ?_
  refine ycons (yboxG rfl fun p23 => ?_)
  refine yp (pP rfl) ?_
  refine ynil ?_
  refine tnorm ?_
  refine yseq ?_
  refine yseq ?_
  refine yregion ?_
  refine yp (pP rfl) ?_
  refine yp (pNilP rfl rfl) ?_
  refine ynil ?_
  refine tnorm ?_
  refine ycondF rfl ?_
  refine yskip ?_
  refine tnorm ?_
  refine yseq ?_
  refine yseq ?_
  refine yregion ?_
  refine yp pC ?_
  refine ynil ?_
  refine tnorm ?_
  refine yblock ?_
  refine yloop (σ := Nat) (fun i E S' => Has E [(0, .int .i64 most), (1, .slice at0 T.length ct0), (2, .int .i64 stop), (7, .pointer (some ⟨lb, 0, none⟩)), (8, .pointer (some ⟨p23, 0, none⟩)), (9, .int .i64 i)] ∧ i ≤ T.length ∧ ∃ (A B : List Int) (u : Value) (H : List Chunk) (v : Value) (G : List Chunk) (u2 : Value) (H2 : List Chunk) (v2 : Value) (G2 : List Chunk), (A ++ B).Nodup ∧ (B.length : Int) ≤ max most 0 ∧ A.length + B.length ≤ i ∧ Slc 3 u A H ∧ Slc 3 v B G ∧ Slc 3 u2 A H2 ∧ Slc 3 v2 B G2 ∧ Junk S' (lseg lb (max most 0) u v :: H :: G :: rseg p23 most u2 v2 :: H2 :: G2 :: S)) (fun i => T.length - i) 0 ⟨⟨rfl, rfl, rfl, rfl, rfl, rfl, trivial⟩, Nat.zero_le _, [], [], _, [], _, [], _, [], _, [], by simp, by simp; omega, Nat.le_refl _, .nil, .nil, .nil, .nil, .of⟩ fun i E S' ⟨hE, hi, A, B, u, H, v, G, u2, H2, v2, G2, hn, hbm, hl, hA, hB, hA2, hB2, hJ⟩ => ?_
  obtain ⟨E0, e0⟩ := has_puts hE; subst e0; clear hE
  refine yforget hJ ?_
  refine yseq ?_
  refine yseq ?_
  refine yregion ?_
  refine yp (pI rfl) ?_
  refine yp (pS rfl) ?_
  refine yp (pLen rfl) ?_
  refine yp (pLt rfl rfl) ?_
  refine ynil ?_
  refine tnorm ?_
  refine ycondD rfl (fun h => ?_) (fun h => ?_)
  · have hlt : i < T.length := by omega
    obtain ⟨b, o, ca, ty, fz, rfl, hm', hmem, hg, _⟩ := hT.get (by intro h; simp [h] at hlt)
    have hg1 := hg i 1 hlt (by decide)
    have hg0 := hg i 0 hlt (by decide)
    generalize T[i] = e at hg0 hg1
    refine yskip ?_
    refine tnorm ?_
    refine yseq ?_
    refine yblock ?_
    refine yseq ?_
    refine yregion ?_
    refine yp (pS rfl) ?_
    refine yp (pI rfl) ?_
    refine yp (pIxN rfl rfl (by omega)) ?_
    refine yp (pFadr rfl) ?_
    refine ycons (yloadM (S := lseg lb (max most 0) u v :: H :: G :: rseg p23 most u2 v2 :: H2 :: G2 :: S) (v := .int .i64 e.2.1) (by repeat (first | exact hmem | apply List.mem_cons_of_mem)) rfl hg1 ?_)
    refine yp (pI rfl) ?_
    refine ynil ?_
    refine tnorm ?_
    refine ycut (fun E S' => Has E [(0, .int .i64 most), (1, .slice (some ⟨b, o, none⟩) T.length ct0), (2, .int .i64 stop), (7, .pointer (some ⟨lb, 0, none⟩)), (8, .pointer (some ⟨p23, 0, none⟩)), (9, .int .i64 i)] ∧ ∃ (A B : List Int) (u : Value) (H : List Chunk) (v : Value) (G : List Chunk) (u2 : Value) (H2 : List Chunk) (v2 : Value) (G2 : List Chunk), (A ++ B).Nodup ∧ (B.length : Int) ≤ max most 0 ∧ A.length + B.length ≤ i + 1 ∧ Slc 3 u A H ∧ Slc 3 v B G ∧ Slc 3 u2 A H2 ∧ Slc 3 v2 B G2 ∧ Junk S' (lseg lb (max most 0) u v :: H :: G :: rseg p23 most u2 v2 :: H2 :: G2 :: S)) ?_ ?_
    · refine yseq ?_
      refine yregion ?_
      refine yp (pS rfl) ?_
      refine yp (pI rfl) ?_
      refine yp (pIxN rfl rfl (by omega)) ?_
      refine yp (pFadr rfl) ?_
      refine ycons (yloadM (S := lseg lb (max most 0) u v :: H :: G :: rseg p23 most u2 v2 :: H2 :: G2 :: S) (v := .int .i64 e.1) (by repeat (first | exact hmem | apply List.mem_cons_of_mem)) rfl hg0 ?_)
      generalize e.2.1 = k
      refine ynil ?_
      refine tnorm ?_
      refine yblock ?_
      refine yseq ?_
      refine yregion ?_
      refine yp (pEq rfl rfl) ?_
      refine yp (pB rfl) ?_
      refine ynil ?_
      refine tnorm ?_
      by_cases k1 : e.1 = 1
      · rw [decide_eq_true k1]
        refine ycondT rfl ?_
        refine yseq ?_
        refine yregion ?_
        refine yp (pP rfl) ?_
        refine yp (pI rfl) ?_
        refine ycons (ycall (c29 (lb := lb) (most := max most 0) hA hB (by omega) (by omega) k) rfl rfl fun r S' h => ?_)
        obtain ⟨rfl, u3, H3, hA3, rfl⟩ := h
        refine ynil ?_
        refine tnorm ?_
        refine yregion ?_
        refine yp (pP rfl) ?_
        refine yp (pI rfl) ?_
        refine ycons (ycall (c30 (rb := p23) (most := most) hA2 hB2 (by omega) (by omega) k) rfl rfl fun r S' h => ?_)
        obtain ⟨rfl, u4, H4, hA4, rfl⟩ := h
        obtain ⟨hn1, hn2⟩ := addL_nodup (k := k) hn
        refine ynil ?_
        refine bnorm ?_
        refine tnorm ?_
        exact ⟨⟨rfl, rfl, rfl, rfl, rfl, rfl, trivial⟩, _, _, u3, H3, v, G, u4, H4, v2, G2, hn1, hbm, by omega, hA3, hB, hA4, hB2, .of⟩
      rw [decide_eq_false k1]
      refine ycondF rfl ?_
      refine yseq ?_
      refine yregion ?_
      refine yp (pEq rfl rfl) ?_
      refine yp (pB rfl) ?_
      refine ynil ?_
      refine tnorm ?_
      by_cases k2 : e.1 = 2
      · rw [decide_eq_true k2]
        refine ycondT rfl ?_
        refine yseq ?_
        refine yregion ?_
        refine yp (pP rfl) ?_
        refine yp (pI rfl) ?_
        refine ycons (ycall (c31 (lb := lb) (most := max most 0) hA hB (by omega) (by omega) k) rfl rfl fun r S' h => ?_)
        obtain ⟨rfl, u3, H3, v3, G3, hA3, hB3, rfl⟩ := h
        refine yp (pP rfl) ?_
        refine yp (pI rfl) ?_
        refine ycons (ycall (c32 (rb := p23) (most := most) hA2 hB2 (by omega) (by omega) hn hbm k) rfl rfl fun r S' h => ?_)
        obtain ⟨rfl, u4, H4, v4, G4, hA4, hB4, rfl⟩ := h
        obtain ⟨hn1, hn2⟩ := tch_nodup (most := max most 0) (k := k) hn
        have hle := tch_le (most := max most 0) (k := k) (A := A) (B := B) (by omega) hbm
        generalize decide (k ∈ A ∨ k ∈ B) = bb
        refine yp (pNeB rfl rfl) ?_
        rw [show (!(bb == bb)) = false from by simp]
        refine ynil ?_
        refine tnorm ?_
        refine ycondF rfl ?_
        refine yskip ?_
        refine bnorm ?_
        refine tnorm ?_
        exact ⟨⟨rfl, rfl, rfl, rfl, rfl, rfl, trivial⟩, _, _, u3, H3, v3, G3, u4, H4, v4, G4, hn1, hle, by omega, hA3, hB3, hA4, hB4, .of⟩
      rw [decide_eq_false k2]
      refine ycondF rfl ?_
      refine yseq ?_
      refine yregion ?_
      refine yp (pEq rfl rfl) ?_
      refine yp (pB rfl) ?_
      refine ynil ?_
      refine tnorm ?_
      by_cases k3 : e.1 = 3
      · rw [decide_eq_true k3]
        refine ycondT rfl ?_
        refine yseq ?_
        refine yregion ?_
        refine yp (pP rfl) ?_
        refine yp (pI rfl) ?_
        refine ycons (ycall (c33 (lb := lb) (most := max most 0) hA hB (by omega) (by omega) k) rfl rfl fun r S' h => ?_)
        obtain ⟨rfl, u3, H3, v3, G3, hA3, hB3, rfl⟩ := h
        refine yp (pP rfl) ?_
        refine yp (pI rfl) ?_
        refine ycons (ycall (c34 (rb := p23) (most := most) hA2 hB2 (by omega) (by omega) k) rfl rfl fun r S' h => ?_)
        obtain ⟨rfl, u4, H4, v4, G4, hA4, hB4, rfl⟩ := h
        have hl1 := List.length_erase_le (l := A) (a := k)
        have hl2 := List.length_erase_le (l := B) (a := k)
        generalize (decide (k ∈ A) || decide (k ∈ B)) = bb
        refine yp (pNeB rfl rfl) ?_
        rw [show (!(bb == bb)) = false from by simp]
        refine ynil ?_
        refine tnorm ?_
        refine ycondF rfl ?_
        refine yskip ?_
        refine bnorm ?_
        refine tnorm ?_
        exact ⟨⟨rfl, rfl, rfl, rfl, rfl, rfl, trivial⟩, _, _, u3, H3, v3, G3, u4, H4, v4, G4, erase_nodup hn, by omega, by omega, hA3, hB3, hA4, hB4, .of⟩
      · rw [decide_eq_false k3]
        refine ycondF rfl ?_
        refine yskip ?_
        refine bnorm ?_
        refine tnorm ?_
        exact ⟨⟨rfl, rfl, rfl, rfl, rfl, rfl, trivial⟩, A, B, u, H, v, G, u2, H2, v2, G2, hn, hbm, by omega, hA, hB, hA2, hB2, .of⟩
    clear hn hbm hl hA hB hA2 hB2
    rintro E S' ⟨hE, A, B, u, H, v, G, u2, H2, v2, G2, hn, hbm, hl, hA, hB, hA2, hB2, hJ⟩
    obtain ⟨E0, e0⟩ := has_puts hE; subst e0; clear hE
    refine yforget hJ ?_
    refine yseq ?_
    refine yregion ?_
    refine yp (pP rfl) ?_
    refine ycons (ycall (c35 (lb := lb) (most := max most 0) hA hB) rfl rfl fun r S' h => ?_)
    obtain ⟨rfl, rfl⟩ := h
    obtain ⟨a5, c5, rfl⟩ := hA2.isSlice
    obtain ⟨a6, c6, rfl⟩ := hB2.isSlice
    refine yp (pU rfl) ?_
    refine yp (pExt rfl rfl) ?_
    refine yp (pExt rfl rfl) ?_
    refine yp (pI rfl) ?_
    refine yp (pI rfl) ?_
    refine ynil ?_
    refine tnorm ?_
    refine yseq ?_
    refine yregion ?_
    refine yp (pI rfl) ?_
    refine yp (pP rfl) ?_
    refine yp (pNilc rfl) ?_
    refine yp (pFadr rfl) ?_
    refine ycons (yload1 rfl rfl ?_)
    refine yp (pLen rfl) ?_
    refine yp (pNe rfl rfl) ?_
    refine yp (pB rfl) ?_
    rw [decide_eq_true (rfl : (A.length : Int) = A.length)]
    refine ygT rfl ?_
    refine yop (pI rfl) ?_
    refine ygT rfl ?_
    refine yop (pP rfl) ?_
    refine ygT rfl ?_
    refine yop (pNilc rfl) ?_
    refine ygT rfl ?_
    refine yop (pFadr rfl) ?_
    refine ygT rfl ?_
    refine (yload1 rfl rfl ?_)
    refine ygT rfl ?_
    refine yop (pLen rfl) ?_
    refine ygT rfl ?_
    refine yop (pNe rfl rfl) ?_
    refine yp (pPickF rfl rfl) ?_
    refine yp (pB rfl) ?_
    rw [decide_eq_true (rfl : (B.length : Int) = B.length)]
    refine ygT rfl ?_
    refine yop (pP rfl) ?_
    refine ygT rfl ?_
    refine ycall (c36 (lb := lb) (most := max most 0) hA hB (by omega) (by omega) (-1)) rfl rfl fun r S' h => ?_
    obtain ⟨Ho, hLo, rfl⟩ := h
    rw [show firstL (-1) (A ++ B) = A ++ B from by simp [firstL]] at hLo
    obtain ⟨ao, co, rfl⟩ := hLo.isSlice
    refine ygT rfl ?_
    refine yop (pP rfl) ?_
    refine ygT rfl ?_
    refine ycall (c37 (rb := p23) (most := most) hA2 hB2 (by omega) (by omega)) rfl rfl fun r S' h => ?_
    obtain ⟨Hp, hLp, rfl⟩ := h
    obtain ⟨ap, cp, rfl⟩ := hLp.isSlice
    refine ygT rfl ?_
    refine ycall (c22 (S := [Ho, Hp]) (hLo.src (by simp)) (hLp.src (by simp)) (by rw [List.length_append]; omega)) rfl rfl fun r S' h => ?_
    obtain ⟨rfl, rfl⟩ := h
    rw [decide_eq_true (rfl : A ++ B = A ++ B)]
    refine ygT rfl ?_
    refine yop (pNot rfl) ?_
    refine yp (pPickF rfl rfl) ?_
    refine ynil ?_
    refine tnorm ?_
    refine ycondF rfl ?_
    refine yskip ?_
    refine bnorm ?_
    refine tnorm ?_
    refine yregion ?_
    refine yp (pI rfl) ?_
    refine yp (pInc rfl rfl (by omega)) ?_
    refine yp (pI rfl) ?_
    refine ynil ?_
    refine tnorm ?_
    exact ⟨i + 1, ⟨⟨rfl, rfl, rfl, rfl, rfl, rfl, trivial⟩, by omega, A, B, u, H, v, G, _, H2, _, G2, hn, hbm, hl, hA, hB, hA2, hB2, .of⟩, by omega⟩
  · refine yexit ?_
    refine texit ?_
    refine texit ?_
    refine bexit ?_
    refine tnorm ?_
    refine yseq ?_
    refine yregion ?_
    refine yp (pP rfl) ?_
    refine ycons (ycall (c37 (rb := p23) (most := most) hA2 hB2 (by omega) (by omega)) rfl rfl fun r S' h => ?_)
    obtain ⟨Hp, hLp, rfl⟩ := h
    have hUl : (A ++ B).length = A.length + B.length := List.length_append
    generalize hU : A ++ B = U at hLp hUl
    obtain ⟨ap, cp, rfl⟩ := hLp.isSlice
    refine yp (pS rfl) ?_
    refine ynil ?_
    refine tnorm ?_
    refine yseq ?_
    refine yregion ?_
    refine yp (pI rfl) ?_
    refine yp (pS rfl) ?_
    refine yp (pLen rfl) ?_
    refine yp (pInc rfl rfl (by omega)) ?_
    refine ycons (ycall (c26 stop ((U.length + 1 : Nat) : Int) (by omega)) rfl rfl fun r S' h => ?_)
    obtain ⟨rfl, rfl⟩ := h
    have hr := round_lt stop ((U.length + 1 : Nat) : Int) (by omega)
    generalize round stop ((U.length + 1 : Nat) : Int) = k0 at hr
    obtain ⟨k, rfl⟩ := Int.eq_ofNat_of_zero_le hr.1
    refine yp (pI rfl) ?_
    refine ynil ?_
    refine tnorm ?_
    refine yseq ?_
    refine ydraw ?_
    refine ytq (pI rfl) ?_
    refine ytq (pEq rfl rfl) ?_
    refine ytq (pB rfl) ?_
    by_cases hk : (k : Int) = 0
    · rw [decide_eq_true hk]
      refine ytgF rfl ?_
      refine ytgF rfl ?_
      refine ytgF rfl ?_
      refine ytgF rfl ?_
      refine ytgF rfl ?_
      refine ytaltF rfl ?_ ytno
      refine ytaltF rfl ?_ ytno
      refine ytq (pPickT rfl rfl) ?_
      refine ytq (pB rfl) ?_
      refine ytaltT rfl ?_ ytno
      refine ytalt (ycall c27 rfl rfl fun r S' h => ?_) ytno
      obtain ⟨rfl, rfl⟩ := h
      refine ytq (pPickT rfl rfl) ?_
      refine ytq (pB rfl) ?_
      refine ytdone ?_
      refine tnorm ?_
      refine yret ?_
      exact yfin (rB rfl) ⟨_, .of, rfl, rfl⟩
    · rw [decide_eq_false hk]
      obtain ⟨b2, sp2, fz2, hz2, rfl, _, rfl, rfl⟩ := hLp.at' (by intro h; rw [h] at hr; simp at hr; omega)
      refine ytgT rfl ?_
      refine ytq (pP rfl) ?_
      refine ytgT rfl ?_
      refine ytq (pI rfl) ?_
      refine ytgT rfl ?_
      refine ytq (pS rfl) ?_
      refine ytgT rfl ?_
      refine ytq (pI rfl) ?_
      refine ytgT rfl ?_
      refine ytq (pSlTo rfl rfl (by omega)) ?_
      refine ytaltT rfl ?_ ytno
      refine ytalt (ycall (c36 (lb := lb) (most := max most 0) hA hB (by omega) (by omega) (k : Int)) rfl rfl fun r S' h => ?_) ytno
      obtain ⟨Hq, hQ, rfl⟩ := h
      rw [show firstL (k : Int) (A ++ B) = U.take k from by rw [firstL, if_pos (by omega), hU]; rfl] at hQ
      obtain ⟨aq, cq, rfl⟩ := hQ.isSlice
      refine ytaltT rfl ?_ ytno
      refine ytalt (ycall (c22 (S := [Hq, [(b2, .cells (cells (U ++ sp2)).toArray 3 fz2)]]) (hQ.src (by simp)) (Src.head (b := b2) (L := U) (sp := sp2) (ty := 3) (fz := fz2) (j := k) (by simp) (by omega)) (by rw [List.length_take]; omega)) rfl rfl fun r S' h => ?_) ytno
      obtain ⟨rfl, rfl⟩ := h
      rw [decide_eq_true (rfl : U.take k = U.take k)]
      refine ytq (pPickF rfl rfl) ?_
      refine ytq (pB rfl) ?_
      refine ytaltT rfl ?_ ytno
      refine ytalt (ycall c27 rfl rfl fun r S' h => ?_) ytno
      obtain ⟨rfl, rfl⟩ := h
      refine ytq (pPickT rfl rfl) ?_
      refine ytq (pB rfl) ?_
      refine ytdone ?_
      refine tnorm ?_
      refine yret ?_
      exact yfin (rB rfl) ⟨_, .of, rfl, rfl⟩
end Go.Proofs.Ytmgiamagocefcaa
