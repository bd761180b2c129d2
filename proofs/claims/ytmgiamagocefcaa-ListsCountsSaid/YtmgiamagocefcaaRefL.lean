/- The document's own answer (freshetref6): LRU. -/
import Derived.Test.YtmgiamagocefcaaRefD
namespace Go.Proofs.Ytmgiamagocefcaa
open Go.Xs
open Enc (enc)

/-- an LRU of the document's -/
abbrev rseg (rb : Nat) (most : Int) (u v : Value) : List Chunk := [(rb, .cells #[.int .i64 most, u, v] 57)]

theorem c48 {v : Value} {L : List Int} {H : List Chunk} (hL : Slc 3 v L H) (hlen : L.length < 2 ^ 40) (k : Int) :
    Tri Try.prog 48 #[v, .int .i64 k] [H] (fun r S => r = ixV (ipos k L) ∧ S = [H]) := by
  refine Tri.forget (ycallee Try.fx48 (Nat.le_of_ble_eq_true rfl) ?_)
  unfold Try.x48
  obtain ⟨a, c, rfl⟩ := hL.isSlice
  refine yseq ?_
  refine yregion ?_
  refine yp pC ?_
  refine ynil ?_
  refine tnorm ?_
  refine yseq ?_
  refine yseq ?_
  refine yregion ?_
  refine yp pC ?_
  refine ynil ?_
  refine tnorm ?_
  refine yblock ?_
  refine yloop (σ := Nat) (fun i E S => Has E [(0, .slice a L.length c), (1, .int .i64 k), (5, .int .i64 i)] ∧ i ≤ L.length ∧ (ipos k L = (ipos k (L.drop i)).map (· + i)) ∧ Junk S [H]) (fun i => L.length - i) 0 ⟨⟨rfl, rfl, rfl, trivial⟩, Nat.zero_le _, by simp, .self⟩ fun i E S ⟨hE, hi, hx, hS⟩ => ?_
  obtain ⟨E0, e0⟩ := has_puts hE; subst e0; clear hE
  refine yforget hS ?_
  refine yseq ?_
  refine yseq ?_
  refine yregion ?_
  refine yp (pI rfl) ?_
  refine yp (pS rfl) ?_
  refine yp (pLen rfl) ?_
  refine yp (pLt rfl rfl) ?_
  refine ynil ?_
  refine tnorm ?_
  refine ycondD rfl (fun h => ?_) (fun h => ?_)
  · have hlt : i < L.length := by omega
    have hd : L.drop i = L[i] :: L.drop (i + 1) := List.drop_eq_getElem_cons hlt
    obtain ⟨b, sp, fz2, hz, rfl, _, rfl, rfl⟩ := hL.at' (by intro h; simp [h] at hlt)
    refine yskip ?_
    refine tnorm ?_
    refine yseq ?_
    refine yblock ?_
    refine yseq ?_
    refine yregion ?_
    refine yp (pS rfl) ?_
    refine yp (pI rfl) ?_
    refine yp (pIxN rfl rfl (by omega)) ?_
    refine ycons (yload1 (v := .int .i64 L[i]) rfl ((row_cell (kk := 1) (j := 0) hlt rfl (by omega)).trans rfl) ?_)
    refine yp (pI rfl) ?_
    refine yp (pEq rfl rfl) ?_
    refine ynil ?_
    refine tnorm ?_
    refine ycondD rfl (fun h2 => ?_) (fun h2 => ?_)
    · refine yseq ?_
      refine yregion ?_
      refine yp (pI rfl) ?_
      refine yp (pI rfl) ?_
      refine ynil ?_
      refine tnorm ?_
      refine yret ?_
      refine bret ?_
      refine tret ?_
      refine tret ?_
      refine bret ?_
      refine tret ?_
      exact yfin (rI rfl) ⟨_, .of, by rw [hx, hd, ipos, if_pos h2.symm]; simp [ixV], rfl⟩
    · refine yskip ?_
      refine bnorm ?_
      refine tnorm ?_
      refine yregion ?_
      refine yp (pI rfl) ?_
      refine yp (pInc rfl rfl (by omega)) ?_
      refine yp (pI rfl) ?_
      refine ynil ?_
      refine tnorm ?_
      refine ⟨i + 1, ⟨⟨rfl, rfl, rfl, trivial⟩, by omega, ?_, .of⟩, by omega⟩
      rw [hx, hd, ipos, if_neg (fun h => h2 h.symm), Option.map_map]
      congr 1
      funext x
      simp; omega
  · refine yexit ?_
    refine texit ?_
    refine texit ?_
    refine bexit ?_
    refine tnorm ?_
    refine yseq ?_
    refine yregion ?_
    refine yp pC ?_
    refine ynil ?_
    refine tnorm ?_
    refine yret ?_
    have : L.drop i = [] := List.drop_eq_nil_of_le (by omega)
    exact yfin (rI rfl) ⟨_, .of, by rw [hx, this]; rfl, rfl⟩

theorem c50 {v : Value} {L : List Int} {H : List Chunk} (hL : Slc 3 v L H) (hlen : L.length < 2 ^ 40) {i : Nat} (hi : i < L.length) :
    Tri Try.prog 50 #[v, .int .i64 (i : Int)] [H] (fun r S => ∃ H', Slc 3 r (L.eraseIdx i) H' ∧ S = [H', H]) := by
  refine Tri.forget (ycallee Try.fx50 (Nat.le_of_ble_eq_true rfl) ?_)
  unfold Try.x50
  rw [List.eraseIdx_eq_take_drop_succ]
  obtain ⟨a, c, rfl⟩ := hL.isSlice
  obtain ⟨bb, sp, fz, hz, rfl, hN2, rfl, rfl⟩ := hL.at' (by intro h; simp [h] at hi)
  refine yseq ?_
  refine yregion ?_
  refine yp pC ?_
  refine ynil ?_
  refine tnorm ?_
  refine yseq ?_
  refine ydraw ?_
  refine ytq (pS rfl) ?_
  refine ytq (pI rfl) ?_
  refine ytq (pSlTo rfl rfl (by omega)) ?_
  refine ytq (pS rfl) ?_
  refine ytq (pI rfl) ?_
  refine ytq (pInc rfl rfl (by omega)) ?_
  refine ytq (pSlFrom rfl rfl (by omega)) ?_
  refine ytalt (ybsl0 fun p5 => ?_) ytno
  refine ytalt (yapp (Y := L.take i) rfl rfl Slc.empty (Src.head (b := bb) (L := L) (sp := sp) (ty := 3) (fz := fz) (j := i) ?_ (by omega)) rfl 0 rfl (by rw [List.length_take]; simp; omega) (by rw [List.length_take]; simp; omega) fun v1 H1 hL1 => ?_) ytno
  · simp
  refine ytalt (yapp (Y := L.drop (i + 1)) rfl rfl hL1 (Src.tail (b := bb) (L := L) (sp := sp) (ty := 3) (fz := fz) (j := i + 1) ?_ rfl (by omega)) rfl 0 rfl (by simp; omega) (by simp; omega) fun v2 H2 hL2 => ?_) ytno
  · simp
  obtain ⟨a2, c2, rfl⟩ := hL2.isSlice
  refine ytq (pS rfl) ?_
  refine ytdone ?_
  refine tnorm ?_
  refine yret ?_
  exact yfin (rS rfl) ⟨_, .of, H2, hL2, rfl⟩

theorem c30 {rb : Nat} {most : Int} {u v : Value} {A B : List Int} {H G : List Chunk} (hA : Slc 3 u A H) (hB : Slc 3 v B G) (ha : A.length < 2 ^ 40 - 1) (hb : B.length < 2 ^ 40) (k : Int) :
    Tri Try.prog 30 #[.pointer (some ⟨rb, 0, none⟩), .int .i64 k] [rseg rb most u v, H, G] (fun r S => r = .tuple #[] ∧ ∃ u' H', Slc 3 u' (addL k A B) H' ∧ S = [rseg rb most u' v, H', G]) := by
  refine Tri.forget (ycallee Try.fx30 (Nat.le_of_ble_eq_true rfl) ?_)
  unfold Try.x30
  obtain ⟨a, c, rfl⟩ := hA.isSlice
  obtain ⟨a', c', rfl⟩ := hB.isSlice
  refine yseq ?_
  refine yregion ?_
  refine yp (pP rfl) ?_
  refine yp (pNilc rfl) ?_
  refine yp (pFadr rfl) ?_
  refine ycons (yload1 rfl rfl ?_)
  refine yp (pI rfl) ?_
  refine ycons (ycall (c48 hA (by omega) k) rfl rfl fun r S' h => ?_)
  obtain ⟨rfl, rfl⟩ := h
  cases h1 : ipos k A with
  | some i =>
    simp only [ixV]
    refine yp (pLt rfl rfl) ?_
    refine yp (pB rfl) ?_
    refine ygF rfl ?_
    refine ygF rfl ?_
    refine ygF rfl ?_
    refine ygF rfl ?_
    refine ygF rfl ?_
    refine ygF rfl ?_
    refine ygF rfl ?_
    refine yp (pPickF rfl rfl) ?_
    refine ynil ?_
    refine tnorm ?_
    refine ycondF rfl ?_
    refine yskip ?_
    rw [decide_eq_false (show ¬ (i : Int) < 0 from by omega)]
    skip
    exact yfinN res0 ⟨_, .of, rfl, _, H, by rw [addL, if_pos (.inl (ipos_some h1).1)]; exact hA, rfl⟩
  | none =>
    simp only [ixV]
    refine yp (pLt rfl rfl) ?_
    refine yp (pB rfl) ?_
    refine ygT rfl ?_
    refine yop (pP rfl) ?_
    refine ygT rfl ?_
    refine yop (pNilc rfl) ?_
    refine ygT rfl ?_
    refine yop (pFadr rfl) ?_
    refine ygT rfl ?_
    refine (yload1 rfl rfl ?_)
    refine ygT rfl ?_
    refine yop (pI rfl) ?_
    refine ygT rfl ?_
    refine ycall (c48 hB (by omega) k) rfl rfl fun r S' h => ?_
    obtain ⟨rfl, rfl⟩ := h
    cases h2 : ipos k B with
    | some i =>
      simp only [ixV]
      refine ygT rfl ?_
      refine yop (pLt rfl rfl) ?_
      refine yp (pPickT rfl rfl) ?_
      refine ynil ?_
      refine tnorm ?_
      refine ycondF rfl ?_
      refine yskip ?_
      rw [decide_eq_false (show ¬ (i : Int) < 0 from by omega)]
      skip
      exact yfinN res0 ⟨_, .of, rfl, _, H, by rw [addL, if_pos (.inr (ipos_some h2).1)]; exact hA, rfl⟩
    | none =>
      simp only [ixV]
      refine ygT rfl ?_
      refine yop (pLt rfl rfl) ?_
      refine yp (pPickT rfl rfl) ?_
      refine ynil ?_
      refine tnorm ?_
      refine ycondT rfl ?_
      refine yregion ?_
      refine yp (pP rfl) ?_
      refine ycons (ybsl0 fun p21 => ?_)
      refine yp (pP rfl) ?_
      refine yp (pNilc rfl) ?_
      refine yp (pFadr rfl) ?_
      refine ycons (yload1 rfl rfl ?_)
      refine ycons (yapp rfl rfl Slc.empty (hA.src (by repeat (first | exact List.mem_cons_self | apply List.mem_cons_of_mem))) rfl 0 rfl (by simp; omega) (by simp; omega) fun v2 H2 hL2 => ?_)
      rw [List.nil_append] at hL2
      obtain ⟨a2, c2, rfl⟩ := hL2.isSlice
      refine yp (pI rfl) ?_
      refine ycons (ybsl1 k rfl rfl (by decide) (by decide) rfl fun p28 => ?_)
      refine ycons (yapp (Y := [k]) rfl rfl hL2 (.lit (by repeat (first | exact List.mem_cons_self | apply List.mem_cons_of_mem)) rfl) rfl 0 rfl (by simp; omega) (by simp; omega) fun v3 H3 hL3 => ?_)
      obtain ⟨a3, c3, rfl⟩ := hL3.isSlice
      refine yp (pNilc rfl) ?_
      refine yp (pFadr rfl) ?_
      refine ycons (yst3_1 rfl rfl (scS rfl) ?_)
      refine ynil ?_
      refine yfinN res0 ⟨_, .of, rfl, .slice a3 (A ++ [k]).length c3, H3, ?_, rfl⟩
      rw [addL, if_neg (by intro h; rcases h with h | h; exact ipos_none h1 h; exact ipos_none h2 h)]
      exact hL3

theorem c37 {rb : Nat} {most : Int} {u v : Value} {A B : List Int} {H G : List Chunk} (hA : Slc 3 u A H) (hB : Slc 3 v B G) (ha : A.length < 2 ^ 39) (hb : B.length < 2 ^ 39) :
    Tri Try.prog 37 #[.pointer (some ⟨rb, 0, none⟩)] [rseg rb most u v, H, G] (fun r S => ∃ Ho, Slc 3 r (A ++ B) Ho ∧ S = [Ho, rseg rb most u v, H, G]) := by
  refine Tri.forget (ycallee Try.fx37 (Nat.le_of_ble_eq_true rfl) ?_)
  unfold Try.x37
  obtain ⟨a, c, rfl⟩ := hA.isSlice
  obtain ⟨a', c', rfl⟩ := hB.isSlice
  refine yseq ?_
  refine yregion ?_
  refine yp pC ?_
  refine ynil ?_
  refine tnorm ?_
  refine yseq ?_
  refine ydraw ?_
  refine ytq (pP rfl) ?_
  refine ytq (pNilc rfl) ?_
  refine ytq (pFadr rfl) ?_
  refine ytl1 rfl rfl ?_
  refine ytq (pP rfl) ?_
  refine ytq (pNilc rfl) ?_
  refine ytq (pFadr rfl) ?_
  refine ytl1 rfl rfl ?_
  refine ytaltC (ybsl0 fun p3 => ⟨by simp, ?_⟩) ytno
  refine ytaltC (yapp rfl rfl Slc.empty (hA.src (by repeat (first | exact List.mem_cons_self | apply List.mem_cons_of_mem))) rfl 0 rfl (by simp; omega) (by simp; omega) fun v2 H2 hL2 => ⟨by simp, ?_⟩) ytno
  rw [List.nil_append] at hL2
  refine ytalt (yapp (Y := B) rfl rfl hL2 (hB.src (by simp)) rfl 0 rfl (by omega) (by omega) fun v3 H3 hL3 => ?_) ytno
  obtain ⟨a3, c3, rfl⟩ := hL3.isSlice
  refine ytq (pS rfl) ?_
  refine ytdone ?_
  refine tnorm ?_
  refine yret ?_
  exact yfin (rS rfl) ⟨_, .of, H3, hL3, rfl⟩

theorem c34 {rb : Nat} {most : Int} {u v : Value} {A B : List Int} {H G : List Chunk} (hA : Slc 3 u A H) (hB : Slc 3 v B G) (ha : A.length < 2 ^ 40) (hb : B.length < 2 ^ 40) (k : Int) :
    Tri Try.prog 34 #[.pointer (some ⟨rb, 0, none⟩), .int .i64 k] [rseg rb most u v, H, G] (fun r S => r = .bool (decide (k ∈ A) || decide (k ∈ B)) ∧ ∃ u' H' v' G', Slc 3 u' (A.erase k) H' ∧ Slc 3 v' (B.erase k) G' ∧ S = [rseg rb most u' v', H', G']) := by
  refine Tri.forget (ycallee Try.fx34 (Nat.le_of_ble_eq_true rfl) ?_)
  unfold Try.x34
  obtain ⟨a, c, rfl⟩ := hA.isSlice
  obtain ⟨a', c', rfl⟩ := hB.isSlice
  refine yseq ?_
  refine yregion ?_
  refine yp pC ?_
  refine ynil ?_
  refine tnorm ?_
  refine yseq ?_
  refine ydraw ?_
  refine ytq (pP rfl) ?_
  refine ytq (pNilc rfl) ?_
  refine ytq (pFadr rfl) ?_
  refine ytl1 rfl rfl ?_
  refine ytq (pI rfl) ?_
  refine ytq (pP rfl) ?_
  refine ytq (pNilc rfl) ?_
  refine ytq (pFadr rfl) ?_
  refine ytl1 rfl rfl ?_
  refine ytq (pI rfl) ?_
  refine ytaltC (ycall (c48 hA ha k) rfl rfl fun r S' h => ?_) ytno
  obtain ⟨rfl, rfl⟩ := h
  refine ⟨by intro s hs; simp at hs ⊢; rcases hs with h | h | h <;> simp [h], ?_⟩
  refine ytalt (ycall (c48 hB hb k) rfl rfl fun r S' h => ?_) ytno
  obtain ⟨rfl, rfl⟩ := h
  cases h1 : ipos k A with
  | none =>
    rw [decide_eq_false (ipos_none h1), List.erase_of_not_mem (ipos_none h1)]
    cases h2 : ipos k B with
    | none =>
      rw [decide_eq_false (ipos_none h2), List.erase_of_not_mem (ipos_none h2)]
      simp only [ixV]
      refine ytq (pI rfl) ?_
      refine ytq (pI rfl) ?_
      refine ytdone ?_
      refine tnorm ?_
      refine yseq ?_
      refine yseq ?_
      refine yregion ?_
      refine yp (pI rfl) ?_
      refine yp (pGe rfl rfl) ?_
      refine ynil ?_
      refine tnorm ?_
      refine ycondF rfl ?_
      refine yskip ?_
      refine tnorm ?_
      refine yseq ?_
      refine yseq ?_
      refine yregion ?_
      refine yp (pI rfl) ?_
      refine yp (pGe rfl rfl) ?_
      refine ynil ?_
      refine tnorm ?_
      refine ycondF rfl ?_
      refine yskip ?_
      refine tnorm ?_
      refine yseq ?_
      refine yregion ?_
      refine yp (pI rfl) ?_
      refine yp (pGe rfl rfl) ?_
      refine yp (pB rfl) ?_
      refine ygT rfl ?_
      refine yop (pI rfl) ?_
      refine ygT rfl ?_
      refine yop (pGe rfl rfl) ?_
      refine yp (pPickF rfl rfl) ?_
      refine yp (pB rfl) ?_
      refine ynil ?_
      refine tnorm ?_
      refine yret ?_
      exact yfin (rB rfl) ⟨_, .of, rfl, _, H, _, G, hA, hB, rfl⟩
    | some j =>
      rw [decide_eq_true (ipos_some h2).1, ← (ipos_some h2).2]
      simp only [ixV]
      refine ytq (pI rfl) ?_
      refine ytq (pI rfl) ?_
      refine ytdone ?_
      refine tnorm ?_
      refine yseq ?_
      refine yseq ?_
      refine yregion ?_
      refine yp (pI rfl) ?_
      refine yp (pGe rfl rfl) ?_
      refine ynil ?_
      refine tnorm ?_
      refine ycondF rfl ?_
      refine yskip ?_
      refine tnorm ?_
      refine yseq ?_
      refine yseq ?_
      refine yregion ?_
      refine yp (pI rfl) ?_
      refine yp (pGe rfl rfl) ?_
      refine ynil ?_
      refine tnorm ?_
      refine ycondT rfl ?_
      refine yregion ?_
      refine yp (pP rfl) ?_
      refine yp (pP rfl) ?_
      refine yp (pNilc rfl) ?_
      refine yp (pFadr rfl) ?_
      refine ycons (yload1 rfl rfl ?_)
      refine yp (pI rfl) ?_
      rw [decide_eq_true (show (0 : Int) ≤ j from by omega)]
      skip
      refine ycons (ycall (c50 hB hb (ipos_lt h2)) rfl rfl fun r S' h => ?_)
      obtain ⟨G1, hB1, rfl⟩ := h
      obtain ⟨a2, c2, rfl⟩ := hB1.isSlice
      refine yp (pNilc rfl) ?_
      refine yp (pFadr rfl) ?_
      refine ycons (yst3_2 rfl rfl (scS rfl) ?_)
      refine ynil ?_
      refine tnorm ?_
      refine yseq ?_
      refine yregion ?_
      refine yp (pI rfl) ?_
      refine yp (pGe rfl rfl) ?_
      refine yp (pB rfl) ?_
      refine ygT rfl ?_
      refine yop (pI rfl) ?_
      refine ygT rfl ?_
      refine yop (pGe rfl rfl) ?_
      refine yp (pPickF rfl rfl) ?_
      refine yp (pB rfl) ?_
      refine ynil ?_
      refine tnorm ?_
      refine yret ?_
      rw [decide_eq_true (show (0 : Int) ≤ j from by omega)]
      skip
      exact yfin (rB rfl) ⟨_, .of, rfl, _, H, _, G1, hA, hB1, rfl⟩
  | some i =>
    rw [decide_eq_true (ipos_some h1).1, ← (ipos_some h1).2]
    cases h2 : ipos k B with
    | none =>
      rw [decide_eq_false (ipos_none h2), List.erase_of_not_mem (ipos_none h2)]
      simp only [ixV]
      refine ytq (pI rfl) ?_
      refine ytq (pI rfl) ?_
      refine ytdone ?_
      refine tnorm ?_
      refine yseq ?_
      refine yseq ?_
      refine yregion ?_
      refine yp (pI rfl) ?_
      refine yp (pGe rfl rfl) ?_
      refine ynil ?_
      refine tnorm ?_
      refine ycondT rfl ?_
      refine yregion ?_
      refine yp (pP rfl) ?_
      refine yp (pP rfl) ?_
      refine yp (pNilc rfl) ?_
      refine yp (pFadr rfl) ?_
      refine ycons (yload1 rfl rfl ?_)
      refine yp (pI rfl) ?_
      rw [decide_eq_true (show (0 : Int) ≤ i from by omega)]
      skip
      refine ycons (ycall (c50 hA ha (ipos_lt h1)) rfl rfl fun r S' h => ?_)
      obtain ⟨H1, hA1, rfl⟩ := h
      obtain ⟨a2, c2, rfl⟩ := hA1.isSlice
      refine yp (pNilc rfl) ?_
      refine yp (pFadr rfl) ?_
      refine ycons (yst3_1 rfl rfl (scS rfl) ?_)
      refine ynil ?_
      refine tnorm ?_
      refine yseq ?_
      refine yseq ?_
      refine yregion ?_
      refine yp (pI rfl) ?_
      refine yp (pGe rfl rfl) ?_
      refine ynil ?_
      refine tnorm ?_
      refine ycondF rfl ?_
      refine yskip ?_
      refine tnorm ?_
      refine yseq ?_
      refine yregion ?_
      refine yp (pI rfl) ?_
      refine yp (pGe rfl rfl) ?_
      refine yp (pB rfl) ?_
      refine ygF rfl ?_
      refine ygF rfl ?_
      refine yp (pPickT rfl rfl) ?_
      refine yp (pB rfl) ?_
      refine ynil ?_
      refine tnorm ?_
      refine yret ?_
      rw [decide_eq_true (show (0 : Int) ≤ i from by omega)]
      skip
      exact yfin (rB rfl) ⟨_, .of, rfl, _, H1, _, G, hA1, hB, rfl⟩
    | some j =>
      rw [decide_eq_true (ipos_some h2).1, ← (ipos_some h2).2]
      simp only [ixV]
      refine ytq (pI rfl) ?_
      refine ytq (pI rfl) ?_
      refine ytdone ?_
      refine tnorm ?_
      refine yseq ?_
      refine yseq ?_
      refine yregion ?_
      refine yp (pI rfl) ?_
      refine yp (pGe rfl rfl) ?_
      refine ynil ?_
      refine tnorm ?_
      refine ycondT rfl ?_
      refine yregion ?_
      refine yp (pP rfl) ?_
      refine yp (pP rfl) ?_
      refine yp (pNilc rfl) ?_
      refine yp (pFadr rfl) ?_
      refine ycons (yload1 rfl rfl ?_)
      refine yp (pI rfl) ?_
      rw [decide_eq_true (show (0 : Int) ≤ i from by omega)]
      skip
      refine ycons (ycall (c50 hA ha (ipos_lt h1)) rfl rfl fun r S' h => ?_)
      obtain ⟨H1, hA1, rfl⟩ := h
      obtain ⟨a2, c2, rfl⟩ := hA1.isSlice
      refine yp (pNilc rfl) ?_
      refine yp (pFadr rfl) ?_
      refine ycons (yst3_1 rfl rfl (scS rfl) ?_)
      refine ynil ?_
      refine tnorm ?_
      refine yseq ?_
      refine yseq ?_
      refine yregion ?_
      refine yp (pI rfl) ?_
      refine yp (pGe rfl rfl) ?_
      refine ynil ?_
      refine tnorm ?_
      refine ycondT rfl ?_
      refine yregion ?_
      refine yp (pP rfl) ?_
      refine yp (pP rfl) ?_
      refine yp (pNilc rfl) ?_
      refine yp (pFadr rfl) ?_
      refine ycons (yload1 rfl rfl ?_)
      refine yp (pI rfl) ?_
      rw [decide_eq_true (show (0 : Int) ≤ j from by omega)]
      skip
      refine ycons (ycall (c50 hB hb (ipos_lt h2)) rfl rfl fun r S' h => ?_)
      obtain ⟨G1, hB1, rfl⟩ := h
      obtain ⟨a3, c3, rfl⟩ := hB1.isSlice
      refine yp (pNilc rfl) ?_
      refine yp (pFadr rfl) ?_
      refine ycons (yst3_2 rfl rfl (scS rfl) ?_)
      refine ynil ?_
      refine tnorm ?_
      refine yseq ?_
      refine yregion ?_
      refine yp (pI rfl) ?_
      refine yp (pGe rfl rfl) ?_
      refine yp (pB rfl) ?_
      refine ygF rfl ?_
      refine ygF rfl ?_
      refine yp (pPickT rfl rfl) ?_
      refine yp (pB rfl) ?_
      refine ynil ?_
      refine tnorm ?_
      refine yret ?_
      rw [decide_eq_true (show (0 : Int) ≤ i from by omega)]
      skip
      exact yfin (rB rfl) ⟨_, .of, rfl, _, H1, _, G1, hA1, hB1, rfl⟩
theorem c32 {rb : Nat} {most : Int} {u v : Value} {A B : List Int} {H G : List Chunk} (hA : Slc 3 u A H) (hB : Slc 3 v B G) (ha : A.length < 2 ^ 39) (hb : B.length < 2 ^ 39) (hn : (A ++ B).Nodup) (hm : (B.length : Int) ≤ max most 0) (k : Int) :
    Tri Try.prog 32 #[.pointer (some ⟨rb, 0, none⟩), .int .i64 k] [rseg rb most u v, H, G] (fun r S => r = .bool (decide (k ∈ A ∨ k ∈ B)) ∧ ∃ u' H' v' G', Slc 3 u' (tchA (max most 0) k A B) H' ∧ Slc 3 v' (tchB (max most 0) k A B) G' ∧ S = [rseg rb most u' v', H', G']) := by
  refine Tri.forget (ycallee Try.fx32 (Nat.le_of_ble_eq_true rfl) ?_)
  unfold Try.x32
  obtain ⟨_, _, hd⟩ := List.pairwise_append.1 hn
  obtain ⟨a, c, rfl⟩ := hA.isSlice
  obtain ⟨a', c', rfl⟩ := hB.isSlice
  unfold tchA tchB
  refine yseq ?_
  refine yregion ?_
  refine yp pC ?_
  refine ynil ?_
  refine tnorm ?_
  refine yseq ?_
  refine yregion ?_
  refine yp (pP rfl) ?_
  refine yp (pNilc rfl) ?_
  refine yp (pFadr rfl) ?_
  refine ycons (yload1 rfl rfl ?_)
  refine yp (pI rfl) ?_
  refine ycons (ycall (c48 hB (by omega) k) rfl rfl fun r S' h => ?_)
  obtain ⟨rfl, rfl⟩ := h
  cases h2 : ipos k B with
  | some j =>
    have hkB := (ipos_some h2).1
    have hkA : k ∉ A := fun h => hd k h k hkB rfl
    have hk : k ∈ A ∨ k ∈ B := .inr hkB
    have hlen := List.length_erase_of_mem hkB
    have hpos : 0 < B.length := List.length_pos_iff.2 (fun h => by rw [h] at hkB; cases hkB)
    have hno : ¬ max most 0 < ((B.erase k ++ [k]).length : Int) := by rw [List.length_append, List.length_singleton]; omega
    rw [decide_eq_true hk, if_pos hk, if_pos hk, if_neg hno, if_neg hno, List.erase_of_not_mem hkA]
    simp only [ixV]
    refine yp (pI rfl) ?_
    refine ynil ?_
    refine tnorm ?_
    refine yseq ?_
    refine yseq ?_
    refine yregion ?_
    refine yp (pI rfl) ?_
    refine yp (pGe rfl rfl) ?_
    refine ynil ?_
    refine tnorm ?_
    refine ycondT rfl ?_
    refine yseq ?_
    refine yregion ?_
    refine yp (pP rfl) ?_
    refine yp (pP rfl) ?_
    refine yp (pNilc rfl) ?_
    refine yp (pFadr rfl) ?_
    refine ycons (yload1 rfl rfl ?_)
    refine yp (pI rfl) ?_
    refine ycons (ycall (c50 hB (by omega) (ipos_lt h2)) rfl rfl fun r S' h => ?_)
    obtain ⟨G1, hB1, rfl⟩ := h
    rw [(ipos_some h2).2] at hB1
    obtain ⟨a2, c2, rfl⟩ := hB1.isSlice
    refine yp (pI rfl) ?_
    refine ycons (ybsl1 k rfl rfl (by decide) (by decide) rfl fun p22 => ?_)
    refine ycons (yapp (Y := [k]) rfl rfl hB1 (.lit (by repeat (first | exact List.mem_cons_self | apply List.mem_cons_of_mem)) rfl) rfl 0 rfl (by simp; omega) (by simp; omega) fun v3 G3 hB3 => ?_)
    obtain ⟨a3, c3, rfl⟩ := hB3.isSlice
    refine yp (pNilc rfl) ?_
    refine yp (pFadr rfl) ?_
    refine ycons (yst3_2 rfl rfl (scS rfl) ?_)
    refine ynil ?_
    refine tnorm ?_
    refine yseq ?_
    refine yregion ?_
    refine yp pC ?_
    refine ynil ?_
    refine tnorm ?_
    refine yret ?_
    refine tret ?_
    exact yfin (rB rfl) ⟨_, .of, rfl, _, H, _, G3, hA, hB3, rfl⟩
  | none =>
    have hkB := ipos_none h2
    rw [List.erase_of_not_mem hkB]
    simp only [ixV]
    refine yp (pI rfl) ?_
    refine ynil ?_
    refine tnorm ?_
    refine yseq ?_
    refine yseq ?_
    refine yregion ?_
    refine yp (pI rfl) ?_
    refine yp (pGe rfl rfl) ?_
    refine ynil ?_
    refine tnorm ?_
    refine ycondF rfl ?_
    refine yskip ?_
    refine tnorm ?_
    refine yseq ?_
    refine yregion ?_
    refine yp (pP rfl) ?_
    refine yp (pNilc rfl) ?_
    refine yp (pFadr rfl) ?_
    refine ycons (yload1 rfl rfl ?_)
    refine yp (pI rfl) ?_
    refine ycons (ycall (c48 hA (by omega) k) rfl rfl fun r S' h => ?_)
    obtain ⟨rfl, rfl⟩ := h
    cases h1 : ipos k A with
    | none =>
      have hk : ¬ (k ∈ A ∨ k ∈ B) := by intro h; rcases h with h | h; exact ipos_none h1 h; exact hkB h
      rw [decide_eq_false hk, if_neg hk, if_neg hk]
      simp only [ixV]
      refine yp (pI rfl) ?_
      refine ynil ?_
      refine tnorm ?_
      refine yseq ?_
      refine yseq ?_
      refine yregion ?_
      refine yp (pI rfl) ?_
      refine yp (pLt rfl rfl) ?_
      refine ynil ?_
      refine tnorm ?_
      refine ycondT rfl ?_
      refine yseq ?_
      refine yregion ?_
      refine yp pC ?_
      refine ynil ?_
      refine tnorm ?_
      refine yret ?_
      refine tret ?_
      exact yfin (rB rfl) ⟨_, .of, rfl, _, H, _, G, hA, hB, rfl⟩
    | some i =>
      have hk : k ∈ A ∨ k ∈ B := .inl (ipos_some h1).1
      rw [decide_eq_true hk, if_pos hk, if_pos hk]
      simp only [ixV]
      refine yp (pI rfl) ?_
      refine ynil ?_
      refine tnorm ?_
      refine yseq ?_
      refine yseq ?_
      refine yregion ?_
      refine yp (pI rfl) ?_
      refine yp (pLt rfl rfl) ?_
      refine ynil ?_
      refine tnorm ?_
      refine ycondF rfl ?_
      refine yskip ?_
      refine tnorm ?_
      refine yseq ?_
      refine yregion ?_
      refine yp (pP rfl) ?_
      refine yp (pP rfl) ?_
      refine yp (pNilc rfl) ?_
      refine yp (pFadr rfl) ?_
      refine ycons (yload1 rfl rfl ?_)
      refine yp (pI rfl) ?_
      refine ycons (ycall (c50 hA (by omega) (ipos_lt h1)) rfl rfl fun r S' h => ?_)
      obtain ⟨H1, hA1, rfl⟩ := h
      rw [(ipos_some h1).2] at hA1
      have hla : (A.erase k).length ≤ A.length := List.length_erase_le
      obtain ⟨a1, c1, rfl⟩ := hA1.isSlice
      refine yp (pNilc rfl) ?_
      refine yp (pFadr rfl) ?_
      refine ycons (yst3_1 rfl rfl (scS rfl) ?_)
      refine ynil ?_
      refine tnorm ?_
      refine yseq ?_
      refine yregion ?_
      refine yp (pP rfl) ?_
      refine ycons (ybsl0 fun p44 => ?_)
      refine yp (pP rfl) ?_
      refine yp (pNilc rfl) ?_
      refine yp (pFadr rfl) ?_
      refine ycons (yload1 rfl rfl ?_)
      refine ycons (yapp rfl rfl Slc.empty (hB.src (by repeat (first | exact List.mem_cons_self | apply List.mem_cons_of_mem))) rfl 0 rfl (by simp; omega) (by simp; omega) fun v2 G2 hB2 => ?_)
      rw [List.nil_append] at hB2
      obtain ⟨a2, c2, rfl⟩ := hB2.isSlice
      refine yp (pI rfl) ?_
      refine ycons (ybsl1 k rfl rfl (by decide) (by decide) rfl fun p51 => ?_)
      refine ycons (yapp (Y := [k]) rfl rfl hB2 (.lit (by repeat (first | exact List.mem_cons_self | apply List.mem_cons_of_mem)) rfl) rfl 0 rfl (by simp; omega) (by simp; omega) fun v3 G3 hB3 => ?_)
      generalize hBB : B ++ [k] = BB at hB3
      have hlen : BB.length = B.length + 1 := by rw [← hBB]; simp
      obtain ⟨a3, c3, rfl⟩ := hB3.isSlice
      refine yp (pNilc rfl) ?_
      refine yp (pFadr rfl) ?_
      refine ycons (yst3_2 rfl rfl (scS rfl) ?_)
      refine ynil ?_
      refine tnorm ?_
      refine yseq ?_
      refine yseq ?_
      refine ydraw ?_
      refine ytq (pP rfl) ?_
      refine ytq (pNilc rfl) ?_
      refine ytq (pFadr rfl) ?_
      refine ytl1 rfl rfl ?_
      refine ytq (pLen rfl) ?_
      refine ytq (pP rfl) ?_
      refine ytq (pNilc rfl) ?_
      refine ytq (pFadr rfl) ?_
      refine ytl1 rfl rfl ?_
      refine ytq (pMax1 rfl rfl) ?_
      refine ytq (pGt rfl rfl) ?_
      refine ytdone ?_
      refine tnorm ?_
      by_cases hmm : max most 0 < (BB.length : Int)
      · refine ycondD rfl (fun _ => ?_) (fun h => absurd hmm h)
        rw [if_pos hmm, if_pos hmm]
        have h0 : 0 < BB.length := by omega
        obtain ⟨b2, sp2, fz2, hz2, rfl, _, rfl, rfl⟩ := hB3.at' (by intro h; simp [h] at h0)
        refine yseq ?_
        refine ydraw ?_
        refine ytq (pP rfl) ?_
        refine ytq (pP rfl) ?_
        refine ytq (pNilc rfl) ?_
        refine ytq (pFadr rfl) ?_
        refine ytl1 rfl rfl ?_
        refine ytq (pP rfl) ?_
        refine ytq (pNilc rfl) ?_
        refine ytq (pFadr rfl) ?_
        refine ytl1 rfl rfl ?_
        refine ytq (pIxN rfl rfl (by omega)) ?_
        refine ytl1 (v := .int .i64 BB[0]) rfl ((row_cell (i := 0) (kk := 1) (j := 0) h0 rfl (by omega)).trans rfl) ?_
        refine ytaltC (ybsl1 BB[0] rfl rfl (by decide) (by decide) rfl fun p77 => ⟨by simp, ?_⟩) ytno
        refine ytalt (yapp (Y := [BB[0]]) rfl rfl hA1 (.lit (by repeat (first | exact List.mem_cons_self | apply List.mem_cons_of_mem)) rfl) rfl 0 rfl (by simp; omega) (by simp; omega) fun v4 H4 hA4 => ?_) ytno
        obtain ⟨a4, c4, rfl⟩ := hA4.isSlice
        refine ytq (pNilc rfl) ?_
        refine ytq (pFadr rfl) ?_
        refine ytalt (yst3_1 rfl rfl (scS rfl) ?_) ytno
        refine ytdone ?_
        refine tnorm ?_
        refine yregion ?_
        refine yp (pP rfl) ?_
        refine ycons (ybsl0 fun p82 => ?_)
        refine yp (pP rfl) ?_
        refine yp (pNilc rfl) ?_
        refine yp (pFadr rfl) ?_
        refine ycons (yload1 rfl rfl ?_)
        refine yp (pSlFrom (j := 1) rfl rfl (by omega)) ?_
        refine ycons (yapp (Y := BB.drop 1) rfl rfl Slc.empty (Src.tail (b := b2) (L := BB) (sp := sp2) (ty := 3) (fz := fz2) (j := 1) ?_ rfl (by omega)) rfl 0 rfl (by simp; omega) (by simp; omega) fun v5 G5 hB5 => ?_)
        · simp
        rw [List.nil_append] at hB5
        obtain ⟨a5, c5, rfl⟩ := hB5.isSlice
        refine yp (pNilc rfl) ?_
        refine yp (pFadr rfl) ?_
        refine ycons (yst3_2 rfl rfl (scS rfl) ?_)
        refine ynil ?_
        refine tnorm ?_
        refine yseq ?_
        refine yregion ?_
        refine yp pC ?_
        refine ynil ?_
        refine tnorm ?_
        refine yret ?_
        have e1 : BB.take 1 = [BB[0]] := by
          cases BB with
          | nil => simp at h0
          | cons x l => rfl
        have e2 : BB.eraseIdx 0 = BB.drop 1 := by
          cases BB with
          | nil => rfl
          | cons x l => rfl
        rw [e1, e2]
        exact yfin (rB rfl) ⟨_, .of, rfl, _, H4, _, G5, hA4, hB5, rfl⟩
      · refine ycondD rfl (fun h => absurd h hmm) (fun _ => ?_)
        rw [if_neg hmm, if_neg hmm]
        refine yskip ?_
        refine tnorm ?_
        refine yseq ?_
        refine yregion ?_
        refine yp pC ?_
        refine ynil ?_
        refine tnorm ?_
        refine yret ?_
        exact yfin (rB rfl) ⟨_, .of, rfl, _, H1, _, G3, hA1, hB3, rfl⟩
end Go.Proofs.Ytmgiamagocefcaa
