/- The lists (chapter 9): who was used last. Contracts of LRU's functions. -/
import Derived.Test.YtmgiamagocefcaaGrow
import Derived.Test.YtmgiamagocefcaaTimer
namespace Go.Proofs.Ytmgiamagocefcaa
open Go.Xs
open Enc (enc)

theorem agg81 : isAgg? Try.prog 81 = some true := by kernel_rfl

def ipos (k : Int) : List Int → Option Nat
  | [] => none
  | e :: l => if k = e then some 0 else (ipos k l).map (· + 1)
theorem ipos_lt {k : Int} : ∀ {l : List Int} {i : Nat}, ipos k l = some i → i < l.length
  | e :: l, i, h => by
    unfold ipos at h
    split at h
    · simp at h; subst h; simp
    · cases h' : ipos k l with
      | none => simp [h'] at h
      | some j => simp [h'] at h; have := ipos_lt h'; subst h; simp; omega
theorem ipos_none {k : Int} : ∀ {l : List Int}, ipos k l = none → k ∉ l
  | [], _ => by simp
  | e :: l, h => by
    unfold ipos at h
    split at h
    · simp at h
    · next hk =>
      rw [Option.map_eq_none_iff] at h
      have := ipos_none h
      simp [hk, this]
theorem ipos_some {k : Int} : ∀ {l : List Int} {i : Nat}, ipos k l = some i → k ∈ l ∧ l.eraseIdx i = l.erase k
  | e :: l, i, h => by
    unfold ipos at h
    split at h
    · next hk => simp at h; subst h; subst hk; simp
    · next hk =>
      cases h' : ipos k l with
      | none => simp [h'] at h
      | some j =>
        simp [h'] at h; subst h
        obtain ⟨h1, h2⟩ := ipos_some h'
        refine ⟨List.mem_cons_of_mem _ h1, ?_⟩
        rw [List.eraseIdx_cons_succ, h2, List.erase_cons_tail (by simpa using fun h => hk h.symm)]

/-- where a number stands -/
theorem c60 {v : Value} {L : List Int} {H : List Chunk} (hL : Slc 3 v L H) (hlen : L.length < 2 ^ 40) (k : Int) :
    Tri Try.prog 60 #[v, .int .i64 k] [H] (fun r S => r = ixV (ipos k L) ∧ S = [H]) := by
  refine Tri.forget (ycallee Try.fx60 (Nat.le_of_ble_eq_true rfl) ?_)
  unfold Try.x60
  obtain ⟨a, c, rfl⟩ := hL.isSlice
  refine yseq ?_
  refine yregion ?_
  refine yp pC ?_
  refine ynil ?_
  refine tnorm ?_
  refine yseq ?_
  refine yseq ?_
  refine yregion ?_
  refine yp (pS rfl) ?_
  refine yp (pLen rfl) ?_
  refine yp pC ?_
  refine ynil ?_
  refine tnorm ?_
  refine yblock ?_
  refine yloop (σ := Nat) (fun i E S => Has E [(0, .slice a L.length c), (1, .int .i64 k), (7, .int .i64 L.length), (8, .int .i64 i)] ∧ i ≤ L.length ∧ (ipos k L = (ipos k (L.drop i)).map (· + i)) ∧ Junk S [H]) (fun i => L.length - i) 0 ⟨⟨rfl, rfl, rfl, rfl, trivial⟩, Nat.zero_le _, by simp, .self⟩ fun i E S ⟨hE, hi, hx, hS⟩ => ?_
  obtain ⟨E0, e0⟩ := has_puts hE; subst e0; clear hE
  refine yforget hS ?_
  refine yseq ?_
  refine yregion ?_
  refine yp (pLt rfl rfl) ?_
  refine ynil ?_
  refine tnorm ?_
  refine yseq ?_
  refine ycondD rfl (fun h => ?_) (fun h => ?_)
  · have hlt : i < L.length := by omega
    have hd : L.drop i = L[i] :: L.drop (i + 1) := List.drop_eq_getElem_cons hlt
    refine yskip ?_
    refine tnorm ?_
    refine yseq ?_
    refine yblock ?_
    refine yseq ?_
    refine yregion ?_
    refine yp (pI rfl) ?_
    refine yp (pI rfl) ?_
    refine ynil ?_
    refine tnorm ?_
    refine yseq ?_
    refine yregion ?_
    refine yp (pI rfl) ?_
    refine yp (pS rfl) ?_
    refine yp (pI rfl) ?_
    obtain ⟨b, sp, fz2, hz, rfl, _, rfl, rfl⟩ := hL.at' (by intro h; simp [h] at hlt)
    refine yp (pIxN rfl rfl (by omega)) ?_
    refine ycons (yload1 (v := .int .i64 L[i]) rfl ((row_cell (kk := 1) (j := 0) hlt rfl (by omega)).trans rfl) ?_)
    refine yp (pEq rfl rfl) ?_
    refine ynil ?_
    refine tnorm ?_
    refine ycondD rfl (fun h2 => ?_) (fun h2 => ?_)
    · refine yseq ?_
      refine yregion ?_
      refine yp (pI rfl) ?_
      refine yp (pI rfl) ?_
      refine ynil ?_
      refine tnorm ?_
      refine yret ?_
      refine bret ?_
      refine tret ?_
      refine tret ?_
      refine bret ?_
      refine tret ?_
      exact yfin (rI rfl) ⟨_, .of, by rw [hx, hd, ipos, if_pos h2]; simp [ixV], rfl⟩
    · refine yskip ?_
      refine bnorm ?_
      refine tnorm ?_
      refine yregion ?_
      refine yp (pInc rfl rfl (by omega)) ?_
      refine yp (pI rfl) ?_
      refine ynil ?_
      refine tnorm ?_
      refine ⟨i + 1, ⟨⟨rfl, rfl, rfl, rfl, trivial⟩, by omega, ?_, .of⟩, by omega⟩
      rw [hx, hd, ipos, if_neg h2, Option.map_map]
      congr 1
      funext x
      simp; omega
  · refine yexit ?_
    refine texit ?_
    refine texit ?_
    refine bexit ?_
    refine tnorm ?_
    refine yseq ?_
    refine yregion ?_
    refine yp pC ?_
    refine ynil ?_
    refine tnorm ?_
    refine yret ?_
    have : L.drop i = [] := List.drop_eq_nil_of_le (by omega)
    exact yfin (rI rfl) ⟨_, .of, by rw [hx, this]; rfl, rfl⟩

theorem c47 {v : Value} {L : List Int} {H : List Chunk} (hL : Slc 3 v L H) (hlen : L.length < 2 ^ 40) (k : Int) :
    Tri Try.prog 47 #[v, .int .i64 k] [H] (fun r S => r = .bool (decide (k ∈ L)) ∧ S = [H]) := by
  refine Tri.forget (ycallee Try.fx47 (Nat.le_of_ble_eq_true rfl) ?_)
  unfold Try.x47
  obtain ⟨a, c, rfl⟩ := hL.isSlice
  refine yseq ?_
  refine yregion ?_
  refine yp pC ?_
  refine ynil ?_
  refine tnorm ?_
  refine yseq ?_
  refine yregion ?_
  refine yp (pS rfl) ?_
  refine yp (pI rfl) ?_
  refine ycons (ycall (c60 hL hlen k) rfl rfl fun r S' h => ?_)
  obtain ⟨rfl, rfl⟩ := h
  cases h : ipos k L with
  | none =>
    rw [decide_eq_false (ipos_none h)]
    simp only [ixV]
    refine yp (pGe rfl rfl) ?_
    refine yp (pB rfl) ?_
    refine ynil ?_
    refine tnorm ?_
    refine yret ?_
    exact yfin (rB rfl) ⟨_, .of, rfl, rfl⟩
  | some i =>
    rw [decide_eq_true (ipos_some h).1]
    simp only [ixV]
    refine yp (pGe rfl rfl) ?_
    refine yp (pB rfl) ?_
    refine ynil ?_
    refine tnorm ?_
    refine yret ?_
    exact yfin (rB rfl) ⟨_, .of, by simp, rfl⟩

theorem c49 {v : Value} {L : List Int} {H : List Chunk} (hL : Slc 3 v L H) (hlen : L.length < 2 ^ 40) {i j : Nat} (hi : i < L.length) (hj : j = i + 1) :
    Tri Try.prog 49 #[v, .int .i64 (i : Int), .int .i64 (j : Int)] [H] (fun r S => ∃ H', Slc 3 r (L.eraseIdx i) H' ∧ S = [H']) :=
  delete_one Try.fx49 rfl 0 rfl hL hlen hi hj

theorem c51 {v : Value} {L : List Int} {H : List Chunk} (hL : Slc 3 v L H) (hlen : L.length < 2 ^ 40) (k : Int) :
    Tri Try.prog 51 #[v, .int .i64 k] [H] (fun r S => ∃ v' H', r = .tuple #[v', .bool (decide (k ∈ L))] ∧ Slc 3 v' (L.erase k) H' ∧ S = [H']) := by
  refine Tri.forget (ycallee Try.fx51 (Nat.le_of_ble_eq_true rfl) ?_)
  unfold Try.x51
  obtain ⟨a, c, rfl⟩ := hL.isSlice
  refine yseq ?_
  refine yregion ?_
  refine yp pC ?_
  refine yp pC ?_
  refine ynil ?_
  refine tnorm ?_
  refine yseq ?_
  refine yregion ?_
  refine yp (pS rfl) ?_
  refine yp (pI rfl) ?_
  refine ycons (ycall (c60 hL hlen k) rfl rfl fun r S' h => ?_)
  obtain ⟨rfl, rfl⟩ := h
  cases h : ipos k L with
  | none =>
    have h1 := ipos_none h
    rw [decide_eq_false h1, List.erase_of_not_mem h1]
    simp only [ixV]
    refine yp (pI rfl) ?_
    refine ynil ?_
    refine tnorm ?_
    refine yseq ?_
    refine yseq ?_
    refine yregion ?_
    refine yp (pI rfl) ?_
    refine yp (pLt rfl rfl) ?_
    refine ynil ?_
    refine tnorm ?_
    refine ycondT rfl ?_
    refine yseq ?_
    refine yregion ?_
    refine yp (pS rfl) ?_
    refine yp (pS rfl) ?_
    refine yp pC ?_
    refine ynil ?_
    refine tnorm ?_
    refine yret ?_
    refine tret ?_
    exact yfin (rSB rfl rfl) ⟨_, .of, _, _, rfl, hL, rfl⟩
  | some i =>
    have hi := ipos_lt h
    rw [decide_eq_true (ipos_some h).1, ← (ipos_some h).2]
    simp only [ixV]
    refine yp (pI rfl) ?_
    refine ynil ?_
    refine tnorm ?_
    refine yseq ?_
    refine yseq ?_
    refine yregion ?_
    refine yp (pI rfl) ?_
    refine yp (pLt rfl rfl) ?_
    refine ynil ?_
    refine tnorm ?_
    refine ycondF rfl ?_
    refine yskip ?_
    refine tnorm ?_
    refine yseq ?_
    refine yregion ?_
    refine yp (pS rfl) ?_
    refine yp (pI rfl) ?_
    refine yp (pI rfl) ?_
    refine yp (pInc rfl rfl (by omega)) ?_
    refine ycons (ycall (c49 hL hlen hi rfl) rfl rfl fun r S' h => ?_)
    obtain ⟨H', hL', rfl⟩ := h
    obtain ⟨a', c', rfl⟩ := hL'.isSlice
    refine yp (pS rfl) ?_
    refine yp pC ?_
    refine ynil ?_
    refine tnorm ?_
    refine yret ?_
    exact yfin (rSB rfl rfl) ⟨_, .of, _, _, rfl, hL', rfl⟩

/-- LRU: its room, and its two lists -/
abbrev lseg (lb : Nat) (most : Int) (u v : Value) : List Chunk := [(lb, .cells #[.int .i64 most, u, v] 81)]

theorem c28 (most : Int) : Tri Try.prog 28 #[.int .i64 most] [] (fun r S => ∃ lb, r = .pointer (some ⟨lb, 0, none⟩) ∧ S = [lseg lb (max most 0) (.slice none 0 0) (.slice none 0 0)]) := by
  refine Tri.forget (ycallee Try.fx28 (Nat.le_of_ble_eq_true rfl) ?_)
  unfold Try.x28
  refine yseq ?_
  refine yregion ?_
  refine yp pC ?_
  refine ynil ?_
  refine tnorm ?_
  refine yseq ?_
  refine yregion ?_
  refine yp (pI rfl) ?_
  refine yp (pMax1 rfl rfl) ?_
  refine yp (v := .agg #[.int .i64 (max most 0), .slice none 0 0, .slice none 0 0]) rfl ?_
  refine ycons (yboxG rfl fun p6 => ?_)
  refine yp (pP rfl) ?_
  refine ynil ?_
  refine tnorm ?_
  refine yret ?_
  exact yfin (rP rfl) ⟨_, .of, _, rfl, rfl⟩

theorem c35 {lb : Nat} {most : Int} {u v : Value} {A B : List Int} {H G : List Chunk} (hA : Slc 3 u A H) (hB : Slc 3 v B G) :
    Tri Try.prog 35 #[.pointer (some ⟨lb, 0, none⟩)] [lseg lb most u v, H, G] (fun r S => r = .tuple #[.int .i64 A.length, .int .i64 B.length] ∧ S = [lseg lb most u v, H, G]) := by
  refine Tri.forget (ycallee Try.fx35 (Nat.le_of_ble_eq_true rfl) ?_)
  unfold Try.x35
  obtain ⟨a, c, rfl⟩ := hA.isSlice
  obtain ⟨a', c', rfl⟩ := hB.isSlice
  refine yseq ?_
  refine yregion ?_
  refine yp pC ?_
  refine yp pC ?_
  refine ynil ?_
  refine tnorm ?_
  refine yseq ?_
  refine yseq ?_
  refine yregion ?_
  refine yp (pP rfl) ?_
  refine yp (pNilP rfl rfl) ?_
  refine ynil ?_
  refine tnorm ?_
  refine ycondF rfl ?_
  refine yskip ?_
  refine tnorm ?_
  refine yseq ?_
  refine ydraw ?_
  refine ytq (pP rfl) ?_
  refine ytq (pNilc rfl) ?_
  refine ytq (pFadr rfl) ?_
  refine ytl1 rfl rfl ?_
  refine ytq (pLen rfl) ?_
  refine ytq (pP rfl) ?_
  refine ytq (pNilc rfl) ?_
  refine ytq (pFadr rfl) ?_
  refine ytl1 rfl rfl ?_
  refine ytq (pLen rfl) ?_
  refine ytq (pI rfl) ?_
  refine ytq (pI rfl) ?_
  refine ytdone ?_
  refine tnorm ?_
  refine yret ?_
  exact yfin (rII rfl rfl) ⟨_, .of, rfl, rfl⟩

theorem c33 {lb : Nat} {most : Int} {u v : Value} {A B : List Int} {H G : List Chunk} (hA : Slc 3 u A H) (hB : Slc 3 v B G) (ha : A.length < 2 ^ 40) (hb : B.length < 2 ^ 40) (k : Int) :
    Tri Try.prog 33 #[.pointer (some ⟨lb, 0, none⟩), .int .i64 k] [lseg lb most u v, H, G] (fun r S => r = .bool (decide (k ∈ A) || decide (k ∈ B)) ∧ ∃ u' H' v' G', Slc 3 u' (A.erase k) H' ∧ Slc 3 v' (B.erase k) G' ∧ S = [lseg lb most u' v', H', G']) := by
  refine Tri.forget (ycallee Try.fx33 (Nat.le_of_ble_eq_true rfl) ?_)
  unfold Try.x33
  obtain ⟨a, c, rfl⟩ := hA.isSlice
  obtain ⟨a', c', rfl⟩ := hB.isSlice
  refine yseq ?_
  refine yregion ?_
  refine yp pC ?_
  refine ynil ?_
  refine tnorm ?_
  refine yseq ?_
  refine yseq ?_
  refine yregion ?_
  refine yp (pP rfl) ?_
  refine yp (pNilP rfl rfl) ?_
  refine ynil ?_
  refine tnorm ?_
  refine ycondF rfl ?_
  refine yskip ?_
  refine tnorm ?_
  refine yseq ?_
  refine yregion ?_
  refine yp pC ?_
  refine yp pC ?_
  refine ynil ?_
  refine tnorm ?_
  refine yseq ?_
  refine yregion ?_
  refine yp (pP rfl) ?_
  refine yp (pP rfl) ?_
  refine yp (pNilc rfl) ?_
  refine yp (pFadr rfl) ?_
  refine ycons (yload1 rfl rfl ?_)
  refine yp (pI rfl) ?_
  refine ycons (ycall (c51 hA ha k) rfl rfl fun r S' h => ?_)
  obtain ⟨u1, H1, rfl, hA1, rfl⟩ := h
  obtain ⟨a1, c1, rfl⟩ := hA1.isSlice
  refine yp (pU rfl) ?_
  refine yp (pExt rfl rfl) ?_
  refine yp (pExt rfl rfl) ?_
  refine yp (pNilc rfl) ?_
  refine yp (pFadr rfl) ?_
  refine ycons (yst3_1 rfl rfl (scS rfl) ?_)
  refine yp (pB rfl) ?_
  refine ynil ?_
  refine tnorm ?_
  refine yseq ?_
  refine yregion ?_
  refine yp (pP rfl) ?_
  refine yp (pP rfl) ?_
  refine yp (pNilc rfl) ?_
  refine yp (pFadr rfl) ?_
  refine ycons (yload1 rfl rfl ?_)
  refine yp (pI rfl) ?_
  refine ycons (ycall (c51 hB hb k) rfl rfl fun r S' h => ?_)
  obtain ⟨v1, G1, rfl, hB1, rfl⟩ := h
  obtain ⟨a2, c2, rfl⟩ := hB1.isSlice
  refine yp (pU rfl) ?_
  refine yp (pExt rfl rfl) ?_
  refine yp (pExt rfl rfl) ?_
  refine yp (pNilc rfl) ?_
  refine yp (pFadr rfl) ?_
  refine ycons (yst3_2 rfl rfl (scS rfl) ?_)
  refine yp (pB rfl) ?_
  refine ynil ?_
  refine tnorm ?_
  refine yseq ?_
  refine yregion ?_
  refine yp (pB rfl) ?_
  refine yp (pB rfl) ?_
  by_cases h1 : k ∈ A
  · rw [decide_eq_true h1]
    refine ygF rfl ?_
    refine yp (pPickT rfl rfl) ?_
    refine yp (pB rfl) ?_
    refine ynil ?_
    refine tnorm ?_
    refine yret ?_
    exact yfin (rB rfl) ⟨_, .of, by simp, _, _, _, _, hA1, hB1, rfl⟩
  · rw [decide_eq_false h1]
    refine ygT rfl ?_
    refine yop (pB rfl) ?_
    refine yp (pPickF rfl rfl) ?_
    refine yp (pB rfl) ?_
    refine ynil ?_
    refine tnorm ?_
    refine yret ?_
    exact yfin (rB rfl) ⟨_, .of, by simp, _, _, _, _, hA1, hB1, rfl⟩
theorem c33n (k : Int) : Tri Try.prog 33 #[.pointer none, .int .i64 k] [] (fun r S => r = .bool false ∧ S = []) := by
  refine Tri.forget (ycallee Try.fx33 (Nat.le_of_ble_eq_true rfl) ?_)
  unfold Try.x33
  refine yseq ?_
  refine yregion ?_
  refine yp pC ?_
  refine ynil ?_
  refine tnorm ?_
  refine yseq ?_
  refine yseq ?_
  refine yregion ?_
  refine yp (pP rfl) ?_
  refine yp (pNilP rfl rfl) ?_
  refine ynil ?_
  refine tnorm ?_
  refine ycondT rfl ?_
  refine yseq ?_
  refine yregion ?_
  refine yp pC ?_
  refine ynil ?_
  refine tnorm ?_
  refine yret ?_
  refine tret ?_
  exact yfin (rB rfl) ⟨_, .of, rfl, rfl⟩

/-- what Add makes of the probation -/
def addL (k : Int) (A B : List Int) : List Int := if k ∈ A ∨ k ∈ B then A else A ++ [k]
theorem c29 {lb : Nat} {most : Int} {u v : Value} {A B : List Int} {H G : List Chunk} (hA : Slc 3 u A H) (hB : Slc 3 v B G) (ha : A.length < 2 ^ 40 - 1) (hb : B.length < 2 ^ 40) (k : Int) :
    Tri Try.prog 29 #[.pointer (some ⟨lb, 0, none⟩), .int .i64 k] [lseg lb most u v, H, G] (fun r S => r = .tuple #[] ∧ ∃ u' H', Slc 3 u' (addL k A B) H' ∧ S = [lseg lb most u' v, H', G]) := by
  refine Tri.forget (ycallee Try.fx29 (Nat.le_of_ble_eq_true rfl) ?_)
  unfold Try.x29
  obtain ⟨a, c, rfl⟩ := hA.isSlice
  obtain ⟨a', c', rfl⟩ := hB.isSlice
  refine yseq ?_
  refine yregion ?_
  refine yp (pP rfl) ?_
  refine yp (pNilPn rfl rfl) ?_
  refine yp (pB rfl) ?_
  refine ygT rfl ?_
  refine yop (pP rfl) ?_
  refine ygT rfl ?_
  refine yop (pNilc rfl) ?_
  refine ygT rfl ?_
  refine yop (pFadr rfl) ?_
  refine ygT rfl ?_
  refine (yload1 rfl rfl ?_)
  refine ygT rfl ?_
  refine yop (pI rfl) ?_
  refine ygT rfl ?_
  refine ycall (c47 hA (by omega) k) rfl rfl fun r S' h => ?_
  obtain ⟨rfl, rfl⟩ := h
  refine ygT rfl ?_
  refine yop (pNot rfl) ?_
  refine yp (pPickT rfl rfl) ?_
  refine yp (pB rfl) ?_
  by_cases h1 : k ∈ A
  · rw [decide_eq_true h1]
    refine ygF rfl ?_
    refine ygF rfl ?_
    refine ygF rfl ?_
    refine ygF rfl ?_
    refine ygF rfl ?_
    refine ygF rfl ?_
    refine ygF rfl ?_
    refine yp (pPickF rfl rfl) ?_
    refine ynil ?_
    refine tnorm ?_
    refine ycondF rfl ?_
    refine yskip ?_
    exact yfinN res0 ⟨_, .of, rfl, _, _, by rw [addL, if_pos (.inl h1)]; exact hA, rfl⟩
  rw [decide_eq_false h1]
  refine ygT rfl ?_
  refine yop (pP rfl) ?_
  refine ygT rfl ?_
  refine yop (pNilc rfl) ?_
  refine ygT rfl ?_
  refine yop (pFadr rfl) ?_
  refine ygT rfl ?_
  refine (yload1 rfl rfl ?_)
  refine ygT rfl ?_
  refine yop (pI rfl) ?_
  refine ygT rfl ?_
  refine ycall (c47 hB (by omega) k) rfl rfl fun r S' h => ?_
  obtain ⟨rfl, rfl⟩ := h
  refine ygT rfl ?_
  refine yop (pNot rfl) ?_
  refine yp (pPickT rfl rfl) ?_
  refine ynil ?_
  refine tnorm ?_
  by_cases h2 : k ∈ B
  · rw [decide_eq_true h2]
    refine ycondF rfl ?_
    refine yskip ?_
    exact yfinN res0 ⟨_, .of, rfl, _, _, by rw [addL, if_pos (.inr h2)]; exact hA, rfl⟩
  rw [decide_eq_false h2]
  refine ycondT rfl ?_
  refine yregion ?_
  refine yp (pP rfl) ?_
  refine yp (pP rfl) ?_
  refine yp (pNilc rfl) ?_
  refine yp (pFadr rfl) ?_
  refine ycons (yload1 rfl rfl ?_)
  refine yp (pI rfl) ?_
  refine ycons (ybsl1 k rfl rfl (by decide) (by decide) rfl fun p30 => ?_)
  refine ycons (yapp (Y := [k]) rfl rfl hA (.lit (by repeat (first | exact List.mem_cons_self | apply List.mem_cons_of_mem)) rfl) rfl 0 rfl (by simp; omega) (by simp; omega) fun v2 H2 hL2 => ?_)
  obtain ⟨a2, c2, rfl⟩ := hL2.isSlice
  refine yp (pNilc rfl) ?_
  refine yp (pFadr rfl) ?_
  refine ycons (yst3_1 rfl rfl (scS rfl) ?_)
  refine ynil ?_
  exact yfinN res0 ⟨_, .of, rfl, _, _, by rw [addL, if_neg (by simp [h1, h2])]; exact hL2, rfl⟩
theorem c29n (k : Int) : Tri Try.prog 29 #[.pointer none, .int .i64 k] [] (fun r S => r = .tuple #[] ∧ S = []) := by
  refine Tri.forget (ycallee Try.fx29 (Nat.le_of_ble_eq_true rfl) ?_)
  unfold Try.x29
  refine yseq ?_
  refine yregion ?_
  refine yp (pP rfl) ?_
  refine yp (pNilPn rfl rfl) ?_
  refine yp (pB rfl) ?_
  refine ygF rfl ?_
  refine ygF rfl ?_
  refine ygF rfl ?_
  refine ygF rfl ?_
  refine ygF rfl ?_
  refine ygF rfl ?_
  refine ygF rfl ?_
  refine yp (pPickF rfl rfl) ?_
  refine yp (pB rfl) ?_
  refine ygF rfl ?_
  refine ygF rfl ?_
  refine ygF rfl ?_
  refine ygF rfl ?_
  refine ygF rfl ?_
  refine ygF rfl ?_
  refine ygF rfl ?_
  refine yp (pPickF rfl rfl) ?_
  refine ynil ?_
  refine tnorm ?_
  refine ycondF rfl ?_
  refine yskip ?_
  exact yfinN res0 ⟨_, .of, rfl, rfl⟩

/-- what Touch makes of both -/
def tchA (most k : Int) (A B : List Int) : List Int := if k ∈ A ∨ k ∈ B then (if most < ((B.erase k ++ [k]).length : Int) then A.erase k ++ (B.erase k ++ [k]).take 1 else A.erase k) else A
def tchB (most k : Int) (A B : List Int) : List Int := if k ∈ A ∨ k ∈ B then (if most < ((B.erase k ++ [k]).length : Int) then (B.erase k ++ [k]).eraseIdx 0 else B.erase k ++ [k]) else B
theorem c31 {lb : Nat} {most : Int} {u v : Value} {A B : List Int} {H G : List Chunk} (hA : Slc 3 u A H) (hB : Slc 3 v B G) (ha : A.length < 2 ^ 40 - 1) (hb : B.length < 2 ^ 40 - 1) (k : Int) :
    Tri Try.prog 31 #[.pointer (some ⟨lb, 0, none⟩), .int .i64 k] [lseg lb most u v, H, G] (fun r S => r = .bool (decide (k ∈ A ∨ k ∈ B)) ∧ ∃ u' H' v' G', Slc 3 u' (tchA most k A B) H' ∧ Slc 3 v' (tchB most k A B) G' ∧ S = [lseg lb most u' v', H', G']) := by
  refine Tri.forget (ycallee Try.fx31 (Nat.le_of_ble_eq_true rfl) ?_)
  unfold Try.x31
  refine yseq ?_
  refine yregion ?_
  refine yp pC ?_
  refine ynil ?_
  refine tnorm ?_
  refine yseq ?_
  refine yseq ?_
  refine yregion ?_
  refine yp (pP rfl) ?_
  refine yp (pI rfl) ?_
  refine ycons (ycall (c33 (lb := lb) (most := most) hA hB (by omega) (by omega) k) rfl rfl fun r S' h => ?_)
  obtain ⟨rfl, u1, H1, v1, G1, hA1, hB1, rfl⟩ := h
  unfold tchA tchB
  by_cases hk : k ∈ A ∨ k ∈ B
  · rw [show (decide (k ∈ A) || decide (k ∈ B)) = true from by rw [← Bool.decide_or]; exact decide_eq_true hk, decide_eq_true hk]
    rw [if_pos hk, if_pos hk]
    have hle : (B.erase k).length ≤ B.length := List.length_erase_le
    have hla : (A.erase k).length ≤ A.length := List.length_erase_le
    obtain ⟨a, c, rfl⟩ := hB1.isSlice
    refine yp (pNot rfl) ?_
    refine ynil ?_
    refine tnorm ?_
    refine ycondF rfl ?_
    refine yskip ?_
    refine tnorm ?_
    refine yseq ?_
    refine yregion ?_
    refine yp (pP rfl) ?_
    refine yp (pP rfl) ?_
    refine yp (pNilc rfl) ?_
    refine yp (pFadr rfl) ?_
    refine ycons (yload1 rfl rfl ?_)
    refine yp (pI rfl) ?_
    refine ycons (ybsl1 k rfl rfl (by decide) (by decide) rfl fun p15 => ?_)
    refine ycons (yapp (Y := [k]) rfl rfl hB1 (.lit (by repeat (first | exact List.mem_cons_self | apply List.mem_cons_of_mem)) rfl) rfl 0 rfl (by simp; omega) (by simp; omega) fun v2 G2 hB2 => ?_)
    generalize hBB : B.erase k ++ [k] = BB at hB2
    have hlen : BB.length = (B.erase k).length + 1 := by rw [← hBB]; simp
    obtain ⟨a2, c2, rfl⟩ := hB2.isSlice
    obtain ⟨a1, c1, rfl⟩ := hA1.isSlice
    refine yp (pNilc rfl) ?_
    refine yp (pFadr rfl) ?_
    refine ycons (yst3_2 rfl rfl (scS rfl) ?_)
    refine ynil ?_
    refine tnorm ?_
    refine yseq ?_
    refine yseq ?_
    refine ydraw ?_
    refine ytq (pP rfl) ?_
    refine ytq (pNilc rfl) ?_
    refine ytq (pFadr rfl) ?_
    refine ytl1 rfl rfl ?_
    refine ytq (pLen rfl) ?_
    refine ytq (pP rfl) ?_
    refine ytq (pNilc rfl) ?_
    refine ytq (pFadr rfl) ?_
    refine ytl1 rfl rfl ?_
    refine ytq (pGt rfl rfl) ?_
    refine ytdone ?_
    refine tnorm ?_
    by_cases hm : most < (BB.length : Int)
    · rw [decide_eq_true hm, if_pos hm, if_pos hm]
      have h0 : 0 < BB.length := by omega
      obtain ⟨b2, sp2, fz2, hz2, rfl, _, rfl, rfl⟩ := hB2.at' (by intro h; simp [h] at h0)
      refine ycondT rfl ?_
      refine yseq ?_
      refine ydraw ?_
      refine ytq (pP rfl) ?_
      refine ytq (pP rfl) ?_
      refine ytq (pNilc rfl) ?_
      refine ytq (pFadr rfl) ?_
      refine ytl1 rfl rfl ?_
      refine ytq (pP rfl) ?_
      refine ytq (pNilc rfl) ?_
      refine ytq (pFadr rfl) ?_
      refine ytl1 rfl rfl ?_
      refine ytq (pIxN rfl rfl (by omega)) ?_
      refine ytl1 (v := .int .i64 BB[0]) rfl ((row_cell (i := 0) (kk := 1) (j := 0) h0 rfl (by omega)).trans rfl) ?_
      refine ytaltC (ybsl1 BB[0] rfl rfl (by decide) (by decide) rfl fun p40 => ⟨by simp, ?_⟩) ytno
      refine ytalt (yapp (Y := [BB[0]]) rfl rfl hA1 (.lit (by repeat (first | exact List.mem_cons_self | apply List.mem_cons_of_mem)) rfl) rfl 0 rfl (by simp; omega) (by simp; omega) fun v3 H3 hA3 => ?_) ytno
      obtain ⟨a3, c3, rfl⟩ := hA3.isSlice
      refine ytq (pNilc rfl) ?_
      refine ytq (pFadr rfl) ?_
      refine ytalt (yst3_1 rfl rfl (scS rfl) ?_) ytno
      refine ytdone ?_
      refine tnorm ?_
      refine yregion ?_
      refine yp (pP rfl) ?_
      refine yp (pP rfl) ?_
      refine yp (pNilc rfl) ?_
      refine yp (pFadr rfl) ?_
      refine ycons (yload1 rfl rfl ?_)
      have hc : Tri Try.prog 49 #[.slice (some ⟨b2, 0, none⟩) BB.length (BB.length + sp2.length), .int .i64 0, .int .i64 1] _ _ := c49 hB2 (by omega) (i := 0) (j := 1) h0 rfl
      refine ycons (ycall hc rfl rfl fun r S' h => ?_)
      obtain ⟨G4, hB4, rfl⟩ := h
      obtain ⟨a4, c4, rfl⟩ := hB4.isSlice
      refine yp (pNilc rfl) ?_
      refine yp (pFadr rfl) ?_
      refine ycons (yst3_2 rfl rfl (scS rfl) ?_)
      refine ynil ?_
      refine tnorm ?_
      refine yseq ?_
      refine yregion ?_
      refine yp pC ?_
      refine ynil ?_
      refine tnorm ?_
      refine yret ?_
      have e1 : BB.take 1 = [BB[0]] := by
        cases BB with
        | nil => simp at h0
        | cons x l => rfl
      rw [e1]
      exact yfin (rB rfl) ⟨_, .of, rfl, _, _, _, _, hA3, hB4, rfl⟩
    · rw [decide_eq_false hm, if_neg hm, if_neg hm]
      refine ycondF rfl ?_
      refine yskip ?_
      refine tnorm ?_
      refine yseq ?_
      refine yregion ?_
      refine yp pC ?_
      refine ynil ?_
      refine tnorm ?_
      refine yret ?_
      exact yfin (rB rfl) ⟨_, .of, rfl, _, _, _, _, hA1, hB2, rfl⟩
  · rw [show (decide (k ∈ A) || decide (k ∈ B)) = false from by rw [← Bool.decide_or]; exact decide_eq_false hk, decide_eq_false hk]
    rw [if_neg hk, if_neg hk]
    rw [List.erase_of_not_mem (fun h => hk (.inl h))] at hA1
    rw [List.erase_of_not_mem (fun h => hk (.inr h))] at hB1
    refine yp (pNot rfl) ?_
    refine ynil ?_
    refine tnorm ?_
    refine ycondT rfl ?_
    refine yseq ?_
    refine yregion ?_
    refine yp pC ?_
    refine ynil ?_
    refine tnorm ?_
    refine yret ?_
    refine tret ?_
    exact yfin (rB rfl) ⟨_, .of, rfl, _, _, _, _, hA1, hB1, rfl⟩
theorem c31n (k : Int) : Tri Try.prog 31 #[.pointer none, .int .i64 k] [] (fun r S => r = .bool false ∧ S = []) := by
  refine Tri.forget (ycallee Try.fx31 (Nat.le_of_ble_eq_true rfl) ?_)
  unfold Try.x31
  refine yseq ?_
  refine yregion ?_
  refine yp pC ?_
  refine ynil ?_
  refine tnorm ?_
  refine yseq ?_
  refine yseq ?_
  refine yregion ?_
  refine yp (pP rfl) ?_
  refine yp (pI rfl) ?_
  refine ycons (ycall (c33n k) rfl rfl fun r S' h => ?_)
  obtain ⟨rfl, rfl⟩ := h
  refine yp (pNot rfl) ?_
  refine ynil ?_
  refine tnorm ?_
  refine ycondT rfl ?_
  refine yseq ?_
  refine yregion ?_
  refine yp pC ?_
  refine ynil ?_
  refine tnorm ?_
  refine yret ?_
  refine tret ?_
  exact yfin (rB rfl) ⟨_, .of, rfl, rfl⟩
end Go.Proofs.Ytmgiamagocefcaa
