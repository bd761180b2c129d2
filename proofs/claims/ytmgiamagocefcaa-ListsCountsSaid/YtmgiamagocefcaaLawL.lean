/- The lists' laws: what they share. -/
import Derived.Test.YtmgiamagocefcaaOrder
import Derived.Test.YtmgiamagocefcaaAlike
namespace Go.Proofs.Ytmgiamagocefcaa
open Go.Xs
open Enc (enc)

theorem pNePair {E : Env} {x y : Operand} {a b : Int × Int} (h1 : ev E x = .agg (enc a).toArray) (h2 : ev E y = .agg (enc b).toArray) : pstep (ev E) (.eqs true [(0, 0), (1, 0)] x y) = some (.bool (!decide (a = b))) := by
  obtain ⟨a1, a2⟩ := a
  obtain ⟨b1, b2⟩ := b
  simp only [pstep, h1, h2]
  have : xeqs (enc (a1, a2)).toArray (enc (b1, b2)).toArray [(0, 0), (1, 0)] = some (decide (a1 = b1) && (decide (a2 = b2) && true)) := rfl
  rw [this]
  simp [Prod.ext_iff]

theorem c43 {S : Segs} {u v : Value} {A B : List (Int × Int)} (hA : Src S u A) (hB : Src S v B) (hl : A.length < 2 ^ 60) : Tri Try.prog 43 #[u, v] S (fun r S' => r = .bool (decide (A = B)) ∧ S' = S) := by
  refine Tri.forget (ycallee Try.fx43 (Nat.le_of_ble_eq_true rfl) ?_)
  unfold Try.x43
  obtain ⟨a, c, rfl⟩ := hA.isSlice
  obtain ⟨a', c', rfl⟩ := hB.isSlice
  refine yseq ?_
  refine yregion ?_
  refine yp pC ?_
  refine ynil ?_
  refine tnorm ?_
  refine yseq ?_
  refine yseq ?_
  refine yregion ?_
  refine yp (pS rfl) ?_
  refine yp (pLen rfl) ?_
  refine yp (pS rfl) ?_
  refine yp (pLen rfl) ?_
  refine yp (pNe rfl rfl) ?_
  refine ynil ?_
  refine tnorm ?_
  refine ycondN rfl (fun h => ?_) (fun h => ?_)
  · refine yseq ?_
    refine yregion ?_
    refine yp pC ?_
    refine ynil ?_
    refine tnorm ?_
    refine yret ?_
    refine tret ?_
    refine yfin (rB rfl) ⟨_, .self, ?_, rfl⟩
    rw [decide_eq_false]
    intro e; subst e; exact h rfl
  have hlen : A.length = B.length := by omega
  refine yskip ?_
  refine tnorm ?_
  refine yseq ?_
  refine yseq ?_
  refine yregion ?_
  refine yp pC ?_
  refine ynil ?_
  refine tnorm ?_
  refine yblock ?_
  refine yloop (σ := Nat) (fun i E S' => Has E [(0, .slice a A.length c), (1, .slice a' B.length c'), (5, .int .i64 i)] ∧ i ≤ A.length ∧ A.take i = B.take i ∧ S' = S) (fun i => A.length - i) 0 ⟨⟨rfl, rfl, rfl, trivial⟩, Nat.zero_le _, by simp, rfl⟩ fun i E S' ⟨hE, hi, he, hS⟩ => ?_
  subst hS
  obtain ⟨E0, e0⟩ := has_puts hE; subst e0; clear hE
  refine yseq ?_
  refine yseq ?_
  refine yregion ?_
  refine yp (pI rfl) ?_
  refine yp (pS rfl) ?_
  refine yp (pLen rfl) ?_
  refine yp (pLt rfl rfl) ?_
  refine ynil ?_
  refine tnorm ?_
  refine ycondD rfl (fun h => ?_) (fun h => ?_)
  · have hlt : i < A.length := by omega
    have hlt' : i < B.length := by omega
    obtain ⟨b, o, ca, ty, fz, rfl, hm, hmem, _, hg⟩ := hA.get (by intro h; simp [h] at hlt)
    obtain ⟨b', o', ca', ty', fz', rfl, hm', hmem', _, hg'⟩ := hB.get (by intro h; simp [h] at hlt')
    obtain ⟨f, hAt⟩ := At.of_mem hmem
    obtain ⟨f', hAt'⟩ := At.of_mem hmem'
    refine yskip ?_
    refine tnorm ?_
    refine yseq ?_
    refine yblock ?_
    refine yseq ?_
    refine ydraw ?_
    refine ytq (pS rfl) ?_
    refine ytq (pI rfl) ?_
    refine ytq (pIxN rfl rfl (by omega)) ?_
    refine ytlN (hA := hAt) (l := enc A[i]) rfl (hg i hlt) rfl ?_
    refine ytq (pS rfl) ?_
    refine ytq (pI rfl) ?_
    refine ytq (pIxN rfl rfl (by omega)) ?_
    refine ytlN (hA := hAt') (l := enc B[i]) rfl (hg' i hlt') rfl ?_
    refine ytq (pNePair rfl rfl) ?_
    refine ytdone ?_
    refine tnorm ?_
    by_cases h2 : A[i] = B[i]
    · rw [decide_eq_true h2]
      refine ycondF rfl ?_
      refine yskip ?_
      refine bnorm ?_
      refine tnorm ?_
      refine yregion ?_
      refine yp (pI rfl) ?_
      refine yp (pInc rfl rfl (by omega)) ?_
      refine yp (pI rfl) ?_
      refine ynil ?_
      refine tnorm ?_
      refine ⟨i + 1, ⟨⟨rfl, rfl, rfl, trivial⟩, by omega, ?_, rfl⟩, by omega⟩
      rw [List.take_add_one, List.take_add_one, he, List.getElem?_eq_getElem hlt, List.getElem?_eq_getElem hlt', h2]
    · rw [decide_eq_false h2]
      refine ycondT rfl ?_
      refine yseq ?_
      refine yregion ?_
      refine yp pC ?_
      refine ynil ?_
      refine tnorm ?_
      refine yret ?_
      refine bret ?_
      refine tret ?_
      refine tret ?_
      refine bret ?_
      refine tret ?_
      refine yfin (rB rfl) ⟨_, .self, ?_, rfl⟩
      rw [decide_eq_false]
      intro e; subst e; exact h2 rfl
  · refine yexit ?_
    refine texit ?_
    refine texit ?_
    refine bexit ?_
    refine tnorm ?_
    refine yseq ?_
    refine yregion ?_
    refine yp pC ?_
    refine ynil ?_
    refine tnorm ?_
    refine yret ?_
    refine yfin (rB rfl) ⟨_, .self, ?_, rfl⟩
    rw [List.take_of_length_le (by omega), List.take_of_length_le (by omega)] at he
    rw [decide_eq_true he]

/-- the first so many; below 1: all -/
def firstP (m : Int) (L : List (Int × Int)) : List (Int × Int) := if 0 < m then L.take m.toNat else L
def unpv (x : Array Value) : Int × Int := match x.toList with | .int _ a :: .int _ b :: _ => (a, b) | _ => (0, 0)
theorem unpv_pv (e : Int × Int) : unpv (pv e) = e := rfl
theorem map_unpv_pv (L : List (Int × Int)) : (L.map pv).map unpv = L := by
  rw [List.map_map, show unpv ∘ pv = id from rfl, List.map_id]

theorem upto_length (at_ : Int) (L : List (Int × Int)) : (upto at_ L).length ≤ L.length := by
  have h1 : (isort byAt L).length = L.length := (isort_perm (key := byAt) L).length_eq
  rw [← h1]; exact List.length_filter_le _ _

theorem c44 {db : Nat} {v : Value} {L : List (Int × Int)} {H : List Chunk} (hL : Slc 93 v L H) (hlen : L.length < 2 ^ 38) (at_ m : Int) :
    Tri Try.prog 44 #[.pointer (some ⟨db, 0, none⟩), .int .i64 at_, .int .i64 m] [dseg db v, H] (fun r S => ∃ Ho, Slc 42 r (firstP m (upto at_ L)) Ho ∧ S = [Ho, dseg db v, H]) := by
  refine Tri.forget (ycallee Try.fx44 (Nat.le_of_ble_eq_true rfl) ?_)
  unfold Try.x44
  refine yseq ?_
  refine yregion ?_
  refine ycons (ybx (scI rfl) fun p5 => ?_)
  refine yp pC ?_
  refine ynil ?_
  refine tnorm ?_
  refine yseq ?_
  refine yregion ?_
  refine ycons (yalloc fun p7 => ?_)
  refine ynil ?_
  refine tnorm ?_
  refine yseq ?_
  refine yregion ?_
  refine yp (pP rfl) ?_
  refine yp (pI rfl) ?_
  refine ycons (ycall c45 rfl rfl fun r S' h => ?_)
  obtain ⟨bd, ba, rfl, rfl⟩ := h
  have hul := upto_length at_ L
  refine yp (pF rfl) ?_
  refine ynil ?_
  refine tnorm ?_
  refine yseq ?_
  refine yseq ?_
  refine yregion ?_
  refine yp (pF rfl) ?_
  refine yp (v := .bool false) rfl ?_
  refine ynil ?_
  refine tnorm ?_
  refine ycondF rfl ?_
  refine yskip ?_
  refine tnorm ?_
  refine yseq ?_
  refine yseq ?_
  refine yregion ?_
  refine yp (pF rfl) ?_
  refine ynil ?_
  refine tnorm ?_
  refine yblock ?_
  refine yrange (fun pre T => pre <+: (upto at_ L).map pv ∧ (0 < m → (pre.length : Int) < m) ∧ ∃ vo Ho, Slc 42 vo (pre.map unpv) Ho ∧ Junk T [dseg db v, H, [(p5, .cells #[.int .i64 m] 3)], [(p7, .cells #[vo] 27)], Ho])
    (fun e pre T => e = .exit 0 ∧ ∃ vo Ho, Slc 42 vo (firstP m (upto at_ L)) Ho ∧ Junk T [dseg db v, H, [(p5, .cells #[.int .i64 m] 3)], [(p7, .cells #[vo] 27)], Ho])
    rfl rfl (it55 (db := db) (S0 := [[(p5, .cells #[.int .i64 m] 3)], [(p7, .cells #[.slice none 0 0] 27)]]) hL hlen at_) ⟨List.nil_prefix, fun h => h, _, [], .nil, .of⟩ ?_ ?_ ?_ ?_
  · intro pre x hx
    have : x ∈ (upto at_ L).map pv := hx.subset (by simp)
    obtain ⟨e, _, rfl⟩ := List.mem_map.1 this
    rfl
  · rintro l pre x T hx ⟨_, hmm, vo, Ho, hLo, hJ⟩
    have : x ∈ (upto at_ L).map pv := hx.subset (by simp)
    obtain ⟨e, _, rfl⟩ := List.mem_map.1 this
    have hpl := hx.length_le
    simp only [List.length_append, List.length_map, List.length_singleton] at hpl
    refine yforget hJ ?_
    obtain ⟨a, c, rfl⟩ := hLo.isSlice
    refine yseq ?_
    refine yregion ?_
    refine yp (pI rfl) ?_
    refine ynil ?_
    refine tnorm ?_
    refine yregion ?_
    refine yp (pI rfl) ?_
    refine ynil ?_
    refine tnorm ?_
    refine yblock ?_
    refine yseq ?_
    refine yregion ?_
    refine ycons (yload1 rfl rfl ?_)
    refine yp (pI rfl) ?_
    refine yp (pI rfl) ?_
    refine yp (pBuild2 (scI rfl) (scI rfl)) ?_
    refine ycons (ybsl1 e rfl rfl (by decide) (by decide) rfl fun p23 => ?_)
    refine ycons (yapp (Y := [e]) rfl rfl hLo (.lit (by repeat (first | exact List.mem_cons_self | apply List.mem_cons_of_mem)) rfl) rfl (0, 0) rfl (by simp; omega) (by simp; omega) fun v2 H2 hL2 => ?_)
    obtain ⟨a2, c2, rfl⟩ := hL2.isSlice
    have hlen2 : ((pre.map unpv ++ [e]).length : Int) = pre.length + 1 := by simp
    refine ycons (yst1_0 rfl rfl (scS rfl) ?_)
    refine ynil ?_
    refine tnorm ?_
    refine yseq ?_
    refine yregion ?_
    refine ycons (yload1 rfl rfl ?_)
    refine yp (pLen rfl) ?_
    refine ycons (yload1 rfl rfl ?_)
    refine yp (pEq rfl rfl) ?_
    refine ynil ?_
    refine tnorm ?_
    by_cases hq : (pre.length : Int) + 1 = m
    · rw [decide_eq_true (hlen2.trans hq)]
      refine ycondT rfl ?_
      refine yexit ?_
      refine bexitN rfl ?_
      refine ⟨rfl, .slice a2 (pre.map unpv ++ [e]).length c2, H2, ?_, .of⟩
      have e2 : firstP m (upto at_ L) = pre.map unpv ++ [e] := by
        rw [firstP, if_pos (by omega)]
        have h1 := List.prefix_iff_eq_take.1 (hx.map unpv)
        rw [map_unpv_pv, List.map_append] at h1
        rw [show List.map unpv [pv e] = [e] from rfl] at h1
        rw [show m.toNat = (List.map unpv pre ++ [e]).length from by omega]
        exact h1.symm
      rw [e2]; exact hL2
    · rw [decide_eq_false (fun h => hq (hlen2.symm.trans h))]
      refine ycondF rfl ?_
      refine yskip ?_
      refine bnorm ?_
      refine ⟨hx, fun h => ?_, .slice a2 (pre.map unpv ++ [e]).length c2, H2, ?_, .of⟩
      · have := hmm h
        simp; omega
      · rw [List.map_append]; exact hL2
  · rintro xs S' hd ⟨_, hmm, vo, Ho, hLo, hJ⟩
    rw [hd, map_unpv_pv] at hLo
    refine bnorm (tnorm ?_)
    refine yforget hJ ?_
    obtain ⟨a, c, rfl⟩ := hLo.isSlice
    refine yseq ?_
    refine yregion ?_
    refine ycons (yload1 rfl rfl ?_)
    refine yp (pS rfl) ?_
    refine ynil ?_
    refine tnorm ?_
    refine yret ?_
    refine yfin (rS rfl) ⟨_, .of, Ho, ?_, rfl⟩
    rw [firstP]
    split
    · next h =>
      have := hmm h
      rw [hd, List.length_map] at this
      rw [List.take_of_length_le (by omega)]; exact hLo
    · exact hLo
  · rintro e pre S' _ ⟨rfl, vo, Ho, hLo, hJ⟩
    refine yforget hJ ?_
    obtain ⟨a, c, rfl⟩ := hLo.isSlice
    refine yseq ?_
    refine yregion ?_
    refine ycons (yload1 rfl rfl ?_)
    refine yp (pS rfl) ?_
    refine ynil ?_
    refine tnorm ?_
    refine yret ?_
    exact yfin (rS rfl) ⟨_, .of, _, hLo, rfl⟩

theorem c27 : Tri Try.prog 27 #[] [] (fun r S => r = .bool true ∧ S = []) := by
  refine Tri.forget (ycallee Try.fx27 (Nat.le_of_ble_eq_true rfl) ?_)
  unfold Try.x27
  refine yseq ?_
  refine yregion ?_
  refine yp pC ?_
  refine ynil ?_
  refine tnorm ?_
  refine yseq ?_
  refine yregion ?_
  refine ycons (ycall (c28 1) rfl rfl fun r S' h => ?_)
  obtain ⟨lb, rfl, rfl⟩ := h
  rw [show max (1 : Int) 0 = 1 from by decide]
  refine yp (pP rfl) ?_
  refine ynil ?_
  refine tnorm ?_
  refine yseq ?_
  refine yregion ?_
  refine ycons (ycall c38 rfl rfl fun r S' h => ?_)
  obtain ⟨db, rfl, rfl⟩ := h
  refine yp (pP rfl) ?_
  refine ynil ?_
  refine tnorm ?_
  refine yseq ?_
  refine yseq ?_
  refine yregion ?_
  refine yp (pP rfl) ?_
  refine yp (pNilP rfl rfl) ?_
  refine yp (pB rfl) ?_
  refine ygT rfl ?_
  refine yop (pP rfl) ?_
  refine ygT rfl ?_
  refine yop (pNilP rfl rfl) ?_
  refine yp (pPickF rfl rfl) ?_
  refine ynil ?_
  refine tnorm ?_
  refine ycondF rfl ?_
  refine yskip ?_
  refine tnorm ?_
  refine yseq ?_
  refine yregion ?_
  refine yp (pP rfl) ?_
  refine ycons (ycall (c29 (lb := lb) (most := 1) (A := []) (B := []) .nil .nil (by decide) (by decide) 1) rfl rfl fun r S' h => ?_)
  obtain ⟨rfl, u1, H1, hA1, rfl⟩ := h
  rw [show addL 1 [] [] = [1] from by decide] at hA1
  refine ynil ?_
  refine tnorm ?_
  refine yseq ?_
  refine yregion ?_
  refine yp (pP rfl) ?_
  refine ycons (ycall (c29 (lb := lb) (most := 1) (B := []) hA1 .nil (by decide) (by decide) 2) rfl rfl fun r S' h => ?_)
  obtain ⟨rfl, u2, H2, hA2, rfl⟩ := h
  rw [show addL 2 [1] [] = [1, 2] from by decide] at hA2
  refine ynil ?_
  refine tnorm ?_
  refine yseq ?_
  refine yregion ?_
  refine yp (pP rfl) ?_
  refine ycons (ycall (c31 (lb := lb) (most := 1) (B := []) hA2 .nil (by decide) (by decide) 1) rfl rfl fun r S' h => ?_)
  obtain ⟨rfl, u3, H3, v3, G3, hA3, hB3, rfl⟩ := h
  rw [show tchA 1 1 [1, 2] [] = [2] from by decide] at hA3
  rw [show tchB 1 1 [1, 2] [] = [1] from by decide] at hB3
  rw [show decide ((1 : Int) ∈ [1, 2] ∨ (1 : Int) ∈ []) = true from by decide]
  refine yp (pB rfl) ?_
  refine ynil ?_
  refine tnorm ?_
  refine yseq ?_
  refine yregion ?_
  refine yp (pP rfl) ?_
  refine ycons (ycall (c35 (lb := lb) (most := 1) hA3 hB3) rfl rfl fun r S' h => ?_)
  obtain ⟨rfl, rfl⟩ := h
  refine yp (pU rfl) ?_
  refine yp (pExt rfl rfl) ?_
  refine yp (pExt rfl rfl) ?_
  refine yp (pI rfl) ?_
  refine yp (pI rfl) ?_
  refine ynil ?_
  refine tnorm ?_
  refine yseq ?_
  refine yregion ?_
  refine yp (pP rfl) ?_
  refine ycons (ycall (c39 (db := db) (L := []) .nil (by decide) 5 9) rfl rfl fun r S' h => ?_)
  obtain ⟨rfl, w1, D1, hD1, rfl⟩ := h
  rw [show dropK 5 [] ++ [(5, 9)] = [(5, 9)] from by decide] at hD1
  refine ynil ?_
  refine tnorm ?_
  refine yseq ?_
  refine yregion ?_
  refine yp (pP rfl) ?_
  refine ycons (ycall (c39 (db := db) hD1 (by decide) 6 3) rfl rfl fun r S' h => ?_)
  obtain ⟨rfl, w2, D2, hD2, rfl⟩ := h
  rw [show dropK 6 [(5, 9)] ++ [(6, 3)] = [(5, 9), (6, 3)] from by decide] at hD2
  refine ynil ?_
  refine tnorm ?_
  refine yseq ?_
  refine yregion ?_
  refine yp (pP rfl) ?_
  refine ycons (ycall (c41 (db := db) hD2 (by decide) 5) rfl rfl fun r S' h => ?_)
  obtain ⟨rfl, rfl⟩ := h
  rw [show (atK 5 [(5, 9), (6, 3)]).getD 0 = 9 from by decide, show hasK 5 [(5, 9), (6, 3)] = true from by decide]
  refine yp (pU rfl) ?_
  refine yp (pExt rfl rfl) ?_
  refine yp (pExt rfl rfl) ?_
  refine yp (pI rfl) ?_
  refine yp (pB rfl) ?_
  refine ynil ?_
  refine tnorm ?_
  refine yseq ?_
  refine yregion ?_
  refine yp pC ?_
  refine ynil ?_
  refine tnorm ?_
  refine yseq ?_
  refine yregion ?_
  refine yp pC ?_
  refine ynil ?_
  refine tnorm ?_
  refine yseq ?_
  refine yregion ?_
  refine yp (pP rfl) ?_
  refine ycons (ycall (c29n 1) rfl rfl fun r S' h => ?_)
  obtain ⟨rfl, rfl⟩ := h
  refine ynil ?_
  refine tnorm ?_
  refine yseq ?_
  refine yregion ?_
  refine yp (pP rfl) ?_
  refine ycons (ycall (c39n 1 1) rfl rfl fun r S' h => ?_)
  obtain ⟨rfl, rfl⟩ := h
  refine ynil ?_
  refine tnorm ?_
  refine yseq ?_
  refine yregion ?_
  refine yp (pB rfl) ?_
  refine yp (pB rfl) ?_
  refine ygT rfl ?_
  refine yop (pI rfl) ?_
  refine ygT rfl ?_
  refine yop (pEq rfl rfl) ?_
  refine yp (pPickT rfl rfl) ?_
  refine yp (pB rfl) ?_
  refine ygT rfl ?_
  refine yop (pI rfl) ?_
  refine ygT rfl ?_
  refine yop (pEq rfl rfl) ?_
  refine yp (pPickT rfl rfl) ?_
  refine yp (pB rfl) ?_
  refine ygT rfl ?_
  refine yop (pP rfl) ?_
  refine ygT rfl ?_
  refine ycall (c36 (lb := lb) (most := 1) hA3 hB3 (by decide) (by decide) (-1)) rfl rfl fun r S' h => ?_
  obtain ⟨Ho, hLo, rfl⟩ := h
  rw [show firstL (-1) ([2] ++ [1]) = [2, 1] from by decide] at hLo
  obtain ⟨ao, co, rfl⟩ := hLo.isSlice
  refine ygT rfl ?_
  refine ybsl (l := cells [(2 : Int), 1]) rfl (by decide) (by decide) (by decide) rfl fun p54 => ?_
  refine ygT rfl ?_
  refine ycall (c22 (S := [Ho, [(p54, .cells (cells [(2 : Int), 1]).toArray 3)]]) (hLo.src (by simp)) (Src.lit (b := p54) (e := 3) (Y := [(2 : Int), 1]) (by repeat (first | exact List.mem_cons_self | apply List.mem_cons_of_mem)) rfl) (by decide)) rfl rfl fun r S' h => ?_
  obtain ⟨rfl, rfl⟩ := h
  rw [show decide (([2, 1] : List Int) = [2, 1]) = true from by decide]
  refine yp (pPickT rfl rfl) ?_
  refine yp (pB rfl) ?_
  refine ygT rfl ?_
  refine yop (pP rfl) ?_
  refine ygT rfl ?_
  refine ycall (c31 (lb := lb) (most := 1) hA3 hB3 (by decide) (by decide) 9) rfl rfl fun r S' h => ?_
  obtain ⟨rfl, u4, H4, v4, G4, hA4, hB4, rfl⟩ := h
  rw [show tchA 1 9 [2] [1] = [2] from by decide] at hA4
  rw [show tchB 1 9 [2] [1] = [1] from by decide] at hB4
  rw [show decide ((9 : Int) ∈ [2] ∨ (9 : Int) ∈ [1]) = false from by decide]
  refine ygT rfl ?_
  refine yop (pNot rfl) ?_
  refine yp (pPickT rfl rfl) ?_
  refine yp (pB rfl) ?_
  refine ygT rfl ?_
  refine yop (pP rfl) ?_
  refine ygT rfl ?_
  refine ycall (c33 (lb := lb) (most := 1) hA4 hB4 (by decide) (by decide) 2) rfl rfl fun r S' h => ?_
  obtain ⟨rfl, u5, H5, v5, G5, hA5, hB5, rfl⟩ := h
  rw [show List.erase [2] (2 : Int) = [] from by decide] at hA5
  rw [show List.erase [1] (2 : Int) = [1] from by decide] at hB5
  rw [show (decide ((2 : Int) ∈ [2]) || decide ((2 : Int) ∈ [1])) = true from by decide]
  refine yp (pPickT rfl rfl) ?_
  refine yp (pB rfl) ?_
  refine ygT rfl ?_
  refine yop (pP rfl) ?_
  refine ygT rfl ?_
  refine ycall (c33 (lb := lb) (most := 1) hA5 hB5 (by decide) (by decide) 2) rfl rfl fun r S' h => ?_
  obtain ⟨rfl, u6, H6, v6, G6, hA6, hB6, rfl⟩ := h
  rw [show (decide ((2 : Int) ∈ []) || decide ((2 : Int) ∈ [1])) = false from by decide]
  refine ygT rfl ?_
  refine yop (pNot rfl) ?_
  refine yp (pPickT rfl rfl) ?_
  refine yp (pB rfl) ?_
  refine ygT rfl ?_
  refine yop (pI rfl) ?_
  refine ygT rfl ?_
  refine yop (pEq rfl rfl) ?_
  refine yp (pPickT rfl rfl) ?_
  refine yp (pB rfl) ?_
  refine ygT rfl ?_
  refine yop (pB rfl) ?_
  refine yp (pPickT rfl rfl) ?_
  refine yp (pB rfl) ?_
  refine ygT rfl ?_
  refine yop (pP rfl) ?_
  refine ygT rfl ?_
  refine ycall (c42 (db := db) hD2) rfl rfl fun r S' h => ?_
  obtain ⟨rfl, rfl⟩ := h
  refine ygT rfl ?_
  refine yop (pEq rfl rfl) ?_
  refine yp (pPickT rfl rfl) ?_
  refine yp (pB rfl) ?_
  refine ygT rfl ?_
  refine yop (pP rfl) ?_
  refine ygT rfl ?_
  refine ycall (c44 (db := db) hD2 (by decide) 9 (-1)) rfl rfl fun r S' h => ?_
  obtain ⟨Hp, hLp, rfl⟩ := h
  rw [show firstP (-1) (upto 9 [(5, 9), (6, 3)]) = [(6, 3), (5, 9)] from by decide] at hLp
  obtain ⟨ap, cp, rfl⟩ := hLp.isSlice
  refine ygT rfl ?_
  refine yop (pBuild2 (scI rfl) (scI rfl)) ?_
  refine ygT rfl ?_
  refine yop (pBuild2 (scI rfl) (scI rfl)) ?_
  refine ygT rfl ?_
  refine ybsl (l := cells [((6 : Int), (3 : Int)), (5, 9)]) rfl (by decide) (by decide) (by decide) rfl fun p88 => ?_
  refine ygT rfl ?_
  refine ycall (c43 (S := [Hp, [(p88, .cells (cells [((6 : Int), (3 : Int)), (5, 9)]).toArray 42)]]) (hLp.src (by simp)) (Src.lit (b := p88) (e := 42) (Y := [((6 : Int), (3 : Int)), (5, 9)]) (by repeat (first | exact List.mem_cons_self | apply List.mem_cons_of_mem)) rfl) (by decide)) rfl rfl fun r S' h => ?_
  obtain ⟨rfl, rfl⟩ := h
  rw [show decide (([(6, 3), (5, 9)] : List (Int × Int)) = [(6, 3), (5, 9)]) = true from by decide]
  refine yp (pPickT rfl rfl) ?_
  refine yp (pB rfl) ?_
  refine ygT rfl ?_
  refine yop (pP rfl) ?_
  refine ygT rfl ?_
  refine ycall (c31n 1) rfl rfl fun r S' h => ?_
  obtain ⟨rfl, rfl⟩ := h
  refine ygT rfl ?_
  refine yop (pNot rfl) ?_
  refine yp (pPickT rfl rfl) ?_
  refine yp (pB rfl) ?_
  refine ygT rfl ?_
  refine yop (pP rfl) ?_
  refine ygT rfl ?_
  refine ycall c42n rfl rfl fun r S' h => ?_
  obtain ⟨rfl, rfl⟩ := h
  refine ygT rfl ?_
  refine yop (pEq rfl rfl) ?_
  refine yp (pPickT rfl rfl) ?_
  refine yp (pB rfl) ?_
  refine ynil ?_
  refine tnorm ?_
  refine yret ?_
  exact yfin (rB rfl) ⟨_, .of, rfl, rfl⟩
end Go.Proofs.Ytmgiamagocefcaa
