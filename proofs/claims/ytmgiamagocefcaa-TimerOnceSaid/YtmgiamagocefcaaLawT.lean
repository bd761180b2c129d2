/- The timers' laws: what each computes. -/
import Derived.Test.YtmgiamagocefcaaTimer
import Derived.Test.YtmgiamagocefcaaAlike
namespace Go.Proofs.Ytmgiamagocefcaa
open Go.Xs
open Enc (enc)

theorem c14 : Tri Try.prog 14 #[] [] (fun r S => r = .bool true ∧ S = []) := by
  refine Tri.forget (ycallee Try.fx14 (Nat.le_of_ble_eq_true rfl) ?_)
  unfold Try.x14
  refine yseq ?_
  refine yregion ?_
  refine yp pC ?_
  refine ynil ?_
  refine tnorm ?_
  refine yseq ?_
  refine yregion ?_
  refine ycons (ycall (c15 2) rfl rfl fun r S' h => ?_)
  obtain ⟨tb, db, rfl, rfl⟩ := h
  refine yp (pP rfl) ?_
  refine ynil ?_
  refine tnorm ?_
  refine yseq ?_
  refine yseq ?_
  refine yregion ?_
  refine yp (pP rfl) ?_
  refine yp (pNilP rfl rfl) ?_
  refine ynil ?_
  refine tnorm ?_
  refine ycondF rfl ?_
  refine yskip ?_
  refine tnorm ?_
  refine yseq ?_
  refine yregion ?_
  refine yp (pP rfl) ?_
  refine ycons (ycall (c18 (tb := tb) (db := db) (most := max 2 0) (L := []) .nil (by decide) 1 5) rfl rfl fun r S' h => ?_)
  obtain ⟨rfl, v1, H1, hL1, rfl⟩ := h
  rw [show setK (max 2 0) 1 5 [] = [(1, 5)] from by decide] at hL1
  rw [show setR (max 2 0) 1 [] = 0 from by decide]
  refine yp (pP rfl) ?_
  refine ycons (ycall (c18 (tb := tb) (db := db) (most := max 2 0) hL1 (by decide) 2 3) rfl rfl fun r S' h => ?_)
  obtain ⟨rfl, v2, H2, hL2, rfl⟩ := h
  rw [show setK (max 2 0) 2 3 [(1, 5)] = [(1, 5), (2, 3)] from by decide] at hL2
  rw [show setR (max 2 0) 2 [(1, 5)] = 0 from by decide]
  refine yp (pP rfl) ?_
  refine ycons (ycall (c18 (tb := tb) (db := db) (most := max 2 0) hL2 (by decide) 3 1) rfl rfl fun r S' h => ?_)
  obtain ⟨rfl, v3, H3, hL3, rfl⟩ := h
  rw [show setK (max 2 0) 3 1 [(1, 5), (2, 3)] = [(1, 5), (2, 3)] from by decide] at hL3
  rw [show setR (max 2 0) 3 [(1, 5), (2, 3)] = 4 from by decide]
  refine yp (pP rfl) ?_
  refine ycons (ycall (c18 (tb := tb) (db := db) (most := max 2 0) hL3 (by decide) 1 4) rfl rfl fun r S' h => ?_)
  obtain ⟨rfl, v4, H4, hL4, rfl⟩ := h
  rw [show setK (max 2 0) 1 4 [(1, 5), (2, 3)] = [(2, 3), (1, 4)] from by decide] at hL4
  rw [show setR (max 2 0) 1 [(1, 5), (2, 3)] = 0 from by decide]
  refine yp (pI rfl) ?_
  refine yp (pI rfl) ?_
  refine yp (pI rfl) ?_
  refine yp (pI rfl) ?_
  refine ynil ?_
  refine tnorm ?_
  refine yseq ?_
  refine yregion ?_
  refine yp (pP rfl) ?_
  refine ycons (ycall (c24e (tb := tb) (db := db) (most := max 2 0) hL4 (by decide) (by decide) (R := [(2, 3), (1, 4)]) (by decide)) rfl rfl fun r S' h => ?_)
  obtain ⟨rfl, rfl⟩ := h
  refine yp (pU rfl) ?_
  refine yp (pExt rfl rfl) ?_
  refine yp (pExt rfl rfl) ?_
  refine yp (pI rfl) ?_
  refine yp (pB rfl) ?_
  refine ynil ?_
  refine tnorm ?_
  refine yseq ?_
  refine yregion ?_
  refine yp (pP rfl) ?_
  refine ycons (ycall (c23 (tb := tb) (db := db) (most := max 2 0) hL4 (by decide) 3) rfl rfl fun r S' h => ?_)
  obtain ⟨Ho, v5, H5, hLo, hL5, rfl⟩ := h
  rw [show (upto 3 [(2, 3), (1, 4)]).map (·.1) = [2] from by decide] at hLo hL5
  rw [show dropAll [2] [(2, 3), (1, 4)] = [(1, 4)] from by decide] at hL5
  obtain ⟨ao, co, rfl⟩ := hLo.isSlice
  refine yp (pS rfl) ?_
  refine ynil ?_
  refine tnorm ?_
  refine yseq ?_
  refine yregion ?_
  refine yp (pP rfl) ?_
  refine ycons (ycall (c20 (tb := tb) (db := db) (most := max 2 0) hL5 (by decide) 2) rfl rfl fun r S' h => ?_)
  obtain ⟨rfl, v6, H6, hL6, rfl⟩ := h
  rw [show dropK 2 [(1, 4)] = [(1, 4)] from by decide] at hL6
  rw [show dropR 2 [(1, 4)] = 5 from by decide]
  refine yp (pI rfl) ?_
  refine ynil ?_
  refine tnorm ?_
  refine yseq ?_
  refine yregion ?_
  refine yp pC ?_
  refine ynil ?_
  refine tnorm ?_
  refine yseq ?_
  refine yregion ?_
  refine yp (pI rfl) ?_
  refine yp (pEq rfl rfl) ?_
  refine yp (pB rfl) ?_
  refine ygT rfl ?_
  refine yop (pI rfl) ?_
  refine ygT rfl ?_
  refine yop (pEq rfl rfl) ?_
  refine yp (pPickT rfl rfl) ?_
  refine yp (pB rfl) ?_
  refine ygT rfl ?_
  refine yop (pI rfl) ?_
  refine ygT rfl ?_
  refine yop (pEq rfl rfl) ?_
  refine yp (pPickT rfl rfl) ?_
  refine yp (pB rfl) ?_
  refine ygT rfl ?_
  refine yop (pI rfl) ?_
  refine ygT rfl ?_
  refine yop (pEq rfl rfl) ?_
  refine yp (pPickT rfl rfl) ?_
  refine yp (pB rfl) ?_
  refine ygT rfl ?_
  refine yop (pB rfl) ?_
  refine yp (pPickT rfl rfl) ?_
  refine yp (pB rfl) ?_
  refine ygT rfl ?_
  refine yop (pI rfl) ?_
  refine ygT rfl ?_
  refine yop (pEq rfl rfl) ?_
  refine yp (pPickT rfl rfl) ?_
  refine yp (pB rfl) ?_
  refine ygT rfl ?_
  refine yop (pS rfl) ?_
  refine ygT rfl ?_
  refine ybsl1 (2 : Int) rfl rfl (by decide) (by decide) rfl fun p54 => ?_
  refine ygT rfl ?_
  refine ycall (c22 (S := [Ho, [(p54, .cells (cells [(2 : Int)]).toArray 3)]]) (hLo.src (by simp)) (Src.lit (b := p54) (e := 3) (by repeat (first | exact List.mem_cons_self | apply List.mem_cons_of_mem)) rfl) (by decide)) rfl rfl fun r S' h => ?_
  obtain ⟨rfl, rfl⟩ := h
  refine yp (pPickT rfl rfl) ?_
  refine yp (pB rfl) ?_
  refine ygT rfl ?_
  refine yop (pI rfl) ?_
  refine ygT rfl ?_
  refine yop (pEq rfl rfl) ?_
  refine yp (pPickT rfl rfl) ?_
  refine yp (pB rfl) ?_
  refine ygT rfl ?_
  refine yop (pP rfl) ?_
  refine ygT rfl ?_
  refine ycall (c25 (tb := tb) (db := db) (most := max 2 0) hL6) rfl rfl fun r S' h => ?_
  obtain ⟨rfl, rfl⟩ := h
  refine ygT rfl ?_
  refine yop (pEq rfl rfl) ?_
  refine yp (pPickT rfl rfl) ?_
  refine yp (pB rfl) ?_
  refine ygT rfl ?_
  refine yop (pP rfl) ?_
  refine ygT rfl ?_
  refine ycall (c18n 1 1) rfl rfl fun r S' h => ?_
  obtain ⟨rfl, rfl⟩ := h
  refine ygT rfl ?_
  refine yop (pEq rfl rfl) ?_
  refine yp (pPickT rfl rfl) ?_
  refine yp (pB rfl) ?_
  refine ygT rfl ?_
  refine yop (pP rfl) ?_
  refine ygT rfl ?_
  refine ycall (c23n 9) rfl rfl fun r S' h => ?_
  obtain ⟨rfl, rfl⟩ := h
  refine ygT rfl ?_
  refine yop (pLen rfl) ?_
  refine ygT rfl ?_
  refine yop (pEq rfl rfl) ?_
  refine yp (pPickT rfl rfl) ?_
  refine yp (pB rfl) ?_
  refine ynil ?_
  refine tnorm ?_
  refine yret ?_
  exact yfin (rB rfl) ⟨_, .of, rfl, rfl⟩

def movesL (b : Int) (d : Bool) (now : Nat) : List (Int × Int) := if d = false ∧ (now : Int) ≤ b then [(1, b)] else []
theorem movesTail (b : Int) (d : Bool) (tb db : Nat) (v : Value) (H : List Chunk) (hb : 0 ≤ b ∧ b ≤ 50) (hL0 : Slc 93 v (movesL b d 0) H) (E : Env) (hE : Has E [(1, .int .i64 b), (2, .bool d), (7, .pointer (some ⟨tb, 0, none⟩))]) (S : Segs) (hS : Junk S [tseg tb (max 2 0) db, dseg db v, H]) :
    Y Try.prog none 101 (tl 5 Try.x6) (fnQ Try.prog #[.tmp 6] fun r S' => ∃ S'', Junk S' S'' ∧ r = .bool true ∧ S'' = []) E S := by
  refine yforget hS ?_
  obtain ⟨E0, e0⟩ := has_puts hE; subst e0; clear hE
  unfold Try.x6
  dsimp only [tl]
  refine yseq ?_
  refine yseq ?_
  refine yregion ?_
  refine yp pC ?_
  refine ynil ?_
  refine tnorm ?_
  refine yblock ?_
  refine yloop (σ := Nat) (fun now E S => Has E [(1, .int .i64 b), (2, .bool d), (7, .pointer (some ⟨tb, 0, none⟩)), (8, .int .i64 now)] ∧ now ≤ 61 ∧ ∃ v H, Slc 93 v (movesL b d now) H ∧ Junk S [tseg tb (max 2 0) db, dseg db v, H]) (fun now => 61 - now) 0 ⟨⟨rfl, rfl, rfl, rfl, trivial⟩, by omega, v, H, hL0, .self⟩ fun now E S ⟨hE, hnow, v, H, hL, hJ⟩ => ?_
  obtain ⟨E0, e0⟩ := has_puts hE; subst e0; clear hE
  refine yforget hJ ?_
  refine yseq ?_
  refine yseq ?_
  refine yregion ?_
  refine yp (pI rfl) ?_
  refine yp (pLe rfl rfl) ?_
  refine ynil ?_
  refine tnorm ?_
  refine ycondD rfl (fun h => ?_) (fun h => ?_)
  · refine yskip ?_
    refine tnorm ?_
    refine yseq ?_
    refine yblock ?_
    refine yseq ?_
    refine yregion ?_
    refine yp (pP rfl) ?_
    have hlen : (movesL b d now).length ≤ 1 := by unfold movesL; split <;> simp
    have hmax : ∀ e ∈ movesL b d now, e.2 ≤ 9223372036854775807 := by
      unfold movesL
      split
      · intro e he; simp at he; subst he; show b ≤ _; omega
      · simp
    have hso : isort byAt (movesL b d now) = movesL b d now := by unfold movesL; split <;> rfl
    refine ycons (ycall (c24e (tb := tb) (db := db) (most := max 2 0) hL (by omega) hmax hso) rfl rfl fun r S' h => ?_)
    obtain ⟨rfl, rfl⟩ := h
    by_cases hc : d = false ∧ (now : Int) ≤ b
    · have hm : movesL b d now = [(1, b)] := if_pos hc
      rw [hm] at hL
      rw [hm]
      obtain ⟨rfl, hle⟩ := hc
      refine yp (pU rfl) ?_
      refine yp (pExt rfl rfl) ?_
      refine yp (pExt rfl rfl) ?_
      refine yp (pI rfl) ?_
      refine yp (pB rfl) ?_
      refine ynil ?_
      refine tnorm ?_
      refine yseq ?_
      refine yregion ?_
      refine yp (pB rfl) ?_
      refine yp (pNot rfl) ?_
      refine yp (pB rfl) ?_
      refine ygT rfl ?_
      refine yop (pI rfl) ?_
      refine ygT rfl ?_
      refine yop (pI rfl) ?_
      refine ygT rfl ?_
      refine yop (pLe rfl rfl) ?_
      refine yp (pPickT rfl rfl) ?_
      refine yp (pB rfl) ?_
      refine ynil ?_
      refine tnorm ?_
      refine yseq ?_
      refine yseq ?_
      refine yregion ?_
      refine yp (pB rfl) ?_
      refine yp (pB rfl) ?_
      refine yp (pNeB rfl rfl) ?_
      refine yp (pB rfl) ?_
      rw [decide_eq_true hle]
      refine ygT rfl ?_
      refine yop (pB rfl) ?_
      refine ygT rfl ?_
      refine yop (pB rfl) ?_
      refine ygT rfl ?_
      refine yop (pI rfl) ?_
      refine ygT rfl ?_
      refine yop (pI rfl) ?_
      refine ygT rfl ?_
      refine yop (pNe rfl rfl) ?_
      refine ygT rfl ?_
      refine yop (pPickT rfl rfl) ?_
      refine yp (pPickF rfl rfl) ?_
      refine ynil ?_
      refine tnorm ?_
      refine ycondN rfl (fun h => absurd rfl h) (fun _ => ?_)
      refine yskip ?_
      refine tnorm ?_
      refine yseq ?_
      refine yregion ?_
      refine yp (pP rfl) ?_
      refine yp (pI rfl) ?_
      by_cases hlt : (now : Int) < b
      · have hu : upto now [(1, b)] = [] := by
          show ([(1, b)] : List (Int × Int)).filter _ = []
          rw [List.filter_cons_of_neg (by show ¬ (decide (b ≤ (now : Int)) = true); simp; omega)]
          rfl
        refine ycons (ycall (c23 (tb := tb) (db := db) (most := max 2 0) hL (by simp) now) rfl rfl fun r S' h => ?_)
        obtain ⟨Ho, v5, H5, hLo, hL5, rfl⟩ := h
        rw [hu] at hLo hL5
        obtain ⟨ao, co, rfl⟩ := hLo.isSlice
        refine yp (pS rfl) ?_
        refine ynil ?_
        refine tnorm ?_
        refine yseq ?_
        refine yregion ?_
        refine yp (pS rfl) ?_
        refine yp (pLen rfl) ?_
        refine yp (pEq rfl rfl) ?_
        refine yp (pB rfl) ?_
        refine yp (pNot rfl) ?_
        refine yp (pB rfl) ?_
        refine ygT rfl ?_
        refine yop (pI rfl) ?_
        refine ygT rfl ?_
        refine yop (pI rfl) ?_
        refine ygT rfl ?_
        refine yop (pEq rfl rfl) ?_
        refine yp (pPickT rfl rfl) ?_
        refine yp (pNeB rfl rfl) ?_
        refine yp (pB rfl) ?_
        rw [decide_eq_false (show ¬ (now : Int) = b from by omega)]
        refine ygT rfl ?_
        refine yop (pS rfl) ?_
        refine ygT rfl ?_
        refine yop (pLen rfl) ?_
        refine ygT rfl ?_
        refine yop (pGt rfl rfl) ?_
        refine yp (pPickF rfl rfl) ?_
        refine ynil ?_
        refine tnorm ?_
        refine ycondF rfl ?_
        refine yskip ?_
        refine bnorm ?_
        refine tnorm ?_
        refine yregion ?_
        refine yp (pI rfl) ?_
        refine yp (pInc rfl rfl (by omega)) ?_
        refine yp (pI rfl) ?_
        refine ynil ?_
        refine tnorm ?_
        refine ⟨now + 1, ⟨⟨rfl, rfl, rfl, rfl, trivial⟩, by omega, v5, H5, ?_, .of⟩, by omega⟩
        rw [movesL, if_pos ⟨rfl, by omega⟩]; exact hL5
      · have hu : upto now [(1, b)] = [(1, b)] := by
          show ([(1, b)] : List (Int × Int)).filter _ = _
          rw [List.filter_cons_of_pos (by show decide (b ≤ (now : Int)) = true; simp; omega)]
          rfl
        refine ycons (ycall (c23 (tb := tb) (db := db) (most := max 2 0) hL (by simp) now) rfl rfl fun r S' h => ?_)
        obtain ⟨Ho, v5, H5, hLo, hL5, rfl⟩ := h
        rw [hu] at hLo hL5
        rw [show dropAll (List.map (fun x => x.1) [(1, b)]) [(1, b)] = [] from rfl] at hL5
        obtain ⟨ao, co, rfl⟩ := hLo.isSlice
        refine yp (pS rfl) ?_
        refine ynil ?_
        refine tnorm ?_
        refine yseq ?_
        refine yregion ?_
        refine yp (pS rfl) ?_
        refine yp (pLen rfl) ?_
        refine yp (pEq rfl rfl) ?_
        refine yp (pB rfl) ?_
        refine yp (pNot rfl) ?_
        refine yp (pB rfl) ?_
        refine ygT rfl ?_
        refine yop (pI rfl) ?_
        refine ygT rfl ?_
        refine yop (pI rfl) ?_
        refine ygT rfl ?_
        refine yop (pEq rfl rfl) ?_
        refine yp (pPickT rfl rfl) ?_
        refine yp (pNeB rfl rfl) ?_
        refine yp (pB rfl) ?_
        rw [decide_eq_true (show (now : Int) = b from by omega)]
        refine ygT rfl ?_
        refine yop (pS rfl) ?_
        refine ygT rfl ?_
        refine yop (pLen rfl) ?_
        refine ygT rfl ?_
        refine yop (pGt rfl rfl) ?_
        refine yp (pPickF rfl rfl) ?_
        refine ynil ?_
        refine tnorm ?_
        refine ycondF rfl ?_
        refine yskip ?_
        refine bnorm ?_
        refine tnorm ?_
        refine yregion ?_
        refine yp (pI rfl) ?_
        refine yp (pInc rfl rfl (by omega)) ?_
        refine yp (pI rfl) ?_
        refine ynil ?_
        refine tnorm ?_
        refine ⟨now + 1, ⟨⟨rfl, rfl, rfl, rfl, trivial⟩, by omega, v5, H5, ?_, .of⟩, by omega⟩
        rw [movesL, if_neg (by intro h; have := h.2; omega)]; exact hL5
    · have hm : movesL b d now = [] := if_neg hc
      have hm' : movesL b d (now + 1) = [] := if_neg (fun h => hc ⟨h.1, by have := h.2; omega⟩)
      rw [hm] at hL
      rw [hm]
      cases d with
      | true =>
        refine yp (pU rfl) ?_
        refine yp (pExt rfl rfl) ?_
        refine yp (pExt rfl rfl) ?_
        refine yp (pI rfl) ?_
        refine yp (pB rfl) ?_
        refine ynil ?_
        refine tnorm ?_
        refine yseq ?_
        refine yregion ?_
        refine yp (pB rfl) ?_
        refine yp (pNot rfl) ?_
        refine yp (pB rfl) ?_
        refine ygF rfl ?_
        refine ygF rfl ?_
        refine ygF rfl ?_
        refine yp (pPickF rfl rfl) ?_
        refine yp (pB rfl) ?_
        refine ynil ?_
        refine tnorm ?_
        refine yseq ?_
        refine yseq ?_
        refine yregion ?_
        refine yp (pB rfl) ?_
        refine yp (pB rfl) ?_
        refine yp (pNeB rfl rfl) ?_
        refine yp (pB rfl) ?_
        refine ygT rfl ?_
        refine yop (pB rfl) ?_
        refine ygT rfl ?_
        refine yop (pB rfl) ?_
        refine ygF rfl ?_
        refine ygF rfl ?_
        refine ygF rfl ?_
        refine ygT rfl ?_
        refine yop (pPickF rfl rfl) ?_
        refine yp (pPickF rfl rfl) ?_
        refine ynil ?_
        refine tnorm ?_
        refine ycondF rfl ?_
        refine yskip ?_
        refine tnorm ?_
        refine yseq ?_
        refine yregion ?_
        refine yp (pP rfl) ?_
        refine yp (pI rfl) ?_
        refine ycons (ycall (c23 (tb := tb) (db := db) (most := max 2 0) hL (by decide) now) rfl rfl fun r S' h => ?_)
        obtain ⟨Ho, v5, H5, hLo, hL5, rfl⟩ := h
        rw [show upto now [] = [] from rfl] at hLo hL5
        obtain ⟨ao, co, rfl⟩ := hLo.isSlice
        refine yp (pS rfl) ?_
        refine ynil ?_
        refine tnorm ?_
        refine yseq ?_
        refine yregion ?_
        refine yp (pS rfl) ?_
        refine yp (pLen rfl) ?_
        refine yp (pEq rfl rfl) ?_
        refine yp (pB rfl) ?_
        refine yp (pNot rfl) ?_
        refine yp (pB rfl) ?_
        refine ygF rfl ?_
        refine ygF rfl ?_
        refine ygF rfl ?_
        refine yp (pPickF rfl rfl) ?_
        refine yp (pNeB rfl rfl) ?_
        refine yp (pB rfl) ?_
        refine ygT rfl ?_
        refine yop (pS rfl) ?_
        refine ygT rfl ?_
        refine yop (pLen rfl) ?_
        refine ygT rfl ?_
        refine yop (pGt rfl rfl) ?_
        refine yp (pPickF rfl rfl) ?_
        refine ynil ?_
        refine tnorm ?_
        refine ycondF rfl ?_
        refine yskip ?_
        refine bnorm ?_
        refine tnorm ?_
        refine yregion ?_
        refine yp (pI rfl) ?_
        refine yp (pInc rfl rfl (by omega)) ?_
        refine yp (pI rfl) ?_
        refine ynil ?_
        refine tnorm ?_
        exact ⟨now + 1, ⟨⟨rfl, rfl, rfl, rfl, trivial⟩, by omega, v5, H5, by rw [hm']; exact hL5, .of⟩, by omega⟩
      | false =>
        have hgt : ¬ (now : Int) ≤ b := fun h => hc ⟨rfl, h⟩
        refine yp (pU rfl) ?_
        refine yp (pExt rfl rfl) ?_
        refine yp (pExt rfl rfl) ?_
        refine yp (pI rfl) ?_
        refine yp (pB rfl) ?_
        refine ynil ?_
        refine tnorm ?_
        refine yseq ?_
        refine yregion ?_
        refine yp (pB rfl) ?_
        refine yp (pNot rfl) ?_
        refine yp (pB rfl) ?_
        refine ygT rfl ?_
        refine yop (pI rfl) ?_
        refine ygT rfl ?_
        refine yop (pI rfl) ?_
        refine ygT rfl ?_
        refine yop (pLe rfl rfl) ?_
        refine yp (pPickT rfl rfl) ?_
        refine yp (pB rfl) ?_
        refine ynil ?_
        refine tnorm ?_
        refine yseq ?_
        refine yseq ?_
        refine yregion ?_
        refine yp (pB rfl) ?_
        refine yp (pB rfl) ?_
        refine yp (pNeB rfl rfl) ?_
        refine yp (pB rfl) ?_
        rw [decide_eq_false hgt]
        refine ygT rfl ?_
        refine yop (pB rfl) ?_
        refine ygT rfl ?_
        refine yop (pB rfl) ?_
        refine ygF rfl ?_
        refine ygF rfl ?_
        refine ygF rfl ?_
        refine ygT rfl ?_
        refine yop (pPickF rfl rfl) ?_
        refine yp (pPickF rfl rfl) ?_
        refine ynil ?_
        refine tnorm ?_
        refine ycondF rfl ?_
        refine yskip ?_
        refine tnorm ?_
        refine yseq ?_
        refine yregion ?_
        refine yp (pP rfl) ?_
        refine yp (pI rfl) ?_
        refine ycons (ycall (c23 (tb := tb) (db := db) (most := max 2 0) hL (by decide) now) rfl rfl fun r S' h => ?_)
        obtain ⟨Ho, v5, H5, hLo, hL5, rfl⟩ := h
        rw [show upto now [] = [] from rfl] at hLo hL5
        obtain ⟨ao, co, rfl⟩ := hLo.isSlice
        refine yp (pS rfl) ?_
        refine ynil ?_
        refine tnorm ?_
        refine yseq ?_
        refine yregion ?_
        refine yp (pS rfl) ?_
        refine yp (pLen rfl) ?_
        refine yp (pEq rfl rfl) ?_
        refine yp (pB rfl) ?_
        refine yp (pNot rfl) ?_
        refine yp (pB rfl) ?_
        refine ygT rfl ?_
        refine yop (pI rfl) ?_
        refine ygT rfl ?_
        refine yop (pI rfl) ?_
        refine ygT rfl ?_
        refine yop (pEq rfl rfl) ?_
        refine yp (pPickT rfl rfl) ?_
        refine yp (pNeB rfl rfl) ?_
        refine yp (pB rfl) ?_
        rw [decide_eq_false (show ¬ (now : Int) = b from by omega)]
        refine ygT rfl ?_
        refine yop (pS rfl) ?_
        refine ygT rfl ?_
        refine yop (pLen rfl) ?_
        refine ygT rfl ?_
        refine yop (pGt rfl rfl) ?_
        refine yp (pPickF rfl rfl) ?_
        refine ynil ?_
        refine tnorm ?_
        refine ycondF rfl ?_
        refine yskip ?_
        refine bnorm ?_
        refine tnorm ?_
        refine yregion ?_
        refine yp (pI rfl) ?_
        refine yp (pInc rfl rfl (by omega)) ?_
        refine yp (pI rfl) ?_
        refine ynil ?_
        refine tnorm ?_
        exact ⟨now + 1, ⟨⟨rfl, rfl, rfl, rfl, trivial⟩, by omega, v5, H5, by rw [hm']; exact hL5, .of⟩, by omega⟩
  · have hm : movesL b d now = [] := if_neg (fun h' => by have := h'.2; omega)
    rw [hm] at hL
    refine yexit ?_
    refine texit ?_
    refine texit ?_
    refine bexit ?_
    refine tnorm ?_
    refine yseq ?_
    refine yregion ?_
    refine yp (pP rfl) ?_
    refine ycons (ycall (c25 (tb := tb) (db := db) (most := max 2 0) hL) rfl rfl fun r S' h => ?_)
    obtain ⟨rfl, rfl⟩ := h
    refine yp (pEq rfl rfl) ?_
    refine yp (pB rfl) ?_
    refine ygT rfl ?_
    refine ycall c14 rfl rfl fun r S' h => ?_
    obtain ⟨rfl, rfl⟩ := h
    refine yp (pPickT rfl rfl) ?_
    refine yp (pB rfl) ?_
    refine ynil ?_
    refine tnorm ?_
    refine yret ?_
    exact yfin (rB rfl) ⟨_, .of, rfl, rfl⟩

theorem c6 (a b : Int) (d : Bool) : Tri Try.prog 6 #[.int .i64 a, .int .i64 b, .bool d] [] (fun r S => r = .bool true ∧ S = []) := by
  refine Tri.forget (ycallee Try.fx6 (Nat.le_of_ble_eq_true rfl) ?_)
  unfold Try.x6
  refine yseq ?_
  refine yregion ?_
  refine yp pC ?_
  refine ynil ?_
  refine tnorm ?_
  refine yseq ?_
  refine yseq ?_
  refine yregion ?_
  refine yp (pI rfl) ?_
  refine yp (pLt rfl rfl) ?_
  refine yp (pB rfl) ?_
  by_cases h1 : a < 0
  · rw [decide_eq_true h1]
    refine ygF rfl ?_
    refine ygF rfl ?_
    refine yp (pPickT rfl rfl) ?_
    refine yp (pB rfl) ?_
    refine ygF rfl ?_
    refine ygF rfl ?_
    refine yp (pPickT rfl rfl) ?_
    refine yp (pB rfl) ?_
    refine ygF rfl ?_
    refine ygF rfl ?_
    refine yp (pPickT rfl rfl) ?_
    refine ynil ?_
    refine tnorm ?_
    refine ycondT rfl ?_
    refine yseq ?_
    refine yregion ?_
    refine ycons (ycall c14 rfl rfl fun r S' h => ?_)
    obtain ⟨rfl, rfl⟩ := h
    refine yp (pB rfl) ?_
    refine ynil ?_
    refine tnorm ?_
    refine yret ?_
    refine tret ?_
    exact yfin (rB rfl) ⟨_, .of, rfl, rfl⟩
  rw [decide_eq_false h1]
  refine ygT rfl ?_
  refine yop (pI rfl) ?_
  refine ygT rfl ?_
  refine yop (pGt rfl rfl) ?_
  refine yp (pPickF rfl rfl) ?_
  refine yp (pB rfl) ?_
  by_cases h2 : 50 < a
  · rw [decide_eq_true h2]
    refine ygF rfl ?_
    refine ygF rfl ?_
    refine yp (pPickT rfl rfl) ?_
    refine yp (pB rfl) ?_
    refine ygF rfl ?_
    refine ygF rfl ?_
    refine yp (pPickT rfl rfl) ?_
    refine ynil ?_
    refine tnorm ?_
    refine ycondT rfl ?_
    refine yseq ?_
    refine yregion ?_
    refine ycons (ycall c14 rfl rfl fun r S' h => ?_)
    obtain ⟨rfl, rfl⟩ := h
    refine yp (pB rfl) ?_
    refine ynil ?_
    refine tnorm ?_
    refine yret ?_
    refine tret ?_
    exact yfin (rB rfl) ⟨_, .of, rfl, rfl⟩
  rw [decide_eq_false h2]
  refine ygT rfl ?_
  refine yop (pI rfl) ?_
  refine ygT rfl ?_
  refine yop (pLt rfl rfl) ?_
  refine yp (pPickF rfl rfl) ?_
  refine yp (pB rfl) ?_
  by_cases h3 : b < 0
  · rw [decide_eq_true h3]
    refine ygF rfl ?_
    refine ygF rfl ?_
    refine yp (pPickT rfl rfl) ?_
    refine ynil ?_
    refine tnorm ?_
    refine ycondT rfl ?_
    refine yseq ?_
    refine yregion ?_
    refine ycons (ycall c14 rfl rfl fun r S' h => ?_)
    obtain ⟨rfl, rfl⟩ := h
    refine yp (pB rfl) ?_
    refine ynil ?_
    refine tnorm ?_
    refine yret ?_
    refine tret ?_
    exact yfin (rB rfl) ⟨_, .of, rfl, rfl⟩
  rw [decide_eq_false h3]
  refine ygT rfl ?_
  refine yop (pI rfl) ?_
  refine ygT rfl ?_
  refine yop (pGt rfl rfl) ?_
  refine yp (pPickF rfl rfl) ?_
  refine ynil ?_
  refine tnorm ?_
  by_cases h4 : 50 < b
  · rw [decide_eq_true h4]
    refine ycondT rfl ?_
    refine yseq ?_
    refine yregion ?_
    refine ycons (ycall c14 rfl rfl fun r S' h => ?_)
    obtain ⟨rfl, rfl⟩ := h
    refine yp (pB rfl) ?_
    refine ynil ?_
    refine tnorm ?_
    refine yret ?_
    refine tret ?_
    exact yfin (rB rfl) ⟨_, .of, rfl, rfl⟩
  rw [decide_eq_false h4]
  refine ycondF rfl ?_
  refine yskip ?_
  refine tnorm ?_
  refine yseq ?_
  refine yregion ?_
  refine ycons (ycall (c15 2) rfl rfl fun r S' h => ?_)
  obtain ⟨tb, db, rfl, rfl⟩ := h
  refine yp (pP rfl) ?_
  refine ynil ?_
  refine tnorm ?_
  refine yseq ?_
  refine yseq ?_
  refine yregion ?_
  refine yp (pP rfl) ?_
  refine yp (pNilP rfl rfl) ?_
  refine yp (pB rfl) ?_
  refine ygT rfl ?_
  refine yop (pP rfl) ?_
  refine ygT rfl ?_
  refine yop (pI rfl) ?_
  refine ygT rfl ?_
  refine ycall (c18 (tb := tb) (db := db) (most := max 2 0) (L := []) .nil (by decide) 1 a) rfl rfl fun r S' h => ?_
  obtain ⟨rfl, v1, H1, hL1, rfl⟩ := h
  rw [show setK (max 2 0) 1 a [] = [(1, a)] from rfl] at hL1
  rw [show setR (max 2 0) 1 [] = 0 from by decide]
  refine ygT rfl ?_
  refine yop (pNe rfl rfl) ?_
  refine yp (pPickF rfl rfl) ?_
  refine yp (pB rfl) ?_
  refine ygT rfl ?_
  refine yop (pP rfl) ?_
  refine ygT rfl ?_
  refine yop (pI rfl) ?_
  refine ygT rfl ?_
  refine ycall (c18 (tb := tb) (db := db) (most := max 2 0) hL1 (by simp) 1 b) rfl rfl fun r S' h => ?_
  obtain ⟨rfl, v2, H2, hL2, rfl⟩ := h
  rw [show setK (max 2 0) 1 b [(1, a)] = [(1, b)] from rfl] at hL2
  rw [show setR (max 2 0) 1 [(1, a)] = 0 from rfl]
  refine ygT rfl ?_
  refine yop (pNe rfl rfl) ?_
  refine yp (pPickF rfl rfl) ?_
  refine ynil ?_
  refine tnorm ?_
  refine ycondF rfl ?_
  refine yskip ?_
  refine tnorm ?_
  refine yseq ?_
  refine yseq ?_
  refine yregion ?_
  refine yp (pB rfl) ?_
  refine yp (pB rfl) ?_
  cases d with
  | true =>
    refine ygT rfl ?_
    refine yop (pP rfl) ?_
    refine ygT rfl ?_
    refine ycall (c20 (tb := tb) (db := db) (most := max 2 0) hL2 (by simp) 1) rfl rfl fun r S' h => ?_
    obtain ⟨rfl, v3, H3, hL3, rfl⟩ := h
    rw [show dropK 1 [(1, b)] = [] from rfl] at hL3
    rw [show dropR 1 [(1, b)] = 0 from rfl]
    refine ygT rfl ?_
    refine yop (pNe rfl rfl) ?_
    refine yp (pPickT rfl rfl) ?_
    refine ynil ?_
    refine tnorm ?_
    refine ycondF rfl ?_
    refine yskip ?_
    refine tnorm ?_
    exact movesTail b true tb db v3 H3 (by omega) hL3 _ ⟨rfl, rfl, rfl, trivial⟩ _ .of
  | false =>
    refine ygF rfl ?_
    refine ygF rfl ?_
    refine ygF rfl ?_
    refine yp (pPickF rfl rfl) ?_
    refine ynil ?_
    refine tnorm ?_
    refine ycondF rfl ?_
    refine yskip ?_
    refine tnorm ?_
    exact movesTail b false tb db v2 H2 (by omega) (by rw [movesL, if_pos ⟨rfl, by omega⟩]; exact hL2) _ ⟨rfl, rfl, rfl, trivial⟩ _ .of
end Go.Proofs.Ytmgiamagocefcaa
