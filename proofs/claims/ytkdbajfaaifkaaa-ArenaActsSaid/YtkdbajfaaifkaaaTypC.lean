/- The types of ArenaActs' arguments: acts, each with bytes. -/
import Derived.Test.YtkdbajfaaifkaaaTypN
import Derived.Test.YtkdbajfaaifkaaaActsA
namespace Go.Proofs.Ytkdbajfaaifkaaa
open Go.Xs Go.ChangeShapes Go.WideShapes
variable {H : Type} {en : TypeId × Value → H} {W : World} {sp : Nat → Bool}
theorem tyAct6 : Try.prog.underlying 43 = some (.struct (fieldsOf 43)) := by kernel_rfl
theorem ceAct6 : Try.prog.cellsOf 43 = 5 := by kernel_rfl
theorem fiAct6 : ((fieldsOf 43).toList.map fun f => (f.type, f.offset)) = [(3, 0), (3, 1), (3, 2), (3, 3), (31, 4)] := by kernel_rfl
theorem tyActs6 : Try.prog.underlying 36 = some (.slice 43) := by kernel_rfl
def InA6 (W : World) (x : Act6) : Prop := Src (heapS W) x.v x.b ∧ x.b.length ≤ maxLen
set_option maxRecDepth 100000 in
theorem elAct6 : ∀ (n : Nat) (cs : List Value) (x : DataW H × List MemPlace), DataW.trod en Try.prog W 0 sp true n 43 cs = some x → ∃ a : Act6, cs = Enc.enc a ∧ InA6 W a := by
  intro n cs x h
  obtain ⟨hl, hf⟩ := field tyAct6 fiAct6 h
  rw [ceAct6] at hl
  have one : ∀ (i : Nat), i < 4 → ∃ z, (cs.drop i).take 1 = [.int .i64 z] := by
    intro i hi
    have hil : ([(3, 0), (3, 1), (3, 2), (3, 3), (31, 4)] : List (TypeId × Nat))[i]? = some (3, i) := by
      rcases (by omega : i = 0 ∨ i = 1 ∨ i = 2 ∨ i = 3) with rfl | rfl | rfl | rfl <;> rfl
    obtain ⟨m, y, hy⟩ := hf i _ _ hil
    rw [ceInt] at hy
    obtain ⟨z, hz, _, _⟩ := DataW.trod_int tyInt hy
    exact ⟨z, hz⟩
  obtain ⟨k, hk⟩ := one 0 (by omega)
  obtain ⟨u, hu⟩ := one 1 (by omega)
  obtain ⟨v, hv⟩ := one 2 (by omega)
  obtain ⟨w, hw⟩ := one 3 (by omega)
  obtain ⟨m, y, hy⟩ := hf 4 _ _ rfl
  rw [ceBytes] at hy
  obtain ⟨a, c, L, hL, hs, hm, _⟩ := nested (α := UInt8) tyBytes ceByte (by decide) elByte hy
  match cs, hl with
  | [c0, c1, c2, c3, c4], _ =>
    simp at hk hu hv hw hL
    subst hk hu hv hw hL
    exact ⟨⟨k, u, v, w, L, a, c⟩, rfl, hs, hm⟩
set_option maxRecDepth 100000 in
theorem open_acts6 {v : Value} {d : DataW H} {ps : List MemPlace} {base : Nat} (hv : Value.okWide Try.prog W .any base 36 v) (h : DataW.Trod en Try.prog W 0 sp true 36 v d ps) : ∃ L : List Act6, Src (heapS W) v L ∧ L.length ≤ maxLen ∧ ∀ a ∈ L, InA6 W a :=
  open_src (α := Act6) tyActs6 ceAct6 (show 0 < 5 by decide) elAct6 (okWide_slice tyActs6 hv) h
end Go.Proofs.Ytkdbajfaaifkaaa
