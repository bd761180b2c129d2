/- The types of InternActs' arguments: acts, each with a string. -/
import Derived.Test.YtkdbajfaaifkaaaTypI
import Derived.Test.YtkdbajfaaifkaaaActsI
namespace Go.Proofs.Ytkdbajfaaifkaaa
open Go.Xs Go.ChangeShapes Go.WideShapes
variable {H : Type} {en : TypeId × Value → H} {W : World} {sp : Nat → Bool}
theorem tyAct7 : Try.prog.underlying 72 = some (.struct (fieldsOf 72)) := by kernel_rfl
theorem ceAct7 : Try.prog.cellsOf 72 = 3 := by kernel_rfl
theorem fiAct7 : ((fieldsOf 72).toList.map fun f => (f.type, f.offset)) = [(3, 0), (9, 1), (3, 2)] := by kernel_rfl
theorem tyActs7 : Try.prog.underlying 63 = some (.slice 72) := by kernel_rfl
def InA7 (_ : Act7) : Prop := True
set_option maxRecDepth 100000 in
theorem elAct7 : ∀ (n : Nat) (cs : List Value) (x : DataW H × List MemPlace), DataW.trod en Try.prog W 0 sp true n 72 cs = some x → ∃ a : Act7, cs = Enc.enc a ∧ InA7 a := by
  intro n cs x h
  obtain ⟨hl, hf⟩ := field tyAct7 fiAct7 h
  rw [ceAct7] at hl
  obtain ⟨m0, y0, h0⟩ := hf 0 _ _ rfl
  obtain ⟨m1, y1, h1⟩ := hf 1 _ _ rfl
  obtain ⟨m2, y2, h2⟩ := hf 2 _ _ rfl
  rw [ceInt] at h0 h2
  rw [ceString] at h1
  obtain ⟨a, ha, _, _⟩ := DataW.trod_int tyInt h0
  obtain ⟨b, hb, _, _⟩ := DataW.trod_string tyString h1
  obtain ⟨c, hc, _, _⟩ := DataW.trod_int tyInt h2
  match cs, hl with
  | [c0, c1, c2], _ =>
    simp at ha hb hc
    subst ha hb hc
    exact ⟨⟨a, b, c⟩, rfl, trivial⟩
set_option maxRecDepth 100000 in
theorem open_acts7 {v : Value} {d : DataW H} {ps : List MemPlace} {base : Nat} (hv : Value.okWide Try.prog W .any base 63 v) (h : DataW.Trod en Try.prog W 0 sp true 63 v d ps) : ∃ L : List Act7, Src (heapS W) v L ∧ L.length ≤ maxLen ∧ ∀ a ∈ L, InA7 a :=
  open_src (α := Act7) tyActs7 ceAct7 (show 0 < 3 by decide) elAct7 (okWide_slice tyActs7 hv) h
end Go.Proofs.Ytkdbajfaaifkaaa
