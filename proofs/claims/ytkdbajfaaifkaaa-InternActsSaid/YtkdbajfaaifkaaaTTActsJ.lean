/- InternActs answers true at every input, and its input reads as it did; on no condition beyond the given statement's own. -/
import Derived.Test.YtkdbajfaaifkaaaRows
import Derived.WalkKit
import Derived.ProofKit
import Derived.OpenShut
import Derived.Test.YtkdbajfaaifkaaaT1
import Derived.Test.YtkdbajfaaifkaaaActsJ
import Derived.Test.YtkdbajfaaifkaaaTypJ
namespace Go.Proofs.Ytkdbajfaaifkaaa.internActs
open Go.Xs Go.ChangeShapes Go.WideShapes Go.ChangeAt Go.RowKit

theorem walk (a0 : Int) (a1 : Value) (a2 : ByteArray) (w : World) {l1 : List Act7} (s1 : Src (heapS w) a1 l1) (m1 : l1.length ≤ maxLen) (q1 : ∀ a ∈ l1, InA7 a) :
    Calls Try.prog 9 #[.int .i64 a0, a1, .string a2] w fun e w' => e = .returned (.bool true) ∧ Stays w w' := Tri.whole (c9 a0 a2 s1 m1 q1)

set_option maxRecDepth 100000 in
theorem lifted (os : Os) (started : os.Started) (H : Type) (enc : TypeId × Value → H) :
    ReturnsInHanded {} Try.checked os 9 .any (Rows.internActsSpec.pre6 enc Try.prog Try.f9 Rows.internActsRow.domain false) (Rows.internActsSpec.post enc Try.prog Try.f9 false true false false) := by
  refine returnsInHanded_of_change (C := Try.checked) wideOwn started (by kernel_rfl) Try.func9
    (ChangeSpec.witness6 (enc := enc) (C := Try.checked) false ⟨#[], #[.int .i64 0, .slice none 0 0, .string ⟨#[]⟩], []⟩ 8 (by kernel_rfl) (by kernel_rfl) (by kernel_rfl) (by kernel_rfl)) ?_
  intro W base args ds gs before hval0 hW hcnd _
  have hval : ∀ (j : Nat) t v, Try.f9.params[j]? = some t → args[j]? = some v → Value.okWide Try.prog W .any base t v := hval0
  have hW' := hW
  obtain ⟨p, q, hA0, hV, rfl, hfz, hnd⟩ := hW
  have hA : DataW.TrodAll enc Try.prog W 0 (fun _ => true) true Try.f9.params.toList args.toList ds p := hA0
  rw [Try.params9] at hA hval
  obtain ⟨v0, vs0, d0, ds0, p0, q0, hargs, rfl, rfl, h0, r0⟩ := trodAll_cons hA
  obtain ⟨v1, vs1, d1, ds1, p1, q1, rfl, rfl, rfl, h1, r1⟩ := trodAll_cons r0
  obtain ⟨v2, vs2, d2, ds2, p2, q2, rfl, rfl, rfl, h2, r2⟩ := trodAll_cons r1
  obtain ⟨rfl, rfl, rfl⟩ := trodAll_nil r2
  obtain rfl : args = #[v0, v1, v2] := by cases args; simp_all
  obtain ⟨rfl, rfl⟩ := trodVars_none hV
  obtain ⟨a0, rfl, rfl, rfl, w0⟩ := open_int tyInt (hval 0 3 v0 rfl rfl) h0
  obtain ⟨l1, s1, m1, b1⟩ := open_acts7 (hval 1 63 v1 rfl rfl) h1
  obtain ⟨a2, rfl, rfl, rfl, w2⟩ := Go.ChangeMaps.open_string tyString (hval 2 9 v2 rfl rfl) h2
  clear hA0 hval0
  refine (walk a0 v1 a2 W s1 m1 b1).mono fun e W' ⟨he, hg⟩ => ?_
  subst he
  exact ⟨_, rfl, hg.law kids sized (by rw [Try.params9]; exact below (by kernel_rfl)) hW' rfl rfl rfl (fun _ _ _ => (trodAll_cons_mk (shut_bool tyBool _) trodAll_mk0))
    (ok_one (by kernel_rfl) rfl (okWide_bool_mk tyBool _))⟩

theorem f1 : Try.prog.inPlace 9 = ([] : List _) := by kernel_rfl
theorem f2 : Try.prog.unfollowed 9 = true := by kernel_rfl
theorem f3 : Try.prog.recurses 9 = true := by kernel_rfl
theorem f4 : Try.prog.varsNamed 9 = ([] : List _) := by kernel_rfl
theorem closed : joinedFacts Try.prog 9 Try.f9 Rows.internActsSpec Rows.internActsRow = true := by
  unfold joinedFacts
  rw [wideLaid, wideMaps, wideStops, wideKnobs, widePlain, wideHeard, wideEnter, wideFinal, wideMake, f1, f2, f3, f4]
  kernel_rfl

theorem over : Rows.internActsRow.holds Try.pinned (OpenSpec.ofChange Rows.internActsSpec) :=
  OpenClaim.holds_of_wide 9 Try.f9 rfl rfl rfl rfl rfl rfl rfl ⟨rfl, rfl, rfl, rfl, rfl⟩ rfl rfl rfl rfl rfl (by kernel_rfl) Try.func9 closed
    (of_decide_eq_true (by kernel_rfl)) (by unfold Func.isWrapper; first | (rw [if_pos (by decide +kernel)]; kernel_rfl) | (rw [if_neg (by decide +kernel)]; exact ⟨rfl, rfl⟩))
    (fun os started H enc _ => lifted os started H enc)

theorem proved : Rows.InternActsSaid :=
  over
#print axioms proved
end Go.Proofs.Ytkdbajfaaifkaaa.internActs
