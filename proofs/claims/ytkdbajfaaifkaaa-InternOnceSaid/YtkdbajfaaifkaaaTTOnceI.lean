/- InternOnce answers true at every input, and its input reads as it did; on no condition beyond the given statement's own. -/
import Derived.Test.YtkdbajfaaifkaaaRows
import Derived.WalkKit
import Derived.ProofKit
import Derived.OpenShut
import Derived.Test.YtkdbajfaaifkaaaT1
import Derived.Test.YtkdbajfaaifkaaaOnceI
import Derived.Test.YtkdbajfaaifkaaaTypI
namespace Go.Proofs.Ytkdbajfaaifkaaa.internOnce
open Go.Xs Go.ChangeShapes Go.WideShapes Go.ChangeAt Go.RowKit

theorem walk (a0 : ByteArray) (a1 : Int) (w : World)  :
    Calls Try.prog 10 #[.string a0, .int .i64 a1] w fun e w' => e = .returned (.bool true) ∧ Stays w w' := (c10 a0 a1 ).alone w

set_option maxRecDepth 100000 in
theorem lifted (os : Os) (started : os.Started) (H : Type) (enc : TypeId × Value → H) :
    ReturnsInHanded {} Try.checked os 10 .any (Rows.internOnceSpec.pre6 enc Try.prog Try.f10 Rows.internOnceRow.domain false) (Rows.internOnceSpec.post enc Try.prog Try.f10 false true false false) := by
  refine returnsInHanded_of_change (C := Try.checked) wideOwn started (by kernel_rfl) Try.func10
    (ChangeSpec.witness6 (enc := enc) (C := Try.checked) false ⟨#[], #[.string ⟨#[]⟩, .int .i64 0], []⟩ 8 (by kernel_rfl) (by kernel_rfl) (by kernel_rfl) (by kernel_rfl)) ?_
  intro W base args ds gs before hval0 hW hcnd _
  have hval : ∀ (j : Nat) t v, Try.f10.params[j]? = some t → args[j]? = some v → Value.okWide Try.prog W .any base t v := hval0
  have hW' := hW
  obtain ⟨p, q, hA0, hV, rfl, hfz, hnd⟩ := hW
  have hA : DataW.TrodAll enc Try.prog W 0 (fun _ => true) true Try.f10.params.toList args.toList ds p := hA0
  rw [Try.params10] at hA hval
  obtain ⟨v0, vs0, d0, ds0, p0, q0, hargs, rfl, rfl, h0, r0⟩ := trodAll_cons hA
  obtain ⟨v1, vs1, d1, ds1, p1, q1, rfl, rfl, rfl, h1, r1⟩ := trodAll_cons r0
  obtain ⟨rfl, rfl, rfl⟩ := trodAll_nil r1
  obtain rfl : args = #[v0, v1] := by cases args; simp_all
  obtain ⟨rfl, rfl⟩ := trodVars_none hV
  obtain ⟨a0, rfl, rfl, rfl, w0⟩ := Go.ChangeMaps.open_string tyString (hval 0 9 v0 rfl rfl) h0
  obtain ⟨a1, rfl, rfl, rfl, w1⟩ := open_int tyInt (hval 1 3 v1 rfl rfl) h1
  clear hA0 hval0
  refine (walk a0 a1 W ).mono fun e W' ⟨he, hg⟩ => ?_
  subst he
  exact ⟨_, rfl, hg.law kids sized (by rw [Try.params10]; exact below (by kernel_rfl)) hW' rfl rfl rfl (fun _ _ _ => (trodAll_cons_mk (shut_bool tyBool _) trodAll_mk0))
    (ok_one (by kernel_rfl) rfl (okWide_bool_mk tyBool _))⟩

theorem f1 : Try.prog.inPlace 10 = ([] : List _) := by kernel_rfl
theorem f2 : Try.prog.unfollowed 10 = true := by kernel_rfl
theorem f3 : Try.prog.recurses 10 = true := by kernel_rfl
theorem f4 : Try.prog.varsNamed 10 = ([] : List _) := by kernel_rfl
theorem closed : joinedFacts Try.prog 10 Try.f10 Rows.internOnceSpec Rows.internOnceRow = true := by
  unfold joinedFacts
  rw [wideLaid, wideMaps, wideStops, wideKnobs, widePlain, wideHeard, wideEnter, wideFinal, wideMake, f1, f2, f3, f4]
  kernel_rfl

theorem over : Rows.internOnceRow.holds Try.pinned (OpenSpec.ofChange Rows.internOnceSpec) :=
  OpenClaim.holds_of_wide 10 Try.f10 rfl rfl rfl rfl rfl rfl rfl ⟨rfl, rfl, rfl, rfl, rfl⟩ rfl rfl rfl rfl rfl (by kernel_rfl) Try.func10 closed
    (of_decide_eq_true (by kernel_rfl)) (by unfold Func.isWrapper; first | (rw [if_pos (by decide +kernel)]; kernel_rfl) | (rw [if_neg (by decide +kernel)]; exact ⟨rfl, rfl⟩))
    (fun os started H enc _ => lifted os started H enc)

theorem proved : Rows.InternOnceSaid :=
  over
#print axioms proved
end Go.Proofs.Ytkdbajfaaifkaaa.internOnce
