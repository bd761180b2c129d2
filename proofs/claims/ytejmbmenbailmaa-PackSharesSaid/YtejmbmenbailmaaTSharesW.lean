/- PackShares answers true at every input, and its input reads as it did; on no condition beyond the given statement's own. -/
import Derived.Test.YtejmbmenbailmaaRows
import Derived.WalkKit
import Derived.ProofKit
import Derived.OpenShut
import Derived.Test.YtejmbmenbailmaaT1
import Derived.Test.YtejmbmenbailmaaSharesW
import Derived.Test.YtejmbmenbailmaaTypI
namespace Go.Proofs.Ytejmbmenbailmaa.packShares
open Go.Xs Go.ChangeShapes Go.WideShapes Go.ChangeAt Go.RowKit

theorem walk (a0 : ByteArray) (a1 : ByteArray) (a2 : Int) (w : World)  :
    Calls Try.prog 3 #[.string a0, .string a1, .int .i64 a2] w fun e w' => e = .returned (.bool true) ∧ Stays w w' := (c3 a0 a1 a2 ).alone w

set_option maxRecDepth 100000 in
theorem lifted (os : Os) (started : os.Started) (H : Type) (enc : TypeId × Value → H) :
    ReturnsInHanded {} Try.checked os 3 .any (Rows.packSharesSpec.pre6 enc Try.prog Try.f3 Rows.packSharesRow.domain false) (Rows.packSharesSpec.post enc Try.prog Try.f3 false true false false) := by
  refine returnsInHanded_of_change (C := Try.checked) wideOwn started (by kernel_rfl) Try.func3
    (ChangeSpec.witness6 (enc := enc) (C := Try.checked) false ⟨#[], #[.string ⟨#[]⟩, .string ⟨#[]⟩, .int .i64 0], []⟩ 8 (by kernel_rfl) (by kernel_rfl) (by kernel_rfl) (by kernel_rfl)) ?_
  intro W base args ds gs before hval0 hW hcnd _
  have hval : ∀ (j : Nat) t v, Try.f3.params[j]? = some t → args[j]? = some v → Value.okWide Try.prog W .any base t v := hval0
  have hW' := hW
  obtain ⟨p, q, hA0, hV, rfl, hfz, hnd⟩ := hW
  have hA : DataW.TrodAll enc Try.prog W 0 (fun _ => true) true Try.f3.params.toList args.toList ds p := hA0
  rw [Try.params3] at hA hval
  obtain ⟨v0, vs0, d0, ds0, p0, q0, hargs, rfl, rfl, h0, r0⟩ := trodAll_cons hA
  obtain ⟨v1, vs1, d1, ds1, p1, q1, rfl, rfl, rfl, h1, r1⟩ := trodAll_cons r0
  obtain ⟨v2, vs2, d2, ds2, p2, q2, rfl, rfl, rfl, h2, r2⟩ := trodAll_cons r1
  obtain ⟨rfl, rfl, rfl⟩ := trodAll_nil r2
  obtain rfl : args = #[v0, v1, v2] := by cases args; simp_all
  obtain ⟨rfl, rfl⟩ := trodVars_none hV
  obtain ⟨a0, rfl, rfl, rfl, w0⟩ := Go.ChangeMaps.open_string tyString (hval 0 9 v0 rfl rfl) h0
  obtain ⟨a1, rfl, rfl, rfl, w1⟩ := Go.ChangeMaps.open_string tyString (hval 1 9 v1 rfl rfl) h1
  obtain ⟨a2, rfl, rfl, rfl, w2⟩ := open_int tyInt (hval 2 3 v2 rfl rfl) h2
  clear hA0 hval0
  refine (walk a0 a1 a2 W ).mono fun e W' ⟨he, hg⟩ => ?_
  subst he
  exact ⟨_, rfl, hg.law kids sized (by rw [Try.params3]; exact below (by kernel_rfl)) hW' rfl rfl rfl (fun _ _ _ => (trodAll_cons_mk (shut_bool tyBool _) trodAll_mk0))
    (ok_one (by kernel_rfl) rfl (okWide_bool_mk tyBool _))⟩

theorem f1 : Try.prog.inPlace 3 = ([] : List _) := by kernel_rfl
theorem f2 : Try.prog.unfollowed 3 = true := by kernel_rfl
theorem f3 : Try.prog.recurses 3 = true := by kernel_rfl
theorem f4 : Try.prog.varsNamed 3 = ([] : List _) := by kernel_rfl
theorem closed : joinedFacts Try.prog 3 Try.f3 Rows.packSharesSpec Rows.packSharesRow = true := by
  unfold joinedFacts
  rw [wideLaid, wideMaps, wideStops, wideKnobs, widePlain, wideHeard, wideEnter, wideFinal, wideMake, f1, f2, f3, f4]
  kernel_rfl

theorem over : Rows.packSharesRow.holds Try.pinned (OpenSpec.ofChange Rows.packSharesSpec) :=
  OpenClaim.holds_of_wide 3 Try.f3 rfl rfl rfl rfl rfl rfl rfl ⟨rfl, rfl, rfl, rfl, rfl⟩ rfl rfl rfl rfl rfl (by kernel_rfl) Try.func3 closed
    (of_decide_eq_true (by kernel_rfl)) (by unfold Func.isWrapper; first | (rw [if_pos (by decide +kernel)]; kernel_rfl) | (rw [if_neg (by decide +kernel)]; exact ⟨rfl, rfl⟩))
    (fun os started H enc _ => lifted os started H enc)

theorem proved : Rows.PackSharesSaid :=
  over
#print axioms proved
end Go.Proofs.Ytejmbmenbailmaa.packShares
