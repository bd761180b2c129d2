/- PackActs answers true at every input, and its input reads as it did; on no condition beyond the given statement's own. -/
import Derived.Test.YtekgciopamkjlaaGreatRows
import Derived.WalkKit
import Derived.ProofKit
import Derived.OpenShut
import Derived.Test.YtekgciopamkjlaaGreatT1
import Derived.Test.YtekgciopamkjlaaGreatTypA
import Derived.Test.YtekgciopamkjlaaGreatTypS
import Derived.Test.YtekgciopamkjlaaGreatActsSW
namespace Go.Proofs.YtekgciopamkjlaaGreat.packActs
open Go.Xs Go.ChangeShapes Go.WideShapes Go.ChangeAt Go.RowKit
theorem walk(a0:Int)(a1:Value)(a2:Value)(w:World){l1:List SH}(s1:Src (heapS w) a1 l1)(m1:l1.length≤maxLen)(q1:∀a∈l1,InSet w a){l2:List Int}(s2:Src (heapS w) a2 l2)(m2:l2.length≤maxLen)(q2:∀a∈l2,InI a):
 Calls Tryz.prog 3 #[.int .i64 a0,a1,a2] w fun e w'=>e= .returned (.bool true)∧Stays w w':=Tri.whole (c3 a0 s1 m1 q1 s2 m2 q2)
set_option maxRecDepth 100000 in
theorem lifted(os:Os)(started:os.Started)(H:Type)(enc:TypeId × Value→H):
 ReturnsInHanded {} Tryz.checked os 3 .any (Rows.packActsSpec.pre6 enc Tryz.prog Tryz.f3 Rows.packActsRow.domain false) (Rows.packActsSpec.post enc Tryz.prog Tryz.f3 false true false false):=by
 refine returnsInHanded_of_change (C:=Tryz.checked) wideOwn started (by kernel_rfl) Tryz.func3
  (ChangeSpec.witness6 (enc:=enc) (C:=Tryz.checked) false ⟨#[], #[.int .i64 0,.slice none 0 0,.slice none 0 0],[]⟩ 8 (by kernel_rfl) (by kernel_rfl) (by kernel_rfl) (by kernel_rfl)) ?_
 intro W base args ds gs before hval0 hW hcnd _;have hval:∀(j:Nat) t v,Tryz.f3.params[j]?=some t→args[j]?=some v→Value.okWide Tryz.prog W .any base t v:=hval0;have hW':=hW;obtain⟨p,q,hA0,hV,rfl,hfz,hnd⟩:=hW;have hA:DataW.TrodAll enc Tryz.prog W 0 (fun _=>true) true Tryz.f3.params.toList args.toList ds p:=hA0;rw[Tryz.params3] at hA hval;obtain⟨v0,vs0,d0,ds0,p0,q0,hargs,rfl,rfl,h0,r0⟩:=trodAll_cons hA;obtain⟨v1,vs1,d1,ds1,p1,q1,rfl,rfl,rfl,h1,r1⟩:=trodAll_cons r0;obtain⟨v2,vs2,d2,ds2,p2,q2,rfl,rfl,rfl,h2,r2⟩:=trodAll_cons r1;obtain⟨rfl,rfl,rfl⟩:=trodAll_nil r2;obtain rfl:args= #[v0,v1,v2]:=by cases args; simp_all
 obtain⟨rfl,rfl⟩:=trodVars_none hV;obtain⟨a0,rfl,rfl,rfl,w0⟩:=open_int tyInt (hval 0 3 v0 rfl rfl) h0;obtain⟨l1,s1,m1,b1⟩:=open_sets (hval 1 22 v1 rfl rfl) h1;obtain⟨l2,s2,m2,b2⟩:=open_ints' (hval 2 23 v2 rfl rfl) h2;clear hA0 hval0;refine(walk a0 v1 v2 W s1 m1 b1 s2 m2 b2).mono fun e W' ⟨he,hg⟩=>?_
 subst he;exact⟨_,rfl,hg.law kids sized (by rw[Tryz.params3]; exact below (by kernel_rfl)) hW' rfl rfl rfl (fun _ _ _=>(trodAll_cons_mk (shut_bool tyBool _) trodAll_mk0))
  (ok_one (by kernel_rfl) rfl (okWide_bool_mk tyBool _))⟩
theorem f1:Tryz.prog.inPlace 3=([]:List _):=by kernel_rfl
theorem f2:Tryz.prog.unfollowed 3=true:=by kernel_rfl
theorem f3:Tryz.prog.recurses 3=true:=by kernel_rfl
theorem f4:Tryz.prog.varsNamed 3=([]:List _):=by kernel_rfl
theorem closed:joinedFacts Tryz.prog 3 Tryz.f3 Rows.packActsSpec Rows.packActsRow=true:=by
 unfold joinedFacts;rw[wideLaid,wideMaps,wideStops,wideKnobs,widePlain,wideHeard,wideEnter,wideFinal,wideMake,f1,f2,f3,f4]
 kernel_rfl
theorem over:Rows.packActsRow.holds Tryz.pinned (OpenSpec.ofChange Rows.packActsSpec):=
 OpenClaim.holds_of_wide 3 Tryz.f3 rfl rfl rfl rfl rfl rfl rfl ⟨rfl,rfl,rfl,rfl,rfl⟩ rfl rfl rfl rfl rfl (by kernel_rfl) Tryz.func3 closed
  (of_decide_eq_true (by kernel_rfl)) (by unfold Func.isWrapper; first | (rw[if_pos (by decide+kernel)]; kernel_rfl) | (rw[if_neg (by decide+kernel)]; exact⟨rfl,rfl⟩))
  (fun os started H enc _=>lifted os started H enc)
theorem proved:Rows.PackActsSaid:=
 over
#print axioms proved
end Go.Proofs.YtekgciopamkjlaaGreat.packActs