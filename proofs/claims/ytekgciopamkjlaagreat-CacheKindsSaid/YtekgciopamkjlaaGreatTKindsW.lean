/- CacheKinds answers true at every input, and its input reads as it did; on no condition beyond the given statement's own. -/
import Derived.Test.YtekgciopamkjlaaGreatRows
import Derived.WalkKit
import Derived.ProofKit
import Derived.OpenShut
import Derived.Test.YtekgciopamkjlaaGreatT1
import Derived.Test.YtekgciopamkjlaaGreatTypT
import Derived.Test.YtekgciopamkjlaaGreatKindsW
namespace Go.Proofs.YtekgciopamkjlaaGreat.cacheKinds
open Go.Xs Go.ChangeShapes Go.WideShapes Go.ChangeAt Go.RowKit
theorem walk(a0:ByteArray)(a1:Int)(a2:Int)(a3:Bool)(w:World):
 Calls Tryz.prog 6 #[.string a0,.int .i64 a1,.int .i64 a2,.bool a3] w fun e w'=>e= .returned (.bool true)∧Stays w w':=(c6 a0 a1 a2 a3).alone w
set_option maxRecDepth 100000 in
theorem lifted(os:Os)(started:os.Started)(H:Type)(enc:TypeId × Value→H):
 ReturnsInHanded {} Tryz.checked os 6 .any (Rows.cacheKindsSpec.pre6 enc Tryz.prog Tryz.f6 Rows.cacheKindsRow.domain false) (Rows.cacheKindsSpec.post enc Tryz.prog Tryz.f6 false true false false):=by
 refine returnsInHanded_of_change (C:=Tryz.checked) wideOwn started (by kernel_rfl) Tryz.func6
  (ChangeSpec.witness6 (enc:=enc) (C:=Tryz.checked) false ⟨#[], #[.string ⟨#[]⟩,.int .i64 0,.int .i64 0,.bool false],[]⟩ 8 (by kernel_rfl) (by kernel_rfl) (by kernel_rfl) (by kernel_rfl)) ?_
 intro W base args ds gs before hval0 hW hcnd _;have hval:∀(j:Nat) t v,Tryz.f6.params[j]?=some t→args[j]?=some v→Value.okWide Tryz.prog W .any base t v:=hval0;have hW':=hW;obtain⟨p,q,hA0,hV,rfl,hfz,hnd⟩:=hW;have hA:DataW.TrodAll enc Tryz.prog W 0 (fun _=>true) true Tryz.f6.params.toList args.toList ds p:=hA0;rw[Tryz.params6] at hA hval;obtain⟨v0,vs0,d0,ds0,p0,q0,hargs,rfl,rfl,h0,r0⟩:=trodAll_cons hA;obtain⟨v1,vs1,d1,ds1,p1,q1,rfl,rfl,rfl,h1,r1⟩:=trodAll_cons r0;obtain⟨v2,vs2,d2,ds2,p2,q2,rfl,rfl,rfl,h2,r2⟩:=trodAll_cons r1;obtain⟨v3,vs3,d3,ds3,p3,q3,rfl,rfl,rfl,h3,r3⟩:=trodAll_cons r2;obtain⟨rfl,rfl,rfl⟩:=trodAll_nil r3;obtain rfl:args= #[v0,v1,v2,v3]:=by cases args; simp_all
 obtain⟨rfl,rfl⟩:=trodVars_none hV;obtain⟨a0,rfl,rfl,rfl,w0⟩:=Go.ChangeMaps.open_string tyString (hval 0 9 v0 rfl rfl) h0;obtain⟨a1,rfl,rfl,rfl,w1⟩:=open_int tyInt (hval 1 3 v1 rfl rfl) h1;obtain⟨a2,rfl,rfl,rfl,w2⟩:=open_int tyInt (hval 2 3 v2 rfl rfl) h2;obtain⟨a3,rfl,rfl,rfl⟩:=open_bool tyBool (hval 3 4 v3 rfl rfl) h3;clear hA0 hval0;refine(walk a0 a1 a2 a3 W).mono fun e W' ⟨he,hg⟩=>?_
 subst he;exact⟨_,rfl,hg.law kids sized (by rw[Tryz.params6]; exact below (by kernel_rfl)) hW' rfl rfl rfl (fun _ _ _=>(trodAll_cons_mk (shut_bool tyBool _) trodAll_mk0))
  (ok_one (by kernel_rfl) rfl (okWide_bool_mk tyBool _))⟩
theorem f1:Tryz.prog.inPlace 6=([]:List _):=by kernel_rfl
theorem f2:Tryz.prog.unfollowed 6=true:=by kernel_rfl
theorem f3:Tryz.prog.recurses 6=true:=by kernel_rfl
theorem f4:Tryz.prog.varsNamed 6=([]:List _):=by kernel_rfl
theorem closed:joinedFacts Tryz.prog 6 Tryz.f6 Rows.cacheKindsSpec Rows.cacheKindsRow=true:=by
 unfold joinedFacts;rw[wideLaid,wideMaps,wideStops,wideKnobs,widePlain,wideHeard,wideEnter,wideFinal,wideMake,f1,f2,f3,f4]
 kernel_rfl
theorem over:Rows.cacheKindsRow.holds Tryz.pinned (OpenSpec.ofChange Rows.cacheKindsSpec):=
 OpenClaim.holds_of_wide 6 Tryz.f6 rfl rfl rfl rfl rfl rfl rfl ⟨rfl,rfl,rfl,rfl,rfl⟩ rfl rfl rfl rfl rfl (by kernel_rfl) Tryz.func6 closed
  (of_decide_eq_true (by kernel_rfl)) (by unfold Func.isWrapper; first | (rw[if_pos (by decide+kernel)]; kernel_rfl) | (rw[if_neg (by decide+kernel)]; exact⟨rfl,rfl⟩))
  (fun os started H enc _=>lifted os started H enc)
theorem proved:Rows.CacheKindsSaid:=
 over
#print axioms proved
end Go.Proofs.YtekgciopamkjlaaGreat.cacheKinds