/- CacheAddrs answers true at every input, and its input reads as it did; on no condition beyond the given statement's own. -/
import Derived.Test.YtekgciopamkjlaaGreatRows
import Derived.WalkKit
import Derived.ProofKit
import Derived.OpenShut
import Derived.Test.YtekgciopamkjlaaGreatT1
import Derived.Test.YtekgciopamkjlaaGreatTypA
import Derived.Test.YtekgciopamkjlaaGreatAddrsW
namespace Go.Proofs.YtekgciopamkjlaaGreat.cacheAddrs
open Go.Xs Go.ChangeShapes Go.WideShapes Go.ChangeAt Go.RowKit
theorem walk(a0:Value)(w:World){l0:List Int}(s0:Src (heapS w) a0 l0)(m0:l0.length≤maxLen)(q0:∀a∈l0,InI a):
 Calls Tryz.prog 7 #[a0] w fun e w'=>e= .returned (.bool true)∧Stays w w':=Tri.whole (c7 s0 m0 q0)
set_option maxRecDepth 100000 in
theorem lifted(os:Os)(started:os.Started)(H:Type)(enc:TypeId × Value→H):
 ReturnsInHanded {} Tryz.checked os 7 .any (Rows.cacheAddrsSpec.pre6 enc Tryz.prog Tryz.f7 Rows.cacheAddrsRow.domain false) (Rows.cacheAddrsSpec.post enc Tryz.prog Tryz.f7 false true false false):=by
 refine returnsInHanded_of_change (C:=Tryz.checked) wideOwn started (by kernel_rfl) Tryz.func7
  (ChangeSpec.witness6 (enc:=enc) (C:=Tryz.checked) false ⟨#[], #[.slice none 0 0],[]⟩ 8 (by kernel_rfl) (by kernel_rfl) (by kernel_rfl) (by kernel_rfl)) ?_
 intro W base args ds gs before hval0 hW hcnd _;have hval:∀(j:Nat) t v,Tryz.f7.params[j]?=some t→args[j]?=some v→Value.okWide Tryz.prog W .any base t v:=hval0;have hW':=hW;obtain⟨p,q,hA0,hV,rfl,hfz,hnd⟩:=hW;have hA:DataW.TrodAll enc Tryz.prog W 0 (fun _=>true) true Tryz.f7.params.toList args.toList ds p:=hA0;rw[Tryz.params7] at hA hval;obtain⟨v0,vs0,d0,ds0,p0,q0,hargs,rfl,rfl,h0,r0⟩:=trodAll_cons hA;obtain⟨rfl,rfl,rfl⟩:=trodAll_nil r0;obtain rfl:args= #[v0]:=by cases args; simp_all
 obtain⟨rfl,rfl⟩:=trodVars_none hV;obtain⟨l0,s0,m0,b0⟩:=open_ints' (hval 0 23 v0 rfl rfl) h0;clear hA0 hval0;refine(walk v0 W s0 m0 b0).mono fun e W' ⟨he,hg⟩=>?_
 subst he;exact⟨_,rfl,hg.law kids sized (by rw[Tryz.params7]; exact below (by kernel_rfl)) hW' rfl rfl rfl (fun _ _ _=>(trodAll_cons_mk (shut_bool tyBool _) trodAll_mk0))
  (ok_one (by kernel_rfl) rfl (okWide_bool_mk tyBool _))⟩
theorem f1:Tryz.prog.inPlace 7=([]:List _):=by kernel_rfl
theorem f2:Tryz.prog.unfollowed 7=true:=by kernel_rfl
theorem f3:Tryz.prog.recurses 7=true:=by kernel_rfl
theorem f4:Tryz.prog.varsNamed 7=([]:List _):=by kernel_rfl
theorem closed:joinedFacts Tryz.prog 7 Tryz.f7 Rows.cacheAddrsSpec Rows.cacheAddrsRow=true:=by
 unfold joinedFacts;rw[wideLaid,wideMaps,wideStops,wideKnobs,widePlain,wideHeard,wideEnter,wideFinal,wideMake,f1,f2,f3,f4]
 kernel_rfl
theorem over:Rows.cacheAddrsRow.holds Tryz.pinned (OpenSpec.ofChange Rows.cacheAddrsSpec):=
 OpenClaim.holds_of_wide 7 Tryz.f7 rfl rfl rfl rfl rfl rfl rfl ⟨rfl,rfl,rfl,rfl,rfl⟩ rfl rfl rfl rfl rfl (by kernel_rfl) Tryz.func7 closed
  (of_decide_eq_true (by kernel_rfl)) (by unfold Func.isWrapper; first | (rw[if_pos (by decide+kernel)]; kernel_rfl) | (rw[if_neg (by decide+kernel)]; exact⟨rfl,rfl⟩))
  (fun os started H enc _=>lifted os started H enc)
theorem proved:Rows.CacheAddrsSaid:=
 over
#print axioms proved
end Go.Proofs.YtekgciopamkjlaaGreat.cacheAddrs