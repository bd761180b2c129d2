/- The types of PackActs' arguments: sets, each with records. -/
import Derived.Test.YtekgciopamkjlaaGreatTypA
import Derived.Test.YtekgciopamkjlaaGreatT1
import Derived.Test.YtekgciopamkjlaaGreatSetH
namespace Go.Proofs.YtekgciopamkjlaaGreat
open Go.Xs Go.ChangeShapes Go.WideShapes
variable {H:Type} {en:TypeId × Value→H} {W:World} {sp:Nat→Bool}
theorem uR:Tryz.prog.underlying 9=some .string:=by kernel_rfl
theorem xI:Tryz.prog.cellsOf 9=1:=by kernel_rfl
theorem Ag:Tryz.prog.underlying 89=some (.struct (fieldsOf 89)):=by kernel_rfl
theorem sM:Tryz.prog.cellsOf 89=5:=by kernel_rfl
theorem Cc:((fieldsOf 89).toList.map fun f=>(f.type,f.offset))=[(9,0),(3,1),(3,2),(3,3),(9,4)]:=by kernel_rfl
theorem mX:Tryz.prog.underlying 44=some (.slice 89):=by kernel_rfl
theorem sK:Tryz.prog.cellsOf 44=1:=by kernel_rfl
theorem mY:Tryz.prog.underlying 43=some (.struct (fieldsOf 43)):=by kernel_rfl
theorem sN:Tryz.prog.cellsOf 43=2:=by kernel_rfl
theorem sG:((fieldsOf 43).toList.map fun f=>(f.type,f.offset))=[(9,0),(3,1)]:=by kernel_rfl
theorem mW:Tryz.prog.underlying 46=some (.struct (fieldsOf 46)):=by kernel_rfl
theorem fK:Tryz.prog.cellsOf 46=5:=by kernel_rfl
theorem sF:((fieldsOf 46).toList.map fun f=>(f.type,f.offset))=[(43,0),(44,2),(3,3),(9,4)]:=by kernel_rfl
theorem Qo:Tryz.prog.underlying 22=some (.slice 46):=by kernel_rfl
set_option maxRecDepth 100000 in
theorem Cg:∀(n:Nat) (cs:List Value) (x:DataW H × List MemPlace),DataW.trod en Tryz.prog W 0 sp true n 89 cs=some x→∃a:RR,cs=Enc.enc a∧True:=by
 intro n cs x h;obtain⟨hl,hf⟩:=field Ag Cc h;rw[sM] at hl;obtain⟨m0,y0,h0⟩:=hf 0 _ _ rfl;obtain⟨m1,y1,h1⟩:=hf 1 _ _ rfl;obtain⟨m2,y2,h2⟩:=hf 2 _ _ rfl;obtain⟨m3,y3,h3⟩:=hf 3 _ _ rfl;obtain⟨m4,y4,h4⟩:=hf 4 _ _ rfl;rw[xI] at h0 h4;rw[JL] at h1 h2 h3;obtain⟨z0,e0,_,_⟩:=DataW.trod_string uR h0;obtain⟨z1,e1,_,_⟩:=DataW.trod_int tyInt h1;obtain⟨z2,e2,_,_⟩:=DataW.trod_int tyInt h2;obtain⟨z3,e3,_,_⟩:=DataW.trod_int tyInt h3;obtain⟨z4,e4,_,_⟩:=DataW.trod_string uR h4
 match cs,hl with
 | [c0,c1,c2,c3,c4],_=>
  simp at e0 e1 e2 e3 e4;subst e0 e1 e2 e3 e4;exact⟨⟨sU z0,z1,z2,z3,sU z4⟩,rfl,trivial⟩
def InSet(W:World)(x:SH):Prop:=Src (heapS W) x.v x.s.rrs∧x.s.rrs.length≤maxLen
set_option maxRecDepth 100000 in
theorem sH:∀(n:Nat) (cs:List Value) (x:DataW H × List MemPlace),DataW.trod en Tryz.prog W 0 sp true n 46 cs=some x→∃a:SH,cs=Enc.enc a∧InSet W a:=by
 intro n cs x h;obtain⟨hl,hf⟩:=field mW sF h;rw[fK] at hl;obtain⟨m0,y0,h0⟩:=hf 0 _ _ rfl;obtain⟨m1,y1,h1⟩:=hf 1 _ _ rfl;obtain⟨m2,y2,h2⟩:=hf 2 _ _ rfl;obtain⟨m3,y3,h3⟩:=hf 3 _ _ rfl;rw[sN] at h0;rw[sK] at h1;rw[JL] at h2;rw[xI] at h3;obtain⟨hkl,hkf⟩:=field mY sG h0;obtain⟨m4,y4,h4⟩:=hkf 0 _ _ rfl;obtain⟨m5,y5,h5⟩:=hkf 1 _ _ rfl;rw[xI] at h4;rw[JL] at h5;obtain⟨z4,e4,_,_⟩:=DataW.trod_string uR h4;obtain⟨z5,e5,_,_⟩:=DataW.trod_int tyInt h5;obtain⟨z2,e2,_,_⟩:=DataW.trod_int tyInt h2;obtain⟨z3,e3,_,_⟩:=DataW.trod_string uR h3;obtain⟨a,c,L,hL,hs,hm,_⟩:=nested (α:=RR) mX sM (by decide) Cg h1
 match cs,hl with
 | [c0,c1,c2,c3,c4],_=>
  simp at e2 e3 e4 e5 hL;subst e2 e3 e4 e5 hL;exact⟨⟨⟨sU z4,z5,z2,sU z3,L⟩,a,c⟩,rfl,hs,hm⟩
set_option maxRecDepth 100000 in
theorem open_sets{v:Value}{d:DataW H}{ps:List MemPlace}{base:Nat}(hv:Value.okWide Tryz.prog W .any base 22 v)(h:DataW.Trod en Tryz.prog W 0 sp true 22 v d ps):∃L:List SH,Src (heapS W) v L∧L.length≤maxLen∧∀a∈L,InSet W a:=
 XK (α:=SH) Qo fK (show 0<5 by decide) sH (okWide_slice Qo hv) h
end Go.Proofs.YtekgciopamkjlaaGreat