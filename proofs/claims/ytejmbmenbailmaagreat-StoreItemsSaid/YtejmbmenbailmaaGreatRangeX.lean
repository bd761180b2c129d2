/- Ranges over functions that hand memory over with what they bring, and give back what they own. -/
import Derived.Test.YtejmbmenbailmaaGreatB2
namespace Go.Xs
open Enc (enc)
variable {P:Program} {n:Nat}
/-- .. X comes with x; own comes back as O -/
def sO(P:Program)(f:FuncId)(first caps:Array Value)(own S:zu)(V:List (Array Value)→Array Value→zu→Prop)(dn ex:List (Array Value)→zu→Prop):Prop:=
 ∀(l:Nat) (c:Chunk) (J Jx:List (Array Value)→zu→Prop),J [] ([c]::S)→
  (∀pre x X T,V pre x X→J pre T→qV P l x (X++T) (fun b T'=>(b=true∧J (pre++[x]) T')∨(b=false∧Jx (pre++[x]) T')))→
  Tri P f (first++ #[.func (.yield l) #[] #[]]++caps) ([c]::(own++S)) (fun _ S'=>(∃xs O S1,S'=O++S1∧dn xs O∧J xs S1)∨(∃pre O S1,S'=O++S1∧ex pre O∧Jx pre S1))
variable {Q:Exit→Env→zu→Prop} {E:Env} {S:zu}
theorem mg{g:Operand}{ps:List Tmp}{xa xb:zC}{f:FuncId}{first caps:Array Value}{V:List (Array Value)→Array Value→zu→Prop}{dn ex:List (Array Value)→zu→Prop}{own S0 G0:zu}[hsub:Sub S0 (own++S) G0]
 (J:List (Array Value)→zu→Prop) (Jx:Exit→List (Array Value)→zu→Prop)
 (hg:ev E g= .func (.func f) first caps) (hps:ps.all (fun t=>Nat.blt t n)=true) (hit:sO P f first caps own S V dn ex) (hJ0:J [] S)
 (hV:∀pre x X,V pre x X→x.size=ps.length)
 (hround:∀l pre x X T,V pre x X→J pre T→Y P (some l) n xa (Vt (fun E1 S1=>Y P (some l) n xb (yG J Jx (pre++[x])) E1 S1) (fun _ _ _=>False)) (Uv ps x.toList E) (X++T))
 (hdone:∀xs O S',dn xs O→J xs S'→Q .normal E (O++S'))
 (hstop:∀e pre O S',(UF e).isSome=true→ex pre O→Jx e pre S'→Q e E (O++S')):Y P none n (.range g ps xa xb) Q E S0:=by
 refine zn (S0:=own++S) ⟨_,hsub.perm⟩ ?_;intro c hc;obtain⟨c1,c2,rfl,h1,h2⟩:=(wX hc).2.2.2.2.1 g ps xa xb rfl;intro D F a w hs;refine wpIn_rangeFunc fun fn _=>?_
 have hga:a.eval g= .func (.func f) first caps:=by rw[wo,hs.env]; exact hg
 let rc:Loop:={state:= .ready,pending:=none,fn,tmps:=a.tmps,params:=ps.toArray,assign:=c1,body:=c2,defers:=w.heap.size}
 let w1:World:=(w.alloc (.deferred (some []))).alloc (.loop rc)
 let l:Nat:=w.heap.size+1
 have hsat1:Sat (([(l,Obj.loop rc)]::(own++S))++(Wj (w.heap.size::D)::F)) w1:=by
  have a1:=Sat.new (.deferred (some [])) hs.sat;have a2:=Sat.new (.loop rc) a1;have e1:({({w with heap:=w.heap.push (.deferred (some []))}:World) with heap:=(w.heap.push (.deferred (some []))).push (.loop rc)}:World)=w1:=rfl;rw[e1] at a2;refine Zp.perm (show Zp _ w1 from a2) ?_;simp only[Wj,List.map_cons,List.flatten_append,List.flatten_cons,List.cons_append,List.nil_append,Array.size_push];refine List.Perm.cons _ ?_;exact List.perm_middle.symm
 have hx1:Ext w w1:=(Ext.push w _).trans (Ext.push _ _)
 let JI:List (Array Value)→zu→Prop:=fun pre S'=>∃T,S'=[(l,.loop rc)]::T∧J pre T
 let JX:List (Array Value)→zu→Prop:=fun pre S'=>∃e cd T,UF e=some cd∧S'=[(l,.loop {rc with state:= .done,pending:=some cd})]::T∧Jx e pre T
 have hpsn:∀t∈ps,t<n:=fun t ht=>by have:=List.all_eq_true.1 hps t ht; simpa[Nat.blt_eq] using this
 have hcall:=hit l (l,.loop rc) JI JX ⟨S,rfl,hJ0⟩ (by
  rintro pre x X T hv ⟨T0,rfl,hj⟩;have henv:vX {tmps:=a.tmps,defers:=[]}=E:=hs.env;have:=dh (P:=P) (n:=n) (l:=l) (rc:=rc) (x:=x) (S:=X++T0) (xa:=xa) (xb:=xb) (J:=J) (Jx:=Jx) (pre:=pre) rfl rfl hs.size (by simpa[rc] using hpsn) (by rw[hV pre x X hv]; simp[rc]) h1 h2
   (by have h0:=hround l pre x X T0 hv hj; simp only[rc,henv]; exact h0)
  refine(this.mono ?_).perm (by simp);rintro b S' (⟨hb,T,e,hj'⟩ | ⟨hb,e,cd,T,he,e2,hj'⟩)
  ·exact .inl ⟨hb,T,e,hj'⟩
  ·exact .inr ⟨hb,e,cd,T,he,e2,hj'⟩)
 refine⟨l,[{target:= .collected w.heap.size,args:= #[]}],w1,{target:= .fn (.func f) caps,args:=first++ #[.func (.yield l) #[] #[]]},w1,f,first++ #[.func (.yield l) #[] #[]]++caps,w1,?_,?_,?_,?_,?_,?_⟩
 ·rw[Yu]; exact run_enterLoop_outer fn a.tmps ps.toArray c1 c2
 ·have hm:Array.map a.eval #[Operand.const (Value.func (Fn.yield l) #[] #[])]= #[Value.func (Fn.yield l) #[] #[]]:=by simp[Act.eval]
  simp only[resolve,hga,Deferred.ofValue,hm];rfl
 ·intro f' _; trivial
 ·simp only[invoke]; exact uJ hcall.ent _ w1
 ·intro h; cases h
 ·refine uI.2 ((hcall.run (Wj (w.heap.size::D)::F) w1 hsat1).mono ?_);rintro e w3 ⟨hx3,v,S',rfl,hsat3,hq⟩;have fin:∀(o:Loop) (O T:zu),S'=O++([(l,.loop o)]::T)→o.state≠ .busy→∃w4,(Instr.endLoop l).run P w3= .ok o.pending w4∧Ext w w4∧
   St n (w.heap.size::D) F E (O++T) {a with defers:=[{target:= .collected w.heap.size,args:= #[]}]++a.defers} w4:=by
   intro o O T hS ho;subst hS;have hsat3:Sat (([(l,Obj.loop o)]::(O++T))++(Wj (w.heap.size::D)::F)) w3:=hsat3.VP (by simp);have hl3:w3.heap[l]?=some (.loop o):=hsat3.at_ (s:=[(l,.loop o)]) (by simp) (x:=(l,.loop o)) (by simp);refine⟨_,run_endLoop hl3 ho,(hx1.trans hx3).trans (Ext.putObj _ _ _),hs.size,hs.env,by simp[KS,hs.defers],?_⟩;have:=Vi (o':= .loop {o with state:= .exhausted}) hsat3;exact Zp.sub (show Zp _ _ from this) (by simp)
  rcases hq with⟨xs,O,S1,hS1,hdn,T,hS,hj⟩ | ⟨pre,O,S1,hS1,hxo,ex,cd,T,hex,hS,hj⟩
  ·obtain⟨w4,hr,hx4,hst4⟩:=fin rc O T (by rw[hS1,hS]) (by simp[rc]);exact⟨_,w4,hr,hx4,_,E,O++T,hst4,hdone xs O T hdn hj⟩
  ·obtain⟨w4,hr,hx4,hst4⟩:=fin _ O T (by rw[hS1,hS]) (by simp);refine⟨_,w4,hr,?_⟩;have hQ:=hstop ex pre O T (by rw[hex]; rfl) hxo hj;cases ex<;>simp only[UF,Option.some.injEq,reduceCtorEq] at hex<;>subst hex
   ·exact wpIn_exit ⟨hx4,_,E,O++T,hst4,hQ⟩
   ·exact wpIn_goto ⟨hx4,_,E,O++T,hst4,hQ⟩
   ·exact wpIn_ret ⟨hx4,_,E,O++T,hst4,hQ⟩
end Go.Xs