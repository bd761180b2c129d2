/- Ranges over maps: whichever entry comes next, each comes once. -/
import Derived.Test.YtejmbmenbailmaaGreatB3
namespace Go.Xs
open Enc (enc)
open Go.MapKept Key Vv
variable {P:Program} {r:Option Nat} {n:Nat} {K:Env→zu→Prop} {E:Env} {S G:zu} {d:Option Tmp} {κ ν:Type} [Key κ] [Vv ν]
/-- a range over a map at work: D came -/
def Mi(b ib:Nat)(f:κ→Option ν)(m:Nat)(D:List κ)(H:List Chunk):Prop:=
 ∃(es:Array MapEntry) (clock:Nat) (seen:Array Nat) (F:List MapEntry),H=[(b,.map es clock),(ib,.mapIter (some b) clock seen clock)]∧jc es.toList clock f m∧F.map (·.key)=D.map kv∧F.map (·.born)=seen.toList∧∀e∈F,e∈es.toList
theorem mh{t ty0 kt et:TypeId}{x:Operand}{b m:Nat}{f:κ→Option ν}{H:List Chunk}[hp:Pick S H G](hM:Mp b f m H)(ht:P.underlying t=some (.map kt et))(hx:ev E x= .map (some b))
 (h:∀ib H',Mi b ib f m [] H'→K (Zf d (.pointer (some ⟨ib,0,none⟩)) E) (H'::G)):YO P r n d (.raw (.range t x) ty0) K E S:=by
 obtain⟨es,clock,rfl,hE⟩:=hM;intro op ty pos af g hc hd;obtain⟨rfl,rfl⟩:=Zl hc;refine Vh (by simp) hd fun F w hs=>?_
 have hs1:Sat ((([(b,.map es clock)]:List Chunk)::G)++F) w:=hs.VP (by simpa using hp.perm);have hb:w.heap[b]?=some (.map es clock):=Sat.at_ hs1 (s:=[(b,.map es clock)]) (by simp) (List.mem_singleton.2 rfl);have hs2:=Sat.new (.mapIter (some b) clock #[] clock) hs1;refine⟨.pointer (some ⟨w.heap.size,0,none⟩),{w with heap:=w.heap.push (.mapIter (some b) clock #[] clock)},[(b,.map es clock),(w.heap.size,.mapIter (some b) clock #[] clock)]::G,?_,Ext.push w (.mapIter (some b) clock #[] clock),?_,h w.heap.size _ ⟨es,clock, #[],[],rfl,hE,rfl,rfl,fun e he=>by cases he⟩⟩
 ·simp only[execOp,Instr.range,hx,Sem.run_bind,run_underlying ht,Go.MapKept.run_getObj_map hb,newObj,pure,Sem.run,Result.andThen]
 ·refine Sat.VP (S:=[(w.heap.size,.mapIter (some b) clock #[] clock)]::[(b,.map es clock)]::G) hs2 ?_;exact List.Perm.swap _ _ _
theorem sZ{ty0:TypeId}{x:Operand}{b ib m:Nat}{f:κ→Option ν}{D:List κ}{H:List Chunk}[hp:Pick S H G](hM:Mi b ib f m D H)(hx:ev E x= .pointer (some ⟨ib,0,none⟩))
 (h0:(∀k v,f k=some v→k∈D)→K (Zf d (.tuple #[.bool false]) E) (H::G))
 (h1:∀k v H',f k=some v→k ∉ D→Mi b ib f m (D++[k]) H'→K (Zf d (.tuple #[.bool true,kv k,vv v]) E) (H'::G)):YO P r n d (.raw (.next x false) ty0) K E S:=by
 obtain⟨es,clock,seen,F0,rfl,hE,hF1,hF2,hF3⟩:=hM;intro op ty pos af g hc hd;obtain⟨rfl,rfl⟩:=Zl hc;refine Vh (by simp) hd fun F w hs=>?_
 have hs1:Sat ((([(b,.map es clock),(ib,.mapIter (some b) clock seen clock)]:List Chunk)::G)++F) w:=hs.VP (by simpa using hp.perm);have hb:w.heap[b]?=some (.map es clock):=Sat.at_ hs1 (s:=[(b,.map es clock),(ib,.mapIter (some b) clock seen clock)]) (x:=(b,.map es clock)) (by simp) (by simp);have hi:w.heap[ib]?=some (.mapIter (some b) clock seen clock):=Sat.at_ hs1 (s:=[(b,.map es clock),(ib,.mapIter (some b) clock seen clock)]) (x:=(ib,.mapIter (some b) clock seen clock)) (by simp) (by simp);have hold:∀y∈es.toList,y.born<clock:=hE.bd;have hseen:∀y,(seen.contains y=true)↔y∈F0.map (·.born):=fun y=>by rw[hF2]; simp
 have e0:=next_test_false seen es clock clock hold (Nat.le_refl _);have huniq:∀a∈es.toList,∀c∈es.toList,a.born=c.born→a=c:=fun a ha c hc h=>by
  obtain⟨i,hi⟩:=List.mem_iff_getElem?.1 ha;obtain⟨j,hj⟩:=List.mem_iff_getElem?.1 hc;have a1:(es.toList.map (·.born))[i]?=some a.born:=by rw[List.getElem?_map,hi]; rfl
  have a2:(es.toList.map (·.born))[j]?=some a.born:=by rw[List.getElem?_map,hj,h]; rfl
  have:=(List.getElem?_inj (List.getElem?_eq_some_iff.1 a1).1 hE.bn).1 (a1.trans a2.symm);rw[←this,hi] at hj;exact Option.some.inj hj
 have hkuniq:∀a∈es.toList,∀c∈es.toList,a.key=c.key→a=c:=fun a ha c hc h=>by
  obtain⟨i,hi⟩:=List.mem_iff_getElem?.1 ha;obtain⟨j,hj⟩:=List.mem_iff_getElem?.1 hc;have a1:(es.toList.map (·.key))[i]?=some a.key:=by rw[List.getElem?_map,hi]; rfl
  have a2:(es.toList.map (·.key))[j]?=some a.key:=by rw[List.getElem?_map,hj,h]; rfl
  have:=(List.getElem?_inj (List.getElem?_eq_some_iff.1 a1).1 hE.nd).1 (a1.trans a2.symm);rw[←this,hi] at hj;exact Option.some.inj hj
 have hleft:∀y,y∈(leftOf es seen).toList↔y∈es.toList∧y.born ∉ F0.map (·.born):=fun y=>by
  unfold leftOf;rw[Array.toList_filter,List.mem_filter];constructor
  ·rintro⟨h1,h2⟩;refine⟨h1,fun hm=>?_⟩;rw[(hseen _).2 hm] at h2; cases h2
  ·rintro⟨h1,h2⟩;refine⟨h1,?_⟩;cases hc:seen.contains y.born with
   | false=>rfl
   | true=>exact absurd ((hseen _).1 hc) h2
 generalize hL:leftOf es seen=L at hleft;have hmem:∀y∈L.toList,y.born<clock:=fun y hy=>hold y ((hleft y).1 hy).1
 have e1:L.filter (fun y=>decide (y.born<clock))=L:=Array.filter_eq_self.2 (fun y hy=>by simpa using hmem y (by simpa using hy));have e2:L.filter (fun y=>decide (y.born≥clock))= #[]:=by
  rw[Array.filter_eq_empty_iff];intro y hy;have:=hmem y (by simpa using hy);simp;omega
 have hL':Array.filter (fun e=> !seen.contains e.born) es=L:=hL;by_cases hz:L.size=0
 ·have hLe:L= #[]:=Array.eq_empty_of_size_eq_zero hz;subst hLe;refine⟨.tuple #[.bool false],w,_,?_,Ext.refl w,hs1,h0 fun k v hk=>?_⟩
  ·simp only[execOp,Instr.next,hx,getObj,Sem.run_bind,Sem.run,hi,hb,Result.andThen,e0,Bool.false_eq_true,if_false,hL',e1,e2];simp[choose,Sem.run,Question.forced]
  ·obtain⟨e,he,hek⟩:=hE.all k v hk;by_cases hm:e.born∈F0.map (·.born)
   ·obtain⟨e',he',hb'⟩:=List.mem_map.1 hm;have:=huniq e' (hF3 e' he') e he hb';subst this;have h3:e'.key∈F0.map (·.key):=List.mem_map.2 ⟨e',he',rfl⟩;rw[hF1,hek] at h3;obtain⟨k',hk',e3⟩:=List.mem_map.1 h3;rw[←Key.inj _ _ e3]; exact hk'
   ·have:=(hleft e).2 ⟨he,hm⟩;simp at this
 ·have hne:L.isEmpty=false:=by simp[Array.isEmpty,hz]
  have hch:∃(j:Nat) (w1:World),j<L.size∧w1.heap=w.heap∧Ext w w1∧(choose (Question.mapNext L.size)).run P w= .ok j w1:=by
   by_cases hf:L.size≤1
   ·exact⟨0,w,by omega,rfl,Ext.refl w,by simp[choose,Sem.run,Question.forced,hf]⟩
   ·exact⟨_,{w with drawn:=w.drawn+1},Nat.mod_lt _ (by omega),rfl,⟨rfl,rfl,rfl,Nat.le_refl _⟩,by
     simp only[choose,Sem.run,Question.forced,decide_eq_true_eq,hf,if_false,Question.cut];rfl⟩
  obtain⟨j,w1,hj,hw1,hx1,hrun⟩:=hch;have hs3:Sat ((([(ib,.mapIter (some b) clock seen clock)]:List Chunk)::[(b,.map es clock)]::G)++F) w1:=by
   have:Sat ((([(ib,.mapIter (some b) clock seen clock)]:List Chunk)::[(b,.map es clock)]::G)++F) w:=hs1.VP (List.Perm.swap _ _ _);exact⟨Zp.nodup this,fun y hy=>by rw[hw1]; exact Zp.at_ this y hy⟩
  obtain⟨_,hs4,hx4⟩:=wT (b:=ib) (o:= .mapIter (some b) clock seen clock) (o':= .mapIter (some b) clock (seen.push L[j].born) clock) hs3;have hi1:w1.heap[ib]?=some (.mapIter (some b) clock seen clock):=by rw[hw1]; exact hi
  have hjm:L[j]∈L.toList:=by simp
  generalize hee:L[j]=e at*
  obtain⟨hem,hen⟩:=(hleft e).1 hjm;obtain⟨k,v,g1,g2,g3⟩:=hE.ent e hem;refine⟨.tuple #[.bool true,kv k,vv v],_,[(b,.map es clock),(ib,.mapIter (some b) clock (seen.push e.born) clock)]::G,?_,hx1.trans hx4,?_,h1 k v _ g3 (fun hkD=>hen ?_) ⟨es,clock,_,F0++[e],rfl,hE,?_,?_,?_⟩⟩
  ·simp only[execOp,Instr.next,hx,getObj,Sem.run_bind,Sem.run,hi,hb,Result.andThen,e0,Bool.false_eq_true,if_false,hL',e1,e2,Array.append_empty,hne,Array.empty_append,Array.size_map];simp only[hrun,Array.getElem?_map,Array.getElem?_eq_getElem hj,Option.map_some,Sem.run_bind,setObj,Sem.run,hi1,Result.andThen,hee,g1,g2];rfl
  ·exact Sat.VP (S:=[(ib,.mapIter (some b) clock (seen.push e.born) clock)]::[(b,.map es clock)]::G) hs4 (List.Perm.swap _ _ _)
  ·have:kv k∈F0.map (·.key):=by rw[hF1]; exact List.mem_map.2 ⟨k,hkD,rfl⟩
   obtain⟨e',he',hk'⟩:=List.mem_map.1 this;have:=hkuniq e' (hF3 e' he') e hem (hk'.trans g1.symm);rw[←this];exact List.mem_map.2 ⟨e',he',rfl⟩
  ·rw[List.map_append,hF1,List.map_append,List.map_singleton,g1,List.map_singleton]
  ·rw[List.map_append,hF2,Array.toList_push,List.map_singleton]
  ·intro y hy;rcases List.mem_append.1 hy with hy | hy
   ·exact hF3 y hy
   ·rw[List.mem_singleton.1 hy]; exact hem
theorem mo{ty0:TypeId}{x:Operand}{b ib m:Nat}{f:κ→Option ν}{D:List κ}{k:κ}{v:ν}{H:List Chunk}(hM:Mi b ib f m (D++[k]) H)(hm:H∈S)(hk:f k=some v)(hx:ev E x= .pointer (some ⟨ib,0,none⟩))
 (h:K (Zf d (.tuple #[kv k,vv v]) E) S):YO P r n d (.raw (.entry x) ty0) K E S:=by
 obtain⟨es,clock,seen,F0,rfl,hE,hF1,hF2,hF3⟩:=hM;intro op ty pos af g hc hd;obtain⟨rfl,rfl⟩:=Zl hc;refine Vh (by simp) hd fun F w hs=>⟨_,w,S,?_,Ext.refl w,hs,h⟩
 have hb:w.heap[b]?=some (.map es clock):=hs.at_ (List.mem_append.2 (.inl hm)) (x:=(b,.map es clock)) (by simp);have hi:w.heap[ib]?=some (.mapIter (some b) clock seen clock):=hs.at_ (List.mem_append.2 (.inl hm)) (x:=(ib,.mapIter (some b) clock seen clock)) (by simp);rcases List.eq_nil_or_concat F0 with rfl | ⟨F1,e,rfl⟩
 ·simp at hF1
 rw[List.concat_eq_append] at hF1 hF2 hF3;have hem:e∈es.toList:=hF3 e (by simp);have h1:e.key=kv k:=by
  rw[List.map_append,List.map_append] at hF1;have:=(List.append_inj' hF1 rfl).2;simpa using this
 have h2:seen.back?=some e.born:=by
  rw[←Array.getLast?_toList, ←hF2];simp
 obtain⟨k',v',g1,g2,g3⟩:=hE.ent e hem;obtain rfl:=Key.inj k k' (h1.symm.trans g1);have hvv:v'=v:=by rw[hk] at g3; exact(Option.some.inj g3).symm
 subst hvv;have hf:es.find? (·.born==e.born)=some e:=by rw[←Array.find?_toList]; exact find_born e es.toList hE.bn hem
 simp only[execOp,Instr.entry,hx,getObj,Sem.run_bind,Sem.run,hi,hb,Result.andThen,h2,bne_self_eq_false,Bool.false_eq_true,if_false,hf,g1,g2];rfl
theorem Mi.close{b ib m:Nat}{f:κ→Option ν}{D:List κ}{H:List Chunk}(h:Mi b ib f m D H):∃H0,Mp b f m H0∧∀S:zu,zD (H::S) (H0::S):=by
 obtain⟨es,clock,seen,F0,rfl,hE,_⟩:=h;refine⟨_,⟨es,clock,rfl,hE⟩,fun S=>⟨[(ib,.mapIter (some b) clock seen clock)],?_⟩⟩;simp only[List.flatten_cons,List.cons_append,List.nil_append];refine List.Perm.cons _ ?_;exact(List.perm_append_singleton _ _).symm
end Go.Xs