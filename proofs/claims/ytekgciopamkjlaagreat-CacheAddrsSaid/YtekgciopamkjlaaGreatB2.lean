/- Memory: loads, stores, new blocks, calls. Regions that draw their order: one tree of orders serves every order. Steps: what computing operations yield, in the shapes in which they are met. Slices as lists: what they hold, append, make, literals, copy, clear, bytes and strings. A range over a function: the statement, its rounds, and the calls of yield. Scalars, stores of one cell into small objects, small structs built; the words of straight code. -/
import Derived.Test.YtekgciopamkjlaaGreatB1
namespace Go.Xs
/-- S holds the chunk (b, o); f puts another object in its place -/
class At(S:zB)(b:Nat)(o:outParam Obj)(f:outParam (Obj→zB)):Prop where
 ex:∃S1 S2,S=S1++[(b,o)]::S2∧∀o',f o'=S1++[(b,o')]::S2
instance At.here{S:zB}{b:Nat}{o:Obj}:At ([(b,o)]::S) b o (fun o'=>[(b,o')]::S):=⟨[],S,rfl,fun _=>rfl⟩
instance At.there{S:zB}{x:List Chunk}{b:Nat}{o:Obj}{f:Obj→zB}[h:At S b o f]:At (x::S) b o (fun o'=>x::f o'):=by
 obtain⟨S1,S2,e,hf⟩:=h.ex;exact⟨x::S1,S2,by rw[e]; rfl,fun o'=>by rw[hf]; rfl⟩
/-- S is x and S' -/
class Pick(S:zB)(x:List Chunk)(S':outParam zB):Prop where
 perm:S.flatten.Perm (x++S'.flatten)
instance Pick.there{S S':zB}{x y:List Chunk}[h:Pick S x S']:Pick (y::S) x (y::S'):=⟨by
 simp only[List.flatten_cons];refine(h.perm.append_left y).trans ?_;rw[←List.append_assoc, ←List.append_assoc];exact List.perm_append_comm.append_right _⟩
instance Pick.here{S:zB}{x:List Chunk}:Pick (x::S) x S:=⟨.refl _⟩
instance Pick.nil{S:zB}:Pick S [] S:=⟨.refl _⟩
instance At.app0{S:zB}{b:Nat}{o:Obj}{f:Obj→zB}[h:At S b o f]:At ([]++S) b o f:=h
instance At.app{A S:zB}{x:List Chunk}{b:Nat}{o:Obj}{f:Obj→zB}[h:At (x::(A++S)) b o f]:At ((x::A)++S) b o f:=h
instance Pick.app0{S S':zB}{x:List Chunk}[h:Pick S x S']:Pick ([]++S) x S':=h
instance Pick.app{A S S':zB}{x y:List Chunk}[h:Pick (y::(A++S)) x S']:Pick ((y::A)++S) x S':=h
/-- S is S0 and G -/
class Sub(S S0:zB)(G:outParam zB):Prop where
 perm:S.flatten.Perm (S0.flatten++G.flatten)
instance Sub.nil{S:zB}:Sub S [] S:=⟨.refl _⟩
instance Sub.cons{S S1 S0 G:zB}{x:List Chunk}[h:Pick S x S1][k:Sub S1 S0 G]:Sub S (x::S0) G:=⟨h.perm.trans (by
 simp only[List.flatten_cons,List.append_assoc];exact k.perm.append_left x)⟩
instance Sub.appT0{S B G:zB}[h:Sub S B G]:Sub S ([]++B) G:=h
instance Sub.appT{S A B G:zB}{x:List Chunk}[h:Sub S (x::(A++B)) G]:Sub S ((x::A)++B) G:=h
instance (priority:=low) Sub.self{S:zB}:Sub S S []:=⟨by simp⟩
instance (priority:=low) Sub.appSelf{T G:zB}:Sub (T++G) T G:=⟨by simp⟩
instance (priority:=low) Sub.skip{S T G:zB}{x:List Chunk}[h:Sub S T G]:Sub (x::S) T (x::G):=⟨by
 simp only[List.flatten_cons];refine(h.perm.append_left x).trans ?_;rw[←List.append_assoc, ←List.append_assoc];exact List.perm_append_comm.append_right _⟩
instance (priority:=low) Pick.appR{A S S':zB}{x:List Chunk}[h:Pick S x S']:Pick (A++S) x (A++S'):=⟨by
 simp only[List.flatten_append];refine(h.perm.append_left A.flatten).trans ?_;rw[←List.append_assoc, ←List.append_assoc];exact List.perm_append_comm.append_right _⟩
variable {P:Program} {r:Option Nat} {n:Nat} {K:Env→zB→Prop} {E:Env} {S:zB} {d:Option Tmp}
theorem At.heap{b:Nat}{o:Obj}{f:Obj→zB}(h:At S b o f){F:zB}{w:World}(hs:Sat (S++F) w):w.heap[b]?=some o:=by
 obtain⟨S1,S2,rfl,_⟩:=h.ex;exact hs.at_ (s:=[(b,o)]) (by simp) (x:=(b,o)) (by simp)
theorem At.upd{b:Nat}{o o':Obj}{f:Obj→zB}(h:At S b o f){F:zB}{w w':World}(hs:Sat (S++F) w)(hb:w'.heap[b]?=some o')(hne:∀i,i≠b→w'.heap[i]?=w.heap[i]?):Sat (f o'++F) w':=by
 obtain⟨S1,S2,rfl,hf⟩:=h.ex;rw[hf];have h1:Zy (S1.flatten++(b,o)::(S2.flatten++F.flatten)) w:=by
  have:Zy _ w:=hs;simpa using this
 have:=h1.upd hb hne;show Zy _ w';simpa using this
theorem Sat.new{F:zB}{w:World}(o:Obj)(hs:Sat F w):Sat ([(w.heap.size,o)]::F) {w with heap:=w.heap.push o}:=by
 have hlt:∀x∈F.flatten,x.1<w.heap.size:=fun x hx=>by
  have:=Zy.at_ hs x hx;exact(Array.getElem?_eq_some_iff.1 this).1
 refine⟨?_,?_⟩
 ·simp only[List.flatten_cons,List.cons_append,List.nil_append,List.map_cons,List.nodup_cons];refine⟨?_,Zy.nodup hs⟩;intro hc;obtain⟨x,hx,hxe⟩:=List.mem_map.1 hc;have:=hlt x hx;omega
 ·intro x hx;simp only[List.flatten_cons,List.cons_append,List.nil_append,List.mem_cons] at hx;rcases hx with rfl | hx
  ·simp
  ·rw[Array.getElem?_push_lt (hlt x hx), ←Zy.at_ hs x hx,Array.getElem?_eq_getElem (hlt x hx)]
theorem Ext.push(w:World)(o:Obj):Ext w {w with heap:=w.heap.push o}:=⟨rfl,rfl,rfl,by simp⟩
theorem cellOf{w:World}{b:Nat}{c:Array Value}{ty:TypeId}{fz:Nat × Nat}(h:w.heap[b]?=some (.cells c ty fz))(i:Nat):w.cell? ⟨b,i,none⟩=c[i]?:=by
 simp[World.cell?,h]
theorem iP{w:World}{b:Nat}{c:Array Value}{ty:TypeId}{fz:Nat × Nat}(h:w.heap[b]?=some (.cells c ty fz))(i:Nat):w.frozen? ⟨b,i,none⟩=(decide (fz.1≤i) && decide (i<fz.2)):=by
 obtain⟨lo,hi⟩:=fz;simp[World.frozen?,h]
/-! loads -/
theorem xk{a:Addr}{v:Value}{w:World}(h:w.cell? a=some v):(load a).run P w= .ok v w:=by simp[load,Sem.run,h]
theorem Vs{b off:Nat}{w:World}{l:List Value}:∀(k i:Nat) (acc:Array Value),(∀j,j<k→w.cell? ⟨b,off+(i+j),none⟩=l[i+j]?)→i+k≤l.length→
 (loadCellsFrom ⟨b,off,none⟩ i k acc).run P w= .ok (acc++((l.drop i).take k).toArray) w
 | 0,i,acc,h,hl=>by simp[loadCellsFrom,pure]
 | k+1,i,acc,h,hl=>by
  have h0:=h 0 (by omega);have hi:i<l.length:=by omega
  simp only[Nat.add_zero,List.getElem?_eq_getElem hi] at h0;simp only[loadCellsFrom,Sem.run_bind,add_plain,xk h0,Result.andThen_ok];rw[Vs k (i+1) _ (fun j hj=>by have:=h (j+1) (by omega); rw[show i+1+j=i+(j+1) by omega]; exact this) (by omega)];congr 1;have e:(l.drop i).take (k+1)=l[i]::(l.drop (i+1)).take k:=by rw[List.drop_eq_getElem_cons hi,List.take_succ_cons]
  apply Array.ext';rw[e];simp
theorem Wq{b off:Nat}{w:World}{l:List Value}(k:Nat)(h:∀j,j<k→w.cell? ⟨b,off+j,none⟩=l[j]?)(hl:k≤l.length):
 (loadCells ⟨b,off,none⟩ k).run P w= .ok (l.take k).toArray w:=by
 have:=Vs (P:=P) (b:=b) (off:=off) (w:=w) (l:=l) k 0 #[] (fun j hj=>by simpa using h j hj) (by omega);simpa[loadCells] using this
theorem kH{neg:Bool}{t:TypeId}{x y:Operand}{X:Wv}(h:mV P neg t x y=some X):(∃o a b,X= .bin o a b)∨(∃o a b,X= .eqb o a b)∨(∃k o a b,X= .eqn k o a b)∨(∃k o a b,X= .eqs k o a b):=by
 unfold mV at h;split at h<;>first | (simp only[Option.some.injEq] at h; subst h; first | exact .inl ⟨_,_,_,rfl⟩ | exact .inr (.inl ⟨_,_,_,rfl⟩) | exact .inr (.inr (.inl ⟨_,_,_,_,rfl⟩))) | skip
 ·split at h
  ·cases h
  ·split at h
   ·simp only[Option.some.injEq] at h; subst h; exact .inr (.inr (.inr ⟨_,_,_,_,rfl⟩))
   ·cases h
 ·cases h
/-- which operation of the model's stands behind one on memory -/
def WY(P:Program)(op:Op)(ty:TypeId):Wv→Prop
 | .load1 a=>∃t,op= .load t a∧isAgg? P t=some false
 | .loadN k a=>∃t,op= .load t a∧isAgg? P t=some true∧sizeOf? P t=some k
 | .store k a v=>∃t,op= .store t a v∧sizeOf? P t=some k
 | .alloc t z=>op= .alloc t∧zero? P t=some z
 | .box t x=>op= .box t x
 | .bsl e len k z parts=>∃t,op= .buildSlice t len parts.toArray∧P.underlying t=some (.slice e)∧sizeOf? P e=some k∧zero? P e=some z
 | .mksl e k b z l c=>∃t,op= .makeSlice t l c∧P.underlying t=some (.slice e)∧sizeOf? P e=some k∧zero? P e=some z∧bytes? P e=some b
 | .app e k b z s x=>∃t u xu,op= .call {callee:= .builtin .append,args:= #[s,x],argTypes:= #[t,u]}∧P.underlying t=some (.slice e)∧P.underlying u=some xu∧(∀q,xu≠ .int q)∧sizeOf? P e=some k∧zero? P e=some z∧bytes? P e=some b
 | .copy k d s=>∃t r e,op= .call {callee:= .builtin .copy,args:= #[d,s],argTypes:=(t::r).toArray}∧P.underlying t=some (.slice e)∧sizeOf? P e=some k
 | .clr z x=>∃t e,op= .call {callee:= .builtin .clear,args:= #[x],argTypes:= #[t]}∧P.underlying t=some (.slice e)∧zero? P e=some z
 | .b2s x=>∃s d e,op= .convert s d x∧P.underlying s=some (.slice e)∧P.underlying d=some .string∧P.underlying e=some (.int .u8)
 | .s2b e x=>∃s d,op= .convert s d x∧P.underlying s=some .string∧P.underlying d=some (.slice e)∧P.underlying e=some (.int .u8)
 | .call f args=>∃ats,op= .call {callee:= .value f,args:=args.toArray,argTypes:=ats}
 | .raw o t=>op=o∧ty=t
 | _=>True
theorem Zu{op:Op}{ty:TypeId}{X:Wv}(h:cop P op ty=X):WY P op ty X:=by
 subst h;cases op
 case binOp o t x y u=>
  cases o<;>simp only[cop,WY]
  ·cases hc:mV P false t x y with
   | none=>simp
   | some X=>rcases kH hc with⟨_,_,_,rfl⟩ | ⟨_,_,_,rfl⟩ | ⟨_,_,_,_,rfl⟩ | ⟨_,_,_,_,rfl⟩<;>simp
  ·cases hc:mV P true t x y with
   | none=>simp
   | some X=>rcases kH hc with⟨_,_,_,rfl⟩ | ⟨_,_,_,rfl⟩ | ⟨_,_,_,_,rfl⟩ | ⟨_,_,_,_,rfl⟩<;>simp
 case call c=>
  obtain⟨callee,args,ats⟩:=c;simp only[cop];split
  ·simp[WY]
  ·simp[WY]
  ·split
   case h_5 s x t u ha hb=>
    have ha':args= #[s,x]:=by apply Array.ext'; exact ha
    have hb':ats= #[t,u]:=by apply Array.ext'; exact hb
    subst ha'; subst hb';split
    ·simp[WY]
    ·rename_i xu hni ht hu
     split
     ·rename_i k z b hk hz hb2
      exact⟨t,u,_,rfl,ht,hu,fun q hq=>hni q hq,hk,hz,hb2⟩
     ·simp[WY]
    ·simp[WY]
   case h_6 dd s t rest ha hb=>
    have ha':args= #[dd,s]:=by apply Array.ext'; exact ha
    have hb':ats=(t::rest).toArray:=by apply Array.ext'; simpa using hb
    subst ha'; subst hb';split
    ·rename_i e ht
     split
     ·rename_i k hk; exact⟨t,rest,e,rfl,ht,hk⟩
     ·simp[WY]
    ·simp[WY]
   case h_7 x t ha hb=>
    have ha':args= #[x]:=by apply Array.ext'; exact ha
    have hb':ats= #[t]:=by apply Array.ext'; exact hb
    subst ha'; subst hb';split
    ·rename_i e ht
     split
     ·rename_i z hz; exact⟨t,e,rfl,ht,hz⟩
     ·simp[WY]
    ·simp[WY]
   all_goals ((repeat' split)<;>simp[WY])
 all_goals (simp only[cop]; (repeat' split)<;>simp_all [WY])
 all_goals first | exact⟨_,_,⟨rfl,rfl⟩,_, ‹_›, ‹_›, ‹_›⟩ | exact⟨_,_,⟨rfl,rfl⟩, ‹_›, ‹_›⟩
/-! ### the rules -/
theorem zF{b off:Nat}{a:Operand}{c:Array Value}{ty:TypeId}{fz:Nat × Nat}{f:Obj→zB}{v:Value}[hA:At S b (.cells c ty fz) f]
 (ha:ev E a= .pointer (some ⟨b,off,none⟩)) (hv':c.toList[off]?=some v) (h:K (Zk d v E) S):YO P r n d (.load1 a) K E S:=by
 have hv:c[off]?=some v:=by simpa using hv'
 intro op t pos af g hc hd;obtain⟨t',rfl,hagg⟩:=Zu hc;refine uj (by simp) hd fun F w hs=>⟨v,w,S,?_,Ext.refl w,hs,h⟩
 have hb:=hA.heap hs;have hcell:w.cell? ⟨b,off,none⟩=some v:=by rw[cellOf hb,hv]
 simp[execOp,ha,Instr.loadAt,Instr.sureAddr,loadVar,Sem.run_bind,Wi hagg,xk hcell,Result.andThen,pure,Sem.run]
theorem wB{b off k:Nat}{a:Operand}{c:Array Value}{ty:TypeId}{fz:Nat × Nat}{f:Obj→zB}{l:List Value}[hA:At S b (.cells c ty fz) f]
 (ha:ev E a= .pointer (some ⟨b,off,none⟩)) (hv:(c.toList.drop off).take k=l) (hk:l.length=k) (h:K (Zk d (.agg l.toArray) E) S):YO P r n d (.loadN k a) K E S:=by
 intro op t pos af g hc hd;obtain⟨t',rfl,hagg,hsz⟩:=Zu hc;refine uj (by simp) hd fun F w hs=>⟨.agg l.toArray,w,S,?_,Ext.refl w,hs,h⟩
 have hb:=hA.heap hs;have hlen:k≤(c.toList.drop off).length:=by rw[←hk, ←hv]; simp; omega
 have hr:=Wq (P:=P) (b:=b) (off:=off) (w:=w) (l:=c.toList.drop off) k (fun j hj=>by rw[cellOf hb]; simp) hlen;rw[hv] at hr;simp[execOp,ha,Instr.loadAt,Instr.sureAddr,loadVar,Sem.run_bind,Wi hagg,run_sizeOf hsz,hr,Result.andThen,pure,Sem.run]
/-- a value of one cell -/
def vT:Value→Bool
 | .agg _=>false
 | .tuple _=>false
 | _=>true
theorem aU{a:Addr}{v old:Value}{w:World}(hv:vT v=true)(hc:w.cell? a=some old)(hf:w.frozen? a=false):(store a v).run P w= .ok () (w.setCell a v):=by
 cases v<;>simp[vT] at hv<;>simp[store,Sem.run,hc,hf]
theorem Kc{w:World}{b i:Nat}{v:Value}{c:Array Value}{ty:TypeId}{fz:Nat × Nat}(h:w.heap[b]?=some (.cells c ty fz)):
 (w.setCell ⟨b,i,none⟩ v).heap[b]?=some (.cells (c.setIfInBounds i v) ty fz):=by
 simp[World.setCell,Array.getElem?_modify,h]
theorem Ye{w:World}{b i j:Nat}{v:Value}(h:j≠b):(w.setCell ⟨b,i,none⟩ v).heap[j]?=w.heap[j]?:=by
 simp[World.setCell,Array.getElem?_modify,Ne.symm h]
theorem wD{b off:Nat}{ty:TypeId}{fz:Nat × Nat}:∀(vs:List Value) (i:Nat) (c:Array Value) (w:World),w.heap[b]?=some (.cells c ty fz)→vs.all vT=true→off+i+vs.length≤c.size→
 (fz.2≤off+i∨off+i+vs.length≤fz.1)→
 ∃w',(storeCells ⟨b,off,none⟩ vs i).run P w= .ok () w'∧w'.heap[b]?=some (.cells (Zr c.toList (off+i) vs).toArray ty fz)∧(∀j,j≠b→w'.heap[j]?=w.heap[j]?)∧Ext w w'
 | [],i,c,w,hb,hp,hl,hz=>⟨w,by simp[storeCells,pure],by simpa[Zr] using hb,fun _ _=>rfl,Ext.refl w⟩
 | v::vs,i,c,w,hb,hp,hl,hz=>by
  simp only[List.all_cons,Bool.and_eq_true] at hp;simp only[List.length_cons] at hl hz;have hc:w.cell? ⟨b,off+i,none⟩=some (c[off+i]'(by omega)):=by rw[cellOf hb]; simp
  have hf:w.frozen? ⟨b,off+i,none⟩=false:=by
   rw[iP hb];rcases hz with hz | hz
   ·have:¬off+i<fz.2:=by omega
    simp[this]
   ·have:¬fz.1≤off+i:=by omega
    simp[this]
  obtain⟨w',h1,h2,h3,h4⟩:=wD (off:=off) vs (i+1) (c.setIfInBounds (off+i) v) (w.setCell ⟨b,off+i,none⟩ v) (Kc hb) hp.2 (by simp; omega) (by omega);refine⟨w',?_,?_,fun j hj=>(h3 j hj).trans (Ye hj),Ext.trans (b:=w.setCell ⟨b,off+i,none⟩ v) ⟨rfl,rfl,rfl,by simp[World.setCell]⟩ h4⟩
  ·simp only[storeCells,Sem.run_bind,add_plain,aU hp.1 hc hf,Result.andThen_ok];exact h1
  ·rw[h2];simp[Zr,Nat.add_assoc]
theorem WI{b off k:Nat}{a v:Operand}{c:Array Value}{ty:TypeId}{fz:Nat × Nat}{f:Obj→zB}{vs:List Value}[hA:At S b (.cells c ty fz) f]
 (ha:ev E a= .pointer (some ⟨b,off,none⟩)) (hv:(ev E v).cells.toList=vs) (hk:vs.length=k) (hp:vs.all vT=true) (hl:off+k≤c.size) (hz:fz.2≤off∨off+k≤fz.1)
 (h:K (Zk d undef E) (f (.cells (Zr c.toList off vs).toArray ty fz))):YO P r n d (.store k a v) K E S:=by
 intro op t pos af g hc hd;obtain⟨t',rfl,hsz⟩:=Zu hc;refine dF (by simp) hd fun F w hs=>?_
 have hb:=hA.heap hs;obtain⟨w',h1,h2,h3,h4⟩:=wD (P:=P) (off:=off) vs 0 c w hb hp (by omega) (by omega);simp only[Nat.add_zero] at h2;refine⟨w',_,?_,h4,hA.upd hs h2 h3,h⟩;have hsz':((ev E v).cells.size=k):=by rw[←hk, ←hv]; simp
 simp[execOp,ha,Instr.storeAt,Instr.sureAddr,storeVar,Sem.run_bind,run_sizeOf hsz,hsz',hv,h1,Result.andThen,pure,Sem.run]
/-! new blocks -/
theorem wF(e:TypeId)(c:Array Value)(w:World):(newRow e c).run P w= .ok ⟨w.heap.size,0,none⟩ {w with heap:=w.heap.push (.cells c e)}:=by
 rfl
theorem Z8{t:TypeId}{z:List Value}(h:∀b,K (Zk d (.pointer (some ⟨b,0,none⟩)) E) ([(b,.cells z.toArray t)]::S)):YO P r n d (.alloc t z) K E S:=by
 intro op ty pos af g hc hd;obtain⟨rfl,hz⟩:=Zu hc;refine uj (by simp) hd fun F w hs=>?_
 obtain⟨zv,hzr,hzc⟩:=Vd hz w;have hcells:zv.cells=z.toArray:=by apply Array.ext'; simp[hzc]
 refine⟨_,_,[(w.heap.size,.cells z.toArray t)]::S,?_,Ext.push w _,Sat.new _ hs,h w.heap.size⟩;simp[execOp,Instr.alloc,Sem.run_bind,hzr,Result.andThen,newVar,wF,hcells,pure,Sem.run]
theorem CX{t:TypeId}{x:Operand}{vs:List Value}(hv:(ev E x).cells.toList=vs)(h:∀b,K (Zk d (.pointer (some ⟨b,0,none⟩)) E) ([(b,.cells vs.toArray t)]::S)):YO P r n d (.box t x) K E S:=by
 intro op ty pos af g hc hd;obtain rfl:=Zu hc;refine uj (by simp) hd fun F w hs=>?_
 have hcells:(ev E x).cells=vs.toArray:=by apply Array.ext'; simp[hv]
 refine⟨_,_,[(w.heap.size,.cells vs.toArray t)]::S,?_,Ext.push w _,Sat.new _ hs,h w.heap.size⟩;simp[execOp,Instr.box,Sem.run_bind,Result.andThen,newVar,wF,hcells,pure,Sem.run]
/-! calls -/
theorem xF{f:FuncId}(h:NI P f)(args:Array Value)(w:World):(callFunc f args).run P w= .ok (.enter f args) w:=by
 obtain⟨fn,h1,h2,h3⟩:=h;cases hb:fn.body with
 | none=>simp[hb] at h2
 | some c=>
  have h4 : ¬ fn.name = "runtime.NumGoroutine" := by simpa using h3
  simp[callFunc,Sem.run_bind,Result.andThen,h1,h4,hb,pure]
theorem jk{f:Operand}{args:List Operand}{fid:FuncId}{first caps A:Array Value}{ats:Array TypeId}{ty:TypeId}{pos:String}{af:Array Edge}{g:Option (Nat × Bool)}
 (he:NI P fid) (hf:ev E f= .func (.func fid) first caps) (ha:first.toList++args.map (ev E)++caps.toList=A.toList) (w:World):
 (execOp (ev E) (mk d (.call {callee:= .value f,args:=args.toArray,argTypes:=ats}) ty pos af g)).run P w= .ok (.enter fid A) w:=by
 have hA:first++(args.map (ev E)).toArray++caps=A:=by apply Array.ext'; simpa using ha
 simp only[execOp,resolve,Sem.run_bind,hf,Deferred.ofValue,pure,Sem.run,Result.andThen,invoke];have:first++Array.map (ev E) args.toArray++caps=A:=by rw[←hA]; simp
 rw[this];exact xF he A w
theorem Ag{f:Operand}{args:List Operand}{fid:FuncId}{first caps A:Array Value}(hf:ev E f= .func (.func fid) first caps)(ha:first.toList++args.map (ev E)++caps.toList=A.toList)
 (h:Tri P fid A S (fun v S'=>K (Zk d v E) S')):YO P r n d (.call f args) K E S:=by
 intro op ty pos af g hc hd;obtain⟨ats,rfl⟩:=Zu hc;exact D9 (fun w=>jk h.ent hf ha w) (by simp) hd h
/-- A CALL BY ITS CONTRACT: the contract owns S0, the rest G is left alone. -/
theorem zk{f:Operand}{args:List Operand}{fid:FuncId}{first caps A:Array Value}{S0 G:zB}{R:Value→zB→Prop}(C:Tri P fid A S0 R)
 (hf:ev E f= .func (.func fid) first caps) (ha:first.toList++args.map (ev E)++caps.toList=A.toList) [hs:Sub S S0 G]
 (h:∀v S',R v S'→K (Zk d v E) (S'++G)):YO P r n d (.call f args) K E S:=
 Ag hf ha (((C.frame G).perm (by rw[List.flatten_append]; exact hs.perm)).mono fun v S'' ⟨S',e,hr⟩=>by subst e; exact h v S' hr)
theorem YO.perm{x:Wv}{S₂:zB}(p:S₂.flatten.Perm S.flatten)(h:YO P r n d x K E S):YO P r n d x K E S₂:=
 fun op ty pos af g hc hd D F a w hs=>h op ty pos af g hc hd D F a w ⟨hs.size,hs.env,hs.defers,hs.sat.yj p⟩
theorem YL.perm{l:List ZT}{S₂:zB}(p:S₂.flatten.Perm S.flatten)(h:YL P r n l K E S):YL P r n l K E S₂:=
 fun ops l' hl D F a w hs=>h ops l' hl D F a w ⟨hs.size,hs.env,hs.defers,hs.sat.yj p⟩
theorem YO.mono{x:Wv}{K':Env→zB→Prop}(h:YO P r n d x K E S)(hk:∀E S,K E S→K' E S):YO P r n d x K' E S:=
 fun op ty pos af g hc hd D F a w hs=>Oper.wpIn_mono (h op ty pos af g hc hd D F a w hs) (fun _a' _w' ⟨hx,E',S',hs',k⟩=>⟨hx,E',S',hs',hk _ _ k⟩) (fun _ _ _ hf=>hf)
end Go.Xs
namespace Go.Xs
/-- the stable chunks lie in the world as they are named -/
def Cw(R:zB)(w:World):Prop:=∀s∈R,∀x∈s,w.heap[x.1]?=some x.2
section
variable {P:Program} {n:Nat} {r:Option Nat} {ops:Array Oper} {C:World→Prop} {Q:Exit→Act→World→Prop}
def isLoad(P:Program)(o:Oper):Bool:=qh (cop P o.op o.type)
def Wx(P:Program)(ops:Array Oper)(i:Nat):Bool:=match ops[i]? with | some o=>UW (cop P o.op o.type) | none=>false
/-- what a quiet operation yields: in every world, or (a load) in every world of the class -/
def YQ(P:Program)(ops:Array Oper)(C:World→Prop)(o:Oper)(v:Value)(a:Act):Prop:=
 (Region.wanted o (yielded ops a.tmps)=true∧(∀c,o.op≠ .defer c)∧∀w,(isLoad P o=true→C w)→(execOp a.eval o).run P w= .ok (.value v) w)∨
 (Region.wanted o (yielded ops a.tmps)=false∧v=undef)
theorem YQ.of_same{o:Oper}{v:Value}{a a':Act}(hy:YQ P ops C o v a)(he:execOp a'.eval o=execOp a.eval o)
 (hw:Region.wanted o (yielded ops a'.tmps)=Region.wanted o (yielded ops a.tmps)):YQ P ops C o v a':=by
 unfold YQ at*
 rw[he,hw];exact hy
def wpC(P:Program)(r:Option Nat)(C:World→Prop)(ops:Array Oper)(Q:Exit→Act→World→Prop):Nat→Array Bool→Act→World→Prop
 | 0,listed,a,w=>Region.ready .any ops listed=[]∧Q .normal a w
 | f+1,listed,a,w=>
  (Region.ready .any ops listed=[]→Q .normal a w)∧
  ∀i∈Region.ready .any ops listed,wpOpIn (Fk r) 0 P ops (fun _ _ _=>False) i
   (fun a' w'=>((Wx P ops i=true→w'=w)∧(Wx P ops i=false→Jf P ops i=true→C w→C w'))∧wpC P r C ops Q f (listed.setIfInBounds i true) a' w') a w
theorem VB{F:Fence}{m i:Nat}{K K':Act→World→Prop}{Q Q':Exit→Act→World→Prop}{a:Act}{w:World}(hK:∀a w,K a w→K' a w)(hQ:∀e a w,Q e a w→Q' e a w)
 (h:wpOpIn F m P ops Q i K a w):wpOpIn F m P ops Q' i K' a w:=by
 unfold wpOpIn at*
 split
 ·rename_i ho; simp only[ho] at h; exact hK _ _ h
 ·rename_i o ho
  simp only[ho] at h;split
  ·rename_i hw; simp only[hw,if_true] at h; exact Oper.wpIn_mono h hK hQ
  ·rename_i hw; simp only[hw] at h; exact⟨h.1,hK _ _ h.2⟩
theorem UJ:∀(f:Nat) (listed:Array Bool) (a:Act) (w:World),wpC P r C ops Q f listed a w→wpAnyIn (Fk r) 0 P .any ops Q f listed a w
 | 0,_,_,_,h=>h
 | f+1,_listed,_a,_w,h=>⟨h.1,fun i hi=>VB (fun a' w' hk=>UJ f _ a' w' hk.2) (fun _ _ _ hf=>hf.elim) (h.2 i hi)⟩
def Closed(ops:Array Oper)(listed:Array Bool):Prop:=
 ∀j oj,ops[j]?=some oj→listed.getD j false=true→∀e∈oj.after,Region.binds .any e=true→listed.getD e.on false=true
theorem Closed.set{listed:Array Bool}{i:Nat}(h:Closed ops listed)(hi:i∈Region.ready .any ops listed):Closed ops (listed.setIfInBounds i true):=by
 obtain⟨_,oi,hoi,hall⟩:=mem_ready.1 hi;intro j oj hj hl e he hb;by_cases hij:i=j
 ·subst hij;have:oj=oi:=Option.some.inj (hj.symm.trans hoi);subst this;exact getD_set_true (hall e he hb)
 ·rw[getD_set_ne false hij] at hl;exact getD_set_true (h j oj hj hl e he hb)
theorem uK{listed:Array Bool}(hc:Closed ops listed):∀(k:Nat) (todo seen:List Nat),(∀j∈todo,∀oj,ops[j]?=some oj→∀e∈oj.after,Region.binds .any e=true→listed.getD e.on false=true)→(∀i∈seen,listed.getD i false=true)→
 ∀i∈U1 ops k todo seen,listed.getD i false=true
 | 0,_,_,_,hs,i,hi=>hs i (by simpa[U1] using hi)
 | _+1,[],_,_,hs,i,hi=>hs i (by simpa[U1] using hi)
 | k+1,j::todo,seen,ht,hs,i,hi=>by
  unfold U1 at hi;cases ho:ops[j]? with
  | none=>
   simp only[ho] at hi;exact uK hc k todo seen (fun x hx=>ht x (List.mem_cons_of_mem _ hx)) hs i hi
  | some o=>
   simp only[ho] at hi;have hn:∀x∈((o.after.toList.filter (Region.binds .any)).map (·.on)).filter (fun i=> !seen.contains i),listed.getD x false=true:=fun x hx=>by
    obtain⟨e,he,rfl⟩:=List.mem_map.1 (List.mem_filter.1 hx).1;obtain⟨h1,h2⟩:=List.mem_filter.1 he;exact ht j (by simp) o ho e (by simpa using h1) h2
   refine uK hc k _ _ (fun x hx=>?_) (fun x hx=>?_) i hi
   ·rcases List.mem_append.1 hx with hx | hx
    ·exact fun ox hox=>hc x ox hox (hn x hx)
    ·exact ht x (List.mem_cons_of_mem _ hx)
   ·rcases List.mem_append.1 hx with hx | hx
    ·exact hn x hx
    ·exact hs x hx
/-- a load that is not yet listed does not come ahead of an operation that may come up -/
theorem lF{listed:Array Bool}(hc:Closed ops listed){i j:Nat}{oi:Oper}(hi:ops[i]?=some oi)(hl:isLoad P oi=true)(hun:listed.getD i true=false)(hj:j∈Region.ready .any ops listed)(hne:i≠j):
 Jf P ops j=true:=by
 obtain⟨_,oj,hoj,hall⟩:=mem_ready.1 hj;have hlt:i<ops.size:=(Array.getElem?_eq_some_iff.1 hi).1;unfold Jf IB;rw[List.any_eq_true];refine⟨i,List.mem_range.2 hlt,?_⟩;simp only[hi,Bool.and_eq_true,bne_iff_ne,ne_eq,Bool.not_eq_true'];refine⟨⟨hne,hl⟩,?_⟩;cases hm:(U1 ops (2*ops.size) [j] []).contains i with
 | false=>rfl
 | true=>
  have h1:=uK hc (2*ops.size) [j] [] (fun x hx ox hox=>by rw[List.mem_singleton.1 hx] at hox; rw[hoj] at hox; obtain rfl:=Option.some.inj hox; exact hall) (fun x hx=>by simp at hx) i (by simpa using hm);have:listed.getD i false=false:=by
   rcases Nat.lt_or_ge i listed.size with h | h
   ·simp[h] at hun ⊢; exact hun
   ·simp[Array.getElem?_eq_none h]
  rw[this] at h1; cases h1
theorem YQ.wpOpIn{i:Nat}{o:Oper}{v:Value}{a:Act}(hi:ops[i]?=some o)(hy:YQ P ops C o v a){K:Act→World→Prop}{w:World}(hC:isLoad P o=true→C w)
 (h:K (a.put o.dst v) w):wpOpIn (Fk r) 0 P ops (fun _ _ _=>False) i K a w:=by
 unfold Go.wpOpIn;simp only[hi];rcases hy with⟨hw,hd,hv⟩ | ⟨hw,rfl⟩
 ·simp only[hw,if_true];refine⟨fun _ _=>trivial,?_⟩;rw[vI hd,hv w hC];exact h
 ·simp only[hw,Bool.false_eq_true,if_false]; exact⟨fun _ _=>trivial,h⟩
theorem jv{j:Nat}{oi oj:Oper}{v:Value}(hj:ops[j]?=some oj)(hap:oi.apart ops oj=true)
 (hsi:∀cs b,oi.op≠ .select cs b) (hsj:∀cs b,oj.op≠ .select cs b) {K:Act→World→Prop} {a:Act} {w:World}
 (hy:YQ P ops C oi v a) (h:wpOpIn (Fk r) 0 P ops (fun _ _ _=>False) j K (a.put oi.dst v) w):
 wpOpIn (Fk r) 0 P ops (fun _ _ _=>False) j (fun a' w'=>YQ P ops C oi v a'∧K (a'.put oi.dst v) w') a w:=by
 obtain⟨h1,h2,h3⟩:=Oper.apart_spec hap;have keep:∀(a:Act),YQ P ops C oi v a→∀u,YQ P ops C oi v (a.put oj.dst u):=fun a hy u=>
  hy.of_same (execOp_put oi hsi a oj.dst u h3) (wanted_put oi a oj.dst u h3)
 have keepD:∀d,YQ P ops C oi v {a with defers:=d::a.defers}:=fun d=>hy.of_same rfl rfl
 have hsem:∀(a:Act) (u:Value),oj.semAt (Fk r).round (a.put oi.dst u).eval=oj.semAt (Fk r).round a.eval:=by
  intro a u;by_cases hd:∀c,oj.op≠ .defer c
  ·rw[vI hd,vI hd,execOp_put oj hsj a oi.dst u h1]
  ·have hex:=execOp_put oj hsj a oi.dst u h1;cases r with
   | none=>exact hex
   | some l=>
    have⟨c,hc⟩:∃c,oj.op= .defer c:=by
     cases ho:oj.op<;>first | exact⟨_,rfl⟩ | (exfalso; apply hd; intro c hc; rw[ho] at hc; cases hc)
    unfold Oper.semAt;rw[Ju,hc];simp only;have hr:=resolve_congr (ρ:=(a.put oi.dst u).eval) (ρ':=a.eval) c oj.type (fun x hx=>Act.eval_put fun d hd' hxd=>h1 d hd' (by
     subst hxd;exact List.mem_append_left _ (List.mem_filterMap.2 ⟨.tmp d,by rw[hc]; simpa[Op.operands] using hx,rfl⟩)))
    rw[hr]
 unfold wpOpIn at*
 simp only[hj] at*
 rw[wanted_put oj a oi.dst v h1] at h;split
 ·rename_i hw
  simp only[hw,if_true] at h;unfold Oper.wpIn at*
  refine⟨fun _ _=>trivial,?_⟩;have h:=h.2;rw[hsem] at h;generalize (oj.semAt (Fk r).round a.eval).run P w=q at*
  cases q with
  | ok x w'=>
   cases x<;>simp only[Oper.uponIn] at h ⊢
   case value u=>exact⟨keep a hy u,by rw[←Act.put_comm a v u h2]; exact h⟩
   case skip=>exact⟨keep a hy _,by rw[←Act.put_comm a v undef h2]; exact h⟩
   case defer d=>
    refine⟨keep _ (keepD d) _,?_⟩;rw[←Act.put_comm _ v undef h2, ←Act.put_defers];exact h
   case enter f args=>
    refine⟨h.1,CallsIn.mono h.2 fun e w'' he=>?_⟩;cases e with
    | returned u=>exact⟨keep a hy u,by rw[←Act.put_comm a v u h2]; exact he⟩
    | panicked c=>exact he
    | outgrown=>exact he
   case row row args=>exact⟨h.1,RowsIn.mono h.2 fun u w'' he=>⟨keep a hy u,by rw[←Act.put_comm a v u h2]; exact he⟩⟩
   case round l f tmps assign body=>
    refine⟨h.1,RoundIn.mono h.2 fun e w'' he=>?_⟩;cases e with
    | returned u=>exact⟨keep a hy u,by rw[←Act.put_comm a v u h2]; exact he⟩
    | panicked c=>exact he
    | outgrown=>exact he
  | halt x w'=>
   cases x<;>simp only[Oper.uponIn] at h ⊢
 ·rename_i hw
  simp only[hw] at h;exact⟨fun _ _=>trivial,keep a hy _,by rw[←Act.put_comm a v undef h2]; exact h.2⟩
theorem aP{i:Nat}{oi:Oper}{v:Value}(hi:ops[i]?=some oi)(hq:Wx P ops i=true)(hsel:∀(j:Nat) (o:Oper) cs b,ops[j]?=some o→o.op≠ .select cs b):
 ∀(fuel:Nat) (listed:Array Bool) (a:Act) (w:World),
  (∀j oj,ops[j]?=some oj→j≠i→listed.getD j true=false→(∀e∈oj.after,Region.binds .any e=true→e.on≠i)→oi.apart ops oj=true)→
  Closed ops listed→i∈Region.ready .any ops listed→YQ P ops C oi v a→(isLoad P oi=true→C w)→
  wpC P r C ops Q fuel (listed.setIfInBounds i true) (a.put oi.dst v) w→wpC P r C ops Q (fuel+1) listed a w:=by
 intro fuel
 induction fuel with
 | zero=>
  intro listed a w _ _ hr hy hC H;refine⟨fun h=>(by rw[h] at hr; cases hr),fun j hj=>?_⟩;by_cases hji:j=i
  ·subst hji; exact hy.wpOpIn hi hC ⟨⟨fun _=>rfl,fun h=>by rw[hq] at h; cases h⟩,H⟩
  ·have:=ready_mono hj hji;rw[H.1] at this;cases this
 | succ fuel ih=>
  intro listed a w hfree hcl hr hy hC H;refine⟨fun h=>(by rw[h] at hr; cases hr),fun j hj=>?_⟩;by_cases hji:j=i
  ·subst hji; exact hy.wpOpIn hi hC ⟨⟨fun _=>rfl,fun h=>by rw[hq] at h; cases h⟩,H⟩
  ·have h1:=H.2 j (ready_mono hj hji);obtain⟨hjun,oj,hoj,hall⟩:=mem_ready.1 hj;have hiun:=(mem_ready.1 hr).1;have hnot:∀e∈oj.after,Region.binds .any e=true→e.on≠i:=fun e he hb heq=>by
    have h1:=hall e he hb;rw[heq] at h1;rcases Nat.lt_or_ge i listed.size with h' | h'
    ·simp[h'] at hiun h1; rw[hiun] at h1; cases h1
    ·simp[Array.getElem?_eq_none h'] at h1
   have h2:=jv hoj (hfree j oj hoj hji hjun hnot) (fun cs b=>hsel i oi cs b hi) (fun cs b=>hsel j oj cs b hoj) hy h1;have hfree':∀k ok,ops[k]?=some ok→k≠i→(listed.setIfInBounds j true).getD k true=false→
    (∀e∈ok.after,Region.binds .any e=true→e.on≠i)→oi.apart ops ok=true:=fun k ok hk hki hun hno=>by
    refine hfree k ok hk hki ?_ hno;by_cases hjk:j=k
    ·subst hjk; exact hjun
    ·rw[getD_set_ne true hjk] at hun; exact hun
   refine VB (fun a' w' h3=>?_) (fun _ _ _ hf=>hf) h2;obtain⟨hy',⟨hA,hB⟩,hrest⟩:=h3;refine⟨⟨hA,hB⟩,ih (listed.setIfInBounds j true) a' w' hfree' (hcl.set hj) (ready_mono hr (Ne.symm hji)) hy' ?_ ?_⟩
   ·intro hl;cases hqj:Wx P ops j with
    | true=>rw[hA hqj]; exact hC hl
    | false=>exact hB hqj (lF hcl hi hl hiun hj (Ne.symm hji)) (hC hl)
   ·rw[Array.setIfInBounds_comm _ _ hji];exact hrest
theorem uP(m j:Nat):(Array.replicate m false).getD j false=false:=by
 rcases Nat.lt_or_ge j m with h | h
 ·simp[h]
 ·simp[h]
theorem UK{F:Fence}{m:Nat}{Q Q':Exit→Act→World→Prop}(hQ:∀e a w,Q e a w→Q' e a w):∀(f:Nat) (listed:Array Bool) (a:Act) (w:World),wpAnyIn F m P .any ops Q f listed a w→wpAnyIn F m P .any ops Q' f listed a w
 | 0,_,_,_,h=>⟨h.1,hQ _ _ _ h.2⟩
 | f+1,_,_,_,h=>⟨fun h0=>hQ _ _ _ (h.1 h0),fun i hi=>VB (fun a' w' hk=>UK hQ f _ a' w' hk) hQ (h.2 i hi)⟩
/-! ### the judgement over trees -/
/-- what a quiet operation yields in a frame: computed; or loaded from what is stable -/
inductive QV (R:zB) (E:Env):Wv→Value→Prop
 | comp {x:Wv} {v:Value}:zu (ev E) x=some v→QV R E x v
 | load1 {a:Operand} {b off:Nat} {c:Array Value} {ty:TypeId} {fz:Nat × Nat} {v:Value}:ev E a= .pointer (some ⟨b,off,none⟩)→[(b,Obj.cells c ty fz)]∈R→c[off]?=some v→QV R E (.load1 a) v
 | loadN {k:Nat} {a:Operand} {b off:Nat} {c:Array Value} {ty:TypeId} {fz:Nat × Nat} {l:List Value}:ev E a= .pointer (some ⟨b,off,none⟩)→[(b,Obj.cells c ty fz)]∈R→(c.toList.drop off).take k=l→l.length=k→
  QV R E (.loadN k a) (.agg l.toArray)
def YT(P:Program)(r:Option Nat)(n:Nat)(R:zB)(K:Env→zB→Prop):Zx→Env→zB→Prop
 | .done,E,S=>K E S
 | .noalt,_,_=>True
 | .q o t,E,S=>match o.guard with
  | none=>∃v,QV R E o.op v∧YT P r n R K t (Zk o.dst v E) S
  | some (g,b)=>(gB (E g)=some b→∃v,QV R E o.op v∧YT P r n R K t (Zk o.dst v E) S)∧(gB (E g)≠some b→YT P r n R K t (Zk o.dst undef E) S)
 | .alt o chk t rest,E,S=>(match o.guard with
  | none=>YO P r n o.dst o.op (fun E' S'=>(chk=true→∀s∈R,s∈S')∧YT P r n R K t E' S') E S
  | some (g,b)=>(gB (E g)=some b→YO P r n o.dst o.op (fun E' S'=>(chk=true→∀s∈R,s∈S')∧YT P r n R K t E' S') E S)∧(gB (E g)≠some b→YT P r n R K t (Zk o.dst undef E) S))∧YT P r n R K rest E S
theorem kN{R S F:zB}{w:World}(hs:Sat (S++F) w)(h:∀s∈R,s∈S):Cw R w:=fun s hsR _x hx=>hs.at_ (List.mem_append.2 (.inl (h s hsR))) hx
theorem QV.run{R:zB}{E:Env}{x:Wv}{v:Value}(h:QV R E x v){op:Op}{ty:TypeId}(hc:cop P op ty=x)(d:Option Tmp)(pos:String)(af:Array Edge)(g:Option (Nat × Bool)):
 (∀c,op≠ .defer c)∧∀w,(qh x=true→Cw R w)→(execOp (ev E) (mk d op ty pos af g)).run P w= .ok (.value v) w:=by
 cases h with
 | comp hv=>
  subst hc;exact⟨Xk hv,fun w _=>YG hv w⟩
 | @load1 a b off c tb fz v ha hm hv=>
  obtain⟨t',rfl,hagg⟩:=Zu hc;refine⟨by simp,fun w hC=>?_⟩;have hb:w.heap[b]?=some (.cells c tb fz):=hC rfl _ hm (b,_) (by simp);have hcell:w.cell? ⟨b,off,none⟩=some v:=by rw[cellOf hb,hv]
  simp[execOp,ha,Instr.loadAt,Instr.sureAddr,loadVar,Sem.run_bind,Wi hagg,xk hcell,Result.andThen,pure,Sem.run]
 | @loadN k a b off c tb fz l ha hm hv hk=>
  obtain⟨t',rfl,hagg,hsz⟩:=Zu hc;refine⟨by simp,fun w hC=>?_⟩;have hb:w.heap[b]?=some (.cells c tb fz):=hC rfl _ hm (b,_) (by simp);have hlen:k≤(c.toList.drop off).length:=by rw[←hk, ←hv]; simp; omega
  have hr:=Wq (P:=P) (b:=b) (off:=off) (w:=w) (l:=c.toList.drop off) k (fun j hj=>by rw[cellOf hb]; simp) hlen;rw[hv] at hr;simp[execOp,ha,Instr.loadAt,Instr.sureAddr,loadVar,Sem.run_bind,Wi hagg,run_sizeOf hsz,hr,Result.andThen,pure,Sem.run]
theorem Yt{o:Oper}{j:Nat}{b:Bool}{t:Tmp}{a:Act}(hg:o.guard=some (j,b))(ht:(ops[j]?).bind (·.dst)=some t):Region.wanted o (yielded ops a.tmps)=(gB (Vl a t)==some b):=by
 simp[Region.wanted,hg,XU ht]
variable {R:zB} {K:Env→zB→Prop}
theorem Xg(hs:Region.noSelect ops=true){D:List Nat}{F:zB}{w0:World}:∀(fuel:Nat) (listed:Array Bool) (t:Zx),uS P n ops fuel listed=some t→∀(E:Env) (S:zB) (a:Act) (w:World),
 St n D F E S a w→Ext w0 w→Closed ops listed→(∀i oi,ops[i]?=some oi→isLoad P oi=true→listed.getD i true=false→Cw R w)→YT P r n R K t E S→
 wpC P r (Cw R) ops (fun e a' w'=>e= .normal∧Ext w0 w'∧∃E' S',St n D F E' S' a' w'∧K E' S') fuel listed a w
 | 0,listed,t,ht,E,S,a,w,hst,hx,hcl,hld,hy=>by
  simp only[uS] at ht;split at ht
  ·rename_i he
   simp only[Option.some.injEq] at ht; subst ht;exact⟨by simpa using he,rfl,hx,E,S,hst,hy⟩
  ·cases ht
 | fuel+1,listed,t,ht,E,S,a,w,hst,hx,hcl,hld,hy=>by
  have ih:=Xg hs (D:=D) (F:=F) (w0:=w0) fuel;simp only[uS] at ht;split at ht
  ·rename_i he
   simp only[Option.some.injEq] at ht; subst ht;exact⟨fun _=>⟨rfl,hx,E,S,hst,hy⟩,fun i hi=>by rw[he] at hi; cases hi⟩
  rename_i j l hready
  split at ht
  ·-- a quiet one is taken
   rename_i i hfind
   have hqa:=List.find?_some hfind;have hmem:i∈Region.ready .any ops listed:=by rw[hready]; exact List.mem_of_find?_eq_some hfind
   split at ht
   ·rename_i o t' ho ht'
    simp only[Option.some.injEq] at ht; subst ht;cases hoi:ops[i]? with
    | none=>simp[hoi] at ho
    | some oi=>
    simp only[hoi,Option.bind_some] at ho;unfold quietAt at hqa;simp only[hoi,Bool.and_eq_true] at hqa;have hun:=(mem_ready.1 hmem).1;have hq:Wx P ops i=true:=by unfold Wx; rw[hoi]; exact hqa.1
    have next:∀v,YT P r n R K t' (Zk oi.dst v E) S→qK n oi.dst=true→YQ P ops (Cw R) oi v a→
     wpC P r (Cw R) ops (fun e a' w'=>e= .normal∧Ext w0 w'∧∃E' S',St n D F E' S' a' w'∧K E' S') (fuel+1) listed a w:=by
     intro v hyt hd hyq;refine aP hoi hq (Region.noSelect_spec hs) fuel listed a w (Region.free_spec hoi hqa.2) hcl hmem hyq (fun hl=>hld i oi hoi hl hun) ?_;refine ih _ t' ht' (Zk oi.dst v E) S (a.put oi.dst v) w (hst.put hd v hst.sat) hx (hcl.set hmem) ?_ hyt;intro k ok hk hlk hkun;refine hld k ok hk hlk ?_;by_cases hik:i=k
     ·subst hik; exact hun
     ·rw[getD_set_ne true hik] at hkun; exact hkun
    obtain⟨d,x,g⟩:=o;cases g with
    | none=>
     obtain⟨hg,rfl,rfl,hd⟩:=VI ho;obtain⟨v,hqv,hyt⟩:=hy;obtain⟨hdf,hrun⟩:=hqv.run (P:=P) rfl oi.dst oi.pos oi.after oi.guard;refine next v hyt hd (.inl ⟨by simp[Region.wanted,hg],hdf,fun w' hC=>?_⟩);rw[wG,hst.env];exact hrun w' hC
    | some gb=>
     obtain⟨gt,b⟩:=gb;obtain⟨jj,hg,ht2,rfl,rfl,hd⟩:=VH ho;obtain⟨h1,h2⟩:=hy;have hw:=Yt (a:=a) hg ht2;rw[hst.env] at hw;by_cases hcb:gB (E gt)=some b
     ·obtain⟨v,hqv,hyt⟩:=h1 hcb;obtain⟨hdf,hrun⟩:=hqv.run (P:=P) rfl oi.dst oi.pos oi.after oi.guard;refine next v hyt hd (.inl ⟨by rw[hw]; simp[hcb],hdf,fun w' hC=>?_⟩);rw[wG,hst.env];exact hrun w' hC
     ·exact next undef (h2 hcb) hd (.inr ⟨by rw[hw]; simp[hcb],rfl⟩)
   ·cases ht
  ·-- the loud ones, each
   rename_i hnone
   refine⟨fun h=>(by rw[hready] at h; cases h),?_⟩;have key:∀(L:List Nat) (t:Zx),xJ P n ops (fun i=>uS P n ops fuel (listed.setIfInBounds i true)) L=some t→YT P r n R K t E S→(∀i∈L,i∈Region.ready .any ops listed)→∀i∈L,
    wpOpIn (Fk r) 0 P ops (fun _ _ _=>False) i (fun a' w'=>((Wx P ops i=true→w'=w)∧(Wx P ops i=false→Jf P ops i=true→Cw R w→Cw R w'))∧
     wpC P r (Cw R) ops (fun e a' w'=>e= .normal∧Ext w0 w'∧∃E' S',St n D F E' S' a' w'∧K E' S') fuel (listed.setIfInBounds i true) a' w') a w:=by
    intro L
    induction L with
    | nil=>intro _ _ _ _ i hi; cases hi
    | cons k L ihL=>
     intro t ht hy hsub i hi;simp only[xJ] at ht;split at ht
     ·rename_i o t' rest ho ht' hrest
      split at ht
      ·cases ht
      rename_i hnq
      simp only[Option.some.injEq] at ht; subst ht;rcases List.mem_cons.1 hi with rfl | hi'
      ·have hmem:=hsub i (by simp);have hun:=(mem_ready.1 hmem).1;cases hoi:ops[i]? with
       | none=>simp[hoi] at ho
       | some oi=>
       simp only[hoi,Option.bind_some] at ho;have hy1:=hy.1;have hq:UW o.op=false:=by simpa using hnq
       have fin:∀(w':World) (a':Act) (E':Env) (S':zB),Ext w w'→St n D F E' S' a' w'→(∀k ok,ops[k]?=some ok→isLoad P ok=true→(listed.setIfInBounds i true).getD k true=false→Cw R w')→YT P r n R K t' E' S'→
        wpC P r (Cw R) ops (fun e a' w'=>e= .normal∧Ext w0 w'∧∃E' S',St n D F E' S' a' w'∧K E' S') fuel (listed.setIfInBounds i true) a' w':=by
        intro w' a' E' S' hx' hst' hchk hyt;exact ih _ t' ht' E' S' a' w' hst' (hx.trans hx') (hcl.set hmem) hchk hyt
       have unl:∀k,(listed.setIfInBounds i true).getD k true=false→i≠k∧listed.getD k true=false:=by
        intro k hk;have hik:i≠k:=by
         intro h; subst h;simp only[Array.getD_eq_getD_getElem?,Array.getElem?_setIfInBounds_self] at hk;split at hk<;>simp at hk
        rw[getD_set_ne true hik] at hk;exact⟨hik,hk⟩
       have isq:Wx P ops i=UW (cop P oi.op oi.type):=by unfold Wx; rw[hoi]
       unfold wpOpIn;simp only[hoi];obtain⟨d,x,g⟩:=o;have wanted1:(Region.wanted oi (yielded ops a.tmps)=true)→oi.dst=d→cop P oi.op oi.type=x→qK n d=true→
        YO P r n d x (fun E' S'=>(Jf P ops i=true→∀s∈R,s∈S')∧YT P r n R K t' E' S') E S→
        Oper.wpIn (Fk r) 0 P oi a w (fun a' w'=>((Wx P ops i=true→w'=w)∧(Wx P ops i=false→Jf P ops i=true→Cw R w→Cw R w'))∧
         wpC P r (Cw R) ops (fun e a' w'=>e= .normal∧Ext w0 w'∧∃E' S',St n D F E' S' a' w'∧K E' S') fuel (listed.setIfInBounds i true) a' w') (fun _ _ _=>False):=by
        intro hw hd hx2 hdok hyo;subst hd;refine Oper.wpIn_mono (hyo oi.op oi.type oi.pos oi.after oi.guard hx2 hdok D F a w hst) ?_ (fun _ _ _ hf=>hf);rintro a' w' ⟨hx',E',S',hst',hchk,hyt⟩;have hCw:Jf P ops i=true→Cw R w':=fun h=>kN hst'.sat (hchk h)
        exact⟨⟨(fun h=>by rw[isq,hx2] at h; rw[h] at hq; cases hq),fun _ hch _=>hCw hch⟩,
         fin w' a' E' S' hx' hst' (fun k ok hk hlk hkun=>hCw (lF hcl hk hlk (unl k hkun).2 hmem (Ne.symm (unl k hkun).1))) hyt⟩
       cases g with
       | none=>
        obtain⟨hg,rfl,rfl,hd⟩:=VI ho;have hw:Region.wanted oi (yielded ops a.tmps)=true:=by simp[Region.wanted,hg]
        rw[if_pos hw];exact wanted1 hw rfl rfl hd hy1
       | some gb=>
        obtain⟨gt,b⟩:=gb;obtain⟨jj,hg,ht2,rfl,rfl,hd⟩:=VH ho;obtain⟨h1,h2⟩:=hy1;have hw:=Yt (a:=a) hg ht2;rw[hst.env] at hw;by_cases hcb:gB (E gt)=some b
        ·have hw':Region.wanted oi (yielded ops a.tmps)=true:=by rw[hw]; simp[hcb]
         rw[if_pos hw'];exact wanted1 hw' rfl rfl hd (h1 hcb)
        ·have hw':¬Region.wanted oi (yielded ops a.tmps)=true:=by rw[hw]; simp[hcb]
         rw[if_neg hw'];refine⟨fun _ _=>trivial,⟨fun _=>trivial,fun _ _ h=>h⟩,?_⟩;exact fin w _ (Zk oi.dst undef E) S (Ext.refl w) (hst.put hd undef hst.sat) (fun k ok hk hlk hkun=>hld k ok hk hlk (unl k hkun).2) (h2 hcb)
      ·exact ihL rest hrest hy.2 (fun i hi=>hsub i (by simp[hi])) i hi'
     ·cases ht
   exact key (j::l) t ht hy (fun i hi=>by rw[hready]; exact hi) |>fun h=>by rw[hready]; exact h
end
section
variable {P:Program} {n:Nat} {r:Option Nat} {R S:zB} {K:Env→zB→Prop} {Q:Exit→Env→zB→Prop} {E:Env}
/-- A REGION THAT DRAWS ITS ORDER; R: the chunks that stay as they are while something may still be read -/
theorem Wn{t:Zx}(hR:∀s∈R,s∈S)(h:YT P r n R (fun E S=>Q .normal E S) t E S):Y P r n (.draw t) Q E S:=by
 intro c hc;obtain⟨id,ops,rfl,hm,hns,htr⟩:=(Ws hc).2.2.2.2.2.2.2.2.2.2.2 t rfl;intro D F a w hst;have hst':St n D F E S a {w with drawn:=w.drawn+1}:=⟨hst.size,hst.env,hst.defers,⟨Zy.nodup hst.sat,fun x hx=>Zy.at_ (w:=w) hst.sat x hx⟩⟩
 have hx:Ext w {w with drawn:=w.drawn+1}:=⟨rfl,rfl,rfl,Nat.le_refl _⟩
 refine wpIn_region_any hm ?_;have hcl:Closed ops (Array.replicate ops.size false):=by
  intro j oj hj hl;rw[uP] at hl; cases hl
 have:=Xg (K:=fun E S=>Q .normal E S) hns (D:=D) (F:=F) (w0:=w) ops.size _ t htr E S a _ hst' hx hcl (fun _ _ _ _ _=>kN hst'.sat hR) h;have h2:=UJ _ _ _ _ this;exact UK (fun e a' w' ⟨he,hx',E',S',s',k⟩=>by subst he; exact⟨hx',D,E',S',s',k⟩) _ _ _ _ h2
theorem zY{t:Zx}(h:YT P r n S (fun E S=>Q .normal E S) t E S):Y P r n (.draw t) Q E S:=Wn (fun _ h=>h) h
theorem zD(h:K E S):YT P r n R K .done E S:=h
theorem zM:YT P r n R K .noalt E S:=trivial
theorem zi{d:Option Tmp}{o:Wv}{v:Value}{t:Zx}(hv:zu (ev E) o=some v)(h:YT P r n R K t (Zk d v E) S):YT P r n R K (.q ⟨d,o,none⟩ t) E S:=⟨v,.comp hv,h⟩
theorem Zd{d:Option Tmp}{a:Operand}{b off:Nat}{c:Array Value}{ty:TypeId}{fz:Nat × Nat}{f:Obj→zB}{v:Value}{t:Zx}[hA:At R b (.cells c ty fz) f]
 (ha:ev E a= .pointer (some ⟨b,off,none⟩)) (hv':c.toList[off]?=some v) (h:YT P r n R K t (Zk d v E) S):YT P r n R K (.q ⟨d,.load1 a,none⟩ t) E S:=by
 have hv:c[off]?=some v:=by simpa using hv'
 obtain⟨S1,S2,e,_⟩:=hA.ex;exact⟨v,.load1 (ty:=ty) (fz:=fz) ha (by rw[e]; exact List.mem_append.2 (.inr (List.mem_cons_self ..))) hv,h⟩
theorem VA{d:Option Tmp}{a:Operand}{b off k:Nat}{c:Array Value}{ty:TypeId}{fz:Nat × Nat}{f:Obj→zB}{l:List Value}{t:Zx}[hA:At R b (.cells c ty fz) f]
 (ha:ev E a= .pointer (some ⟨b,off,none⟩)) (hv:(c.toList.drop off).take k=l) (hk:l.length=k) (h:YT P r n R K t (Zk d (.agg l.toArray) E) S):YT P r n R K (.q ⟨d,.loadN k a,none⟩ t) E S:=by
 obtain⟨S1,S2,e,_⟩:=hA.ex;exact⟨_,.loadN (ty:=ty) (fz:=fz) ha (by rw[e]; exact List.mem_append.2 (.inr (List.mem_cons_self ..))) hv hk,h⟩
theorem zQ{d:Option Tmp}{o:Wv}{g:Tmp}{b:Bool}{t:Zx}(hv:E g= .bool b)(h:YT P r n R K (.q ⟨d,o,none⟩ t) E S):YT P r n R K (.q ⟨d,o,some (g,b)⟩ t) E S:=by
 obtain⟨v,hq,hy⟩:=h;exact⟨fun _=>⟨v,hq,hy⟩,fun hc=>absurd (by rw[hv]; rfl) hc⟩
theorem zR{d:Option Tmp}{o:Wv}{g:Tmp}{b:Bool}{t:Zx}(hv:E g= .bool (!b))(h:YT P r n R K t (Zk d undef E) S):YT P r n R K (.q ⟨d,o,some (g,b)⟩ t) E S:=
 ⟨fun hc=>absurd hc (iO hv),fun _=>h⟩
theorem zH{d:Option Tmp}{o:Wv}{t rest:Zx}(h:YO P r n d o (YT P r n R K t) E S)(h2:YT P r n R K rest E S):YT P r n R K (.alt ⟨d,o,none⟩ false t rest) E S:=by
 refine⟨?_,h2⟩;intro op ty pos af g hc hd D F a w hs;refine Oper.wpIn_mono (h op ty pos af g hc hd D F a w hs) ?_ (fun _ _ _ hf=>hf);rintro a' w' ⟨hx,E',S',hs',hk⟩;exact⟨hx,E',S',hs',(fun h=>by cases h),hk⟩
/-- the same, where something may still be read behind it: what is stable stays -/
theorem Zm{d:Option Tmp}{o:Wv}{c:Bool}{t rest:Zx}(h:YO P r n d o (fun E' S'=>(∀s∈R,s∈S')∧YT P r n R K t E' S') E S)(h2:YT P r n R K rest E S):YT P r n R K (.alt ⟨d,o,none⟩ c t rest) E S:=by
 refine⟨?_,h2⟩;intro op ty pos af g hc hd D F a w hs;refine Oper.wpIn_mono (h op ty pos af g hc hd D F a w hs) ?_ (fun _ _ _ hf=>hf);rintro a' w' ⟨hx,E',S',hs',hR,hk⟩;exact⟨hx,E',S',hs',(fun _=>hR),hk⟩
theorem ZU{d:Option Tmp}{o:Wv}{c:Bool}{g:Tmp}{b:Bool}{t rest:Zx}(hv:E g= .bool b)(h:YT P r n R K (.alt ⟨d,o,none⟩ c t .noalt) E S)(h2:YT P r n R K rest E S):YT P r n R K (.alt ⟨d,o,some (g,b)⟩ c t rest) E S:=
 ⟨⟨fun _=>h.1,fun hc=>absurd (by rw[hv]; rfl) hc⟩,h2⟩
theorem ZY{d:Option Tmp}{o:Wv}{c:Bool}{g:Tmp}{b:Bool}{t rest:Zx}(hv:E g= .bool (!b))(h:YT P r n R K t (Zk d undef E) S)(h2:YT P r n R K rest E S):YT P r n R K (.alt ⟨d,o,some (g,b)⟩ c t rest) E S:=
 ⟨⟨fun hc=>absurd hc (iO hv),fun _=>h⟩,h2⟩
end
end Go.Xs
namespace Go.Xs
section
variable {ρ:Operand→Value} {x y c a b i:Operand} {v:Value}
theorem pC{E:Env}:zu (ev E) (.mov (.const v))=some v:=rfl
theorem pI{k:IntKind}{n:Int}(h:ρ x= .int k n):zu ρ (.mov x)=some (.int k n):=by simp[zu,h]
theorem pB{t:Bool}(h:ρ x= .bool t):zu ρ (.mov x)=some (.bool t):=by simp[zu,h]
theorem pP{p:Option Addr}(h:ρ x= .pointer p):zu ρ (.mov x)=some (.pointer p):=by simp[zu,h]
theorem pS{p:Option Addr}{n m:Nat}(h:ρ x= .slice p n m):zu ρ (.mov x)=some (.slice p n m):=by simp[zu,h]
theorem pT{s:ByteArray}(h:ρ x= .string s):zu ρ (.mov x)=some (.string s):=by simp[zu,h]
theorem pF{f:Fn}{p q:Array Value}(h:ρ x= .func f p q):zu ρ (.mov x)=some (.func f p q):=by simp[zu,h]
theorem pU{cs:Array Value}(h:ρ x= .tuple cs):zu ρ (.mov x)=some (.tuple cs):=by simp[zu,h]
theorem pM{m:Option Nat}(h:ρ x= .map m):zu ρ (.mov x)=some (.map m):=by simp[zu,h]
theorem zP{u:Bool}(h1:ρ c= .bool true)(h2:ρ a= .bool u):zu ρ (.pick c a b)=some (.bool u):=by simp[zu,h1,h2]
theorem zU{u:Bool}(h1:ρ c= .bool false)(h2:ρ b= .bool u):zu ρ (.pick c a b)=some (.bool u):=by simp[zu,h1,h2]
theorem wrap_i64{n:Int}(h: -9223372036854775808≤n∧n≤9223372036854775807):IntKind.i64.wrap n=n:=IntWalk.i64_in n (by simpa using h)
theorem Vo{m n:Int}(h1:ρ x= .int .i64 m)(h2:ρ y= .int .i64 n)(h: -9223372036854775808≤m+n∧m+n≤9223372036854775807):zu ρ (.bin .add x y)=some (.int .i64 (m+n)):=by
 simp[zu,h1,h2,Wy,WW,wrap_i64 h]
theorem Zt{m n:Int}(h1:ρ x= .int .i64 m)(h2:ρ y= .int .i64 n)(h: -9223372036854775808≤m-n∧m-n≤9223372036854775807):zu ρ (.bin .sub x y)=some (.int .i64 (m-n)):=by
 simp[zu,h1,h2,Wy,WW,wrap_i64 h]
theorem jR{m n:Int}(h1:ρ x= .int .i64 m)(h2:ρ y= .int .i64 n)(h: -9223372036854775808≤m*n∧m*n≤9223372036854775807):zu ρ (.bin .mul x y)=some (.int .i64 (m*n)):=by
 simp[zu,h1,h2,Wy,WW,wrap_i64 h]
/-- a counter goes up -/
theorem Za{k:Nat}(h1:ρ x= .int .i64 (k:Int))(h2:ρ y= .int .i64 1)(h:k<9223372036854775807):zu ρ (.bin .add x y)=some (.int .i64 ((k+1:Nat):Int)):=by
 rw[Vo h1 h2 (by omega)]; simp
theorem Zq{k:Nat}(h1:ρ x= .int .i64 (k:Int))(h2:ρ y= .int .i64 1)(h:1≤k∧k≤9223372036854775807):zu ρ (.bin .sub x y)=some (.int .i64 ((k-1:Nat):Int)):=by
 rw[Zt h1 h2 (by omega)];congr 2; omega
theorem Zi{j k:Nat}(h1:ρ x= .int .i64 (j:Int))(h2:ρ y= .int .i64 (k:Int))(h:j+k≤9223372036854775807):zu ρ (.bin .add x y)=some (.int .i64 ((j+k:Nat):Int)):=by
 rw[Vo h1 h2 (by omega)]; simp
theorem Oy{p o len cap size:Nat}{q:IntKind}{k:Int}(h1:ρ x= .slice (some ⟨p,o,none⟩) len cap)(h2:ρ i= .int q k)(h:0≤k∧k<(len:Int)):zu ρ (.iadr x i size)=some (.pointer (some ⟨p,o+k.toNat*size,none⟩)):=by
 simp[zu,h1,h2,h]
theorem zN{p o len cap size:Nat}{q:IntKind}{k:Nat}(h1:ρ x= .slice (some ⟨p,o,none⟩) len cap)(h2:ρ i= .int q (k:Int))(h:k<len):zu ρ (.iadr x i size)=some (.pointer (some ⟨p,o+k*size,none⟩)):=by
 rw[Oy h1 h2 (by omega)]; simp
theorem OD{p o len size:Nat}{q:IntKind}{k:Int}(h1:ρ x= .pointer (some ⟨p,o,none⟩))(h2:ρ i= .int q k)(h:0≤k∧k<(len:Int)):zu ρ (.aadr x i len size)=some (.pointer (some ⟨p,o+k.toNat*size,none⟩)):=by
 simp[zu,h1,h2,h]
theorem EM{s:ByteArray}{q:IntKind}{k:Nat}(h1:ρ x= .string s)(h2:ρ i= .int q (k:Int))(h:k<s.size):zu ρ (.sidx x i)=some (.int .u8 (s[k].toNat:Int)):=by
 simp[zu,h1,h2,h]
theorem QB{p:Option Addr}{len cap size j:Nat}{q:IntKind}(h1:ρ x= .slice p len cap)(h2:ρ i= .int q (j:Int))(h:j≤cap):zu ρ (.slc size x none (some i) none)=some (.slice p j cap):=by
 have:(if cap=0 then p else p.map (fun a=>a.add 0))=p:=by
  cases p<;>simp[Addr.add]
 have hb:(0:Int)≤j∧(j:Int)≤cap:=by omega
 simp[zu,h1,Vp,h2,Jy,bnd,Ug,h,this]
theorem XC{p o len cap size j:Nat}{q:IntKind}(h1:ρ x= .slice (some ⟨p,o,none⟩) len cap)(h2:ρ i= .int q (j:Int))(h:j≤len):
 zu ρ (.slc size x (some i) none none)=some (.slice (some ⟨p,if cap=j then o else o+j*size,none⟩) (len-j) (cap-j)):=by
 have:(if cap=j then some (⟨p,o,none⟩:Addr) else(some (⟨p,o,none⟩:Addr)).map (fun a=>a.add (j*size)))=some ⟨p,if cap=j then o else o+j*size,none⟩:=by
  split<;>simp[add_plain]
 have hb:(0:Int)≤j∧(j:Int)≤len:=by omega
 simp only[zu,h1,Vp,h2,Jy,bnd,Ug,hb,Option.isSome_none,Bool.false_eq_true,if_false,Option.bind_some,Int.toNat_natCast,and_self,if_true,this]
theorem gJ{p o len cap size j k:Nat}{q q':IntKind}{i':Operand}(h1:ρ x= .slice (some ⟨p,o,none⟩) len cap)(h2:ρ i= .int q (j:Int))(h2':ρ i'= .int q' (k:Int))(h:j≤k∧k≤cap):
 zu ρ (.slc size x (some i) (some i') none)=some (.slice (some ⟨p,if cap=j then o else o+j*size,none⟩) (k-j) (cap-j)):=by
 have:(if cap=j then some (⟨p,o,none⟩:Addr) else(some (⟨p,o,none⟩:Addr)).map (fun a=>a.add (j*size)))=some ⟨p,if cap=j then o else o+j*size,none⟩:=by
  split<;>simp[add_plain]
 have hb:(0:Int)≤j∧(j:Int)≤k:=by omega
 have hb':(0:Int)≤k∧(k:Int)≤cap:=by omega
 simp only[zu,h1,Vp,h2,h2',Jy,bnd,Ug,hb,hb',Option.bind_some,Int.toNat_natCast,and_self,if_true,this]
theorem oo{s:ByteArray}{j:Nat}{q:IntKind}(h1:ρ x= .string s)(h2:ρ i= .int q (j:Int))(h:j≤s.size):zu ρ (.sslc x (some i) none)=some (.string (s.extract j s.size)):=by
 have hb:(0:Int)≤j∧(j:Int)≤s.size:=by omega
 simp only[zu,h1,Vp,h2,Jy,bnd,Ug,hb,Bool.false_eq_true,if_false,Option.bind_some,Int.toNat_natCast,and_self,if_true]
theorem EH{s:ByteArray}{j k:Nat}{q q':IntKind}{i':Operand}(h1:ρ x= .string s)(h2:ρ i= .int q (j:Int))(h2':ρ i'= .int q' (k:Int))(h:j≤k∧k≤s.size):zu ρ (.sslc x (some i) (some i'))=some (.string (s.extract j k)):=by
 have hb:(0:Int)≤j∧(j:Int)≤k:=by omega
 have hb':(0:Int)≤k∧(k:Int)≤s.size:=by omega
 simp only[zu,h1,Vp,h2,h2',Jy,bnd,Ug,hb,hb',Option.bind_some,Int.toNat_natCast,and_self,if_true]
theorem EI{p o len cap size j k m:Nat}{q q' q'':IntKind}{i' i'':Operand}(h1:ρ x= .slice (some ⟨p,o,none⟩) len cap)(h2:ρ i= .int q (j:Int))(h2':ρ i'= .int q' (k:Int))(h2'':ρ i''= .int q'' (m:Int))(h:j≤k∧k≤m∧m≤cap):
 zu ρ (.slc size x (some i) (some i') (some i''))=some (.slice (some ⟨p,if m=j then o else o+j*size,none⟩) (k-j) (m-j)):=by
 have:(if m=j then some (⟨p,o,none⟩:Addr) else(some (⟨p,o,none⟩:Addr)).map (fun a=>a.add (j*size)))=some ⟨p,if m=j then o else o+j*size,none⟩:=by
  split<;>simp[add_plain]
 have hb:(0:Int)≤j∧(j:Int)≤k:=by omega
 have hb':(0:Int)≤k∧(k:Int)≤m:=by omega
 have hb'':(0:Int)≤m∧(m:Int)≤cap:=by omega
 simp only[zu,h1,Vp,h2,h2',h2'',Jy,bnd,Ug,hb,hb',hb'',Option.bind_some,Int.toNat_natCast,and_self,if_true,this]
theorem Zz{p:Option Addr}{n m:Nat}(h:ρ x= .slice p n m):zu ρ (.len x)=some (.int .i64 (n:Int)):=by simp[zu,h]
theorem EW{p:Option Addr}{n m:Nat}(h:ρ x= .slice p n m):zu ρ (.cap x)=some (.int .i64 (m:Int)):=by simp[zu,h]
theorem uU{s:ByteArray}(h:ρ x= .string s):zu ρ (.slen x)=some (.int .i64 (s.size:Int)):=by simp[zu,h]
theorem ZL{k:IntKind}{a b:Int}(h1:ρ x= .int k a)(h2:ρ y= .int k b):zu ρ (.bin .lss x y)=some (.bool (decide (a<b))):=by simp[zu,h1,h2,Wy,WW]
theorem Xl{k:IntKind}{a b:Int}(h1:ρ x= .int k a)(h2:ρ y= .int k b):zu ρ (.bin .leq x y)=some (.bool (decide (a≤b))):=by simp[zu,h1,h2,Wy,WW]
theorem VE{k:IntKind}{a b:Int}(h1:ρ x= .int k a)(h2:ρ y= .int k b):zu ρ (.bin .gtr x y)=some (.bool (decide (b<a))):=by simp[zu,h1,h2,Wy,WW]
theorem U9{k:IntKind}{a b:Int}(h1:ρ x= .int k a)(h2:ρ y= .int k b):zu ρ (.bin .geq x y)=some (.bool (decide (b≤a))):=by simp[zu,h1,h2,Wy,WW]
theorem WB{k:IntKind}{a b:Int}(h1:ρ x= .int k a)(h2:ρ y= .int k b):zu ρ (.bin .eql x y)=some (.bool (decide (a=b))):=by simp[zu,h1,h2,Wy,WW]
theorem UF{k:IntKind}{a b:Int}(h1:ρ x= .int k a)(h2:ρ y= .int k b):zu ρ (.bin .neq x y)=some (.bool (!decide (a=b))):=by simp[zu,h1,h2,Wy,WW]
theorem Ze{b:Bool}(h1:ρ x= .bool b):zu ρ (.un .not x)=some (.bool (!b)):=by simp[zu,h1]
theorem zx{b o off:Nat}(h:ρ x= .pointer (some ⟨b,o,none⟩)):zu ρ (.fadr x off)=some (.pointer (some ⟨b,o+off,none⟩)):=by simp[zu,h]
theorem zS{a:Addr}(h:ρ x= .pointer (some a)):zu ρ (.nilc x)=some (.pointer (some a)):=by simp[zu,h]
theorem wJ{p:Option Addr}(h1:ρ x= .pointer p)(h2:ρ y= .pointer none):zu ρ (.eqn 0 false x y)=some (.bool p.isNone):=by
 cases p<;>simp[zu,h1,h2,jq]
theorem yt{p:Option Addr}(h1:ρ x= .pointer p)(h2:ρ y= .pointer none):zu ρ (.eqn 0 true x y)=some (.bool (!p.isNone)):=by
 cases p<;>simp[zu,h1,h2,jq]
theorem pExt{vs:Array Value}{i:Nat}{v:Value}(h:ρ x= .tuple vs)(hv:vs.toList[i]?=some v):zu ρ (.ext x i)=some v:=by simp[zu,h]; simpa using hv
theorem QE{p:Option Addr}{n m n' m':Nat}(h1:ρ x= .slice p n m)(h2:ρ y= .slice none n' m'):zu ρ (.eqn 1 false x y)=some (.bool p.isNone):=by
 cases p<;>simp[zu,h1,h2,jq]
end
section
variable {P:Program} {r:Option Nat} {n:Nat} {Q:Exit→Env→zB→Prop} {E:Env} {S:zB} {K:Env→zB→Prop}
/-! ### what is of no use is forgotten -/
def zG(S S0:zB):Prop:=∃G:List Chunk,S.flatten.Perm (S0.flatten++G)
theorem zG.of{S S0 G:zB}[h:Sub S S0 G]:zG S S0:=⟨_,h.perm⟩
theorem zG.self{S:zB}:zG S S:=⟨[],by simp⟩
theorem zG.trans{S S0 S1:zB}(h:zG S S0)(k:zG S0 S1):zG S S1:=by
 obtain⟨G,hG⟩:=h;obtain⟨G',hG'⟩:=k;refine⟨G'++G,hG.trans ?_⟩;rw[←List.append_assoc];exact hG'.append_right _
theorem zG.sat{S S0 F:zB}{w:World}(h:zG S S0)(hs:Sat (S++F) w):Sat (S0++F) w:=by
 obtain⟨G,hG⟩:=h;have h1:Zy ((S0.flatten++F.flatten)++G) w:=by
  refine Zy.perm hs ?_;rw[List.flatten_append];refine(hG.append_right _).trans ?_;rw[List.append_assoc,List.append_assoc];exact List.perm_append_comm.append_left _
 have:=Zy.sub h1 (List.sublist_append_left _ G);show Zy _ w;rw[List.flatten_append];exact this
section
variable {P:Program} {r:Option Nat} {n:Nat} {Q:Exit→Env→zB→Prop} {E:Env} {S S0:zB} {K:Env→zB→Prop}
theorem zm{x:zA}(j:zG S S0)(h:Y P r n x Q E S0):Y P r n x Q E S:=
 fun c hc D F a w hs=>h c hc D F a w ⟨hs.size,hs.env,hs.defers,j.sat hs.sat⟩
theorem XT{l:List ZT}(j:zG S S0)(h:YL P r n l K E S0):YL P r n l K E S:=
 fun ops l' hl D F a w hs=>h ops l' hl D F a w ⟨hs.size,hs.env,hs.defers,j.sat hs.sat⟩
theorem Tri.forget{f:FuncId}{args:Array Value}{R:Value→zB→Prop}(h:Tri P f args S (fun v S'=>∃S'',zG S' S''∧R v S'')):Tri P f args S R:=
 ⟨h.ent,fun F w hs=>(h.run F w hs).mono fun _ _ ⟨x,v,_S',e,s,S'',j,q⟩=>⟨x,v,S'',e,j.sat s,q⟩⟩
end
/-! ### a frame of which so much is known -/
def puts:List (Nat × Value)→Env→Env
 | [],E=>E
 | (k,v)::l,E=>upd (puts l E) k v
def Has(E:Env):List (Nat × Value)→Prop
 | []=>True
 | (k,v)::l=>E k=v∧Has E l
theorem YE:∀{l:List (Nat × Value)} {E:Env},Has E l→puts l E=E
 | [],E,_=>rfl
 | (k,v)::l,E,⟨h,hl⟩=>by
  rw[puts,YE hl];funext t;unfold upd;split
  ·next ht=>rw[←ht,h]
  ·rfl
theorem zl{l:List (Nat × Value)}{E:Env}(h:Has E l):∃E0,E=puts l E0:=⟨E,(YE h).symm⟩
end
section
variable {P:Program} {E:Env} {S:zB} {N:Env→zB→Prop} {Q:Exit→Env→zB→Prop}
theorem za(h:N E S):VO N Q .normal E S:=h
theorem zX(h:Q .ret E S):VO N Q .ret E S:=h
theorem zy{id:Nat}(h:Q (.exit id) E S):VO N Q (.exit id) E S:=h
theorem zT{id:Nat}(h:Q .normal E S):uJ id Q .normal E S:=h
theorem bret{id:Nat}(h:Q .ret E S):uJ id Q .ret E S:=h
theorem zW{id:Nat}(h:Q .normal E S):uJ id Q (.exit id) E S:=by simpa[uJ] using h
theorem vV{id id':Nat}(hne:(id'==id)=false)(h:Q (.exit id') E S):uJ id Q (.exit id') E S:=by
 have:id'≠id:=by simpa using hne
 simpa[uJ,this] using h
end
section
variable {P:Program} {r:Option Nat} {n:Nat} {K:Env→zB→Prop} {E:Env} {S:zB} {d:Option Tmp}
theorem Zv{t:TypeId}{x:Operand}{c:List Value}(hv:ev E x= .agg c.toArray)(h:∀b,K (Zk d (.pointer (some ⟨b,0,none⟩)) E) ([(b,.cells c.toArray t)]::S)):YO P r n d (.box t x) K E S:=CX (vs:=c) (by rw[hv]; rfl) h
end
section
variable {P:Program} {E:Env} {S:zB}
theorem rI{t:Tmp}{k:IntKind}{a:Int}(hv:E t= .int k a):Xo P #[.tmp t] E S (.int k a):=res1 hv
theorem rB{t:Tmp}{b:Bool}(hv:E t= .bool b):Xo P #[.tmp t] E S (.bool b):=res1 hv
theorem rP{t:Tmp}{p:Option Addr}(hv:E t= .pointer p):Xo P #[.tmp t] E S (.pointer p):=res1 hv
theorem rS{t:Tmp}{p:Option Addr}{n m:Nat}(hv:E t= .slice p n m):Xo P #[.tmp t] E S (.slice p n m):=res1 hv
theorem rF{t:Tmp}{p:Fn}{n m:Array Value}(hv:E t= .func p n m):Xo P #[.tmp t] E S (.func p n m):=res1 hv
theorem fU{t u:Tmp}{k:IntKind}{a:Int}{b:Bool}(hv:E t= .int k a)(hv':E u= .bool b):Xo P #[.tmp t,.tmp u] E S (.tuple #[.int k a,.bool b]):=res2 hv hv'
theorem Ya{t u:Tmp}{k k':IntKind}{a b:Int}(hv:E t= .int k a)(hv':E u= .int k' b):Xo P #[.tmp t,.tmp u] E S (.tuple #[.int k a,.int k' b]):=res2 hv hv'
theorem AZ{t u:Tmp}{p:Option Addr}{n m:Nat}{b:Bool}(hv:E t= .slice p n m)(hv':E u= .bool b):Xo P #[.tmp t,.tmp u] E S (.tuple #[.slice p n m,.bool b]):=res2 hv hv'
end
section
variable {P:Program} {E:Env} {S:zB}
end
end Go.Xs
namespace Go.Xs
/-- a type whose values lie in so many cells -/
class Enc(α:Type) where
 enc:α→List Value
 k:Nat
 len:∀a,(enc a).length=k
 plain:∀a,(enc a).all vT=true
open Enc (enc)
def cells{α:Type}[Enc α](L:List α):List Value:=L.flatMap enc
section
variable {α:Type} [Enc α]
theorem wu(a:α)(L:List α):cells (a::L)=enc a++cells L:=rfl
theorem Wj(L M:List α):cells (L++M)=cells L++cells M:=by simp[cells]
theorem zJ(L:List α):(cells L).length=L.length*Enc.k α:=by
 induction L with
 | nil=>simp[cells]
 | cons a L ih=>rw[wu,List.length_append,Enc.len,ih,List.length_cons,Nat.succ_mul,Nat.add_comm]
theorem Vy(L:List α):(cells L).all vT=true:=by
 induction L with
 | nil=>rfl
 | cons a L ih=>rw[wu,List.all_append,Enc.plain,ih]; rfl
theorem wZ(L:List α)(i:Nat):(cells L).drop (i*Enc.k α)=cells (L.drop i):=by
 induction L generalizing i with
 | nil=>simp[cells]
 | cons a L ih=>
  cases i with
  | zero=>simp
  | succ i=>
   rw[wu,List.drop_succ_cons, ←ih i,Nat.succ_mul,Nat.add_comm, ←List.drop_drop];congr 1;rw[List.drop_append_of_le_length (by rw[Enc.len]; omega),List.drop_eq_nil_of_le (by rw[Enc.len]; omega)];rfl
theorem WA(L:List α)(i:Nat):(cells L).take (i*Enc.k α)=cells (L.take i):=by
 induction L generalizing i with
 | nil=>simp[cells]
 | cons a L ih=>
  cases i with
  | zero=>simp[cells]
  | succ i=>
   rw[wu,List.take_succ_cons,wu, ←ih i,Nat.succ_mul,Nat.add_comm];rw[List.take_append,Enc.len];rw[List.take_of_length_le (by rw[Enc.len]; omega)];congr 2;omega
/-- one cell of one element -/
theorem uf(L:List α)(i j:Nat)(h:i<L.length)(hj:j<Enc.k α):(cells L)[i*Enc.k α+j]?=(enc L[i])[j]?:=by
 have h1:(cells L)[i*Enc.k α+j]?=((cells L).drop (i*Enc.k α))[j]?:=by simp
 rw[h1,wZ,List.drop_eq_getElem_cons h,wu,List.getElem?_append_left (by rw[Enc.len]; exact hj)]
/-- one element -/
theorem Uz(L:List α)(i:Nat)(h:i<L.length):((cells L).drop (i*Enc.k α)).take (Enc.k α)=enc L[i]:=by
 rw[wZ,List.drop_eq_getElem_cons h,wu,List.take_append,Enc.len,Nat.sub_self,List.take_zero,List.append_nil,List.take_of_length_le (by rw[Enc.len]; exact Nat.le_refl _)]
theorem Wp(l:List Value):∀(c:List Value) (off:Nat),off+c.length≤l.length→Zr l off c=l.take off++c++l.drop (off+c.length)
 | [],off,h=>by simp[Zr]
 | x::c,off,h=>by
  simp only[List.length_cons] at h;rw[Zr,Wp (l.set off x) c (off+1) (by simp; omega)];simp only[List.length_cons];rw[show off+1+c.length=off+(c.length+1) from by omega];rw[List.drop_set_of_lt (by omega)];congr 1;have e1:(l.set off x).take (off+1)=l.take off++[x]:=by
   rw[List.take_set,List.take_add_one,List.getElem?_eq_getElem (by omega)];simp only[Option.toList_some];rw[List.set_append_right _ _ (by simp; omega)];simp[Nat.min_eq_left (by omega:off≤l.length)]
  rw[e1]; simp
theorem Wh(L:List α)(i:Nat)(Y:List α)(h:i+Y.length≤L.length):Zr (cells L) (i*Enc.k α) (cells Y)=cells (L.take i++Y++L.drop (i+Y.length)):=by
 rw[Wp _ _ _ (by rw[zJ,zJ, ←Nat.add_mul]; exact Nat.mul_le_mul_right _ h)];rw[Wj,Wj,WA,zJ, ←Nat.add_mul,wZ]
end
/-- the frozen part lies behind the cells -/
def uQ(fz:Nat × Nat)(m:Nat):Prop:=fz.2=0∨m≤fz.1
/-- A SLICE OF ITS OWNER's: v holds L; H is its array, if it has one. -/
inductive Zf {α:Type} [Enc α] (ty:TypeId):Value→List α→List Chunk→Prop
 | nil:Zf ty (.slice none 0 0) [] []
 | row {b:Nat} {L sp:List α} {fz:Nat × Nat}:uQ fz (cells (L++sp)).length→Zf ty (.slice (some ⟨b,0,none⟩) L.length (L.length+sp.length)) L [(b,.cells (cells (L++sp)).toArray ty fz)]
theorem Zf.isSlice{α:Type}[Enc α]{ty:TypeId}{v:Value}{L:List α}{H:List Chunk}(h:Zf ty v L H):∃a c,v= .slice a L.length c:=by
 cases h with
 | nil=>exact⟨none,0,rfl⟩
 | row=>exact⟨_,_,rfl⟩
theorem Zf.at'{α:Type}[Enc α]{ty:TypeId}{a:Option Addr}{m c:Nat}{L:List α}{H:List Chunk}(h:Zf ty (.slice a m c) L H)(hne:L≠[]):
 ∃(b:Nat) (sp:List α) (fz:Nat × Nat),uQ fz (cells (L++sp)).length∧a=some ⟨b,0,none⟩∧m=L.length∧c=L.length+sp.length∧H=[(b,.cells (cells (L++sp)).toArray ty fz)]:=by
 generalize hv:Value.slice a m c=v at h;cases h with
 | nil=>exact absurd rfl hne
 | row hz=>
  simp only[Value.slice.injEq] at hv;exact⟨_,_,_,hz,hv.1,hv.2.1,hv.2.2,rfl⟩
/-- an element of a row, and one cell of it -/
theorem vJ{α:Type}[Enc α]{L sp:List α}{i kk:Nat}(h:i<L.length)(hk:Enc.k α=kk):((cells (L++sp)).toArray.toList.drop (0+i*kk)).take kk=enc L[i]:=by
 subst hk;rw[Nat.zero_add];exact(Uz (L++sp) i (by simp; omega)).trans (by rw[List.getElem_append_left h])
theorem wH{α:Type}[Enc α]{L sp:List α}{i j kk:Nat}(h:i<L.length)(hk:Enc.k α=kk)(hj:j<kk):(cells (L++sp)).toArray.toList[0+i*kk+j]?=(enc L[i])[j]?:=by
 subst hk;rw[Nat.zero_add];exact(uf (L++sp) i j (by simp; omega) hj).trans (by rw[List.getElem_append_left h])
/-- what may be read as Y in S: a slice, or a part of one -/
inductive Src {α:Type} [Enc α] (S:zB):Value→List α→Prop
 | nil {a:Option Addr} {c:Nat}:Src S (.slice a 0 c) []
 | part {b o cap:Nat} {c:Array Value} {ty:TypeId} {fz:Nat × Nat} {Y:List α}:[(b,Obj.cells c ty fz)]∈S→(c.toList.drop o).take (Y.length*Enc.k α)=cells Y→Src S (.slice (some ⟨b,o,none⟩) Y.length cap) Y
theorem Zf.src{α:Type}[Enc α]{ty:TypeId}{v:Value}{L:List α}{H:List Chunk}{S:zB}(h:Zf ty v L H)(hm:H∈S):Src S v L:=by
 cases h with
 | nil=>exact .nil
 | row hz=>exact .part hm (by rw[List.drop_zero]; simp only[Wj]; rw[List.take_append,zJ,Nat.sub_self,List.take_zero,List.append_nil,List.take_of_length_le (by rw[zJ]; exact Nat.le_refl _)])
variable {P:Program} {r:Option Nat} {n:Nat} {K:Env→zB→Prop} {E:Env} {S G:zB} {d:Option Tmp}
variable {α:Type} [Enc α]
theorem YK{a:Option Addr}{m c:Nat}(w:World):(Builtin.lenOf (.slice a m c)).run P w= .ok m w:=by simp[Builtin.lenOf,pure]
theorem U5{S F:zB}{w:World}{x:Value}{Y:List α}(h:Src S x Y)(hs:Sat (S++F) w):(Builtin.lenOf x).run P w= .ok Y.length w∧(Builtin.firstCells (Enc.k α) Y.length x).run P w= .ok (cells Y).toArray w:=by
 cases h with
 | @nil a c=>exact⟨YK w,by cases a<;>simp[Builtin.firstCells,cells,loadCells,loadCellsFrom,pure]⟩
 | @part b o cap c ty fz Y hm hc=>
  refine⟨YK w,?_⟩;have hb:w.heap[b]?=some (.cells c ty fz):=hs.at_ (List.mem_append.2 (.inl hm)) (x:=(b,_)) (by simp);have hlen:Y.length*Enc.k α≤(c.toList.drop o).length:=by
   have:=congrArg List.length hc;rw[zJ,List.length_take] at this;omega
  have hr:=Wq (P:=P) (b:=b) (off:=o) (w:=w) (l:=c.toList.drop o) (Y.length*Enc.k α) (fun j hj=>by rw[cellOf hb]; simp) hlen;rw[hc] at hr;simp[Builtin.firstCells,hr]
theorem vY{zv:Value}{z:List Value}(hz:zv.cells.toList=z)(m:Nat):(Builtin.zeroCells zv.cells m).toList=(List.replicate m z).flatten:=by
 have hsz:zv.cells.size=z.length:=by rw[←hz]; simp
 unfold Builtin.zeroCells;rw[Array.toList_map,Array.toList_range,hsz];have hget:∀i,zv.cells[i]! =z.getD i default:=by intro i; rw[←hz]; simp[Array.getElem!_eq_getD,Array.getD_eq_getD_getElem?,List.getD_eq_getElem?_getD]
 apply List.ext_getElem
 ·simp
 ·intro i h1 h2;simp only[List.getElem_map,List.getElem_range,hget];rcases Nat.eq_zero_or_pos z.length with h0 | h0
  ·simp[h0] at h1
  ·induction m generalizing i with
   | zero=>simp at h1
   | succ m ih=>
    simp only[List.replicate_succ,List.flatten_cons];by_cases hi:i<z.length
    ·rw[List.getElem_append_left hi];simp only[List.getD_eq_getElem?_getD,Nat.mod_eq_of_lt hi,List.getElem?_eq_getElem hi,Option.getD_some]
    ·have hi':z.length≤i:=by omega
     rw[List.getElem_append_right hi',Nat.mod_eq_sub_mod hi'];exact ih (i-z.length) (by simp[Nat.succ_mul] at h1 ⊢; omega) (by simp[List.replicate_succ] at h2 ⊢; omega)
theorem vU(m:Nat)(a:α):cells (List.replicate m a)=(List.replicate m (enc a)).flatten:=by
 induction m with
 | zero=>rfl
 | succ m ih=>rw[List.replicate_succ,wu,ih,List.replicate_succ,List.flatten_cons]
theorem gZ{xu:TypeDesc}(hni:∀q,xu≠ .int q):(match xu with | .int _=>true | _=>false)=false:=by
 cases xu<;>first | rfl | exact absurd rfl (hni _)
theorem Y3{t u e:TypeId}{xu:TypeDesc}{ty:TypeId}{k m sLen sCap:Nat}{base:Option Addr}{xv:Value}{ys:Array Value}{w:World}(ht:P.underlying t=some (.slice e))(hu:P.underlying u=some xu)(hni:∀q,xu≠ .int q)(hsz:sizeOf? P e=some k)
 (hlen:(Builtin.lenOf xv).run P w= .ok m w) (hfc:(Builtin.firstCells k m xv).run P w= .ok ys w) (hle:sLen+m≤sCap):
 (Builtin.append_ #[t,u] ty #[.slice base sLen sCap,xv]).run P w=match base with
  | none=> .ok (.slice none (sLen+m) sCap) w
  | some a=>((storeCells (a.add (sLen*k)) ys.toList).run P w).andThen fun _ w'=> .ok (.slice (some a) (sLen+m) sCap) w':=by
 have hz:=gZ hni;simp only[Builtin.append_,List.getElem?_toArray,List.getElem?_cons_zero,List.getElem?_cons_succ];simp only[Sem.run_bind,run_underlying ht,Result.andThen_ok,run_sizeOf hsz,run_underlying hu,pure,Sem.run,Bool.false_eq_true,if_false,hlen];rw[if_pos hle];simp only[Sem.run_bind,Bool.not_false,if_true,hfc,Result.andThen_ok];cases base with
 | none=>simp[Sem.run]
 | some a=>simp only[Sem.run_bind,Sem.run]
theorem Jo{t u e:TypeId}{xu:TypeDesc}{ty:TypeId}{k m b sLen sCap:Nat}{base:Option Addr}{xv _zv:Value}{old ys:Array Value}{w:World}{z:List Value}(ht:P.underlying t=some (.slice e))(hu:P.underlying u=some xu)(hni:∀q,xu≠ .int q)(hsz:sizeOf? P e=some k)
 (hzz:zero? P e=some z) (hbb:bytes? P e=some b)
 (hlen:(Builtin.lenOf xv).run P w= .ok m w) (hold:∀w',w'.heap=w.heap→(Builtin.firstCells k sLen (.slice base sLen sCap)).run P w'= .ok old w') (hnew:∀w',w'.heap=w.heap→(Builtin.firstCells k m xv).run P w'= .ok ys w')
 (hgt:¬sLen+m≤sCap) (hbpos:sLen+m≤9223372036854775807) (hfit:Builtin.nextslicecap (sLen+m) sCap*b≤281474976710656):
 ∃(M:Nat) (w1:World),sLen+m≤M∧w1.heap=w.heap∧Ext w w1∧∃zc:Array Value,zc.toList=(List.replicate (M-(sLen+m)) z).flatten∧
  (Builtin.append_ #[t,u] ty #[.slice base sLen sCap,xv]).run P w= .ok (.slice (some ⟨w1.heap.size,0,none⟩) (sLen+m) M) {w1 with heap:=w1.heap.push (.cells (old++ys++zc) e)}:=by
 have hz:=gZ hni
 let q:Question:= .appendCap (sLen+m) sCap e
 let M:=q.cut (w.tape w.drawn q)
 let w1:World:={w with drawn:=w.drawn+1}
 obtain⟨ti,hti,htb⟩:=ug hbb w;obtain⟨ti1,hti1,htb1⟩:=ug hbb w1;obtain⟨zv,hzr,hzc⟩:=Vd hzz w1;have hc1:¬(((sLen+m:Nat):Int)>IntKind.i64.max∧(False∨ti.bytes=0)):=by
  intro h;have:=h.1;simp[IntKind.max,IntKind.signed,IntKind.bits] at this;omega
 have hc2:¬Builtin.nextslicecap (sLen+m) sCap*ti.bytes>2 ^ 48:=by rw[htb]; omega
 have hch:(choose (.appendCap (sLen+m) sCap e)).run P w= .ok M w1:=rfl;have hroom:(askRoom (M*ti1.bytes)).run P w1= .ok () w1:=by
  unfold askRoom;split<;>rfl
 refine⟨M,w1,Nat.le_add_right _ _,rfl,⟨rfl,rfl,rfl,Nat.le_refl _⟩,Builtin.zeroCells zv.cells (M-(sLen+m)),vY hzc _,?_⟩;simp only[Builtin.append_,List.getElem?_toArray,List.getElem?_cons_zero,List.getElem?_cons_succ];simp only[Sem.run_bind,run_underlying ht,Result.andThen_ok,run_sizeOf hsz,run_underlying hu,pure,Sem.run,Bool.false_eq_true,if_false,hlen];rw[if_neg hgt];simp only[Sem.run_bind,hti,Result.andThen_ok];rw[if_neg hc1];simp only[Sem.run_bind,hti,Result.andThen_ok];rw[if_neg hc2];simp only[Sem.run_bind,hch,Result.andThen_ok,hti1,hroom,hold w1 rfl,hnew w1 rfl,hzr,wF,Bool.not_false,if_true,Sem.run]
/-- APPEND onto a slice of one's own. -/
theorem rQ{e kk bytes:Nat}{z:List Value}{s x:Operand}{v xv:Value}{L Y:List α}{H:List Chunk}[hp:Pick S H G](hs:ev E s=v)(hx:ev E x=xv)(hL:Zf e v L H)(hY:∀(F:zB) (w:World),Sat (S++F) w→(Builtin.lenOf xv).run P w= .ok Y.length w∧(Builtin.firstCells (Enc.k α) Y.length xv).run P w= .ok (cells Y).toArray w)
 (hk:Enc.k α=kk) (z0:α) (hz:enc z0=z) (hb:(L.length+Y.length)*bytes≤140737488355328) (hl:L.length+Y.length≤9223372036854775807)
 (h:∀v' H',Zf e v' (L++Y) H'→K (Zk d v' E) (H'::G)):YO P r n d (.app e kk bytes z s x) K E S:=by
 intro op ty pos af g hc hd;obtain⟨t,u,xu,rfl,ht,hu,hni,hsz,hzz,hbb⟩:=Zu hc;subst hk;refine uj (by simp) hd fun F w hsat=>?_
 obtain⟨hlen,hcells⟩:=hY F w hsat;have key:∀v' w',(Builtin.append_ #[t,u] ty #[v,xv]).run P w= .ok v' w'→
  (execOp (ev E) (mk d (.call {callee:= .builtin .append,args:= #[s,x],argTypes:= #[t,u]}) ty pos af g)).run P w= .ok (.value v') w':=by
  intro v' w' hr;refine ZR rfl ?_;have:(#[s,x]:Array Operand).map (ev E)= #[v,xv]:=by simp[hs,hx]
  rw[this];simp[builtin,Sem.run_bind,hr,Result.andThen,pure,Sem.run]
 have hsatw:∀w':World,w'.heap=w.heap→Sat (S++F) w':=fun w' h'=>⟨Zy.nodup hsat,fun y hy=>by rw[h']; exact Zy.at_ hsat y hy⟩
 have hsat':=hsat.yj (S':=H::G) (by simpa using hp.perm);have hsatw':∀w':World,w'.heap=w.heap→Sat ((H::G)++F) w':=fun w' h'=>⟨Zy.nodup hsat',fun y hy=>by rw[h']; exact Zy.at_ hsat' y hy⟩
 -- what is there may be read in every world of this heap
 have hold:∀w':World,w'.heap=w.heap→∀base cap,v= .slice base L.length cap→(Builtin.firstCells (Enc.k α) L.length (.slice base L.length cap)).run P w'= .ok (cells L).toArray w':=by
  intro w' hw base cap hv;have:=(U5 (P:=P) (hL.src (S:=H::G) (by simp)) (hsatw' w' hw)).2;rw[hv] at this; exact this
 obtain⟨base,cap,hv⟩:=hL.isSlice;by_cases hle:L.length+Y.length≤cap
 ·have hfit:=Y3 (ty:=ty) (base:=base) (sLen:=L.length) (sCap:=cap) ht hu hni hsz hlen hcells hle;cases hL with
  | nil=>
   simp only[Value.slice.injEq] at hv;obtain⟨rfl,_,rfl⟩:=hv;have hY0:Y=[]:=by cases Y with | nil=>rfl | cons a Y=>simp at hle
   subst hY0;refine⟨_,w,[]::G,key _ _ hfit,Ext.refl w,hsat',h _ _ (by simpa using Zf.nil)⟩
  | @row b L sp fz hfz=>
   simp only[Value.slice.injEq] at hv;obtain⟨rfl,_,rfl⟩:=hv;have hbk:w.heap[b]?=some (.cells (cells (L++sp)).toArray e fz):=hsat'.at_ (s:=[(b,Obj.cells (cells (L++sp)).toArray e fz)]) (by simp) (x:=(b,Obj.cells (cells (L++sp)).toArray e fz)) (by simp);have hY':Y.length≤sp.length:=by omega
   have hsum:L.length*Enc.k α+Y.length*Enc.k α≤(L.length+sp.length)*Enc.k α:=by
    rw[←Nat.add_mul]; exact Nat.mul_le_mul_right _ (by omega)
   have hroom:L.length*Enc.k α+0+(cells Y).length≤(cells (L++sp)).toArray.size:=by
    rw[List.size_toArray,zJ,zJ,List.length_append]; omega
   obtain⟨w',h1,h2,h3,h4⟩:=wD (P:=P) (b:=b) (off:=L.length*Enc.k α) (cells Y) 0 _ w hbk (Vy Y) hroom (by
    rcases hfz with hz | hz
    ·exact .inl (by omega)
    ·refine .inr (Nat.le_trans ?_ hz);rw[List.size_toArray] at hroom;exact hroom)
   have hfit':(Builtin.append_ #[t,u] ty #[.slice (some ⟨b,0,none⟩) L.length (L.length+sp.length),xv]).run P w= .ok (.slice (some ⟨b,0,none⟩) (L.length+Y.length) (L.length+sp.length)) w':=by
    rw[hfit];simp only[add_plain,Nat.zero_add,h1,Result.andThen_ok]
   refine⟨_,w',[(b,.cells (cells ((L++Y)++sp.drop Y.length)).toArray e fz)]::G,key _ _ hfit',h4,?_,h _ _ ?_⟩
   ·have hcell:Zr (cells (L++sp)) (L.length*Enc.k α) (cells Y)=cells ((L++Y)++sp.drop Y.length):=by
     rw[Wh (L++sp) L.length Y (by simp; omega)];congr 1;simp[List.drop_append]
    simp only[Nat.add_zero] at h2;rw[hcell] at h2;have hS:Zy ([]++(b,Obj.cells (cells (L++sp)).toArray e fz)::(G++F).flatten) w:=by
     have:Zy _ w:=hsat'; simpa using this
    have:=hS.upd h2 h3;show Zy _ w';simpa using this
   ·have hlen2:L.length+sp.length=(L++Y).length+(sp.drop Y.length).length:=by simp; omega
    have:=Zf.row (ty:=e) (b:=b) (L:=L++Y) (sp:=sp.drop Y.length) (fz:=fz) (by
     rcases hfz with hz | hz
     ·exact .inl hz
     ·refine .inr (Nat.le_trans (Nat.le_of_eq ?_) hz);rw[zJ,zJ]; congr 1; simp; omega)
    rw[←hlen2] at this;simpa using this
 ·-- it grows
  have hlt:cap<L.length+Y.length:=by omega
  obtain⟨M,w1,hM,hw1,hx1,zc,hzc,hrun⟩:=Jo (ty:=ty) (sLen:=L.length) (sCap:=cap) (base:=base) (m:=Y.length) (w:=w) (old:=(cells L).toArray) (ys:=(cells Y).toArray) (_zv:=undef) ht hu hni hsz hzz hbb hlen
   (fun w' hw=>hold w' hw base cap hv) (fun w' hw=>(hY F w' (hsatw w' hw)).2) hle hl (growslice_fits hlt hb)
  rw[←hv] at hrun;have hcl:(cells L).toArray++(cells Y).toArray++zc=(cells ((L++Y)++List.replicate (M-(L.length+Y.length)) z0)).toArray:=by
   apply Array.ext';simp[hzc,Wj,vU,hz]
  rw[hcl] at hrun;refine⟨_,_,[(w1.heap.size,.cells (cells ((L++Y)++List.replicate (M-(L.length+Y.length)) z0)).toArray e)]::G,key _ _ hrun,hx1.trans (Ext.push w1 _),?_,h _ _ ?_⟩
  ·have hG:Sat (G++F) w1:=by
    have:=hsatw' w1 hw1;exact Zy.sub this (by simp)
   exact Sat.new _ hG
  ·have hlen2:M=(L++Y).length+(List.replicate (M-(L.length+Y.length)) z0).length:=by simp; omega
   have:=Zf.row (ty:=e) (b:=w1.heap.size) (L:=L++Y) (sp:=List.replicate (M-(L.length+Y.length)) z0) (fz:=(0,0)) (.inl rfl);rw[←hlen2] at this;simpa using this
theorem VL{e kk bytes:Nat}{z:List Value}{s x:Operand}{v xv:Value}{L Y:List α}{H:List Chunk}[hp:Pick S H G](hs:ev E s=v)(hx:ev E x=xv)(hL:Zf e v L H)(hY:Src S xv Y)
 (hk:Enc.k α=kk) (z0:α) (hz:enc z0=z) (hb:(L.length+Y.length)*bytes≤140737488355328) (hl:L.length+Y.length≤9223372036854775807)
 (h:∀v' H',Zf e v' (L++Y) H'→K (Zk d v' E) (H'::G)):YO P r n d (.app e kk bytes z s x) K E S:=rQ hs hx hL (fun _ _ hs=>U5 (P:=P) hY hs) hk z0 hz hb hl h
theorem yB{β:Type}(f:Nat→β):Array.map f (Array.range 0)= #[]:=by apply Array.ext'; simp
/-! literals of slices -/
def Yq(ρ:Operand→Value)(size:Nat):List Value→List (Nat × Operand)→Option (List Value)
 | l,[]=>some l
 | l,(i,x)::r=>if(ρ x).cells.size=size∧i*size+size≤l.length then Yq ρ size (Zr l (i*size) (ρ x).cells.toList) r else none
theorem yO{ρ:Operand→Value}{size:Nat}:∀(parts:List (Nat × Operand)) (l r:List Value),Yq ρ size l parts=some r→Instr.fill (fun i=>some (i*size,size)) l.toArray (parts.map fun x=>(x.1,ρ x.2))=some r.toArray
 | [],l,r,h=>by simp only[Yq,Option.some.injEq] at h; subst h; simp[Instr.fill]
 | (i,x)::parts,l,r,h=>by
  simp only[Yq] at h;split at h
  ·rename_i hb
   have:=yO parts _ r h;simp only[List.map_cons,Instr.fill];have hcnd:¬(((ρ x).cells.size≠size || decide (i*size+(ρ x).cells.size>l.toArray.size))=true):=by simp; omega
   rw[if_neg hcnd, ←this];congr 1;apply Array.ext';rw[←Array.foldl_toList,Array.toList_zipIdx];have:=uE (i*size) (ρ x).cells.toList 0 l.toArray;simp only[Nat.add_zero] at this;rw[this]
  ·cases h
theorem XM{zv:Value}{z:List Value}{k:Nat}(hz:zv.cells.toList=z)(hk:z.length=k)(m:Nat):((Array.range (m*k)).map (fun i=>zv.cells[i%zv.cells.size]!)).toList=(List.replicate m z).flatten:=by
 have:=vY hz m;have hsz:zv.cells.size=k:=by rw[←hk, ←hz]; simp
 unfold Builtin.zeroCells at this;rw[hsz] at this ⊢;exact this
theorem mY{e len size:Nat}{z l:List Value}{parts:List (Nat × Operand)}(hz:z.length=size)(hsz0:size≠0)(hlen:len≠0)(hsmall:len*size≤16777216)(hl:Yq (ev E) size ((List.replicate len z).flatten) parts=some l)
 (h:∀b,K (Zk d (.slice (some ⟨b,0,none⟩) len len) E) ([(b,.cells l.toArray e)]::S)):YO P r n d (.bsl e len size z parts) K E S:=by
 intro op ty pos af g hc hd;obtain⟨t,rfl,ht,hsz,hzz⟩:=Zu hc;refine uj (by simp) hd fun F w hs=>?_
 obtain⟨zv,hzr,hzc⟩:=Vd hzz w;have hfill:=yO parts _ l hl;have hrow:((Array.range (len*size)).map (fun i=>zv.cells[i%zv.cells.size]!))=((List.replicate len z).flatten).toArray:=by
  apply Array.ext'; rw[XM hzc hz]
 refine⟨_,_,[(w.heap.size,.cells l.toArray e)]::S,?_,Ext.push w _,Sat.new _ hs,h w.heap.size⟩;have h1:¬(len*size>2 ^ 24):=by omega
 have h2:¬(len*size=0):=by
  intro h0; rcases Nat.mul_eq_zero.1 h0 with h0 | h0<;>contradiction
 simp only[execOp,Instr.buildSlice,Sem.run_bind,run_underlying ht,Result.andThen_ok,run_sizeOf hsz];rw[if_neg h1];simp only[Sem.run_bind,if_neg h2,hzr,Result.andThen_ok,pure,Sem.run,hrow,List.toList_toArray,List.map_toArray];rw[hfill];simp only[Sem.run_bind,wF,Result.andThen_ok,Sem.run]
/-- []T{}: no element -/
theorem rO{e size:Nat}{z:List Value}(h:∀b,K (Zk d (.slice (some ⟨b,0,none⟩) 0 0) E) ([(b,.cells #[] e)]::S)):YO P r n d (.bsl e 0 size z []) K E S:=by
 intro op ty pos af g hc hd;obtain⟨t,rfl,ht,hsz,hzz⟩:=Zu hc;refine uj (by simp) hd fun F w hs=>?_
 refine⟨_,_,[(w.heap.size,.cells #[] e)]::S,?_,Ext.push w _,Sat.new _ hs,h w.heap.size⟩;simp[execOp,Instr.buildSlice,Sem.run_bind,run_underlying ht,run_sizeOf hsz,Result.andThen,Instr.fill,wF,pure,Sem.run,yB]
/-- make([]T, l, c) -/
theorem rH{e size bytes:Nat}{z:List Value}{l c:Operand}{m cap:Nat}{q q':IntKind}(h1:ev E l= .int q (m:Int))(h2:ev E c= .int q' (cap:Int))(hm:m≤cap)(hz:z.length=size)(hb:bytes*cap≤281474976710656)(hcap:cap≤9223372036854775807)
 (h:∀b,K (Zk d (.slice (some ⟨b,0,none⟩) m cap) E) ([(b,.cells ((List.replicate cap z).flatten).toArray e)]::S)):YO P r n d (.mksl e size bytes z l c) K E S:=by
 intro op ty pos af g hc hd;obtain⟨t,rfl,ht,hsz,hzz,hbb⟩:=Zu hc;refine uj (by simp) hd fun F w hs=>?_
 obtain⟨ti,hti,htb⟩:=ug hbb w;obtain⟨zv,hzr,hzc⟩:=Vd hzz w;have hrow:((Array.range (cap*size)).map (fun i=>zv.cells[i%zv.cells.size]!))=((List.replicate cap z).flatten).toArray:=by
  apply Array.ext'; rw[XM hzc hz]
 have w1:IntKind.i64.wrap (cap:Int)=cap:=wrap_i64 (by omega);have w2:IntKind.i64.wrap (m:Int)=m:=wrap_i64 (by omega);refine⟨_,_,[(w.heap.size,.cells ((List.replicate cap z).flatten).toArray e)]::S,?_,Ext.push w _,Sat.new _ hs,h w.heap.size⟩;have hcnd:((decide ((cap:Int)<0) || decide ((bytes:Int)*(cap:Int)>2 ^ 48)) || decide ((m:Int)<0) || decide ((m:Int)>(cap:Int)))=false:=by
  have hb':(bytes:Int)*(cap:Int)≤281474976710656:=by rw[←Int.natCast_mul]; omega
  have e48:(2:Int) ^ 48=281474976710656:=by decide
  have a1:¬((cap:Int)<0):=by omega
  have a2:¬((bytes:Int)*(cap:Int)>2 ^ 48):=by rw[e48]; omega
  have a3:¬((m:Int)<0):=by omega
  have a4:¬((m:Int)>(cap:Int)):=by omega
  rw[decide_eq_false a1,decide_eq_false a2,decide_eq_false a3,decide_eq_false a4]; rfl
 have hroom:(askRoom (cap*bytes)).run P w= .ok () w:=by
  unfold askRoom;split<;>rfl
 simp only[execOp,Instr.makeSlice,Sem.run_bind,run_underlying ht,Result.andThen_ok,h1,h2,asInt,asIntOf,pure,Sem.run,hti,htb,w1,w2,hcnd,Bool.false_eq_true,if_false,Int.toNat_natCast,hroom,run_sizeOf hsz];by_cases h0:cap*size=0
 ·rw[if_pos h0];simp only[h0];have:(List.replicate cap z).flatten=[]:=by
   rcases Nat.mul_eq_zero.1 h0 with h | h
   ·simp[h]
   ·rw[h] at hz; simp[List.length_eq_zero_iff.1 hz]
  simp[this,wF,Result.andThen,Sem.run_bind,Sem.run,yB]
 ·rw[if_neg h0];simp only[Sem.run_bind,hzr,Result.andThen_ok,Sem.run,hrow,wF]
theorem vS(m:Nat)(a:α){z:List Value}(hz:enc a=z):(List.replicate m z).flatten=cells (List.replicate m a):=by rw[vU,hz]
/-- the array of a make or a literal, as a slice of one's own -/
theorem Zf.of{ty b:Nat}{L sp:List α}:Zf ty (.slice (some ⟨b,0,none⟩) L.length (L.length+sp.length)) L [(b,.cells (cells (L++sp)).toArray ty)]:= .row (.inl rfl)
theorem Zf.full{ty b m:Nat}{L:List α}(hm:m=L.length):Zf ty (.slice (some ⟨b,0,none⟩) m m) L [(b,.cells (cells L).toArray ty)]:=by
 subst hm;have:=Zf.of (ty:=ty) (b:=b) (L:=L) (sp:=[]);simpa using this
/-- copy -/
theorem rM{kk:Nat}{x s:Operand}{sv:Value}{Y:List α}{b o m cap ty':Nat}{c:Array Value}{fz:Nat × Nat}{f:Obj→zB}[hA:At S b (.cells c ty' fz) f](hx:ev E x= .slice (some ⟨b,o,none⟩) m cap)(hs:ev E s=sv)(hY:Src S sv Y)(hk:Enc.k α=kk)
 (hroom:o+m*kk≤c.size) (hz:uQ fz c.size)
 (h:K (Zk d (.int .i64 ((min Y.length m:Nat):Int)) E) (f (.cells (Zr c.toList o (cells (Y.take m))).toArray ty' fz))):YO P r n d (.copy kk x s) K E S:=by
 intro op ty pos af g hc hd;obtain⟨t,rr,e,rfl,ht,hsz⟩:=Zu hc;subst hk;refine uj (by simp) hd fun F w hsat=>?_
 obtain⟨hlen,hcells⟩:=U5 (P:=P) hY hsat;have hb:=hA.heap hsat;have hfc:(Builtin.firstCells (Enc.k α) (Nat.min Y.length m) sv).run P w= .ok (cells (Y.take m)).toArray w:=by
  have:Src S sv Y:=hY;cases this with
  | @nil a c=>cases a<;>simp[Builtin.firstCells,cells,loadCells,loadCellsFrom,pure]
  | @part b' o' cap' c' ty2 fz2 Y hm hc'=>
   have hb':w.heap[b']?=some (.cells c' ty2 fz2):=hsat.at_ (List.mem_append.2 (.inl hm)) (x:=(b',_)) (by simp);have hlen':Y.length*Enc.k α≤(c'.toList.drop o').length:=by
    have:=congrArg List.length hc';rw[zJ,List.length_take] at this;omega
   have hle:Nat.min Y.length m*Enc.k α≤Y.length*Enc.k α:=Nat.mul_le_mul_right _ (Nat.min_le_left _ _);have hr:=Wq (P:=P) (b:=b') (off:=o') (w:=w) (l:=c'.toList.drop o') (Nat.min Y.length m*Enc.k α) (fun j hj=>by rw[cellOf hb']; simp) (by omega);have e1:(c'.toList.drop o').take (Nat.min Y.length m*Enc.k α)=cells (Y.take m):=by
    have:(c'.toList.drop o').take (Nat.min Y.length m*Enc.k α)=((c'.toList.drop o').take (Y.length*Enc.k α)).take (Nat.min Y.length m*Enc.k α):=by
     rw[List.take_take,Nat.min_eq_left hle]
    rw[this,hc',WA];congr 1;by_cases hym:Y.length≤m
    ·rw[show Nat.min Y.length m=Y.length from Nat.min_eq_left hym,List.take_length,List.take_of_length_le hym]
    ·rw[show Nat.min Y.length m=m from Nat.min_eq_right (by omega)]
   rw[e1] at hr;simp[Builtin.firstCells,hr]
 have hfit:o+0+(cells (Y.take m)).length≤c.size:=by
  rw[zJ];have:(Y.take m).length*Enc.k α≤m*Enc.k α:=Nat.mul_le_mul_right _ (by simp; omega);omega
 obtain⟨w',h1,h2,h3,h4⟩:=wD (P:=P) (b:=b) (off:=o) (cells (Y.take m)) 0 c w hb (Vy _) hfit (hz.imp (fun h=>by omega) (fun h=>by omega));simp only[Nat.add_zero] at h2;refine⟨_,w',_,?_,h4,hA.upd hsat h2 h3,h⟩;refine ZR rfl ?_;have hargs:(#[x,s]:Array Operand).map (ev E)= #[.slice (some ⟨b,o,none⟩) m cap,sv]:=by simp[hx,hs]
 simp only[hargs,builtin];simp[Builtin.copy_,Sem.run_bind,run_underlying ht,hlen,run_sizeOf hsz,hfc,h1,Result.andThen,pure,Sem.run,goInt]
/-- clear of (a part of) a slice -/
theorem Af{z:List Value}{x:Operand}{b o m cap ty':Nat}{c:Array Value}{fz:Nat × Nat}{f:Obj→zB}[hA:At S b (.cells c ty' fz) f](hx:ev E x= .slice (some ⟨b,o,none⟩) m cap)(z0:α)(hz0:enc z0=z)
 (hroom:o+m*Enc.k α≤c.size) (hz:uQ fz c.size)
 (h:K (Zk d (.tuple #[]) E) (f (.cells (Zr c.toList o (cells (List.replicate m z0))).toArray ty' fz))):YO P r n d (.clr z x) K E S:=by
 intro op ty pos af g hc hd;obtain⟨t,e,rfl,ht,hzz⟩:=Zu hc;refine uj (by simp) hd fun F w hsat=>?_
 obtain⟨zv,hzr,hzc⟩:=Vd hzz w;have hb:=hA.heap hsat;have hfit:o+0+(cells (List.replicate m z0)).length≤c.size:=by rw[zJ,List.length_replicate]; omega
 obtain⟨w',h1,h2,h3,h4⟩:=wD (P:=P) (b:=b) (off:=o) (cells (List.replicate m z0)) 0 c w hb (Vy _) hfit (hz.imp (fun h=>by omega) (fun h=>by omega));simp only[Nat.add_zero] at h2;have hzs:(Builtin.zeroCells zv.cells m).toList=cells (List.replicate m z0):=by rw[vY hzc,vU,hz0]
 refine⟨_,w',_,?_,h4,hA.upd hsat h2 h3,h⟩;refine ZR rfl ?_;have hargs:(#[x]:Array Operand).map (ev E)= #[.slice (some ⟨b,o,none⟩) m cap]:=by simp[hx]
 simp only[hargs,builtin];cases m with
 | zero=>
  have:w'=w:=by
   have:=h1;simp[cells,storeCells,pure] at this;exact this.symm
  subst this;simp[Builtin.clear_,Sem.run_bind,run_underlying ht,Result.andThen,pure,Sem.run]
 | succ m=>
  simp[Builtin.clear_,Sem.run_bind,run_underlying ht,hzr,hzs,h1,Result.andThen,pure,Sem.run]
/-- append that stays in its array -/
theorem mZ{e kk bytes:Nat}{z:List Value}{x s:Operand}{xv:Value}{Y:List α}{b m cap ty':Nat}{c:Array Value}{fz:Nat × Nat}{f:Obj→zB}[hA:At S b (.cells c ty' fz) f](hs:ev E s= .slice (some ⟨b,0,none⟩) m cap)(hx:ev E x=xv)(hY:Src S xv Y)(hk:Enc.k α=kk)
 (hle:m+Y.length≤cap) (hroom:(m+Y.length)*Enc.k α≤c.size) (hz:uQ fz c.size)
 (h:K (Zk d (.slice (some ⟨b,0,none⟩) (m+Y.length) cap) E) (f (.cells (Zr c.toList (m*Enc.k α) (cells Y)).toArray ty' fz))):YO P r n d (.app e kk bytes z s x) K E S:=by
 intro op ty pos af g hc hd;obtain⟨t,u,xu,rfl,ht,hu,hni,hsz,hzz,hbb⟩:=Zu hc;subst hk;refine uj (by simp) hd fun F w hsat=>?_
 obtain⟨hlen,hcells⟩:=U5 (P:=P) hY hsat;have hb:=hA.heap hsat;have hfit:=Y3 (ty:=ty) (base:=some ⟨b,0,none⟩) (sLen:=m) (sCap:=cap) ht hu hni hsz hlen hcells hle;have hfit2:m*Enc.k α+0+(cells Y).length≤c.size:=by rw[zJ]; rw[Nat.add_mul] at hroom; omega
 obtain⟨w',h1,h2,h3,h4⟩:=wD (P:=P) (b:=b) (off:=m*Enc.k α) (cells Y) 0 c w hb (Vy _) hfit2 (hz.imp (fun h=>by omega) (fun h=>by omega));simp only[Nat.add_zero] at h2;refine⟨_,w',_,?_,h4,hA.upd hsat h2 h3,h⟩;refine ZR rfl ?_;have hargs:(#[s,x]:Array Operand).map (ev E)= #[.slice (some ⟨b,0,none⟩) m cap,xv]:=by simp[hs,hx]
 rw[hargs];simp[builtin,Sem.run_bind,hfit,add_plain,Nat.zero_add,h1,Result.andThen,pure,Sem.run]
/-- the end of a row -/
theorem Src.tail{α:Type}[Enc α]{S:zB}{b ty kk c:Nat}{fz:Nat × Nat}{L sp:List α}{j:Nat}(hm:[(b,Obj.cells (cells (L++sp)).toArray ty fz)]∈S)(hk:Enc.k α=kk)(hj:j≤L.length):
 Src S (.slice (some ⟨b,if L.length+sp.length=j then 0 else 0+j*kk,none⟩) (L.length-j) c) (L.drop j):=by
 subst hk;rw[←List.length_drop];refine .part hm ?_;split
 ·next h=>
  have:j=L.length:=by omega
  subst this;simp[cells]
 ·rw[Nat.zero_add];show((cells (L++sp)).drop _).take _=_;rw[wZ,WA,List.drop_append_of_le_length hj,List.take_left'];rfl
/-- one element is taken out, the others move up, the last place is cleared -/
theorem bN{α:Type}[Enc α]{L sp:List α}{i:Nat}(z0:α)(hi:i<L.length):
 Zr (Zr (cells (L++sp)) (i*Enc.k α) (cells (L.drop (i+1)))) ((L.length-1)*Enc.k α) (cells [z0])=cells (L.eraseIdx i++z0::sp):=by
 rw[Wh _ _ _ (by simp; omega),Wh _ _ _ (by simp; omega),List.eraseIdx_eq_take_drop_succ];congr 1;have h1:(L++sp).take i=L.take i:=List.take_append_of_le_length (by omega);have h2:(L++sp).drop (i+(L.drop (i+1)).length)=L.drop (L.length-1)++sp:=by
  rw[List.drop_append_of_le_length (by simp; omega)];congr 2;simp; omega
 have h3:(L.take i++L.drop (i+1)).length=L.length-1:=by simp; omega
 have h4:(L.drop (L.length-1)).length=1:=by simp; omega
 rw[h1,h2];obtain⟨y,hy⟩:=List.length_eq_one_iff.1 h4;rw[hy];generalize L.take i++L.drop (i+1)=A at h3
 subst_vars
 rw[←h3];simp[List.drop_append]
theorem Zf.inv{α:Type}[Enc α]{ty:TypeId}{v:Value}{L:List α}{H:List Chunk}(h:Zf ty v L H):
 (v= .slice none 0 0∧L=[]∧H=[])∨∃(b:Nat) (sp:List α) (fz:Nat × Nat),uQ fz (cells (L++sp)).length∧v= .slice (some ⟨b,0,none⟩) L.length (L.length+sp.length)∧H=[(b,.cells (cells (L++sp)).toArray ty fz)]:=by
 cases h with
 | nil=>exact .inl ⟨rfl,rfl,rfl⟩
 | row hz=>exact .inr ⟨_,_,_,hz,rfl,rfl⟩
/-- a literal of one element -/
theorem Ve{e size:Nat}{z:List Value}{x:Operand}(y:α)(hk:Enc.k α=size)(hz:z.length=size)(h0:size≠0)(hs:size≤16777216)(hx:(ev E x).cells.toList=enc y)
 (h:∀b,K (Zk d (.slice (some ⟨b,0,none⟩) 1 1) E) ([(b,.cells (cells [y]).toArray e)]::S)):YO P r n d (.bsl e 1 size z [(0,x)]) K E S:=by
 have hc:cells [y]=enc y:=by simp[cells]
 rw[hc] at h;have hlen:(ev E x).cells.size=size:=by rw[←Array.length_toList,hx,Enc.len,hk]
 refine mY (l:=enc y) hz h0 (by decide) (by omega) ?_ h;have h1:(List.replicate 1 z).flatten=z:=by simp
 rw[h1];simp only[Yq,hlen,hx];simp[hz,Wp,Enc.len,hk]
/-- what a literal holds may be read -/
theorem Src.lit{e b m:Nat}{Y:List α}(hm:[(b,Obj.cells (cells Y).toArray e)]∈S)(hl:m=Y.length):Src S (.slice (some ⟨b,0,none⟩) m m) Y:=by
 subst hl;exact .part hm (by rw[List.drop_zero, ←zJ,List.take_length])
theorem Zf.empty{ty b:Nat}:Zf ty (.slice (some ⟨b,0,none⟩) 0 0) ([]:List α) [(b,.cells #[] ty)]:=Zf.of (L:=[]) (sp:=[])
end Go.Xs
namespace Go.Xs
/-- a round's temporaries -/
def U7(rc:Loop)(args:Array Value):Array Value:=(rc.params.zip args).foldl (fun tmps (x:Tmp × Value)=>tmps.setIfInBounds x.1 x.2) rc.tmps
/-- A CALL OF yield, LOCAL -/
def aK(P:Program)(l:Nat)(args:Array Value)(S:zB)(R:Bool→zB→Prop):Prop:=
 ∀(F:zB) (w:World),Sat (S++F) w→∃rc:Loop,w.heap[l]?=some (.loop rc)∧args.size=rc.params.size∧
  RoundIn (Fk none) 0 P l rc.fn (U7 rc args) rc.assign rc.body w (fun e w'=>Ext w w'∧∃b S',e= .returned (.bool b)∧Sat (S'++F) w'∧R b S')
variable {P:Program} {n:Nat}
theorem aK.mono{l:Nat}{args:Array Value}{S:zB}{R R':Bool→zB→Prop}(h:aK P l args S R)(hr:∀b S',R b S'→R' b S'):aK P l args S R':=by
 intro F w hs;obtain⟨rc,h1,h2,h3⟩:=h F w hs;exact⟨rc,h1,h2,h3.mono fun e w' ⟨x,b,S',e1,s,q⟩=>⟨x,b,S',e1,s,hr _ _ q⟩⟩
theorem aK.frame{l:Nat}{args:Array Value}{S:zB}{R:Bool→zB→Prop}(G:zB)(h:aK P l args S R):aK P l args (S++G) (fun b S''=>∃S',S''=S'++G∧R b S'):=by
 intro F w hs;obtain⟨rc,h1,h2,h3⟩:=h (G++F) w (by rw[←List.append_assoc]; exact hs);exact⟨rc,h1,h2,h3.mono fun e w' ⟨x,b,S',e1,s,q⟩=>⟨x,b,S'++G,e1,by rw[List.append_assoc]; exact s,S',rfl,q⟩⟩
theorem aK.perm{l:Nat}{args:Array Value}{S S₂:zB}{R:Bool→zB→Prop}(p:S₂.flatten.Perm S.flatten)(h:aK P l args S R):aK P l args S₂ R:=
 fun F w hs=>h F w (hs.yj p)
section
variable {r:Option Nat} {K:Env→zB→Prop} {E:Env} {S:zB} {d:Option Tmp}
/-- the operation that calls yield -/
theorem tX{f:Operand}{args:List Operand}{l:Nat}{A:Array Value}(hf:ev E f= .func (.yield l) #[] #[])(ha:args.map (ev E)=A.toList)
 (h:aK P l A S (fun b S'=>K (Zk d (.bool b) E) S')):YO P r n d (.call f args) K E S:=by
 intro op ty pos af g hc hd;obtain⟨ats,rfl⟩:=Zu hc;intro D F a w hs;refine⟨ZW,?_⟩;rw[vI (by simp),wG,hs.env];obtain⟨rc,h1,h2,h3⟩:=h (WU D::F) w hs.sat;have hA:(args.map (ev E)).toArray=A:=by apply Array.ext'; simpa using ha
 have hrun:(execOp (ev E) (mk d (.call {callee:= .value f,args:=args.toArray,argTypes:=ats}) ty pos af g)).run P w= .ok (.round l rc.fn (U7 rc A) rc.assign rc.body) w:=by
  simp only[execOp,resolve,Sem.run_bind,hf,Deferred.ofValue,pure,Sem.run,Result.andThen,invoke];have:(#[]:Array Value)++Array.map (ev E) args.toArray=A:=by rw[←hA]; simp
  rw[this];exact run_yield h1 h2
 rw[hrun];refine⟨(fun h=>by cases h),?_⟩;refine RoundIn.mono (F:=Fk r) h3 ?_;rintro e w' ⟨hx,b,S',rfl,hsat,hk⟩;exact⟨hx,_,S',hs.put hd (.bool b) hsat,hk⟩
/-- yield is called with what J says; what else there is (G) stays -/
theorem mX{f:Operand}{args:List Operand}{l:Nat}{A:Array Value}{T G:zB}{R:Bool→zB→Prop}(hY:aK P l A T R)(hf:ev E f= .func (.yield l) #[] #[])(ha:args.map (ev E)=A.toList)
 (p:S.flatten.Perm (T.flatten++G.flatten)) (h:∀b T',R b T'→K (Zk d (.bool b) E) (T'++G)):YO P r n d (.call f args) K E S:=
 tX hf ha (((hY.frame G).perm (by rw[List.flatten_append]; exact p)).mono fun b S'' ⟨T',e,q⟩=>by subst e; exact h b T' q)
theorem Xw{f:Operand}{args:List Operand}{l:Nat}{A:Array Value}{T G:zB}{R:Bool→zB→Prop}(hY:aK P l A T R)(hf:ev E f= .func (.yield l) #[] #[])(ha:args.map (ev E)=A.toList)
 [hs:Sub S T G] (h:∀b T',R b T'→K (Zk d (.bool b) E) (T'++G)):YO P r n d (.call f args) K E S:=mX hY hf ha hs.perm h
end
/-! ### the statement -/
def UQ:List Tmp→List Value→Env→Env
 | t::ts,v::vs,E=>UQ ts vs (upd E t v)
 | _,_,E=>E
theorem Xn:∀(ps:List Tmp) (vs:List Value) (tmps:Array Value) (df df':List Deferred),(∀t∈ps,t<tmps.size)→
 Vl {tmps:=(ps.zip vs).foldl (fun tmps (x:Tmp × Value)=>tmps.setIfInBounds x.1 x.2) tmps,defers:=df}=UQ ps vs (Vl {tmps:=tmps,defers:=df'})∧
 ((ps.zip vs).foldl (fun tmps (x:Tmp × Value)=>tmps.setIfInBounds x.1 x.2) tmps).size=tmps.size
 | [],vs,tmps,df,df',h=>by simp[UQ]; rfl
 | t::ps,[],tmps,df,df',h=>by simp[UQ]; rfl
 | t::ps,v::vs,tmps,df,df',h=>by
  simp only[List.zip_cons_cons,List.foldl_cons,UQ];have h1:=Xn ps vs (tmps.setIfInBounds t v) df df' (fun t' ht'=>by simpa using h t' (by simp[ht']));refine⟨?_,by rw[h1.2]; simp⟩;rw[h1.1];congr 1;have:=kg (a:={tmps:=tmps,defers:=df'}) (d:=some t) (v:=v) (n:=tmps.size) rfl (by simpa[qK,Nat.blt_eq] using h t (by simp));exact this
def KF:Exit→Option Code
 | .ret=>some .ret
 | .exit id=>some (.exit id)
 | .goto t=>some (.goto t)
 | _=>none
/-- what a round must achieve, by the way it is left -/
def Kh(J:List (Array Value)→zB→Prop)(Jx:Exit→List (Array Value)→zB→Prop)(pre:List (Array Value)):Exit→Env→zB→Prop
 | .normal,_,S=>J pre S
 | .ret,_,S=>Jx .ret pre S
 | .exit id,_,S=>Jx (.exit id) pre S
 | .goto t,_,S=>Jx (.goto t) pre S
 | _,_,_=>False
theorem Ext.putObj(w:World)(b:Nat)(o:Obj):Ext w (w.putObj b o):=⟨rfl,rfl,rfl,by simp⟩
theorem uq{S F:zB}{l:Nat}{o o':Obj}{w:World}(h:Sat ((([(l,o)]:List Chunk)::S)++F) w):Sat ((([(l,o')]:List Chunk)::S)++F) (w.putObj l o'):=by
 have h1:Zy ([]++(l,o)::(S++F).flatten) w:=by have:Zy _ w:=h; simpa using this
 have hb:w.heap[l]?=some o:=h1.at_ (l,o) (by simp);have hlt:l<w.heap.size:=(Array.getElem?_eq_some_iff.1 hb).1;have:=h1.upd (o':=o') (w':=w.putObj l o') (World.putObj_heap_same hlt) (fun i hi=>World.putObj_heap_other hi);show Zy _ _;simpa using this
/-- one round, out of its body -/
theorem Ac{l:Nat}{rc:Loop}{x:Array Value}{S:zB}{xa xb:zA}{J:List (Array Value)→zB→Prop}{Jx:Exit→List (Array Value)→zB→Prop}{pre:List (Array Value)}
 (hst:rc.state= .ready) (hpd:rc.pending=none) (hsz:rc.tmps.size=n) (hps:∀t∈rc.params.toList,t<n) (hx:x.size=rc.params.size) (ha:comp P n rc.assign=xa) (hb:comp P n rc.body=xb)
 (h:Y P (some l) n xa (VO (fun E1 S1=>Y P (some l) n xb (Kh J Jx (pre++[x])) E1 S1) (fun _ _ _=>False)) (UQ rc.params.toList x.toList (Vl {tmps:=rc.tmps,defers:=[]})) S):
 aK P l x ([(l,.loop rc)]::S) (fun b S'=>(b=true∧∃T,S'=[(l,.loop rc)]::T∧J (pre++[x]) T)∨(b=false∧∃e c T,KF e=some c∧S'=[(l,.loop {rc with state:= .done,pending:=some c})]::T∧Jx e (pre++[x]) T)):=by
 intro F w hs;have hl:w.heap[l]?=some (.loop rc):=hs.at_ (s:=[(l,.loop rc)]) (by simp) (x:=(l,.loop rc)) (by simp);refine⟨rc,hl,hx,?_⟩;have henv:=Xn rc.params.toList x.toList rc.tmps [] [] (fun t ht=>by rw[hsz]; exact hps t ht);have hrt:U7 rc x=(rc.params.toList.zip x.toList).foldl (fun tmps (y:Tmp × Value)=>tmps.setIfInBounds y.1 y.2) rc.tmps:=by
  unfold U7;rw[←Array.foldl_toList];simp
 rw[hrt];have hst0:St n [] ([(l,Obj.loop rc)]::F) (UQ rc.params.toList x.toList (Vl {tmps:=rc.tmps,defers:=[]})) S {tmps:=(rc.params.toList.zip x.toList).foldl (fun tmps (y:Tmp × Value)=>tmps.setIfInBounds y.1 y.2) rc.tmps,defers:=[]} w:=by
  refine⟨henv.2.trans hsz,henv.1,rfl,?_⟩;refine Zy.perm (show Zy _ w from hs) ?_;simp only[WU,List.map_nil,List.flatten_append,List.flatten_cons,List.nil_append,List.cons_append];exact List.perm_middle.symm
 refine roundIn_of_wpIn trivial (Go.wpIn_mono (h rc.assign ha [] ([(l,Obj.loop rc)]::F) _ w hst0) ?_);rintro e a₁ w₁ ⟨hx1,D1,E1,S1,hs1,hq⟩;cases e with
 | normal=>
  have hl1:w₁.heap[l]?=some (.loop rc):=hs1.sat.at_ (s:=[(l,.loop rc)]) (by simp) (x:=(l,.loop rc)) (by simp);refine⟨_,run_beginRound hl1 hst,?_⟩;have hsat1:Sat (S1++(WU D1::([(l,Obj.loop {rc with state:= .busy})]::F))) (w₁.putObj l (.loop {rc with state:= .busy})):=by
   have h0:Sat (([(l,Obj.loop rc)]::S1)++(WU D1::F)) w₁:=by
    refine Zy.perm (show Zy _ w₁ from hs1.sat) ?_;simp only[List.flatten_append,List.flatten_cons,List.cons_append,List.nil_append];rw[←List.append_assoc, ←List.append_assoc];exact List.perm_middle
   have h1:=uq (o':= .loop {rc with state:= .busy}) h0;refine Zy.perm (show Zy _ _ from h1) ?_;simp only[List.flatten_append,List.flatten_cons,List.cons_append,List.nil_append];rw[←List.append_assoc, ←List.append_assoc];exact List.perm_middle.symm
  have hst1:St n D1 ([(l,Obj.loop {rc with state:= .busy})]::F) E1 S1 a₁ (w₁.putObj l (.loop {rc with state:= .busy})):=⟨hs1.size,hs1.env,hs1.defers,hsat1⟩
  refine Go.wpIn_mono (hq rc.body hb D1 _ a₁ _ hst1) ?_;rintro e2 a₂ w₂ ⟨hx2,D2,E2,S2,hs2,hq2⟩;have hl2:w₂.heap[l]?=some (.loop {rc with state:= .busy}):=hs2.sat.at_ (s:=[(l,.loop {rc with state:= .busy})]) (by simp) (x:=(l,.loop {rc with state:= .busy})) (by simp);have hxx:Ext w w₂:=(hx1.trans (Ext.putObj _ _ _)).trans hx2;have fin:∀jump:Option Code,∃v w',(Instr.endRound l jump).run P w₂= .ok v w'∧v= .bool jump.isNone∧Ext w w'∧Sat (([(l,Obj.loop {rc with state:=if jump.isNone then .ready else .done,pending:=jump})]::S2)++F) w':=by
   intro jump;refine⟨_,_,run_endRound jump hl2,rfl,hxx.trans (Ext.putObj _ _ _),?_⟩;have h0:Sat (([(l,Obj.loop {rc with state:= .busy})]::S2)++F) w₂:=by
    refine Zy.sub (l:=[(l,Obj.loop {rc with state:= .busy})]++(S2.flatten++(WU D2++F.flatten))) ?_ ?_
    ·refine Zy.perm (show Zy _ w₂ from hs2.sat) ?_;simp only[List.flatten_append,List.flatten_cons,List.cons_append,List.nil_append];rw[←List.append_assoc];refine List.perm_middle.trans ?_;simp
    ·simp
   exact uq h0
  cases e2 with
  | normal=>
   obtain⟨v,w',hr,hv,hx',hsat⟩:=fin none;refine⟨v,w',hr,hx',true,_,by rw[hv]; rfl,hsat,.inl ⟨rfl,S2,?_,hq2⟩⟩;simp only[Option.isNone_none,if_true];obtain⟨st,pd⟩:=rc;simp only at hst hpd;subst hst; subst hpd; rfl
  | ret=>
   obtain⟨v,w',hr,hv,hx',hsat⟩:=fin (some .ret);exact⟨v,w',hr,hx',false,_,by rw[hv]; rfl,hsat,.inr ⟨rfl,.ret,.ret,S2,rfl,rfl,hq2⟩⟩
  | exit id=>
   obtain⟨v,w',hr,hv,hx',hsat⟩:=fin (some (.exit id));exact⟨v,w',hr,hx',false,_,by rw[hv]; rfl,hsat,.inr ⟨rfl,.exit id,.exit id,S2,rfl,rfl,hq2⟩⟩
  | goto t=>
   obtain⟨v,w',hr,hv,hx',hsat⟩:=fin (some (.goto t));exact⟨v,w',hr,hx',false,_,by rw[hv]; rfl,hsat,.inr ⟨rfl,.goto t,.goto t,S2,rfl,rfl,hq2⟩⟩
  | panic c=>exact hq2.elim
  | outgrown=>exact hq2.elim
 | _=>exact hq.elim
/-- WHAT AN ITERATOR OWES: entered with yield, in memory S of which J speaks, it brings what V lets through, and ends having brought all (dn), or having been told to stop. -/
def Y8(P:Program)(f:FuncId)(first caps:Array Value)(own S:zB)(V:List (Array Value)→Array Value→Prop)(dn:List (Array Value)→Prop):Prop:=
 ∀(l:Nat) (c:Chunk) (J Jx:List (Array Value)→zB→Prop),J [] ([c]::S)→
  (∀pre x T,V pre x→J pre T→aK P l x T (fun b T'=>(b=true∧J (pre++[x]) T')∨(b=false∧Jx (pre++[x]) T')))→
  Tri P f (first++ #[.func (.yield l) #[] #[]]++caps) ([c]::(own++S)) (fun _ S'=>(∃xs,dn xs∧J xs S')∨(∃pre,Jx pre S'))
variable {Q:Exit→Env→zB→Prop} {E:Env} {S:zB}
/-- A RANGE OVER A FUNCTION: own is the iterator's own. -/
theorem kQ{g:Operand}{ps:List Tmp}{xa xb:zA}{f:FuncId}{first caps:Array Value}{V:List (Array Value)→Array Value→Prop}{dn:List (Array Value)→Prop}{own S0 G0:zB}[hsub:Sub S0 (own++S) G0]
 (J:List (Array Value)→zB→Prop) (Jx:Exit→List (Array Value)→zB→Prop)
 (hg:ev E g= .func (.func f) first caps) (hps:ps.all (fun t=>Nat.blt t n)=true) (hit:Y8 P f first caps own S V dn) (hJ0:J [] S)
 (hV:∀pre x,V pre x→x.size=ps.length)
 (hround:∀l pre x T,V pre x→J pre T→Y P (some l) n xa (VO (fun E1 S1=>Y P (some l) n xb (Kh J Jx (pre++[x])) E1 S1) (fun _ _ _=>False)) (UQ ps x.toList E) T)
 (hdone:∀xs S',dn xs→J xs S'→Q .normal E S')
 (hstop:∀e pre S',(KF e).isSome=true→Jx e pre S'→Q e E S'):Y P none n (.range g ps xa xb) Q E S0:=by
 refine zm (S0:=own++S) ⟨_,hsub.perm⟩ ?_;intro c hc;obtain⟨c1,c2,rfl,h1,h2⟩:=(Ws hc).2.2.2.2.1 g ps xa xb rfl;intro D F a w hs;refine wpIn_rangeFunc fun fn _=>?_
 have hga:a.eval g= .func (.func f) first caps:=by rw[wG,hs.env]; exact hg
 let rc:Loop:={state:= .ready,pending:=none,fn,tmps:=a.tmps,params:=ps.toArray,assign:=c1,body:=c2,defers:=w.heap.size}
 let w1:World:=(w.alloc (.deferred (some []))).alloc (.loop rc)
 let l:Nat:=w.heap.size+1
 have hsat1:Sat (([(l,Obj.loop rc)]::(own++S))++(WU (w.heap.size::D)::F)) w1:=by
  have a1:=Sat.new (.deferred (some [])) hs.sat;have a2:=Sat.new (.loop rc) a1;have e1:({({w with heap:=w.heap.push (.deferred (some []))}:World) with heap:=(w.heap.push (.deferred (some []))).push (.loop rc)}:World)=w1:=rfl;rw[e1] at a2;refine Zy.perm (show Zy _ w1 from a2) ?_;simp only[WU,List.map_cons,List.flatten_append,List.flatten_cons,List.cons_append,List.nil_append,Array.size_push];refine List.Perm.cons _ ?_;exact List.perm_middle.symm
 have hx1:Ext w w1:=(Ext.push w _).trans (Ext.push _ _)
 let JI:List (Array Value)→zB→Prop:=fun pre S'=>∃T,S'=[(l,.loop rc)]::T∧J pre T
 let JX:List (Array Value)→zB→Prop:=fun pre S'=>∃e cd T,KF e=some cd∧S'=[(l,.loop {rc with state:= .done,pending:=some cd})]::T∧Jx e pre T
 have hpsn:∀t∈ps,t<n:=fun t ht=>by have:=List.all_eq_true.1 hps t ht; simpa[Nat.blt_eq] using this
 have hcall:=hit l (l,.loop rc) JI JX ⟨S,rfl,hJ0⟩ (by
  rintro pre x T hv ⟨T0,rfl,hj⟩;have henv:Vl {tmps:=a.tmps,defers:=[]}=E:=hs.env;have:=Ac (P:=P) (n:=n) (l:=l) (rc:=rc) (x:=x) (S:=T0) (xa:=xa) (xb:=xb) (J:=J) (Jx:=Jx) (pre:=pre) rfl rfl hs.size (by simpa[rc] using hpsn) (by rw[hV pre x hv]; simp[rc]) h1 h2
   (by have h0:=hround l pre x T0 hv hj; simp only[rc,henv]; exact h0)
  refine this.mono ?_;rintro b S' (⟨hb,T,e,hj'⟩ | ⟨hb,e,cd,T,he,e2,hj'⟩)
  ·exact .inl ⟨hb,T,e,hj'⟩
  ·exact .inr ⟨hb,e,cd,T,he,e2,hj'⟩)
 refine⟨l,[{target:= .collected w.heap.size,args:= #[]}],w1,{target:= .fn (.func f) caps,args:=first++ #[.func (.yield l) #[] #[]]},w1,f,first++ #[.func (.yield l) #[] #[]]++caps,w1,?_,?_,?_,?_,?_,?_⟩
 ·rw[Ju]; exact run_enterLoop_outer fn a.tmps ps.toArray c1 c2
 ·have hm:Array.map a.eval #[Operand.const (Value.func (Fn.yield l) #[] #[])]= #[Value.func (Fn.yield l) #[] #[]]:=by simp[Act.eval]
  simp only[resolve,hga,Deferred.ofValue,hm];rfl
 ·intro f' _; trivial
 ·simp only[invoke]; exact xF hcall.ent _ w1
 ·intro h; cases h
 ·refine UA.2 ((hcall.run (WU (w.heap.size::D)::F) w1 hsat1).mono ?_);rintro e w3 ⟨hx3,v,S',rfl,hsat3,hq⟩;have fin:∀(o:Loop) (T:zB),S'=[(l,.loop o)]::T→o.state≠ .busy→∃w4,(Instr.endLoop l).run P w3= .ok o.pending w4∧Ext w w4∧
   St n (w.heap.size::D) F E T {a with defers:=[{target:= .collected w.heap.size,args:= #[]}]++a.defers} w4:=by
   intro o T hS ho;subst hS;have hl3:w3.heap[l]?=some (.loop o):=hsat3.at_ (s:=[(l,.loop o)]) (by simp) (x:=(l,.loop o)) (by simp);refine⟨_,run_endLoop hl3 ho,(hx1.trans hx3).trans (Ext.putObj _ _ _),hs.size,hs.env,by simp[qH,hs.defers],?_⟩;have:=uq (o':= .loop {o with state:= .exhausted}) hsat3;exact Zy.sub (show Zy _ _ from this) (by simp)
  rcases hq with⟨xs,hdn,T,hS,hj⟩ | ⟨pre,ex,cd,T,hex,hS,hj⟩
  ·obtain⟨w4,hr,hx4,hst4⟩:=fin rc T hS (by simp[rc]);exact⟨_,w4,hr,hx4,_,E,T,hst4,hdone xs T hdn hj⟩
  ·obtain⟨w4,hr,hx4,hst4⟩:=fin _ T hS (by simp);refine⟨_,w4,hr,?_⟩;have hQ:=hstop ex pre T (by rw[hex]; rfl) hj;cases ex<;>simp only[KF,Option.some.injEq,reduceCtorEq] at hex<;>subst hex
   ·exact wpIn_exit ⟨hx4,_,E,T,hst4,hQ⟩
   ·exact wpIn_goto ⟨hx4,_,E,T,hst4,hQ⟩
   ·exact wpIn_ret ⟨hx4,_,E,T,hst4,hQ⟩
end Go.Xs
namespace Go.Xs
open Enc (enc)
variable {P:Program} {r:Option Nat} {n:Nat} {K:Env→zB→Prop} {E:Env} {S:zB} {d:Option Tmp}
/-- a value of one cell -/
structure Sc(E:Env)(x:Operand)(v:Value):Prop where
 ev:ev E x=v
 cells:v.cells= #[v]
 plain:vT v=true
theorem uM{x:Operand}{k:IntKind}{a:Int}(h:ev E x= .int k a):Sc E x (.int k a):=⟨h,rfl,rfl⟩
theorem CO{x:Operand}{b:Bool}(h:ev E x= .bool b):Sc E x (.bool b):=⟨h,rfl,rfl⟩
theorem jI{x:Operand}{p:Option Addr}(h:ev E x= .pointer p):Sc E x (.pointer p):=⟨h,rfl,rfl⟩
theorem Ke{x:Operand}{p:Option Addr}{m c:Nat}(h:ev E x= .slice p m c):Sc E x (.slice p m c):=⟨h,rfl,rfl⟩
theorem fE{x:Operand}{s:ByteArray}(h:ev E x= .string s):Sc E x (.string s):=⟨h,rfl,rfl⟩
theorem Ox{x:Operand}{m:Option Nat}(h:ev E x= .map m):Sc E x (.map m):=⟨h,rfl,rfl⟩
theorem mO{t:TypeId}{x:Operand}{v:Value}(hv:Sc E x v)(h:∀b,K (Zk d (.pointer (some ⟨b,0,none⟩)) E) ([(b,.cells #[v] t)]::S)):YO P r n d (.box t x) K E S:=CX (vs:=[v]) (by rw[hv.ev,hv.cells]) h
theorem ES{x y:Operand}{a b:ByteArray}(h1:ev E x= .string a)(h2:ev E y= .string b):zu (ev E) (.bin .eql x y)=some (.bool (decide (a=b))):=by simp[zu,h1,h2,Wy,aN]
theorem Mr{x y:Operand}{a b:ByteArray}(h1:ev E x= .string a)(h2:ev E y= .string b):zu (ev E) (.bin .neq x y)=some (.bool (!decide (a=b))):=by simp[zu,h1,h2,Wy,aN]
theorem EP{x y:Operand}{a b:Bool}(h1:ev E x= .bool a)(h2:ev E y= .bool b):zu (ev E) (.eqb true x y)=some (.bool (!(a==b))):=by simp[zu,h1,h2]
theorem gQ{fn:Fn}{x:Operand}{v:Value}(h:Sc E x v):zu (ev E) (.mkf fn [] [x])=some (.func fn #[] #[v]):=by simp[zu,h.ev]
theorem ER{fn:Fn}{x y:Operand}{v u:Value}(h:Sc E x v)(h2:Sc E y u):zu (ev E) (.mkf fn [] [x,y])=some (.func fn #[] #[v,u]):=by simp[zu,h.ev,h2.ev]
theorem ZO{b off:Nat}{a v:Operand}{a0 x:Value}{ty:TypeId}{f:Obj→zB}[hA:At S b (.cells #[a0] ty) f](ha:ev E a= .pointer (some ⟨b,off,none⟩))(ho:off=0)(hv:Sc E v x)(h:K (Zk d undef E) (f (.cells #[x] ty))):YO P r n d (.store 1 a v) K E S:=by
 subst ho;exact WI ha (vs:=[x]) (by rw[hv.ev,hv.cells]) rfl (by simp[hv.plain]) (Nat.le_of_ble_eq_true rfl) (.inl (Nat.zero_le _)) h
theorem dz{b off:Nat}{a v:Operand}{a0 a1 a2 x:Value}{ty:TypeId}{f:Obj→zB}[hA:At S b (.cells #[a0,a1,a2] ty) f](ha:ev E a= .pointer (some ⟨b,off,none⟩))(ho:off=1)(hv:Sc E v x)(h:K (Zk d undef E) (f (.cells #[a0,x,a2] ty))):YO P r n d (.store 1 a v) K E S:=by
 subst ho;exact WI ha (vs:=[x]) (by rw[hv.ev,hv.cells]) rfl (by simp[hv.plain]) (Nat.le_of_ble_eq_true rfl) (.inl (Nat.zero_le _)) h
theorem Ab{b off:Nat}{a v:Operand}{a0 a1 a2 x:Value}{ty:TypeId}{f:Obj→zB}[hA:At S b (.cells #[a0,a1,a2] ty) f](ha:ev E a= .pointer (some ⟨b,off,none⟩))(ho:off=2)(hv:Sc E v x)(h:K (Zk d undef E) (f (.cells #[a0,a1,x] ty))):YO P r n d (.store 1 a v) K E S:=by
 subst ho;exact WI ha (vs:=[x]) (by rw[hv.ev,hv.cells]) rfl (by simp[hv.plain]) (Nat.le_of_ble_eq_true rfl) (.inl (Nat.zero_le _)) h
theorem dx{b off:Nat}{a v:Operand}{a0 a1 a2 a3 x:Value}{ty:TypeId}{f:Obj→zB}[hA:At S b (.cells #[a0,a1,a2,a3] ty) f](ha:ev E a= .pointer (some ⟨b,off,none⟩))(ho:off=1)(hv:Sc E v x)(h:K (Zk d undef E) (f (.cells #[a0,x,a2,a3] ty))):YO P r n d (.store 1 a v) K E S:=by
 subst ho;exact WI ha (vs:=[x]) (by rw[hv.ev,hv.cells]) rfl (by simp[hv.plain]) (Nat.le_of_ble_eq_true rfl) (.inl (Nat.zero_le _)) h
theorem XQ{b off:Nat}{a v:Operand}{a0 a1 a2 a3 x:Value}{ty:TypeId}{f:Obj→zB}[hA:At S b (.cells #[a0,a1,a2,a3] ty) f](ha:ev E a= .pointer (some ⟨b,off,none⟩))(ho:off=2)(hv:Sc E v x)(h:K (Zk d undef E) (f (.cells #[a0,a1,x,a3] ty))):YO P r n d (.store 1 a v) K E S:=by
 subst ho;exact WI ha (vs:=[x]) (by rw[hv.ev,hv.cells]) rfl (by simp[hv.plain]) (Nat.le_of_ble_eq_true rfl) (.inl (Nat.zero_le _)) h
theorem XP{b off:Nat}{a v:Operand}{a0 a1 a2 a3 x:Value}{ty:TypeId}{f:Obj→zB}[hA:At S b (.cells #[a0,a1,a2,a3] ty) f](ha:ev E a= .pointer (some ⟨b,off,none⟩))(ho:off=3)(hv:Sc E v x)(h:K (Zk d undef E) (f (.cells #[a0,a1,a2,x] ty))):YO P r n d (.store 1 a v) K E S:=by
 subst ho;exact WI ha (vs:=[x]) (by rw[hv.ev,hv.cells]) rfl (by simp[hv.plain]) (Nat.le_of_ble_eq_true rfl) (.inl (Nat.zero_le _)) h
theorem Aa{b off:Nat}{a v:Operand}{a0 a1 a2 a3 a4 x:Value}{ty:TypeId}{f:Obj→zB}[hA:At S b (.cells #[a0,a1,a2,a3,a4] ty) f](ha:ev E a= .pointer (some ⟨b,off,none⟩))(ho:off=0)(hv:Sc E v x)(h:K (Zk d undef E) (f (.cells #[x,a1,a2,a3,a4] ty))):YO P r n d (.store 1 a v) K E S:=by
 subst ho;exact WI ha (vs:=[x]) (by rw[hv.ev,hv.cells]) rfl (by simp[hv.plain]) (Nat.le_of_ble_eq_true rfl) (.inl (Nat.zero_le _)) h
theorem A9{b off:Nat}{a v:Operand}{a0 a1 a2 a3 a4 x:Value}{ty:TypeId}{f:Obj→zB}[hA:At S b (.cells #[a0,a1,a2,a3,a4] ty) f](ha:ev E a= .pointer (some ⟨b,off,none⟩))(ho:off=1)(hv:Sc E v x)(h:K (Zk d undef E) (f (.cells #[a0,x,a2,a3,a4] ty))):YO P r n d (.store 1 a v) K E S:=by
 subst ho;exact WI ha (vs:=[x]) (by rw[hv.ev,hv.cells]) rfl (by simp[hv.plain]) (Nat.le_of_ble_eq_true rfl) (.inl (Nat.zero_le _)) h
theorem JA{b off:Nat}{a v:Operand}{a0 a1 a2 a3 a4 x:Value}{ty:TypeId}{f:Obj→zB}[hA:At S b (.cells #[a0,a1,a2,a3,a4] ty) f](ha:ev E a= .pointer (some ⟨b,off,none⟩))(ho:off=2)(hv:Sc E v x)(h:K (Zk d undef E) (f (.cells #[a0,a1,x,a3,a4] ty))):YO P r n d (.store 1 a v) K E S:=by
 subst ho;exact WI ha (vs:=[x]) (by rw[hv.ev,hv.cells]) rfl (by simp[hv.plain]) (Nat.le_of_ble_eq_true rfl) (.inl (Nat.zero_le _)) h
theorem A8{b off:Nat}{a v:Operand}{a0 a1 a2 a3 a4 x:Value}{ty:TypeId}{f:Obj→zB}[hA:At S b (.cells #[a0,a1,a2,a3,a4] ty) f](ha:ev E a= .pointer (some ⟨b,off,none⟩))(ho:off=3)(hv:Sc E v x)(h:K (Zk d undef E) (f (.cells #[a0,a1,a2,x,a4] ty))):YO P r n d (.store 1 a v) K E S:=by
 subst ho;exact WI ha (vs:=[x]) (by rw[hv.ev,hv.cells]) rfl (by simp[hv.plain]) (Nat.le_of_ble_eq_true rfl) (.inl (Nat.zero_le _)) h
theorem tZ{b off:Nat}{a v:Operand}{a0 a1 a2 a3 a4 x:Value}{ty:TypeId}{f:Obj→zB}[hA:At S b (.cells #[a0,a1,a2,a3,a4] ty) f](ha:ev E a= .pointer (some ⟨b,off,none⟩))(ho:off=4)(hv:Sc E v x)(h:K (Zk d undef E) (f (.cells #[a0,a1,a2,a3,x] ty))):YO P r n d (.store 1 a v) K E S:=by
 subst ho;exact WI ha (vs:=[x]) (by rw[hv.ev,hv.cells]) rfl (by simp[hv.plain]) (Nat.le_of_ble_eq_true rfl) (.inl (Nat.zero_le _)) h
theorem tY{b off:Nat}{a v:Operand}{a0 a1 a2 a3 a4 a5 x:Value}{ty:TypeId}{f:Obj→zB}[hA:At S b (.cells #[a0,a1,a2,a3,a4,a5] ty) f](ha:ev E a= .pointer (some ⟨b,off,none⟩))(ho:off=5)(hv:Sc E v x)(h:K (Zk d undef E) (f (.cells #[a0,a1,a2,a3,a4,x] ty))):YO P r n d (.store 1 a v) K E S:=by
 subst ho;exact WI ha (vs:=[x]) (by rw[hv.ev,hv.cells]) rfl (by simp[hv.plain]) (Nat.le_of_ble_eq_true rfl) (.inl (Nat.zero_le _)) h
theorem vE{E:Env}{z0 z1 v0 v1:Value}{x0 x1:Operand}(h0:Sc E x0 v0)(h1:Sc E x1 v1):zu (ev E) (.build [z0,z1] [(0,1,x0),(1,1,x1)])=some (.agg #[v0,v1]):=by
 simp[zu,Un,h0.ev,h0.cells,h1.ev,h1.cells,Zr]
theorem QH{E:Env}{z0 z1 z2 v0 v1 v2:Value}{x0 x1 x2:Operand}(h0:Sc E x0 v0)(h1:Sc E x1 v1)(h2:Sc E x2 v2):zu (ev E) (.build [z0,z1,z2] [(0,1,x0),(1,1,x1),(2,1,x2)])=some (.agg #[v0,v1,v2]):=by
 simp[zu,Un,h0.ev,h0.cells,h1.ev,h1.cells,h2.ev,h2.cells,Zr]
theorem vF{E:Env}{z:List Value}:zu (ev E) (.build z [])=some (.agg z.toArray):=rfl
/-- a whole object is stored -/
theorem vQ{b k:Nat}{a v:Operand}{c c':List Value}{ty:TypeId}{f:Obj→zB}[hA:At S b (.cells c.toArray ty) f](ha:ev E a= .pointer (some ⟨b,0,none⟩))(hv:ev E v= .agg c'.toArray)(h1:c'.length=k)(h2:c.length=k)(hp:c'.all vT=true)
 (h:K (Zk d undef E) (f (.cells c'.toArray ty))):YO P r n d (.store k a v) K E S:=by
 refine WI ha (vs:=c') (by rw[hv]; rfl) h1 hp (by simp[h2]) (.inl (Nat.zero_le _)) ?_;have:Zr c.toArray.toList 0 c'=c':=by
  show Zr c 0 c'=c';rw[Wp _ _ _ (by omega)];simp[h1,h2]
 rw[this]; exact h
/-! ### results that lie in cells -/
def Qq(tmps:Array Value):ResultVar→Sem Value
 | .tmp t=>pure (tmps.getD t undef)
 | .cell a t=>do loadVar t (←asAddr (tmps.getD a undef))
def RV(P:Program)(rv:ResultVar)(E:Env)(S:zB)(v:Value):Prop:=
 ∀(F:zB) (w:World) (tmps:Array Value),Sat (S++F) w→(fun i=>tmps.getD i undef)=E→(Qq tmps rv).run P w= .ok v w
theorem jg{t:Tmp}{v:Value}(hv:E t=v):RV P (.tmp t) E S v:=fun F w tmps _ he=>by
 rw[←hv, ←he]; rfl
theorem IY{t:Tmp}{b:Nat}{ty ty':TypeId}{v:Value}{fz:Nat × Nat}{f:Obj→zB}(hagg:isAgg? P ty=some false)(ha:E t= .pointer (some ⟨b,0,none⟩))[hA:At S b (.cells #[v] ty' fz) f]:RV P (.cell t ty) E S v:=fun F w tmps hs he=>by
 have hb:=hA.heap hs;have hcell:w.cell? ⟨b,0,none⟩=some v:=by rw[cellOf hb]; rfl
 have ht:tmps.getD t undef= .pointer (some ⟨b,0,none⟩):=by rw[←ha, ←he]
 simp only[Qq,ht,asAddr,loadVar,Sem.run_bind,Sem.run,pure,Result.andThen];simp[Wi hagg,xk hcell]
theorem Uu(fn:Func)(tmps:Array Value):results fn tmps=(do
 let vs ←fn.results.mapM (Qq tmps)
 pure (if h:vs.size=1 then vs[0] else .tuple vs)):=by
 unfold results;congr 1
theorem jO{rv:ResultVar}{v:Value}(h:RV P rv E S v):Xo P #[rv] E S v:=fun fn F w tmps hr hs he=>by
 rw[Uu,hr];have:=h F w tmps hs he;simp[Array.mapM_eq_mapM_toList,Sem.run_bind,this,Result.andThen,pure,Sem.run]
theorem vW{rv rv':ResultVar}{v v':Value}(h:RV P rv E S v)(h':RV P rv' E S v'):Xo P #[rv,rv'] E S (.tuple #[v,v']):=fun fn F w tmps hr hs he=>by
 rw[Uu,hr];have h1:=h F w tmps hs he;have h2:=h' F w tmps hs he;simp[Array.mapM_eq_mapM_toList,Sem.run_bind,h1,h2,Result.andThen,pure,Sem.run]
theorem YD{rs:Array ResultVar}{S0:zB}{v:Value}(j:zG S S0)(h:Xo P rs E S0 v):Xo P rs E S v:=fun fn F w tmps hr hs he=>h fn F w tmps hr (j.sat hs) he
theorem EN{x y:Operand}{k:IntKind}{a b:Int}(h1:ev E x= .int k a)(h2:ev E y= .int k b)(h:b≠0):zu (ev E) (.bin .rem x y)=some (.int k (a.tmod b)):=by simp[zu,h1,h2,Wy,WW,h]
theorem EO{x y:Operand}{a b:Int}(h1:ev E x= .int .i64 a)(h2:ev E y= .int .i64 b)(h:0<b)(ha: -9223372036854775808≤a∧a≤9223372036854775807):zu (ev E) (.bin .quo x y)=some (.int .i64 (a.tdiv b)):=by
 have hb:b≠0:=by omega
 have hw: -9223372036854775808≤a.tdiv b∧a.tdiv b≤9223372036854775807:=by
  have h1:(a.tdiv b).natAbs≤a.natAbs:=by rw[Int.natAbs_tdiv]; exact Nat.div_le_self _ _
  rcases Int.lt_or_le a 0 with h0 | h0
  ·have:a.tdiv b≤0:=by
    rw[←Int.neg_neg a,Int.neg_tdiv];have:=Int.tdiv_nonneg (a:= -a) (b:=b) (by omega) (by omega);omega
   omega
  ·have:=Int.tdiv_nonneg (a:=a) (b:=b) h0 (by omega);omega
 simp[zu,h1,h2,Wy,WW,hb,wrap_i64 hw]
theorem YH{x y:Operand}{k k':IntKind}{a b:Int}(h1:ev E x= .int k a)(h2:ev E y= .int k' b):zu (ev E) (.min x [y])=some (.int k (min a b)):=by
 have h:(if b<a then b else a)=min a b:=by split<;>omega
 simp[zu,h1,h2,Xf,Jy,Yo,h]
theorem QF{x y:Operand}{k k':IntKind}{a b:Int}(h1:ev E x= .int k a)(h2:ev E y= .int k' b):zu (ev E) (.max x [y])=some (.int k (max a b)):=by
 have h:(if a<b then b else a)=max a b:=by split<;>omega
 simp[zu,h1,h2,Xf,Jy,Yp,h]
end Go.Xs
