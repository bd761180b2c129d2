/- A small separation logic over the kit's fenced walk: owned heap chunks, framed by construction; structural rules for code, operations, calls, loops. The operations with what is static about them resolved (types, offsets, sizes): computing operations as a function on values, and that the function tells what the model does. The computing operations: what the function on values says is what the model does. The computing operations, second half: tests, struct values, built-in calls; and the whole. Code with what is static resolved; the judgements over it; structural rules, computing operations, calls. -/
import Derived.TacticsIn
import Derived.WalkKit
import Derived.RangeFuncLeaves
import Derived.Handy
import Derived.RangeFuncRecord
import Derived.OrdersIn
namespace Go.Xs
abbrev Env:=Nat→Value
def upd(E:Env)(i:Nat)(v:Value):Env:=fun j=>if i=j then v else E j
def Kv(l:List Value):Env:=fun i=>l.getD i undef
def Vl(a:Act):Env:=fun i=>a.tmps.getD i undef
def Zk(d:Option Tmp)(v:Value)(E:Env):Env:=
 match d with
 | some d=>upd E d v
 | none=>E
def ev(E:Env):Operand→Value
 | .tmp t=>E t
 | .const v=>v
 | .global g=> .pointer (some ⟨g,0,none⟩)
 | .func f=> .func (.func f) #[] #[]
def qK(n:Nat):Option Tmp→Bool
 | some d=>Nat.blt d n
 | none=>true
theorem wG(a:Act):a.eval=ev (Vl a):=funext fun x=>by cases x<;>rfl
abbrev Chunk:=Nat × Obj
abbrev zB:=List (List Chunk)
structure Zy(l:List Chunk)(w:World):Prop where
 nodup:(l.map Prod.fst).Nodup
 at_:∀x∈l,w.heap[x.1]?=some x.2
def Sat(S:zB)(w:World):Prop:=Zy S.flatten w
structure Ext(w w':World):Prop where
 tape:w'.tape=w.tape
 os:w'.os=w.os
 output:w'.output=w.output
 size:w.heap.size≤w'.heap.size
theorem Ext.refl(w:World):Ext w w:=⟨rfl,rfl,rfl,Nat.le_refl _⟩
theorem Ext.trans{a b c:World}(h:Ext a b)(k:Ext b c):Ext a c:=
 ⟨k.tape.trans h.tape,k.os.trans h.os,k.output.trans h.output,Nat.le_trans h.size k.size⟩
theorem Zy.perm{l l':List Chunk}{w:World}(h:Zy l w)(p:l.Perm l'):Zy l' w:=
 ⟨(p.map _).nodup_iff.1 h.nodup,fun x hx=>h.at_ x (p.mem_iff.2 hx)⟩
theorem Zy.sub{l l':List Chunk}{w:World}(h:Zy l w)(p:List.Sublist l' l):Zy l' w:=
 ⟨h.nodup.sublist (p.map _),fun x hx=>h.at_ x (p.subset hx)⟩
theorem Sat.perm{S S':zB}{w:World}(h:Sat S w)(p:S.Perm S'):Sat S' w:=Zy.perm h p.flatten
theorem Sat.yj{S S' F:zB}{w:World}(h:Sat (S++F) w)(p:S.flatten.Perm S'.flatten):Sat (S'++F) w:=by
 refine Zy.perm h ?_;rw[List.flatten_append,List.flatten_append];exact p.append_right _
theorem Sat.drop_left{S T:zB}{w:World}(h:Sat (S++T) w):Sat T w:=by
 refine Zy.sub h ?_;rw[List.flatten_append];exact List.sublist_append_right _ _
theorem Sat.at_{S:zB}{w:World}(h:Sat S w){s:List Chunk}(hs:s∈S){x:Chunk}(hx:x∈s):w.heap[x.1]?=some x.2:=
 Zy.at_ h x (List.mem_flatten.2 ⟨s,hs,hx⟩)
/-- the deferred blocks of a function's ranges over functions -/
def WU(D:List Nat):List Chunk:=D.map fun r=>(r,.deferred (some []))
def qH(D:List Nat):List Deferred:=D.map fun r=>{target:= .collected r,args:= #[]}
structure St(n:Nat)(D:List Nat)(F:zB)(E:Env)(S:zB)(a:Act)(w:World):Prop where
 size:a.tmps.size=n
 env:Vl a=E
 defers:a.defers=qH D
 sat:Sat (S++(WU D::F)) w
theorem kg{a:Act}{d:Option Tmp}{v:Value}{n:Nat}(hn:a.tmps.size=n)(hd:qK n d=true):Vl (a.put d v)=Zk d v (Vl a):=by
 cases d with
 | none=>rfl
 | some d=>
  funext j;have hlt:d<a.tmps.size:=by rw[hn]; simpa[qK,Nat.blt_eq] using hd
  simp only[Vl,Act.put,Zk,upd];by_cases h:d=j
  ·subst h; simp[Array.getD_eq_getD_getElem?,hlt]
  ·simp[Array.getD_eq_getD_getElem?,Array.getElem?_setIfInBounds_ne h,h]
theorem fV(a:Act)(d:Option Tmp)(v:Value):(a.put d v).tmps.size=a.tmps.size:=by cases d<;>simp[Act.put]
theorem put_defers(a:Act)(d:Option Tmp)(v:Value):(a.put d v).defers=a.defers:=by cases d<;>rfl
theorem St.put{n:Nat}{D:List Nat}{F:zB}{E:Env}{S S':zB}{a:Act}{w w':World}(h:St n D F E S a w){d:Option Tmp}(hd:qK n d=true)(v:Value)
 (hs:Sat (S'++(WU D::F)) w'):St n D F (Zk d v E) S' (a.put d v) w':=
 ⟨(fV a d v).trans h.size,(kg h.size hd).trans (by rw[h.env]),(put_defers a d v).trans h.defers,hs⟩
/-- the fence of a plain frame (none) or of a round's frame -/
def Fk(r:Option Nat):Fence:={Fence.wide with round:=r}
theorem Ju(r:Option Nat):(Fk r).round=r:=rfl
theorem UA{r:Option Nat}{m:Nat}{P:Program}{f:FuncId}{args:Array Value}{w:World}{R:Ending→World→Prop}:CallsIn (Fk r) m P f args w R↔Calls P f args w R:=
 callsIn_wide (n:=m)
variable {P:Program} {r:Option Nat} {n:Nat}
/-- the function is one that is entered when it is called -/
def NI (P : Program) (f : FuncId) : Prop := ∃ fn, P.funcs[f]? = some fn ∧ fn.body.isSome = true ∧ (fn.name == "runtime.NumGoroutine") = false
/-- A CALL, LOCAL: it owns S; whatever else lies in the heap stays. -/
structure Tri(P:Program)(f:FuncId)(args:Array Value)(S:zB)(R:Value→zB→Prop):Prop where
 ent:NI P f
 run:∀(F:zB) (w:World),Sat (S++F) w→Calls P f args w (fun e w'=>Ext w w'∧∃v S',e= .returned v∧Sat (S'++F) w'∧R v S')
theorem Tri.mono{f:FuncId}{args:Array Value}{S:zB}{R R':Value→zB→Prop}(h:Tri P f args S R)(hr:∀v S',R v S'→R' v S'):Tri P f args S R':=
 ⟨h.ent,fun F w hs=>(h.run F w hs).mono fun _ _ ⟨x,v,S',e,s,q⟩=>⟨x,v,S',e,s,hr _ _ q⟩⟩
theorem Tri.frame{f:FuncId}{args:Array Value}{S:zB}{R:Value→zB→Prop}(G:zB)(h:Tri P f args S R):Tri P f args (S++G) (fun v S''=>∃S',S''=S'++G∧R v S'):=
 ⟨h.ent,fun F w hs=>(h.run (G++F) w (by rw[←List.append_assoc]; exact hs)).mono fun _ _ ⟨x,v,S',e,s,q⟩=>
  ⟨x,v,S'++G,e,by rw[List.append_assoc]; exact s,S',rfl,q⟩⟩
theorem Tri.perm{f:FuncId}{args:Array Value}{S S₂:zB}{R:Value→zB→Prop}(p:S₂.flatten.Perm S.flatten)(h:Tri P f args S R):Tri P f args S₂ R:=
 ⟨h.ent,fun F w hs=>h.run F w (hs.yj p)⟩
def X(P:Program)(r:Option Nat)(n:Nat)(c:Code)(Q:Exit→Env→zB→Prop)(E:Env)(S:zB):Prop:=
 ∀(D:List Nat) (F:zB) (a:Act) (w:World),St n D F E S a w→
  c.wpIn (Fk r) 0 P (fun e a' w'=>Ext w w'∧∃D' E' S',St n D' F E' S' a' w'∧Q e E' S') a w
def XL(P:Program)(r:Option Nat)(n:Nat)(ops:Array Oper)(l:List Oper)(K:Env→zB→Prop)(E:Env)(S:zB):Prop:=
 ∀(D:List Nat) (F:zB) (a:Act) (w:World),St n D F E S a w→
  wpListIn (Fk r) 0 P ops (fun e a' w'=>e= .normal∧Ext w w'∧∃E' S',St n D F E' S' a' w'∧K E' S') l a w
def XO(P:Program)(r:Option Nat)(n:Nat)(o:Oper)(K:Env→zB→Prop)(E:Env)(S:zB):Prop:=
 ∀(D:List Nat) (F:zB) (a:Act) (w:World),St n D F E S a w→
  o.wpIn (Fk r) 0 P a w (fun a' w'=>Ext w w'∧∃E' S',St n D F E' S' a' w'∧K E' S') (fun _ _ _=>False)
def VO(N:Env→zB→Prop)(Q:Exit→Env→zB→Prop):Exit→Env→zB→Prop
 | .normal,E,S=>N E S
 | e,E,S=>Q e E S
def uJ(id:Nat)(Q:Exit→Env→zB→Prop):Exit→Env→zB→Prop
 | .exit id',E,S=>if id'=id then Q .normal E S else Q (.exit id') E S
 | e,E,S=>Q e E S
variable {Q Q':Exit→Env→zB→Prop} {K K':Env→zB→Prop} {E:Env} {S:zB}
theorem X.mono{c:Code}(h:X P r n c Q E S)(hq:∀e E S,Q e E S→Q' e E S):X P r n c Q' E S:=
 fun D F a w hs=>Go.wpIn_mono (h D F a w hs) fun _ _ _ ⟨x,D',E',S',s,q⟩=>⟨x,D',E',S',s,hq _ _ _ q⟩
/-- memory may be given up at any time -/
theorem X.perm{c:Code}{S₂:zB}(p:S₂.flatten.Perm S.flatten)(h:X P r n c Q E S):X P r n c Q E S₂:=
 fun D F a w hs=>h D F a w ⟨hs.size,hs.env,hs.defers,hs.sat.yj p⟩
theorem CY(h:Q .normal E S):X P r n .skip Q E S:=fun D _ _ w hs=>wpIn_skip ⟨Ext.refl w,D,E,S,hs,h⟩
theorem D6{id:Nat}(h:Q (.exit id) E S):X P r n (.exit id) Q E S:=fun D _ _ w hs=>wpIn_exit ⟨Ext.refl w,D,E,S,hs,h⟩
theorem Lg(h:Q .ret E S):X P r n .ret Q E S:=fun D _ _ w hs=>wpIn_ret ⟨Ext.refl w,D,E,S,hs,h⟩
theorem Lf{x y:Code}(h:X P r n x (VO (X P r n y Q) Q) E S):X P r n (.seq x y) Q E S:=by
 intro D F a w hs;refine wpIn_seq (Go.wpIn_mono (h D F a w hs) ?_);intro e a' w' hq;obtain⟨hx,D',E',S',hs',hq⟩:=hq;cases e with
 | normal=>
  refine Go.wpIn_mono (hq D' F a' w' hs') ?_;exact fun _ _ _ ⟨x2,D2,E2,S2,s2,q2⟩=>⟨hx.trans x2,D2,E2,S2,s2,q2⟩
 | _=>exact⟨hx,D',E',S',hs',hq⟩
theorem Ai{id:Nat}{c:Code}(h:X P r n c (uJ id Q) E S):X P r n (.block id c) Q E S:=by
 intro D F a w hs;refine wpIn_block (Go.wpIn_mono (h D F a w hs) ?_);intro e a' w' hq;obtain⟨hx,D',E',S',hs',hq⟩:=hq;cases e with
 | exit id'=>
  simp only[uJ] at hq;simp only[Exit.inBlock];split
  ·rename_i h'; rw[if_pos h'] at hq; exact⟨hx,D',E',S',hs',hq⟩
  ·rename_i h'; rw[if_neg h'] at hq; exact⟨hx,D',E',S',hs',hq⟩
 | _=>exact⟨hx,D',E',S',hs',hq⟩
theorem D8{c:Operand}{x y:Code}{t:Bool}(hc:ev E c= .bool t)(h1:t=true→X P r n x Q E S)(h2:t=false→X P r n y Q E S):X P r n (.cond c x y) Q E S:=by
 intro D F a w hs;have hc':a.eval c= .bool t:=by rw[wG,hs.env]; exact hc
 refine wpIn_cond hc' ?_;cases t
 ·exact h2 rfl D F a w hs
 ·exact h1 rfl D F a w hs
/-- A LOOP, by an invariant over a ghost and a measure of it. -/
theorem D5{c:Code}{σ:Type}(I:σ→Env→zB→Prop)(μ:σ→Nat)(s₀:σ)(h₀:I s₀ E S)
 (hr:∀s E S,I s E S→X P r n c (VO (fun E' S'=>∃s',I s' E' S'∧μ s'<μ s) Q) E S):X P r n (.loop c) Q E S:=by
 intro D F a w hs b k cs hro hb hroom;have key:∀j s D E S a w,μ s=j→I s E S→St n D F E S a w→
  ∃e a' w',(Ext w w'∧∃D' E' S',St n D' F E' S' a' w'∧Q e E' S')∧ArrivesIn (Machine.fenced P (Fk r)) P (lone (b.atR a (.code c:: .inLoop c::k)) cs w) b k cs e a' w':=by
  intro j
  induction j using Nat.strongRecOn with
  | _ j ih=>
   intro s D E S a w hj hI hst;obtain⟨e,a₁,w₁,hq,harr⟩:=hr s E S hI D F a w hst b (.inLoop c::k) cs hro hb hroom;obtain⟨hx,D',E',S',hst',hq⟩:=hq;cases e with
   | normal=>
    obtain⟨s',hI',hlt⟩:=hq;obtain⟨e₂,a₂,w₂,⟨hx2,D2,E2,S2,st2,q2⟩,harr₂⟩:=ih (μ s') (hj▸hlt) s' D' E' S' a₁ w₁ rfl hI' hst';exact⟨e₂,a₂,w₂,⟨hx.trans hx2,D2,E2,S2,st2,q2⟩,.of_steps (StepsIn.trans harr (.one (fenced_calm hb hroom rfl) stepR_inLoop)) harr₂⟩
   | exit id=>exact⟨_,a₁,w₁,⟨hx,D',E',S',hst',hq⟩,.pass (x:= .inLoop c) rfl (fun _ _=> .inl (by simp)) harr⟩
   | goto l=>exact⟨_,a₁,w₁,⟨hx,D',E',S',hst',hq⟩,.pass (x:= .inLoop c) rfl (fun _ _=> .inl (by simp)) harr⟩
   | ret=>exact⟨_,a₁,w₁,⟨hx,D',E',S',hst',hq⟩,.pass (x:= .inLoop c) rfl (fun _ _=> .inl (by simp)) harr⟩
   | panic ch=>exact⟨_,a₁,w₁,⟨hx,D',E',S',hst',hq⟩,.pass (x:= .inLoop c) rfl (fun _ _=> .inl (by simp)) harr⟩
   | outgrown=>exact⟨_,a₁,w₁,⟨hx,D',E',S',hst',hq⟩,.pass (x:= .inLoop c) rfl (fun _ _=> .inl (by simp)) harr⟩
 obtain⟨e,a',w',hq,harr⟩:=key _ s₀ D E S a w rfl h₀ hs;exact⟨e,a',w',hq,.of_steps (.one (fenced_calm hb hroom rfl) stepR_loop) harr⟩
/-! ### operations -/
theorem Oper.jw{F:Fence}{m:Nat}{o:Oper}{a:Act}{next next':Act→World→Prop}{Q Q':Exit→Act→World→Prop}{x:Result Next}
 (h:o.uponIn F m P a next Q x) (hn:∀a w,next a w→next' a w) (hq:∀e a w,Q e a w→Q' e a w):o.uponIn F m P a next' Q' x:=by
 have hout:LetsOut Q→LetsOut Q':=fun⟨a,w,q⟩=>⟨a,w,hq _ _ _ q⟩
 cases x with
 | ok nx w=>
  cases nx with
  | value v=>exact hn _ _ h
  | skip=>exact hn _ _ h
  | defer d=>exact hn _ _ h
  | enter f args=>
   refine⟨h.1,h.2.mono fun e w' he=>?_⟩;cases e with
   | returned v=>exact hn _ _ he
   | panicked ch=>exact hq _ _ _ he
   | outgrown=>exact hout he
  | row row args=>exact⟨h.1,h.2.mono fun v w' he=>hn _ _ he⟩
  | round l f tmps assign body=>
   refine⟨h.1,h.2.mono fun e w' he=>?_⟩;cases e with
   | returned v=>exact hn _ _ he
   | panicked ch=>exact hq _ _ _ he
   | outgrown=>exact hout he
  | _=>exact h.elim
 | halt hh w=>
  cases hh with
  | panic v=>exact hq _ _ _ h
  | _=>exact h.elim
theorem Oper.wpIn_mono{F:Fence}{m:Nat}{o:Oper}{a:Act}{w:World}{next next':Act→World→Prop}{Q Q':Exit→Act→World→Prop}
 (h:o.wpIn F m P a w next Q) (hn:∀a w,next a w→next' a w) (hq:∀e a w,Q e a w→Q' e a w):o.wpIn F m P a w next' Q':=
 ⟨h.1,Oper.jw h.2 hn hq⟩
theorem vD{F:Fence}{m:Nat}{ops:Array Oper}{Q Q':Exit→Act→World→Prop}(hq:∀e a w,Q e a w→Q' e a w):∀(l:List Oper) (a:Act) (w:World),
 wpListIn F m P ops Q l a w→wpListIn F m P ops Q' l a w
 | [],_,_,h=>hq _ _ _ h
 | o::l,a,w,h=>by
  simp only[wpListIn] at h ⊢;split
  ·rename_i hw; rw[if_pos hw] at h; exact Oper.wpIn_mono h (fun a w=>vD hq l a w) hq
  ·rename_i hw; rw[if_neg hw] at h; exact⟨h.1,vD hq l _ _ h.2⟩
theorem Lh{ops:Array Oper}(h:K E S):XL P r n ops [] K E S:=
 fun _ _ _ w hs=>⟨rfl,Ext.refl w,E,S,hs,h⟩
theorem ng{id:Nat}{l:List Oper}(h:XL P r n l.toArray l (fun E S=>Q .normal E S) E S):X P r n (.region id l.toArray false) Q E S:=by
 intro D F a w hs;refine wpIn_region_lit (vD ?_ l a w (h D F a w hs));rintro e a' w' ⟨rfl,hx,E',S',hs',hk⟩;exact⟨hx,D,E',S',hs',hk⟩
theorem kV{ops:Array Oper}{l:List Oper}{a:Act}{w w0:World}{D:List Nat}{F:zB}(h:XL P r n ops l K E S)(hx:Ext w0 w)(hs:St n D F E S a w):
 wpListIn (Fk r) 0 P ops (fun e a' w'=>e= .normal∧Ext w0 w'∧∃E' S',St n D F E' S' a' w'∧K E' S') l a w:=
 vD (fun _ _ _ ⟨e,x,q⟩=>⟨e,hx.trans x,q⟩) l a w (h D F a w hs)
theorem D7{ops:Array Oper}{o:Oper}{l:List Oper}(hg:o.guard=none)(h:XO P r n o (XL P r n ops l K) E S):XL P r n ops (o::l) K E S:=by
 intro D F a w hs;simp only[wpListIn,Region.wanted,hg,if_true];refine Oper.wpIn_mono (h D F a w hs) ?_ (fun _ _ _ hf=>hf.elim);rintro a' w' ⟨hx,E',S',hs',hk⟩;exact kV hk hx hs'
/-- what a guard says; none: the operation that it names was passed over -/
def gB:Value→Option Bool
 | .bool b=>some b
 | _=>none
theorem XU{ops:Array Oper}{a:Act}{j:Nat}{t:Tmp}(ht:(ops[j]?).bind (·.dst)=some t):yielded ops a.tmps j=gB (Vl a t):=by
 unfold yielded Vl;rw[ht,Array.getD_eq_getD_getElem?];simp only[Option.bind_some];cases a.tmps[t]? with
 | none=>rfl
 | some x=>cases x<;>rfl
/-- a guarded operation -/
theorem Ah{ops:Array Oper}{o:Oper}{l:List Oper}{j:Nat}{b:Bool}{t:Tmp}(hg:o.guard=some (j,b))(ht:(ops[j]?).bind (·.dst)=some t)(hd:qK n o.dst=true)
 (h1:gB (E t)=some b→XO P r n o (XL P r n ops l K) E S) (h2:gB (E t)≠some b→XL P r n ops l K (Zk o.dst undef E) S):XL P r n ops (o::l) K E S:=by
 intro D F a w hs;have hy:yielded ops a.tmps j=gB (E t):=by rw[XU ht,hs.env]
 by_cases hc:gB (E t)=some b
 ·have hw:Region.wanted o (yielded ops a.tmps)=true:=by simp[Region.wanted,hg,hy,hc]
  simp only[wpListIn,hw,if_true];refine Oper.wpIn_mono (h1 hc D F a w hs) ?_ (fun _ _ _ hf=>hf.elim);rintro a' w' ⟨hx,E',S',hs',hk⟩;exact kV hk hx hs'
 ·have hw:Region.wanted o (yielded ops a.tmps)=false:=by simp[Region.wanted,hg,hy,hc]
  simp only[wpListIn,hw];refine⟨fun f _=>trivial,?_⟩;exact kV (h2 hc) (Ext.refl w) (hs.put hd undef hs.sat)
theorem ZW{o:Oper}{a:Act}{w:World}:∀f,o.about P w a.eval=some f→(Fk r).fn f:=fun _ _=>trivial
theorem vI{o:Oper}{ρ:Operand→Value}(hd:∀c,o.op≠ .defer c):Oper.semAt (Fk r).round ρ o=execOp ρ o:=Oper.semAt_eq _ ρ o hd
/-- an operation that computes -/
theorem CZ{o:Oper}(v:Value)(hr:∀w,(execOp (ev E) o).run P w= .ok (.value v) w)(hn:∀c,o.op≠ .defer c)(hd:qK n o.dst=true)(h:K (Zk o.dst v E) S):XO P r n o K E S:=by
 intro D F a w hs;refine⟨ZW,?_⟩;rw[vI hn,wG,hs.env,hr w];exact⟨Ext.refl w,_,S,hs.put hd v hs.sat,h⟩
/-- an operation that yields a value, whatever it does to the memory -/
theorem uj{o:Oper}(hn:∀c,o.op≠ .defer c)(hd:qK n o.dst=true)
 (h:∀(F:zB) (w:World),Sat (S++F) w→∃v w' S',(execOp (ev E) o).run P w= .ok (.value v) w'∧Ext w w'∧Sat (S'++F) w'∧K (Zk o.dst v E) S'):XO P r n o K E S:=by
 intro D F a w hs;refine⟨ZW,?_⟩;rw[vI hn,wG,hs.env];obtain⟨v,w',S',h1,h2,h3,h4⟩:=h (WU D::F) w hs.sat;rw[h1];exact⟨h2,_,S',hs.put hd v h3,h4⟩
theorem dF{o:Oper}(hn:∀c,o.op≠ .defer c)(hd:qK n o.dst=true)
 (h:∀(F:zB) (w:World),Sat (S++F) w→∃w' S',(execOp (ev E) o).run P w= .ok .skip w'∧Ext w w'∧Sat (S'++F) w'∧K (Zk o.dst undef E) S'):XO P r n o K E S:=by
 intro D F a w hs;refine⟨ZW,?_⟩;rw[vI hn,wG,hs.env];obtain⟨w',S',h1,h2,h3,h4⟩:=h (WU D::F) w hs.sat;rw[h1];exact⟨h2,_,S',hs.put hd undef h3,h4⟩
/-- a call of a function -/
theorem D9{o:Oper}{f:FuncId}{args:Array Value}(hr:∀w,(execOp (ev E) o).run P w= .ok (.enter f args) w)(hn:∀c,o.op≠ .defer c)(hd:qK n o.dst=true)
 (h:Tri P f args S (fun v S'=>K (Zk o.dst v E) S')):XO P r n o K E S:=by
 intro D F a w hs;refine⟨ZW,?_⟩;rw[vI hn,wG,hs.env,hr w];refine⟨(fun h=>by cases h),UA.2 ((h.run (WU D::F) w hs.sat).mono ?_)⟩;rintro e w' ⟨hx,v,S',rfl,hsat,hk⟩;exact⟨hx,_,S',hs.put hd v hsat,hk⟩
end Go.Xs
namespace Go.Xs
inductive Wv where
 | mov (x:Operand)
 | pick (c a b:Operand)
 | nilc (x:Operand)
 | bin (op:BinOp) (x y:Operand)
 | eqb (neg:Bool) (x y:Operand)
 | eqn (k:Nat) (neg:Bool) (x y:Operand)
 | eqs (neg:Bool) (offs:List (Nat × Nat)) (x y:Operand)
 | un (op:UnOp) (x:Operand)
 | conv (k:IntKind) (x:Operand)
 | fadr (x:Operand) (off:Nat)
 | fld1 (x:Operand) (off:Nat)
 | fldN (x:Operand) (off len:Nat)
 | iadr (x i:Operand) (size:Nat)
 | aadr (x i:Operand) (len size:Nat)
 | sidx (x i:Operand)
 | ext (x:Operand) (i:Nat)
 | slc (size:Nat) (x:Operand) (lo hi mx:Option Operand)
 | sslc (x:Operand) (lo hi:Option Operand)
 | aslc (len size:Nat) (x:Operand) (lo hi mx:Option Operand)
 | mkf (fn:Fn) (first cap:List Operand)
 | build (zero:List Value) (parts:List (Nat × Nat × Operand))
 | len (x:Operand)
 | slen (x:Operand)
 | lenK (k:Nat)
 | cap (x:Operand)
 | min (x:Operand) (xs:List Operand)
 | max (x:Operand) (xs:List Operand)
 -- memory
 | load1 (a:Operand)
 | loadN (k:Nat) (a:Operand)
 | store (size:Nat) (a v:Operand)
 | alloc (ty:TypeId) (zero:List Value)
 | box (ty:TypeId) (x:Operand)
 | bsl (ty len size:Nat) (zero:List Value) (parts:List (Nat × Operand))
 | mksl (ty size bytes:Nat) (zero:List Value) (l c:Operand)
 | app (ty size bytes:Nat) (zero:List Value) (s x:Operand)
 | copy (size:Nat) (d s:Operand)
 | clr (zero:List Value) (x:Operand)
 | b2s (x:Operand)
 | s2b (ty:TypeId) (x:Operand)
 | call (f:Operand) (args:List Operand)
 | raw (op:Op) (ty:TypeId)
 deriving Inhabited
/-- bounds of a slice expression -/
def Ug(v:Option Int)(y:Nat)(dflt:Option Nat):Option Nat:=
 match v with
 | some v=>if 0≤v∧v≤(y:Int) then some v.toNat else none
 | none=>dflt
def bnd(lo hi mx:Option Int)(len cap:Nat)(three:Bool):Option (Nat × Nat × Nat):=
 (Ug mx cap (some cap)).bind fun m=>(Ug hi m (if three then none else some len)).bind fun h=>(Ug lo h (some 0)).bind fun l=>some (l,h,m)
def Jy:Value→Option Int
 | .int _ k=>some k
 | _=>none
def Vp(ρ:Operand→Value)(o:Option Operand):Option (Option Int):=
 match o with
 | none=>some none
 | some x=>match Jy (ρ x) with
  | some v=>some (some v)
  | none=>none
def uL(op:BinOp)(k:IntKind)(x y:Int):Int:=
 let a:=BitVec.ofInt k.bits x
 let b:=BitVec.ofInt k.bits y
 match op with
 | .and=>k.wrap ((a &&& b).toNat:Int)
 | .or=>k.wrap ((a ||| b).toNat:Int)
 | .xor=>k.wrap ((a ^^^ b).toNat:Int)
 | _=>k.wrap ((a &&& ~~~b).toNat:Int)
def WW(op:BinOp)(k:IntKind)(a b:Int):Option Value:=
 match op with
 | .add=>some (.int k (k.wrap (a+b)))
 | .sub=>some (.int k (k.wrap (a-b)))
 | .mul=>some (.int k (k.wrap (a*b)))
 | .quo=>if b=0 then none else some (.int k (k.wrap (a.tdiv b)))
 | .rem=>if b=0 then none else some (.int k (a.tmod b))
 | .and=>some (.int k (uL .and k a b))
 | .or=>some (.int k (uL .or k a b))
 | .xor=>some (.int k (uL .xor k a b))
 | .andNot=>some (.int k (uL .andNot k a b))
 | .eql=>some (.bool (decide (a=b)))
 | .neq=>some (.bool (!decide (a=b)))
 | .lss=>some (.bool (decide (a<b)))
 | .leq=>some (.bool (decide (a≤b)))
 | .gtr=>some (.bool (decide (b<a)))
 | .geq=>some (.bool (decide (b≤a)))
 | .shl=>if b<0 then none else some (.int k (k.wrap (a*2 ^ (Nat.min b.toNat k.bits))))
 | .shr=>if b<0 then none else some (.int k (a.fdiv (2 ^ (Nat.min b.toNat k.bits))))
def aN(op:BinOp)(a b:ByteArray):Option Value:=
 match op with
 | .add=>if a.size+b.size≤9223372036854775807 then some (.string (a++b)) else none
 | .eql=>some (.bool (decide (a=b)))
 | .neq=>some (.bool (!decide (a=b)))
 | .lss=>some (.bool (Op.bytesLess a.toList b.toList))
 | .leq=>some (.bool (Op.bytesLess a.toList b.toList || decide (a=b)))
 | .gtr=>some (.bool (!(Op.bytesLess a.toList b.toList || decide (a=b))))
 | .geq=>some (.bool (!Op.bytesLess a.toList b.toList))
 | _=>none
def Wy(op:BinOp)(x y:Value):Option Value:=
 match x,y with
 | .int k a,.int k' b=>if k=k'∨op= .shl∨op= .shr then WW op k a b else none
 | .string a,.string b=>aN op a b
 | _,_=>none
/-- one side is nil for sure; k: the type's kind, 0 pointer, 1 slice, 2 map, 3 func -/
def jq(k:Nat)(x y:Value):Option Bool:=
 match k,x,y with
 | 0,.pointer none,.pointer none=>some true
 | 0,.pointer none,.pointer (some _)=>some false
 | 0,.pointer (some _),.pointer none=>some false
 | 1,.slice none _ _,.slice none _ _=>some true
 | 1,.slice none _ _,.slice (some _) _ _=>some false
 | 1,.slice (some _) _ _,.slice none _ _=>some false
 | 2,.map none,.map none=>some true
 | 2,.map none,.map (some _)=>some false
 | 2,.map (some _),.map none=>some false
 | 3,.nilFunc,.nilFunc=>some true
 | 3,.nilFunc,.func _ _ _=>some false
 | 3,.func _ _ _,.nilFunc=>some false
 | _,_,_=>none
/-- cells that are held against each other one by one -/
def nu(kind:Nat)(x y:Value):Option Bool:=
 match kind,x,y with
 | 0,.int k a,.int k' b=>if k=k' then some (decide (a=b)) else none
 | 1,.string a,.string b=>some (decide (a=b))
 | 2,.bool a,.bool b=>some (a==b)
 | _,_,_=>none
def jo(xs ys:Array Value):List (Nat × Nat)→Option Bool
 | []=>some true
 | (i,k)::r=>match xs[i]?,ys[i]? with
  | some a,some b=>match nu k a b,jo xs ys r with
   | some p,some q=>some (p && q)
   | _,_=>none
  | _,_=>none
def Zr(l:List Value)(off:Nat):List Value→List Value
 | []=>l
 | x::c=>Zr (l.set off x) (off+1) c
def Un(ρ:Operand→Value):List Value→List (Nat × Nat × Operand)→Option (List Value)
 | z,[]=>some z
 | z,(off,size,x)::r=>
  if(ρ x).cells.size=size∧off+size≤z.length then Un ρ (Zr z off (ρ x).cells.toList) r else none
def Yo(l:Int):List Int→Int
 | []=>l
 | x::r=>Yo (if x<l then x else l) r
def Yp(l:Int):List Int→Int
 | []=>l
 | x::r=>Yp (if x>l then x else l) r
def Xf(ρ:Operand→Value):List Operand→Option (List Int)
 | []=>some []
 | x::r=>match Jy (ρ x),Xf ρ r with
  | some a,some l=>some (a::l)
  | _,_=>none
/-- WHAT A COMPUTING OPERATION YIELDS; none: it may panic here, or is no computing one. -/
def zu(ρ:Operand→Value):Wv→Option Value
 | .mov x=>some (ρ x)
 | .pick c a b=>match ρ c with
  | .bool true=>some (ρ a)
  | .bool false=>some (ρ b)
  | _=>none
 | .nilc x=>match ρ x with
  | .pointer (some a)=>some (.pointer (some a))
  | .func (.func f) first cap=>some (.func (.func f) first cap)
  | .func (.yield l) first cap=>some (.func (.yield l) first cap)
  | _=>none
 | .bin op x y=>Wy op (ρ x) (ρ y)
 | .eqb neg x y=>match ρ x,ρ y with
  | .bool a,.bool b=>(match neg with | true=>some (.bool (!(a==b))) | false=>some (.bool (a==b)))
  | _,_=>none
 | .eqn k neg x y=>match neg,jq k (ρ x) (ρ y) with
  | false,some b=>some (.bool b)
  | true,some b=>some (.bool (!b))
  | _,none=>none
 | .eqs neg offs x y=>match ρ x,ρ y with
  | .agg xs,.agg ys=>(match neg,jo xs ys offs with
   | false,some b=>some (.bool b)
   | true,some b=>some (.bool (!b))
   | _,none=>none)
  | _,_=>none
 | .un op x=>match op,ρ x with
  | .not,.bool b=>some (.bool (!b))
  | .neg,.int k a=>some (.int k (k.wrap (0-a)))
  | _,_=>none
 | .conv k x=>match ρ x with
  | .int _ a=>some (.int k (k.wrap a))
  | _=>none
 | .fadr x off=>match ρ x with
  | .pointer (some ⟨b,o,none⟩)=>some (.pointer (some ⟨b,o+off,none⟩))
  | _=>none
 | .fld1 x off=>match ρ x with
  | .agg cs=>cs[off]?
  | _=>none
 | .fldN x off len=>match ρ x with
  | .agg cs=>some (.agg (cs.extract off (off+len)))
  | _=>none
 | .iadr x i size=>match ρ x,ρ i with
  | .slice (some ⟨b,o,none⟩) len _,.int _ k=>if 0≤k∧k<(len:Int) then some (.pointer (some ⟨b,o+k.toNat*size,none⟩)) else none
  | _,_=>none
 | .aadr x i len size=>match ρ x,ρ i with
  | .pointer (some ⟨b,o,none⟩),.int _ k=>if 0≤k∧k<(len:Int) then some (.pointer (some ⟨b,o+k.toNat*size,none⟩)) else none
  | _,_=>none
 | .sidx x i=>match ρ x,ρ i with
  | .string s,.int _ k=>if 0≤k then(match s[k.toNat]? with | some b=>some (.int .u8 b.toNat) | none=>none) else none
  | _,_=>none
 | .ext x i=>match ρ x with
  | .tuple vs=>vs[i]?
  | _=>none
 | .slc size x lo hi mx=>match ρ x,Vp ρ lo,Vp ρ hi,Vp ρ mx with
  | .slice a len cap,some lo',some hi',some mx'=>match bnd lo' hi' mx' len cap mx.isSome with
   | some (l,h,m)=>some (.slice (if m=l then a else a.map (·.add (l*size))) (h-l) (m-l))
   | none=>none
  | _,_,_,_=>none
 | .sslc x lo hi=>match ρ x,Vp ρ lo,Vp ρ hi with
  | .string s,some lo',some hi'=>match bnd lo' hi' none s.size s.size false with
   | some (l,h,_)=>some (.string (s.extract l h))
   | none=>none
  | _,_,_=>none
 | .aslc len size x lo hi mx=>match ρ x,Vp ρ lo,Vp ρ hi,Vp ρ mx with
  | .pointer (some a),some lo',some hi',some mx'=>match bnd lo' hi' mx' len len mx.isSome with
   | some (l,h,m)=>some (.slice (some (if m=l then a else a.add (l*size))) (h-l) (m-l))
   | none=>none
  | _,_,_,_=>none
 | .mkf fn first cap=>some (.func fn (first.map ρ).toArray (cap.map ρ).toArray)
 | .build zero parts=>match Un ρ zero parts with
  | some l=>some (.agg l.toArray)
  | none=>none
 | .len x=>match ρ x with
  | .slice _ k _=>some (.int .i64 k)
  | _=>none
 | .slen x=>match ρ x with
  | .string s=>some (.int .i64 s.size)
  | _=>none
 | .lenK k=>some (.int .i64 k)
 | .cap x=>match ρ x with
  | .slice _ _ k=>some (.int .i64 k)
  | _=>none
 | .min x xs=>match ρ x,Xf ρ xs with
  | .int k a,some l=>some (.int k (Yo a l))
  | _,_=>none
 | .max x xs=>match ρ x,Xf ρ xs with
  | .int k a,some l=>some (.int k (Yp a l))
  | _,_=>none
 | _=>none
/-! ### compiling one operation -/
def sizeOf? (P:Program)(t:TypeId):Option Nat:=(P.info? t).map (·.size)
def zero? (P:Program)(t:TypeId):Option (List Value):=((P.info? t).bind (·.zero)).map fun v=>v.cells.toList
def bytes? (P:Program)(t:TypeId):Option Nat:=(P.info? t).map (·.bytes)
def isAgg? (P:Program)(t:TypeId):Option Bool:=
 match P.underlying t with
 | some (.struct _)=>some true
 | some (.array _ _)=>some true
 | some _=>some false
 | none=>none
/-- the fields of a struct that are ints, strings, bools, each a cell -/
def wW(P:Program)(fs:List Field):Option (List (Nat × Nat)):=
 match fs with
 | []=>some []
 | f :: r => if f.name = "_" then none else match P.underlying f.type, wW P r with
  | some (.int _),some l=>some ((f.offset,0)::l)
  | some .string,some l=>some ((f.offset,1)::l)
  | some .bool,some l=>some ((f.offset,2)::l)
  | _,_=>none
def yU(P:Program)(fs:List Field):List (Nat × Operand)→Option (List (Nat × Nat × Operand))
 | []=>some []
 | (i,x)::r=>match fs[i]?,yU P fs r with
  | some f,some l=>match sizeOf? P f.type with
   | some s=>some ((f.offset,s,x)::l)
   | none=>none
  | _,_=>none
def mV(P:Program)(neg:Bool)(t:TypeId)(x y:Operand):Option Wv:=
 match P.underlying t with
 | some (.int _)=>some (.bin (if neg then .neq else .eql) x y)
 | some .string=>some (.bin (if neg then .neq else .eql) x y)
 | some .bool=>some (.eqb neg x y)
 | some (.pointer _)=>some (.eqn 0 neg x y)
 | some (.slice _)=>some (.eqn 1 neg x y)
 | some (.map _ _)=>some (.eqn 2 neg x y)
 | some (.func _ _ _)=>some (.eqn 3 neg x y)
 | some (.struct fs)=>
  if P.stoodInHeld t || P.eqGuardType P.depth t then none else
  match wW P fs.toList with
  | some l=>some (.eqs neg l x y)
  | none=>none
 | _=>none
def cop(P:Program)(op:Op)(ty:TypeId):Wv:=
 let raw:=Wv.raw op ty
 match op with
 | .move x=> .mov x
 | .assign x=> .mov x
 | .pick c a b=> .pick c a b
 | .nilCheck x=> .nilc x
 | .binOp .eql t x y _=>(mV P false t x y).getD raw
 | .binOp .neq t x y _=>(mV P true t x y).getD raw
 | .binOp o _ x y _=> .bin o x y
 | .unOp o _ x=> .un o x
 | .convert s d x=>
  match P.underlying s,P.underlying d with
  | some (.int _),some (.int k)=> .conv k x
  | some .string,some .string=> .raw op ty
  | some (.slice e),some .string=>(match P.underlying e with | some (.int .u8)=> .b2s x | _=>raw)
  | some .string,some (.slice e)=>(match P.underlying e with | some (.int .u8)=> .s2b e x | _=>raw)
  | _,_=>raw
 | .fieldAddr s x f=>
  match P.underlying s with
  | some (.struct fs)=>(match fs[f]? with
   | some fd=>(match sizeOf? P fd.type with
    | some 0=>raw
    | some _=> .fadr x fd.offset
    | none=>raw)
   | none=>raw)
  | _=>raw
 | .field s x f=>
  match P.underlying s with
  | some (.struct fs)=>(match fs[f]? with
   | some fd=>(match isAgg? P fd.type,sizeOf? P fd.type with
    | some true,some k=> .fldN x fd.offset k
    | some false,_=> .fld1 x fd.offset
    | _,_=>raw)
   | none=>raw)
  | _=>raw
 | .indexAddr t x i=>
  match P.underlying t with
  | some (.slice e)=>(match sizeOf? P e with | some k=> .iadr x i k | none=>raw)
  | some (.array len e)=>(match sizeOf? P e with | some k=> .aadr x i len k | none=>raw)
  | _=>raw
 | .index t x i=>
  match P.underlying t with
  | some .string=> .sidx x i
  | _=>raw
 | .extract x i=> .ext x i
 | .slice t x lo hi mx=>
  match P.underlying t with
  | some (.slice e)=>(match sizeOf? P e with | some k=> .slc k x lo hi mx | none=>raw)
  | some .string=>if mx.isSome then raw else .sslc x lo hi
  | some (.array len e)=>(match sizeOf? P e with | some k=> .aslc len k x lo hi mx | none=>raw)
  | _=>raw
 | .makeFunc fn first cap=> .mkf fn first.toList cap.toList
 | .build t parts=>
  match P.underlying t,zero? P t with
  | some (.struct fs),some z=>if fs.toList.all (fun f=>(sizeOf? P f.type).isSome) then(match yU P fs.toList parts.toList with | some l=> .build z l | none=>raw) else raw
  | _,_=>raw
 | .load t a=>(match isAgg? P t,sizeOf? P t with
  | some true,some k=> .loadN k a
  | some false,_=> .load1 a
  | _,_=>raw)
 | .store t a v=>(match sizeOf? P t with | some k=> .store k a v | none=>raw)
 | .alloc t=>(match zero? P t with | some z=> .alloc t z | none=>raw)
 | .box t x=> .box t x
 | .buildSlice t len parts=>
  match P.underlying t with
  | some (.slice e)=>(match sizeOf? P e,zero? P e with | some k,some z=> .bsl e len k z parts.toList | _,_=>raw)
  | _=>raw
 | .makeSlice t l c=>
  match P.underlying t with
  | some (.slice e)=>(match sizeOf? P e,zero? P e,bytes? P e with | some k,some z,some b=> .mksl e k b z l c | _,_,_=>raw)
  | _=>raw
 | .call c=>
  match c.callee with
  | .value f=> .call f c.args.toList
  | .invoke _ _=>raw
  | .builtin b=>
   match b,c.args.toList,c.argTypes.toList with
   | .len,[x],[t]=>(match P.underlying t with
    | some .string=> .slen x
    | some (.slice _)=> .len x
    | some (.array k _)=> .lenK k
    | some (.pointer e)=>(match P.underlying e with | some (.array k _)=> .lenK k | _=>raw)
    | _=>raw)
   | .cap,[x],[t]=>(match P.underlying t with | some (.slice _)=> .cap x | _=>raw)
   | .min,x::xs,_=> .min x xs
   | .max,x::xs,_=> .max x xs
   | .append,[s,x],[t,u]=>(match P.underlying t,P.underlying u with
    | _,some (.int _)=>raw
    | some (.slice e),some _=>(match sizeOf? P e,zero? P e,bytes? P e with | some k,some z,some b=> .app e k b z s x | _,_,_=>raw)
    | _,_=>raw)
   | .copy,[d,s],t::_=>(match P.underlying t with
    | some (.slice e)=>(match sizeOf? P e with | some k=> .copy k d s | none=>raw)
    | _=>raw)
   | .clear,[x],[t]=>(match P.underlying t with
    | some (.slice e)=>(match zero? P e with | some z=> .clr z x | none=>raw)
    | _=>raw)
   | _,_,_=>raw
 | _=>raw
end Go.Xs
namespace Go.Xs
section
variable {P:Program} {ρ:Operand→Value} {w:World} {d:Option Tmp} {pos:String} {af:Array Edge} {g:Option (Nat × Bool)} {ty:TypeId} {v:Value}
theorem add_plain(b off i:Nat):Addr.add ⟨b,off,none⟩ i=⟨b,off+i,none⟩:=by
 unfold Addr.add; split<;>simp_all
/-- the operation in its record -/
abbrev mk(d:Option Tmp)(op:Op)(ty:TypeId)(pos:String)(af:Array Edge)(g:Option (Nat × Bool)):Oper:=⟨d,op,ty,pos,af,g⟩
theorem run_underlying{t:TypeId}{x:TypeDesc}(h:P.underlying t=some x)(w:World):(underlying t).run P w= .ok x w:=by
 simp[underlying,program,Sem.run_bind,Sem.run,Result.andThen,h,pure]
theorem run_sizeOf{t:TypeId}{k:Nat}(h:sizeOf? P t=some k)(w:World):(sizeOf t).run P w= .ok k w:=by
 unfold sizeOf? at h;cases hi:P.info? t with
 | none=>simp[hi] at h
 | some i=>
  simp only[hi,Option.map_some,Option.some.injEq] at h;simp[sizeOf,typeInfo,program,Sem.run_bind,Sem.run,Result.andThen,hi,pure,h]
theorem Wi{t:TypeId}{b:Bool}(h:isAgg? P t=some b)(w:World):(isAgg t).run P w= .ok b w:=by
 unfold isAgg? at h;cases hu:P.underlying t with
 | none=>simp[hu] at h
 | some x=>
  have:=run_underlying hu w;unfold isAgg;rw[Sem.run_bind,this];simp only[hu] at h;cases x<;>simp_all [Result.andThen,pure]
theorem yP{a:Addr}{f:Field}{k:Nat}(h:sizeOf? P f.type=some k)(hk:k≠0)(w:World):(fieldPlace a f).run P w= .ok (a.add f.offset) w:=by
 simp[fieldPlace,Sem.run_bind,run_sizeOf h,Result.andThen,hk,pure]
theorem jL{s:TypeId}{x:Operand}{f:Nat}(h:zu ρ (cop P (.fieldAddr s x f) ty)=some v):(execOp ρ (mk d (.fieldAddr s x f) ty pos af g)).run P w= .ok (.value v) w:=by
 simp only[cop] at h;cases hu:P.underlying s with
 | none=>simp[hu,zu] at h
 | some t=>
  simp only[hu] at h;cases t<;>try (simp[zu] at h; done)
  rename_i fs
  cases hf:fs[f]? with
  | none=>simp[hf,zu] at h
  | some fd=>
   simp only[hf] at h;cases hs:sizeOf? P fd.type with
   | none=>simp[hs,zu] at h
   | some k=>
    cases k with
    | zero=>simp[hs,zu] at h
    | succ k=>
     simp only[hs,zu] at h;split at h
     ·rename_i b o hx
      simp only[Option.some.injEq] at h;subst h;simp[execOp,Instr.fieldAt,Sem.run_bind,run_underlying hu,Result.andThen,hf,hx,Instr.sureAddr,pure,Sem.run,yP hs,add_plain]
     ·cases h
theorem AQ{x:Operand}(h:zu ρ (cop P (.move x) ty)=some v):(execOp ρ (mk d (.move x) ty pos af g)).run P w= .ok (.value v) w:=by
 simp only[cop,zu,Option.some.injEq] at h; subst h; simp[execOp,pure]
theorem fF{x:Operand}(h:zu ρ (cop P (.assign x) ty)=some v):(execOp ρ (mk d (.assign x) ty pos af g)).run P w= .ok (.value v) w:=by
 simp only[cop,zu,Option.some.injEq] at h; subst h; simp[execOp,pure]
theorem AP{c x y:Operand}(h:zu ρ (cop P (.pick c x y) ty)=some v):(execOp ρ (mk d (.pick c x y) ty pos af g)).run P w= .ok (.value v) w:=by
 simp only[cop,zu] at h;split at h
 ·rename_i hc
  simp only[Option.some.injEq] at h; subst h;simp[execOp,hc,asBool,Sem.run_bind,Result.andThen,pure,Sem.run]
 ·rename_i hc
  simp only[Option.some.injEq] at h; subst h;simp[execOp,hc,asBool,Sem.run_bind,Result.andThen,pure,Sem.run]
 ·cases h
theorem JM{x:Operand}(h:zu ρ (cop P (.nilCheck x) ty)=some v):(execOp ρ (mk d (.nilCheck x) ty pos af g)).run P w= .ok (.value v) w:=by
 simp only[cop,zu] at h;split at h<;>first | (rename_i hx; simp only[Option.some.injEq] at h; subst h; simp[execOp,hx,pure]) | cases h
theorem aW{x:Operand}{i:Nat}(h:zu ρ (cop P (.extract x i) ty)=some v):(execOp ρ (mk d (.extract x i) ty pos af g)).run P w= .ok (.value v) w:=by
 simp only[cop,zu] at h;split at h
 ·rename_i vs hx
  simp[execOp,hx,Instr.extract,h,pure,Sem.run]
 ·cases h
theorem JN{fn:Fn}{first cap:Array Operand}(h:zu ρ (cop P (.makeFunc fn first cap) ty)=some v):(execOp ρ (mk d (.makeFunc fn first cap) ty pos af g)).run P w= .ok (.value v) w:=by
 simp only[cop,zu,Option.some.injEq] at h; subst h;simp[execOp,Instr.makeFunc,pure,Sem.run];constructor<;>(apply Array.ext'; simp)
theorem AO{o:UnOp}{t:TypeId}{x:Operand}(h:zu ρ (cop P (.unOp o t x) ty)=some v):(execOp ρ (mk d (.unOp o t x) ty pos af g)).run P w= .ok (.value v) w:=by
 simp only[cop,zu] at h;split at h
 ·rename_i b hx; simp only[Option.some.injEq] at h; subst h; simp[execOp,hx,Op.unary,pure,Sem.run]
 ·rename_i k a hx; simp only[Option.some.injEq] at h; subst h; simp[execOp,hx,Op.unary,Op.intArith,pure,Sem.run]
 ·cases h
theorem nU{s:TypeId}{x:Operand}{f:Nat}(h:zu ρ (cop P (.field s x f) ty)=some v):(execOp ρ (mk d (.field s x f) ty pos af g)).run P w= .ok (.value v) w:=by
 simp only[cop] at h;cases hu:P.underlying s with
 | none=>simp[hu,zu] at h
 | some t=>
  simp only[hu] at h;cases t<;>try (simp[zu] at h; done)
  rename_i fs
  cases hf:fs[f]? with
  | none=>simp[hf,zu] at h
  | some fd=>
   simp only[hf] at h;cases ha:isAgg? P fd.type with
   | none=>simp[ha,zu] at h
   | some b=>
    cases b with
    | true=>
     cases hs:sizeOf? P fd.type with
     | none=>simp[ha,hs,zu] at h
     | some k=>
      simp only[ha,hs,zu] at h;split at h
      ·rename_i cs hx
       simp only[Option.some.injEq] at h;subst h;simp[execOp,Instr.field,Sem.run_bind,run_underlying hu,Result.andThen,hf,hx,asAgg,part,Wi ha,run_sizeOf hs,pure,Sem.run]
      ·cases h
    | false=>
     simp only[ha,zu] at h;split at h
     ·rename_i cs hx
      simp[execOp,Instr.field,Sem.run_bind,run_underlying hu,Result.andThen,hf,hx,asAgg,part,Wi ha,h,pure,Sem.run]
     ·cases h
theorem jK{t:TypeId}{x i:Operand}(h:zu ρ (cop P (.indexAddr t x i) ty)=some v):(execOp ρ (mk d (.indexAddr t x i) ty pos af g)).run P w= .ok (.value v) w:=by
 simp only[cop] at h;cases hu:P.underlying t with
 | none=>simp[hu,zu] at h
 | some u=>
  simp only[hu] at h;cases u<;>try (simp[zu] at h; done)
  ·rename_i e
   cases hs:sizeOf? P e with
   | none=>simp[hs,zu] at h
   | some k=>
    simp only[hs,zu] at h;split at h
    ·rename_i b o len cap q j hx hi
     split at h
     ·rename_i hb
      simp only[Option.some.injEq] at h;subst h;simp[execOp,Instr.indexAt,Sem.run_bind,run_underlying hu,Result.andThen,hx,hi,asIntOf,run_sizeOf hs,hb,add_plain,pure,Sem.run]
     ·cases h
    ·cases h
  ·rename_i n e
   cases hs:sizeOf? P e with
   | none=>simp[hs,zu] at h
   | some k=>
    simp only[hs,zu] at h;split at h
    ·rename_i b o q j hx hi
     split at h
     ·rename_i hb
      simp only[Option.some.injEq] at h;subst h;simp[execOp,Instr.indexAt,Sem.run_bind,run_underlying hu,Result.andThen,hx,hi,asIntOf,run_sizeOf hs,hb,Instr.sureAddr,add_plain,pure,Sem.run]
     ·cases h
    ·cases h
theorem nT{t:TypeId}{x i:Operand}(h:zu ρ (cop P (.index t x i) ty)=some v):(execOp ρ (mk d (.index t x i) ty pos af g)).run P w= .ok (.value v) w:=by
 simp only[cop] at h;cases hu:P.underlying t with
 | none=>simp[hu,zu] at h
 | some u=>
  simp only[hu] at h;cases u<;>try (simp[zu] at h; done)
  simp only[zu] at h;split at h
  ·rename_i s q j hx hi
   split at h
   ·rename_i hb
    split at h
    ·rename_i b hbt
     simp only[Option.some.injEq] at h;subst h;simp[execOp,Instr.index,Sem.run_bind,run_underlying hu,Result.andThen,hx,hi,asIntOf,hb,hbt,pure,Sem.run]
    ·cases h
   ·cases h
  ·cases h
theorem run_sliceBound{x:Value}{y:Nat}{code:BoundsCode}{a:Int}(hx:Jy x=some a)(hb:0≤a∧a≤y)(w:World):(Instr.sliceBound x y code).run P w= .ok a.toNat w:=by
 cases x<;>simp[Jy] at hx
 subst hx;simp[Instr.sliceBound,asIntOf,Sem.run_bind,Result.andThen,hb,pure,Sem.run]
theorem UC{o:Option Operand}{r:Option Int}(ho:Vp ρ o=some r):(o=none∧r=none)∨∃x a,o=some x∧r=some a∧Jy (ρ x)=some a:=by
 cases o with
 | none=>simp[Vp] at ho; exact .inl ⟨rfl,ho.symm⟩
 | some x=>
  simp only[Vp] at ho;split at ho
  ·rename_i a ha; simp only[Option.some.injEq] at ho; exact .inr ⟨x,a,rfl,ho.symm,ha⟩
  ·cases ho
theorem Xb{a:Int}{y:Nat}{dflt:Option Nat}{k:Nat}(h:Ug (some a) y dflt=some k):(0≤a∧a≤(y:Int))∧a.toNat=k:=by
 simp only[Ug] at h;split at h
 ·rename_i hb; simp only[Option.some.injEq] at h; exact⟨hb,h⟩
 ·cases h
theorem vR{isS:Bool}{len cap:Nat}{lo hi mx:Option Operand}{lo' hi' mx':Option Int}{l h' m:Nat}
 (h1:Vp ρ lo=some lo') (h2:Vp ρ hi=some hi') (h3:Vp ρ mx=some mx') (hb:bnd lo' hi' mx' len cap mx.isSome=some (l,h',m)) (w:World):
 (Instr.sliceBounds isS len cap (lo.map ρ) (hi.map ρ) (mx.map ρ)).run P w= .ok (l,h',m) w:=by
 simp only[bnd,Option.bind_eq_some_iff,Option.some.injEq,Prod.mk.injEq] at hb;obtain⟨m',hm,hh',hh,ll,hl,rfl,rfl,rfl⟩:=hb;rcases UC h1 with⟨rfl,rfl⟩ | ⟨xl,al,rfl,rfl,vl⟩<;>rcases UC h2 with⟨rfl,rfl⟩ | ⟨xh,ah,rfl,rfl,vh⟩<;>rcases UC h3 with⟨rfl,rfl⟩ | ⟨xm,am,rfl,rfl,vm⟩
 all_goals (try (obtain⟨bl,rfl⟩:=Xb hl))
 all_goals (try (obtain⟨bh,rfl⟩:=Xb hh))
 all_goals (try (obtain⟨bm,rfl⟩:=Xb hm))
 all_goals (try (simp only[Ug,Option.some.injEq] at hl))
 all_goals (try (simp only[Ug,Option.isSome_none,Option.isSome_some,Bool.false_eq_true,if_false,if_true,Option.some.injEq] at hh))
 all_goals (try (simp only[Ug,Option.some.injEq] at hm))
 all_goals (try (cases hh; done))
 all_goals (try subst hl)
 all_goals (try subst hh)
 all_goals (try subst hm)
 all_goals (simp only[Instr.sliceBounds,Option.map_none,Option.map_some,Sem.run_bind,Result.andThen,pure,Sem.run])
 all_goals (try rw[run_sliceBound vm bm])
 all_goals (try simp only)
 all_goals (try rw[run_sliceBound vh bh])
 all_goals (try simp only)
 all_goals (try rw[run_sliceBound vl bl])
theorem nS{t:TypeId}{x:Operand}{lo hi mx:Option Operand}(h:zu ρ (cop P (.slice t x lo hi mx) ty)=some v):(execOp ρ (mk d (.slice t x lo hi mx) ty pos af g)).run P w= .ok (.value v) w:=by
 simp only[cop] at h;cases hu:P.underlying t with
 | none=>simp[hu,zu] at h
 | some u=>
  simp only[hu] at h;cases u<;>try (simp[zu] at h; done)
  ·-- a string
   by_cases hm:mx.isSome=true
   ·simp[hm,zu] at h
   ·have hmx:mx=none:=by cases mx<;>simp_all
    subst hmx;simp only[Option.isSome_none,Bool.false_eq_true,if_false,zu] at h;split at h
    ·rename_i s lo' hi' hx h1 h2
     split at h
     ·rename_i l hh m hb
      simp only[Option.some.injEq] at h;subst h;have hr:=vR (P:=P) (isS:=false) (mx:=none) h1 h2 rfl hb w;simp only[Option.map_none] at hr;simp[execOp,Instr.sliceAt,Instr.slice,Sem.run_bind,run_underlying hu,Result.andThen,hx,hr,pure,Sem.run]
     ·cases h
    ·cases h
  ·rename_i e
   cases hs:sizeOf? P e with
   | none=>simp[hs,zu] at h
   | some k=>
    simp only[hs,zu] at h;split at h
    ·rename_i a len cap lo' hi' mx' hx h1 h2 h3
     split at h
     ·rename_i l hh m hb
      simp only[Option.some.injEq] at h;subst h;have hr:=vR (P:=P) (isS:=true) h1 h2 h3 hb w;simp[execOp,Instr.sliceAt,Instr.slice,Sem.run_bind,run_underlying hu,Result.andThen,hx,hr,run_sizeOf hs,pure,Sem.run]
     ·cases h
    ·cases h
  ·rename_i n e
   cases hs:sizeOf? P e with
   | none=>simp[hs,zu] at h
   | some k=>
    simp only[hs,zu] at h;split at h
    ·rename_i a lo' hi' mx' hx h1 h2 h3
     split at h
     ·rename_i l hh m hb
      simp only[Option.some.injEq] at h;subst h;have hr:=vR (P:=P) (isS:=false) h1 h2 h3 hb w;simp[execOp,Instr.sliceAt,Instr.slice,Sem.run_bind,run_underlying hu,Result.andThen,hx,hr,run_sizeOf hs,Instr.sureAddr,pure,Sem.run]
     ·cases h
    ·cases h
theorem aX{s t:TypeId}{x:Operand}(h:zu ρ (cop P (.convert s t x) ty)=some v):(execOp ρ (mk d (.convert s t x) ty pos af g)).run P w= .ok (.value v) w:=by
 simp only[cop] at h;split at h
 ·rename_i k1 k hs ht
  simp only[zu] at h;split at h
  ·rename_i q a hx
   simp only[Option.some.injEq] at h;subst h;simp[execOp,convert,Sem.run_bind,run_underlying hs,run_underlying ht,Result.andThen,hx,Conv.intToInt,pure,Sem.run]
  ·cases h
 ·simp[zu] at h
 ·split at h<;>simp[zu] at h
 ·split at h<;>simp[zu] at h
 ·simp[zu] at h
theorem XW{op:BinOp}{k:IntKind}{a b:Int}{k':IntKind}(hk:k=k'∨op= .shl∨op= .shr)(h:WW op k a b=some v){t:TypeId}:(binOp op t (.int k a) (.int k' b)).run P w= .ok v w:=by
 cases op<;>simp only[WW] at h<;>
  (try (split at h<;>try (cases h; done)))<;>simp only[Option.some.injEq] at h<;>subst h<;>
  (try (have hk':k=k':=by simpa using hk))<;>(try subst hk')<;>
  simp[binOp,Op.intArith,Op.intDiv,Op.intBits,Op.intCmp,Op.shift,uL,pure, *]
 all_goals (try (simp[Sem.run_bind,Result.andThen,Sem.run, *]))
 all_goals (try rfl)
 all_goals (try (by_cases he:a=b<;>simp[he]))
theorem XV{op:BinOp}{a b:ByteArray}(h:aN op a b=some v){t:TypeId}:(binOp op t (.string a) (.string b)).run P w= .ok v w:=by
 have hl:(a.toList==b.toList)=decide (a=b):=by
  by_cases he:a=b
  ·simp[he]
  ·have:a.toList≠b.toList:=fun hc=>he (by
    rw[ByteArray.toList_eq,ByteArray.toList_eq] at hc;cases a; cases b; simpa using hc)
   simp[he,this]
 cases op<;>simp only[aN] at h<;>(try (cases h; done))
 ·split at h
  ·rename_i hb
   simp only[Option.some.injEq] at h; subst h;have:¬((a.size+b.size:Nat):Int)>IntKind.i64.max:=by simp[IntKind.max,IntKind.signed,IntKind.bits]; omega
   simp[binOp,Op.stringOp,pure,Sem.run];omega
  ·cases h
 all_goals (simp only[Option.some.injEq] at h; subst h; simp[binOp,Op.stringOp,hl,pure])
theorem iZ{t e:TypeId}(hu:P.underlying t=some (.pointer e))(n:Nat)(b:Option Addr)(w:World):(Op.equalIn (n+1) t (.pointer none) (.pointer b)).run P w= .ok b.isNone w:=by
 simp only[Op.equalIn,Sem.run_bind,run_underlying hu,Result.andThen_ok,pure,Sem.run]
theorem Cg{t e:TypeId}(hu:P.underlying t=some (.pointer e))(n:Nat)(a:Addr)(w:World):(Op.equalIn (n+1) t (.pointer (some a)) (.pointer none)).run P w= .ok false w:=by
 simp only[Op.equalIn,Sem.run_bind,run_underlying hu,Result.andThen_ok,pure,Sem.run]
theorem iY{t e:TypeId}(hu:P.underlying t=some (.slice e))(n:Nat)(b:Option Addr)(l c l' c':Nat)(w:World):(Op.equalIn (n+1) t (.slice none l c) (.slice b l' c')).run P w= .ok b.isNone w:=by
 simp only[Op.equalIn,Sem.run_bind,run_underlying hu,Result.andThen_ok,pure,Sem.run]
theorem Ce{t e:TypeId}(hu:P.underlying t=some (.slice e))(n:Nat)(a:Addr)(l c l' c':Nat)(w:World):(Op.equalIn (n+1) t (.slice (some a) l c) (.slice none l' c')).run P w= .ok false w:=by
 simp only[Op.equalIn,Sem.run_bind,run_underlying hu,Result.andThen_ok,pure,Sem.run]
theorem l5{t e e':TypeId}(hu:P.underlying t=some (.map e e'))(n:Nat)(b:Option Nat)(w:World):(Op.equalIn (n+1) t (.map none) (.map b)).run P w= .ok b.isNone w:=by
 simp only[Op.equalIn,Sem.run_bind,run_underlying hu,Result.andThen_ok,pure,Sem.run]
theorem Ch{t e e':TypeId}(hu:P.underlying t=some (.map e e'))(n:Nat)(a:Nat)(w:World):(Op.equalIn (n+1) t (.map (some a)) (.map none)).run P w= .ok false w:=by
 simp only[Op.equalIn,Sem.run_bind,run_underlying hu,Result.andThen_ok,pure,Sem.run]
theorem Ck{t:TypeId}{p q:Array TypeId}{b:Bool}(hu:P.underlying t=some (.func p q b))(n:Nat)(w:World):(Op.equalIn (n+1) t .nilFunc .nilFunc).run P w= .ok true w:=by
 simp only[Op.equalIn,Sem.run_bind,run_underlying hu,Result.andThen_ok,pure,Sem.run]
theorem Cj{t:TypeId}{p q:Array TypeId}{b:Bool}(hu:P.underlying t=some (.func p q b))(n:Nat)(f:Fn)(x y:Array Value)(w:World):(Op.equalIn (n+1) t .nilFunc (.func f x y)).run P w= .ok false w:=by
 simp only[Op.equalIn,Sem.run_bind,run_underlying hu,Result.andThen_ok,pure,Sem.run]
theorem Ci{t:TypeId}{p q:Array TypeId}{b:Bool}(hu:P.underlying t=some (.func p q b))(n:Nat)(f:Fn)(x y:Array Value)(w:World):(Op.equalIn (n+1) t (.func f x y) .nilFunc).run P w= .ok false w:=by
 simp only[Op.equalIn,Sem.run_bind,run_underlying hu,Result.andThen_ok,pure,Sem.run]
theorem tL{t:TypeId}(hu:P.underlying t=some .bool)(n:Nat)(a b:Bool)(w:World):(Op.equalIn (n+1) t (.bool a) (.bool b)).run P w= .ok (a==b) w:=by
 simp only[Op.equalIn,Sem.run_bind,run_underlying hu,Result.andThen_ok,pure,Sem.run]
theorem vG:Op.maxDepth=9999+1:=rfl
/-- what == and != do where the operands are neither ints nor strings -/
theorem bT{neg:Bool}{t:TypeId}{a b:Value}{r:Bool}(he:∀w,(Op.equalIn Op.maxDepth t a b).run P w= .ok r w)
 (hi:∀k x,a≠ .int k x) (hs:∀x,a≠ .string x) (hf:∀k x,a≠ .float k x) (hc:∀k x y,a≠ .complex k x y) (w:World):
 (binOp (if neg then .neq else .eql) t a b).run P w= .ok (.bool (if neg then !r else r)) w:=by
 cases neg<;>cases a<;>simp_all [binOp,Op.equal,Sem.run_bind,Result.andThen,pure,Sem.run]
theorem WL{op:BinOp}{t:TypeId}{x y:Operand}{a b:Value}(h1:a≠ .nilIface)(hs:(∀cs,a≠ .agg cs)∨P.eqGuardType P.depth t=false)(w:World):
 (eqGuard op t x y a b).run P w= .ok () w:=by
 unfold eqGuard;cases op<;>cases a<;>first | (exact absurd rfl h1) | skip
 all_goals (cases b<;>first | (simp[Sem.run,pure,Sem.run_bind,Result.andThen]; done) | skip)
 all_goals (
  rcases hs with hs | hs
  ·exact absurd rfl (hs _)
  ·simp[pure,Sem.run_bind,Result.andThen,hs])
theorem dV{t:TypeId}{k:Nat}{x y:Value}{r:Bool}(h:jq k x y=some r)
 (hk:(k=0∧∃e,P.underlying t=some (.pointer e))∨(k=1∧∃e,P.underlying t=some (.slice e))∨(k=2∧∃e e',P.underlying t=some (.map e e'))∨(k=3∧∃p q b,P.underlying t=some (.func p q b))) (w:World):
 (Op.equalIn Op.maxDepth t x y).run P w= .ok r w:=by
 rw[vG];unfold jq at h;rcases hk with⟨rfl,e,hu⟩ | ⟨rfl,e,hu⟩ | ⟨rfl,e,e',hu⟩ | ⟨rfl,e,e',e'',hu⟩<;>split at h<;>simp_all<;>subst h
 ·exact iZ hu _ none w
 ·exact iZ hu _ (some _) w
 ·exact Cg hu _ _ w
 ·exact iY hu _ none _ _ _ _ w
 ·exact iY hu _ (some _) _ _ _ _ w
 ·exact Ce hu _ _ _ _ _ _ w
 ·exact l5 hu _ none w
 ·exact l5 hu _ (some _) w
 ·exact Ch hu _ _ w
 ·exact Ck hu _ w
 ·exact Cj hu _ _ _ _ w
 ·exact Ci hu _ _ _ _ w
end
end Go.Xs
namespace Go.Xs
section
variable {P:Program} {ρ:Operand→Value} {w:World} {d:Option Tmp} {pos:String} {af:Array Edge} {g:Option (Nat × Bool)} {ty:TypeId} {v:Value}
theorem U8{t:TypeId}{cs:Array Value}{off:Nat}{x:Value}(ha:isAgg? P t=some false)(hx:cs[off]?=some x)(w:World):(part t cs off).run P w= .ok x w:=by
 simp[part,Sem.run_bind,Wi ha,Result.andThen,hx,pure]
theorem uW{t:TypeId}{x:TypeDesc}(h:P.underlying t=some x)(hx:(∃k,x= .int k)∨x= .string∨x= .bool):isAgg? P t=some false:=by
 unfold isAgg?; rw[h]; rcases hx with⟨k,rfl⟩ | rfl | rfl<;>rfl
theorem bU(a b:ByteArray):(a==b)=decide (a=b):=by
 by_cases h:a=b
 ·subst h; rw[beq_toListBytes]; simp
 ·rw[beq_toListBytes];have:a.toList≠b.toList:=fun hc=>h (by rw[ByteArray.toList_eq,ByteArray.toList_eq] at hc; cases a; cases b; simpa using hc)
  simp[h,this]
theorem pG{f:Field}{k:Nat}{a b:Value}{r:Bool}(h:nu k a b=some r)
 (hu:(k=0∧∃q,P.underlying f.type=some (.int q))∨(k=1∧P.underlying f.type=some .string)∨(k=2∧P.underlying f.type=some .bool)) (n:Nat) (w:World):(Op.equalIn (n+1) f.type a b).run P w= .ok r w:=by
 unfold nu at h;rcases hu with⟨rfl,q,hu⟩ | ⟨rfl,hu⟩ | ⟨rfl,hu⟩<;>split at h<;>simp_all
 ·rename_i k p k' q'
  obtain⟨rfl,rfl⟩:=h;rw[run_equalIn_int w n f.type k q p q' hu]; by_cases he:p=q'<;>simp[he]
 ·rename_i p q'
  subst h;rw[run_equalIn_string w n f.type p q' hu, ←beq_toListBytes,bU]
 ·rename_i p q'
  subst h;exact tL hu n p q' w
theorem KM(n:Nat)(xs ys:Array Value):∀(fs:List Field) (l:List (Nat × Nat)) (r:Bool),wW P fs=some l→jo xs ys l=some r→∀w,(Op.eqFields (n+1) xs ys fs).run P w= .ok r w
 | [],l,r,hl,hx,w=>by
  simp only[wW,Option.some.injEq] at hl;subst hl;simp only[jo,Option.some.injEq] at hx;subst hx;simp[Op.eqFields,pure]
 | f::fs,l,r,hl,hx,w=>by
  simp only[wW] at hl;split at hl
  ·cases hl
  rename_i hname
  have key:∀(k:Nat) (l':List (Nat × Nat)),wW P fs=some l'→l=(f.offset,k)::l'→isAgg? P f.type=some false→
   ((k=0∧∃q,P.underlying f.type=some (.int q))∨(k=1∧P.underlying f.type=some .string)∨(k=2∧P.underlying f.type=some .bool))→(Op.eqFields (n+1) xs ys (f::fs)).run P w= .ok r w:=by
   intro k l' hl' hll hagg hk;subst hll;simp only[jo] at hx;split at hx
   ·rename_i a b ha hb
    split at hx
    ·rename_i p q hp hq
     simp only[Option.some.injEq] at hx;subst hx;simp only[Op.eqFields,hname,ne_eq,not_false_eq_true,if_true,Sem.run_bind,U8 hagg ha,U8 hagg hb,Result.andThen_ok,pG hp hk n w];cases p with
     | false=>simp[pure]
     | true=>simpa using KM n xs ys fs l' q hl' hq w
    ·cases hx
   ·cases hx
  split at hl
  ·rename_i q l' hu hl'; simp only[Option.some.injEq] at hl; exact key 0 l' hl' hl.symm (uW hu (.inl ⟨_,rfl⟩)) (.inl ⟨rfl,q,hu⟩)
  ·rename_i l' hu hl'; simp only[Option.some.injEq] at hl; exact key 1 l' hl' hl.symm (uW hu (.inr (.inl rfl))) (.inr (.inl ⟨rfl,hu⟩))
  ·rename_i l' hu hl'; simp only[Option.some.injEq] at hl; exact key 2 l' hl' hl.symm (uW hu (.inr (.inr rfl))) (.inr (.inr ⟨rfl,hu⟩))
  ·cases hl
theorem kG{neg:Bool}{t:TypeId}{x y:Operand}{X:Wv}(hc:mV P neg t x y=some X)(h:zu ρ X=some v):
 (do eqGuard (if neg then .neq else .eql) t x y (ρ x) (ρ y); binOp (if neg then .neq else .eql) t (ρ x) (ρ y):Sem Value).run P w= .ok v w:=by
 unfold mV at hc;have key:∀{a b:Value} {r:Bool},ρ x=a→ρ y=b→(∀w,(Op.equalIn Op.maxDepth t a b).run P w= .ok r w)→(∀k x,a≠ .int k x)→(∀x,a≠ .string x)→(∀k x,a≠ .float k x)→(∀k x y,a≠ .complex k x y)→
  a≠ .nilIface→((∀cs,a≠ .agg cs)∨P.eqGuardType P.depth t=false)→v= .bool (if neg then !r else r)→
  (do eqGuard (if neg then .neq else .eql) t x y (ρ x) (ρ y); binOp (if neg then .neq else .eql) t (ρ x) (ρ y):Sem Value).run P w= .ok v w:=by
  intro a b r ha hb he hi hs hf hcx hn hg hv;rw[ha,hb,Sem.run_bind,WL hn hg w,Result.andThen_ok,bT he hi hs hf hcx w,hv]
 split at hc
 ·-- ints
  rename_i k hu
  simp only[Option.some.injEq] at hc; subst hc;clear key;generalize (if neg=true then BinOp.neq else BinOp.eql)=o at h ⊢;simp only[zu,Wy] at h;split at h
  ·rename_i k a k' b hx hy
   split at h
   ·rename_i hk
    rw[hx,hy,Sem.run_bind,WL (by simp) (.inl (by simp)) w,Result.andThen_ok];exact XW hk h
   ·cases h
  ·rename_i a b hx hy
   rw[hx,hy,Sem.run_bind,WL (by simp) (.inl (by simp)) w,Result.andThen_ok];exact XV h
  ·cases h
 ·rename_i hu
  simp only[Option.some.injEq] at hc; subst hc;clear key;generalize (if neg=true then BinOp.neq else BinOp.eql)=o at h ⊢;simp only[zu,Wy] at h;split at h
  ·rename_i k a k' b hx hy
   split at h
   ·rename_i hk
    rw[hx,hy,Sem.run_bind,WL (by simp) (.inl (by simp)) w,Result.andThen_ok];exact XW hk h
   ·cases h
  ·rename_i a b hx hy
   rw[hx,hy,Sem.run_bind,WL (by simp) (.inl (by simp)) w,Result.andThen_ok];exact XV h
  ·cases h
 ·rename_i hu
  simp only[Option.some.injEq] at hc; subst hc;simp only[zu] at h;split at h
  ·rename_i a b hx hy
   have h':v= .bool (if neg then !(a==b) else(a==b)):=by
    split at h<;>(simp only[Option.some.injEq] at h; subst h; rfl)
   exact key hx hy (fun w=>by rw[vG]; exact tL hu _ a b w) (by simp) (by simp) (by simp) (by simp) (by simp) (.inl (by simp)) h'
  ·cases h
 case h_8=>
  rename_i fs hu
  split at hc
  ·cases hc
  rename_i hst
  simp only[Bool.or_eq_true,not_or,Bool.not_eq_true] at hst;split at hc
  ·rename_i l hl
   simp only[Option.some.injEq] at hc; subst hc;simp only[zu] at h;split at h
   ·rename_i xs ys hx hy
    have h':∃r,jo xs ys l=some r∧v= .bool (if neg then !r else r):=by
     split at h<;>first | (rename_i hr; simp only[Option.some.injEq] at h; subst h; exact⟨_,hr,rfl⟩) | cases h
    obtain⟨r,hr,hv⟩:=h'
    ·refine key hx hy (fun w=>?_) (by simp) (by simp) (by simp) (by simp) (by simp) (.inr hst.2) hv;have hfo:P.fieldsOf t=fs:=by simp[Program.fieldsOf,hu]
     rw[vG,run_equalIn_struct w 9999 t xs ys (by rw[hfo]; exact hu) hst.1,hfo];exact KM 9998 xs ys fs.toList l r hl hr w
   ·cases h
  ·cases hc
 case h_9=>cases hc
 all_goals (
  rename_i hu
  simp only[Option.some.injEq] at hc; subst hc;simp only[zu] at h;generalize hxx:jq _ (ρ x) (ρ y)=o at h;have h':∃r,o=some r∧v= .bool (if neg then !r else r):=by
   split at h<;>first | (simp only[Option.some.injEq] at h; subst h; exact⟨_,rfl,rfl⟩) | cases h
  obtain⟨r,rfl,hv⟩:=h'
  ·have hr:=hxx;have hr':=hr;refine key rfl rfl (dV hr ?_) ?_ ?_ ?_ ?_ ?_ (.inl ?_) hv
   ·first
     | exact .inl ⟨rfl,_,hu⟩
     | exact .inr (.inl ⟨rfl,_,hu⟩)
     | exact .inr (.inr (.inl ⟨rfl,_,_,hu⟩))
     | exact .inr (.inr (.inr ⟨rfl,_,_,_,hu⟩))
   all_goals (intros; intro hc; rw[hc] at hr'; simp[jq] at hr'))
theorem nW{o:BinOp}{t u:TypeId}{x y:Operand}(h:zu ρ (cop P (.binOp o t x y u) ty)=some v):(execOp ρ (mk d (.binOp o t x y u) ty pos af g)).run P w= .ok (.value v) w:=by
 have fin:(do eqGuard o t x y (ρ x) (ρ y); binOp o t (ρ x) (ρ y):Sem Value).run P w= .ok v w→(execOp ρ (mk d (.binOp o t x y u) ty pos af g)).run P w= .ok (.value v) w:=by
  intro hr;simp only[execOp];rw[Sem.run_bind,hr];simp[Result.andThen,pure]
 apply fin;have plain:o≠ .eql→o≠ .neq→zu ρ (.bin o x y)=some v→(do eqGuard o t x y (ρ x) (ρ y); binOp o t (ρ x) (ρ y):Sem Value).run P w= .ok v w:=by
  intro h1 h2 hp;have hg:(eqGuard o t x y (ρ x) (ρ y)).run P w= .ok () w:=by
   unfold eqGuard;cases o<;>first | exact absurd rfl h1 | exact absurd rfl h2 | simp[pure]
  rw[Sem.run_bind,hg,Result.andThen_ok];simp only[zu,Wy] at hp;split at hp
  ·rename_i k a k' b hx hy
   split at hp
   ·rename_i hk; rw[hx,hy]; exact XW hk hp
   ·cases hp
  ·rename_i a b hx hy; rw[hx,hy]; exact XV hp
  ·cases hp
 cases o<;>simp only[cop] at h<;>first | exact plain (by simp) (by simp) h | skip
 ·cases hc:mV P false t x y with
  | none=>simp[hc,zu] at h
  | some X=>simp only[hc,Option.getD_some] at h; exact kG (neg:=false) hc h
 ·cases hc:mV P true t x y with
  | none=>simp[hc,zu] at h
  | some X=>simp only[hc,Option.getD_some] at h; exact kG (neg:=true) hc h
theorem uE(off:Nat):∀(c:List Value) (k:Nat) (cs:Array Value),
 ((c.zipIdx k).foldl (fun cs x=>cs.setIfInBounds (off+x.2) x.1) cs).toList=Zr cs.toList (off+k) c
 | [],k,cs=>rfl
 | x::c,k,cs=>by
  simp only[List.zipIdx_cons,List.foldl_cons,Zr];rw[uE off c (k+1) (cs.setIfInBounds (off+k) x)];simp[Nat.add_assoc]
theorem J8(place:Nat→Option (Nat × Nat))(fs:List Field)(hp:∀(i:Nat) (f:Field) (s:Nat),fs[i]?=some f→sizeOf? P f.type=some s→place i=some (f.offset,s)):
 ∀(parts:List (Nat × Operand)) (l:List (Nat × Nat × Operand)) (z:List Value) (r:List Value),yU P fs parts=some l→Un ρ z l=some r→
 Instr.fill place z.toArray (parts.map fun x=>(x.1,ρ x.2))=some r.toArray
 | [],l,z,r,hc,hx=>by
  simp only[yU,Option.some.injEq] at hc;subst hc;simp only[Un,Option.some.injEq] at hx;subst hx;simp[Instr.fill]
 | (i,x)::parts,l,z,r,hc,hx=>by
  simp only[yU] at hc;split at hc
  ·rename_i f l' hf hl'
   split at hc
   ·rename_i s hs
    simp only[Option.some.injEq] at hc;subst hc;simp only[Un] at hx;split at hx
    ·rename_i hb
     have:=J8 place fs hp parts l' _ r hl' hx;simp only[List.map_cons,Instr.fill,hp i f s hf hs];have hcnd:¬(((ρ x).cells.size≠s || decide (f.offset+(ρ x).cells.size>z.toArray.size))=true):=by simp; omega
     rw[if_neg hcnd, ←this];congr 1;apply Array.ext';rw[←Array.foldl_toList,Array.toList_zipIdx];have:=uE f.offset (ρ x).cells.toList 0 z.toArray;simp only[Nat.add_zero] at this;rw[this]
    ·cases hx
   ·cases hc
  ·cases hc
theorem jW(fs:Array Field)(hs:∀f∈fs.toList,∃s,sizeOf? P f.type=some s)(w:World):
 ∃places:Array (Nat × Nat),(fs.mapM (fun(f:Field)=>(do pure (f.offset, ←sizeOf f.type):Sem (Nat × Nat)))).run P w= .ok places w∧∀(i:Nat) (f:Field) (s:Nat),fs[i]?=some f→sizeOf? P f.type=some s→places[i]?=some (f.offset,s):=by
 rw[Array.mapM_eq_mapM_toList];have key:∀(l:List Field),(∀f∈l,∃s,sizeOf? P f.type=some s)→∃places:List (Nat × Nat),(l.mapM (fun(f:Field)=>(do pure (f.offset, ←sizeOf f.type):Sem (Nat × Nat)))).run P w= .ok places w∧∀(i:Nat) (f:Field) (s:Nat),l[i]?=some f→sizeOf? P f.type=some s→places[i]?=some (f.offset,s):=by
  intro l
  induction l with
  | nil=>intro _; exact⟨[],by simp[pure],by simp⟩
  | cons f l ih=>
   intro h;obtain⟨s,hs⟩:=h f (by simp);obtain⟨pl,hr,hp⟩:=ih (fun g hg=>h g (by simp[hg]));refine⟨(f.offset,s)::pl,?_,?_⟩
   ·rw[List.mapM_cons,Sem.run_bind];have h1:(do pure (f.offset, ←sizeOf f.type):Sem (Nat × Nat)).run P w= .ok (f.offset,s) w:=by
     simp[Sem.run_bind,run_sizeOf hs,Result.andThen,pure,Sem.run]
    rw[h1,Result.andThen_ok,Sem.run_bind,hr];simp[Result.andThen,pure]
   ·intro i g s' hg hs';cases i with
    | zero=>simp at hg; subst hg; rw[hs] at hs'; simp at hs' ⊢; exact hs'
    | succ i=>simp at hg ⊢; exact hp i g s' hg hs'
 obtain⟨pl,hr,hp⟩:=key fs.toList hs;refine⟨pl.toArray,?_,?_⟩
 ·rw[Sem.run_map,hr]; rfl
 ·intro i f s hf; simpa using hp i f s (by simpa using hf)
/-- every field has a size (part of what is compiled) -/
theorem Vd{t:TypeId}{z:List Value}(h:zero? P t=some z)(w:World):∃v,(zeroValue t).run P w= .ok v w∧v.cells.toList=z:=by
 unfold zero? at h;cases hi:P.info? t with
 | none=>simp[hi] at h
 | some i=>
  simp only[hi,Option.bind_some] at h;cases hz:i.zero with
  | none=>simp[hz] at h
  | some v=>
   simp only[hz,Option.map_some,Option.some.injEq] at h;exact⟨v,by simp[zeroValue,typeInfo,Sem.run_bind,Result.andThen,hi,hz,pure,Sem.run],h⟩
theorem ug{t:TypeId}{b:Nat}(h:bytes? P t=some b)(w:World):∃i,(typeInfo t).run P w= .ok i w∧i.bytes=b:=by
 unfold bytes? at h;cases hi:P.info? t with
 | none=>simp[hi] at h
 | some i=>
  simp only[hi,Option.map_some,Option.some.injEq] at h;exact⟨i,by simp[typeInfo,Sem.run_bind,Result.andThen,hi,pure],h⟩
theorem nV{t:TypeId}{parts:Array (Nat × Operand)}(h:zu ρ (cop P (.build t parts) ty)=some v):(execOp ρ (mk d (.build t parts) ty pos af g)).run P w= .ok (.value v) w:=by
 simp only[cop] at h;split at h
 ·rename_i fs z hu hz
  split at h
  ·rename_i hall
   split at h
   ·rename_i l hl
    simp only[zu] at h;split at h
    ·rename_i r hr
     simp only[Option.some.injEq] at h;subst h;obtain⟨places,hm,hp⟩:=jW fs (fun f hf=>by
      have:=List.all_eq_true.1 hall f hf;exact Option.isSome_iff_exists.1 this) w
     obtain⟨zv,hzr,hzc⟩:=Vd hz w;have hfill:=J8 (ρ:=ρ) (fun i=>places[i]?) fs.toList (fun i f s hf hs=>hp i f s (by simpa using hf) hs) parts.toList l z r hl hr;have hcells:zv.cells=z.toArray:=by apply Array.ext'; simp[hzc]
     simp only[execOp,Instr.build];simp only[Sem.run_bind,hzr,Result.andThen_ok,run_underlying hu];rw[hm];simp only[Result.andThen_ok,hcells,Array.toList_map,hfill,pure,Sem.run]
    ·cases h
   ·simp[zu] at h
  ·simp[zu] at h
 ·simp[zu] at h
theorem ZR{c:Go.Call}{b:Builtin}(hb:c.callee= .builtin b){x:Value}{w':World}
 (hr:(builtin b c.argTypes ty (c.args.map fun | .const _=>true | _=>false) (c.args.map ρ)).run P w= .ok (.value x) w'):(execOp ρ (mk d (.call c) ty pos af g)).run P w= .ok (.value x) w':=by
 simp only[execOp,resolve,hb,Sem.run_bind,pure,Sem.run,Result.andThen,invoke];exact hr
theorem xP:∀(xs:List Operand) (l:List Int),Xf ρ xs=some l→(∀(k:IntKind) (a:Int),∀w,((xs.map ρ).foldlM Builtin.min2 (.int k a):Sem Value).run P w= .ok (.int k (Yo a l)) w)∧(∀(k:IntKind) (a:Int),∀w,((xs.map ρ).foldlM Builtin.max2 (.int k a):Sem Value).run P w= .ok (.int k (Yp a l)) w)
 | [],l,h=>by
  simp only[Xf,Option.some.injEq] at h; subst h;exact⟨fun k a w=>by simp[Yo,pure],fun k a w=>by simp[Yp,pure]⟩
 | x::xs,l,h=>by
  simp only[Xf] at h;split at h
  ·rename_i a' l' ha hl
   simp only[Option.some.injEq] at h; subst h;obtain⟨h1,h2⟩:=xP xs l' hl;cases hx:ρ x<;>rw[hx] at ha<;>simp[Jy] at ha
   subst ha;constructor
   ·intro k a w;simp only[List.map_cons,List.foldlM_cons,hx,Sem.run_bind,Builtin.min2,pure,Sem.run,Result.andThen,Yo];exact h1 k _ w
   ·intro k a w;simp only[List.map_cons,List.foldlM_cons,hx,Sem.run_bind,Builtin.max2,pure,Sem.run,Result.andThen,Yp];exact h2 k _ w
  ·cases h
theorem s_call{c:Go.Call}(h:zu ρ (cop P (.call c) ty)=some v):(execOp ρ (mk d (.call c) ty pos af g)).run P w= .ok (.value v) w:=by
 obtain⟨callee,args,argTypes⟩:=c;simp only[cop] at h;split at h
 ·simp[zu] at h
 ·simp[zu] at h
 ·apply ZR rfl;split at h
  ·-- len
   rename_i x t ha ht
   have ha':args= #[x]:=by apply Array.ext'; exact ha
   have ht':argTypes= #[t]:=by apply Array.ext'; exact ht
   subst ha'; subst ht';split at h
   ·rename_i hu
    simp only[zu] at h;split at h
    ·rename_i s hx
     simp only[Option.some.injEq] at h; subst h;simp[builtin,Builtin.len_,Sem.run_bind,run_underlying hu,Result.andThen,hx,pure,Sem.run,goInt]
    ·cases h
   ·rename_i e hu
    simp only[zu] at h;split at h
    ·rename_i a k q hx
     simp only[Option.some.injEq] at h; subst h;simp[builtin,Builtin.len_,Sem.run_bind,run_underlying hu,Result.andThen,hx,pure,Sem.run,goInt]
    ·cases h
   ·rename_i k e hu
    simp only[zu,Option.some.injEq] at h; subst h;simp[builtin,Builtin.len_,Sem.run_bind,run_underlying hu,Result.andThen,pure,Sem.run,goInt]
   ·rename_i e hu
    split at h
    ·rename_i k e' hu'
     simp only[zu,Option.some.injEq] at h; subst h;simp[builtin,Builtin.len_,Sem.run_bind,run_underlying hu,run_underlying hu',Result.andThen,pure,Sem.run,goInt]
    ·simp[zu] at h
   ·simp[zu] at h
  ·-- cap
   rename_i x t ha ht
   have ha':args= #[x]:=by apply Array.ext'; exact ha
   have ht':argTypes= #[t]:=by apply Array.ext'; exact ht
   subst ha'; subst ht';split at h
   ·rename_i e hu
    simp only[zu] at h;split at h
    ·rename_i a q k hx
     simp only[Option.some.injEq] at h; subst h;simp[builtin,Builtin.cap_,Sem.run_bind,run_underlying hu,Result.andThen,hx,pure,Sem.run,goInt]
    ·cases h
   ·simp[zu] at h
  ·-- min
   rename_i x xs ha
   have ha':args=(x::xs).toArray:=by apply Array.ext'; simpa using ha
   subst ha';simp only[zu] at h;split at h
   ·rename_i k a l hx hl
    simp only[Option.some.injEq] at h; subst h;have:=(xP (P:=P) xs l hl).1 k a w;simp[builtin,Builtin.min_,Sem.run_bind,Result.andThen,hx,pure,Sem.run];rw[this]
   ·cases h
  ·-- max
   rename_i x xs ha
   have ha':args=(x::xs).toArray:=by apply Array.ext'; simpa using ha
   subst ha';simp only[zu] at h;split at h
   ·rename_i k a l hx hl
    simp only[Option.some.injEq] at h; subst h;have:=(xP (P:=P) xs l hl).2 k a w;simp[builtin,Builtin.max_,Sem.run_bind,Result.andThen,hx,pure,Sem.run];rw[this]
   ·cases h
  all_goals first
   | (simp[zu] at h; done)
   | (split at h<;>first | (simp[zu] at h; done) | (split at h<;>simp[zu] at h))
/-- THE WHOLE: what the function on values says, the model does, in every world. -/
theorem YG{op:Op}(h:zu ρ (cop P op ty)=some v)(w:World):(execOp ρ (mk d op ty pos af g)).run P w= .ok (.value v) w:=by
 cases op
 case move=>exact AQ h
 case assign=>exact fF h
 case pick=>exact AP h
 case nilCheck=>exact JM h
 case binOp=>exact nW h
 case unOp=>exact AO h
 case convert=>exact aX h
 case fieldAddr=>exact jL h
 case field=>exact nU h
 case indexAddr=>exact jK h
 case index=>exact nT h
 case slice=>exact nS h
 case extract=>exact aW h
 case makeFunc=>exact JN h
 case build=>exact nV h
 case call=>exact s_call h
 all_goals (simp only[cop] at h; first | (simp[zu] at h; done) | (split at h<;>first | (simp[zu] at h; done) | (split at h<;>simp[zu] at h)))
/-- an operation that computes is no deferred call -/
theorem Xk{op:Op}(h:zu ρ (cop P op ty)=some v):∀c,op≠ .defer c:=by
 intro c hc;subst hc;simp[cop,zu] at h
end
end Go.Xs
namespace Go.Xs
structure ZT where
 dst:Option Tmp
 op:Wv
 guard:Option (Tmp × Bool)
 deriving Inhabited
inductive Zx where
 | done
 | q (o:ZT) (t:Zx)
 | alt (o:ZT) (chk:Bool) (t rest:Zx)
 | noalt
 deriving Inhabited
inductive zA where
 | skip
 | label (l:Nat)
 | region (ops:List ZT)
 | draw (t:Zx)
 | seq (a b:zA)
 | cond (c:Operand) (thn els:zA)
 | block (id:Nat) (c:zA)
 | loop (c:zA)
 | exit (id:Nat)
 | ret
 | goto (l:Nat)
 | range (f:Operand) (params:List Tmp) (assign body:zA)
 | bad
 deriving Inhabited
def vN(P:Program)(n:Nat)(ops:Array Oper)(o:Oper):Option ZT:=
 if qK n o.dst then
  match o.guard with
  | none=>some ⟨o.dst,cop P o.op o.type,none⟩
  | some (j,b)=>match (ops[j]?).bind (·.dst) with
   | some t=>some ⟨o.dst,cop P o.op o.type,some (t,b)⟩
   | none=>none
 else none
def V7(P:Program)(n:Nat)(ops:Array Oper):List Oper→Option (List ZT)
 | []=>some []
 | o::l=>match vN P n ops o,V7 P n ops l with
  | some x,some xs=>some (x::xs)
  | _,_=>none
/-! ### regions that draw their order: the tree of the orders in which every quiet operation is taken as early as it may be -/
def UW:Wv→Bool
 | .load1 _=>true
 | .loadN _ _=>true
 | .alloc _ _=>false
 | .box _ _=>false
 | .store _ _ _=>false
 | .bsl _ _ _ _ _=>false
 | .mksl _ _ _ _ _ _=>false
 | .app _ _ _ _ _ _=>false
 | .copy _ _ _=>false
 | .clr _ _=>false
 | .b2s _=>false
 | .s2b _ _=>false
 | .call _ _=>false
 | .raw _ _=>false
 | _=>true
def qh:Wv→Bool
 | .load1 _=>true
 | .loadN _ _=>true
 | _=>false
/-- the operations that surely come ahead of those to do, by their edges -/
def U1(ops:Array Oper):Nat→List Nat→List Nat→List Nat
 | 0,_,seen=>seen
 | _+1,[],seen=>seen
 | k+1,j::todo,seen=>match ops[j]? with
  | some o=>U1 ops k ((((o.after.toList.filter (Region.binds .any)).map (·.on)).filter fun i=> !seen.contains i)++todo) ((((o.after.toList.filter (Region.binds .any)).map (·.on)).filter fun i=> !seen.contains i)++seen)
  | none=>U1 ops k todo seen
def IB(P:Program)(ops:Array Oper)(j:Nat)(ah:List Nat):Bool:=
 (List.range ops.size).any fun i=>i !=j && (match ops[i]? with | some o=>qh (cop P o.op o.type) | none=>false) && !ah.contains i
/-- is there a load that need not come ahead of j? -/
def Jf(P:Program)(ops:Array Oper)(j:Nat):Bool:=IB P ops j (U1 ops (2*ops.size) [j] [])
def xJ(P:Program)(n:Nat)(ops:Array Oper)(f:Nat→Option Zx):List Nat→Option Zx
 | []=>some .noalt
 | i::l=>match (ops[i]?).bind (vN P n ops),f i,xJ P n ops f l with
  | some o,some t,some rest=>if UW o.op then none else some (.alt o (Jf P ops i) t rest)
  | _,_,_=>none
def quietAt(P:Program)(ops:Array Oper)(listed:Array Bool)(i:Nat):Bool:=
 match ops[i]? with
 | some o=>UW (cop P o.op o.type) && Region.free .any ops listed i
 | none=>false
def uS(P:Program)(n:Nat)(ops:Array Oper):Nat→Array Bool→Option Zx
 | 0,listed=>if(Region.ready .any ops listed).isEmpty then some .done else none
 | fuel+1,listed=>
  match Region.ready .any ops listed with
  | []=>some .done
  | j::l=>match (j::l).find? (quietAt P ops listed) with
   | some i=>match (ops[i]?).bind (vN P n ops),uS P n ops fuel (listed.setIfInBounds i true) with
    | some o,some t=>some (.q o t)
    | _,_=>none
   | none=>xJ P n ops (fun i=>uS P n ops fuel (listed.setIfInBounds i true)) (j::l)
def wY(P:Program)(n:Nat)(ops:Array Oper)(draw:Bool):zA:=
 if draw then
  if P.follows .mixedOrders && Region.noSelect ops then
   match uS P n ops ops.size (Array.replicate ops.size false) with
   | some t=> .draw t
   | none=> .bad
  else .bad
 else match V7 P n ops ops.toList with
  | some l=> .region l
  | none=> .bad
def comp(P:Program)(n:Nat):Code→zA
 | .skip=> .skip
 | .region _ ops draw=>wY P n ops draw
 | .seq a b=> .seq (comp P n a) (comp P n b)
 | .cond c a b=> .cond c (comp P n a) (comp P n b)
 | .block id c=> .block id (comp P n c)
 | .loop c=> .loop (comp P n c)
 | .rangeFunc f ps a b=> .range f ps.toList (comp P n a) (comp P n b)
 | .exit id=> .exit id
 | .label l=> .label l
 | .ret=> .ret
 | .goto l=> .goto l
 | _=> .bad
variable {P:Program} {r:Option Nat} {n:Nat} {Q Q':Exit→Env→zB→Prop} {K K':Env→zB→Prop} {E:Env} {S:zB}
def Y(P:Program)(r:Option Nat)(n:Nat)(x:zA)(Q:Exit→Env→zB→Prop)(E:Env)(S:zB):Prop:=
 ∀c,comp P n c=x→X P r n c Q E S
def YL(P:Program)(r:Option Nat)(n:Nat)(l:List ZT)(K:Env→zB→Prop)(E:Env)(S:zB):Prop:=
 ∀ops l',V7 P n ops l'=some l→XL P r n ops l' K E S
def YO(P:Program)(r:Option Nat)(n:Nat)(d:Option Tmp)(x:Wv)(K:Env→zB→Prop)(E:Env)(S:zB):Prop:=
 ∀op ty pos af g,cop P op ty=x→qK n d=true→XO P r n (mk d op ty pos af g) K E S
theorem Y.mono{x:zA}(h:Y P r n x Q E S)(hq:∀e E S,Q e E S→Q' e E S):Y P r n x Q' E S:=fun c hc=>(h c hc).mono hq
theorem Y.perm{x:zA}{S₂:zB}(p:S₂.flatten.Perm S.flatten)(h:Y P r n x Q E S):Y P r n x Q E S₂:=fun c hc=>(h c hc).perm p
theorem Xa(ops:Array Oper)(draw:Bool):(∃l,wY P n ops draw= .region l)∨(∃t,wY P n ops draw= .draw t)∨wY P n ops draw= .bad:=by
 unfold wY;split
 ·split
  ·split
   ·exact .inr (.inl ⟨_,rfl⟩)
   ·exact .inr (.inr rfl)
  ·exact .inr (.inr rfl)
 ·split
  ·exact .inl ⟨_,rfl⟩
  ·exact .inr (.inr rfl)
theorem Ws{c:Code}{x:zA}(h:comp P n c=x):
 (∀a b,x= .seq a b→∃c1 c2,c= .seq c1 c2∧comp P n c1=a∧comp P n c2=b)∧
 (∀o a b,x= .cond o a b→∃c1 c2,c= .cond o c1 c2∧comp P n c1=a∧comp P n c2=b)∧
 (∀id a,x= .block id a→∃c1,c= .block id c1∧comp P n c1=a)∧
 (∀a,x= .loop a→∃c1,c= .loop c1∧comp P n c1=a)∧
 (∀f ps a b,x= .range f ps a b→∃c1 c2,c= .rangeFunc f ps.toArray c1 c2∧comp P n c1=a∧comp P n c2=b)∧
 (∀id,x= .exit id→c= .exit id)∧(∀l,x= .label l→c= .label l)∧(∀l,x= .goto l→c= .goto l)∧(x= .ret→c= .ret)∧(x= .skip→c= .skip)∧
 (∀l,x= .region l→∃id ops,c= .region id ops false∧V7 P n ops ops.toList=some l)∧
 (∀t,x= .draw t→∃id ops,c= .region id ops true∧P.follows .mixedOrders=true∧Region.noSelect ops=true∧uS P n ops ops.size (Array.replicate ops.size false)=some t):=by
 subst h;cases c with
 | region id ops draw=>
  simp only[comp];rcases Xa (P:=P) (n:=n) ops draw with⟨l,hl⟩ | ⟨t,ht⟩ | hb
  ·rw[hl];simp only[reduceCtorEq,zA.region.injEq,false_implies,implies_true,and_true,true_and];rintro l' rfl;refine⟨id,ops,?_,?_⟩
   ·unfold wY at hl; cases draw with
    | false=>rfl
    | true=>(repeat' split at hl)<;>simp_all
   ·unfold wY at hl; cases draw with
    | false=>simp only[Bool.false_eq_true,if_false] at hl; split at hl<;>simp_all
    | true=>(repeat' split at hl)<;>simp_all
  ·rw[ht];simp only[reduceCtorEq,zA.draw.injEq,false_implies,implies_true,true_and];rintro t' rfl;unfold wY at ht;cases draw with
   | false=>simp only[Bool.false_eq_true,if_false] at ht; split at ht<;>simp_all
   | true=>
    simp only[if_true] at ht;split at ht
    ·rename_i hc
     simp only[Bool.and_eq_true] at hc;split at ht
     ·rename_i t' htr
      simp only[zA.draw.injEq] at ht;subst ht;exact⟨id,ops,rfl,hc.1,hc.2,htr⟩
     ·cases ht
    ·cases ht
  ·rw[hb]; simp
 | seq a b=>simp[comp]; exact⟨_,_,⟨rfl,rfl⟩,rfl,rfl⟩
 | cond c a b=>simp[comp]; exact⟨_,_,⟨rfl,rfl⟩,rfl,rfl⟩
 | rangeFunc f ps a b=>simp[comp]; rintro g q x y rfl rfl rfl rfl; exact⟨_,_,⟨rfl,rfl,rfl,rfl⟩,rfl,rfl⟩
 | _=>simp[comp]
theorem zq(h:Q .normal E S):Y P r n .skip Q E S:=fun c hc=>by rw[(Ws hc).2.2.2.2.2.2.2.2.2.1 rfl]; exact CY h
theorem zV{id:Nat}(h:Q (.exit id) E S):Y P r n (.exit id) Q E S:=fun c hc=>by rw[(Ws hc).2.2.2.2.2.1 id rfl]; exact D6 h
theorem zL(h:Q .ret E S):Y P r n .ret Q E S:=fun c hc=>by rw[(Ws hc).2.2.2.2.2.2.2.2.1 rfl]; exact Lg h
theorem ze{a b:zA}(h:Y P r n a (VO (Y P r n b Q) Q) E S):Y P r n (.seq a b) Q E S:=by
 intro c hc;obtain⟨c1,c2,rfl,h1,h2⟩:=(Ws hc).1 a b rfl;refine Lf ((h c1 h1).mono ?_);intro e E S hq;cases e with
 | normal=>exact hq c2 h2
 | _=>exact hq
theorem zo{id:Nat}{a:zA}(h:Y P r n a (uJ id Q) E S):Y P r n (.block id a) Q E S:=by
 intro c hc;obtain⟨c1,rfl,h1⟩:=(Ws hc).2.2.1 id a rfl;exact Ai (h c1 h1)
theorem Q9{o:Operand}{a b:zA}{t:Bool}(ho:ev E o= .bool t)(h1:t=true→Y P r n a Q E S)(h2:t=false→Y P r n b Q E S):Y P r n (.cond o a b) Q E S:=by
 intro c hc;obtain⟨c1,c2,rfl,e1,e2⟩:=(Ws hc).2.1 o a b rfl;exact D8 ho (fun h=>h1 h c1 e1) (fun h=>h2 h c2 e2)
theorem zI{o:Operand}{a b:zA}(ho:ev E o= .bool true)(h:Y P r n a Q E S):Y P r n (.cond o a b) Q E S:=Q9 ho (fun _=>h) (fun h=>by cases h)
theorem zw{o:Operand}{a b:zA}(ho:ev E o= .bool false)(h:Y P r n b Q E S):Y P r n (.cond o a b) Q E S:=Q9 ho (fun h=>by cases h) (fun _=>h)
theorem zO{o:Operand}{a b:zA}{p:Prop}[Decidable p](ho:ev E o= .bool (decide p))(h1:p→Y P r n a Q E S)(h2:¬p→Y P r n b Q E S):Y P r n (.cond o a b) Q E S:=
 Q9 ho (fun h=>h1 (by simpa using h)) (fun h=>h2 (by simpa using h))
theorem wE{o:Operand}{a b:zA}{p:Prop}[Decidable p](ho:ev E o= .bool (!decide p))(h1:¬p→Y P r n a Q E S)(h2:p→Y P r n b Q E S):Y P r n (.cond o a b) Q E S:=
 Q9 ho (fun h=>h1 (by simpa using h)) (fun h=>h2 (by simpa using h))
theorem Z4{a:zA}{σ:Type}(I:σ→Env→zB→Prop)(μ:σ→Nat)(s₀:σ)(h₀:I s₀ E S)
 (hr:∀s E S,I s E S→Y P r n a (VO (fun E' S'=>∃s',I s' E' S'∧μ s'<μ s) Q) E S):Y P r n (.loop a) Q E S:=by
 intro c hc;obtain⟨c1,rfl,h1⟩:=(Ws hc).2.2.2.1 a rfl;exact D5 I μ s₀ h₀ fun s E S hI=>hr s E S hI c1 h1
theorem z8{l:List ZT}(h:YL P r n l (fun E S=>Q .normal E S) E S):Y P r n (.region l) Q E S:=by
 intro c hc;obtain⟨id,ops,rfl,h1⟩:=(Ws hc).2.2.2.2.2.2.2.2.2.2.1 l rfl;have:=ng (P:=P) (r:=r) (n:=n) (Q:=Q) (E:=E) (S:=S) (id:=id) (l:=ops.toList) (h ops.toList.toArray ops.toList (by simpa using h1));simpa using this
theorem xE{ops:Array Oper}{l':List Oper}{x:ZT}{l:List ZT}(h:V7 P n ops l'=some (x::l)):∃o l'',l'=o::l''∧vN P n ops o=some x∧V7 P n ops l''=some l:=by
 cases l' with
 | nil=>simp[V7] at h
 | cons o l''=>
  simp only[V7] at h;split at h
  ·rename_i y ys hy hys
   simp only[Option.some.injEq,List.cons.injEq] at h;obtain⟨rfl,rfl⟩:=h;exact⟨o,l'',rfl,hy,hys⟩
  ·cases h
theorem zf(h:K E S):YL P r n [] K E S:=by
 intro ops l' hl;cases l' with
 | nil=>exact Lh h
 | cons o l''=>
  simp only[V7] at hl;split at hl<;>simp at hl
theorem VI{ops:Array Oper}{o:Oper}{d:Option Tmp}{x:Wv}(h:vN P n ops o=some ⟨d,x,none⟩):o.guard=none∧o.dst=d∧cop P o.op o.type=x∧qK n d=true:=by
 unfold vN at h;split at h
 ·rename_i hd
  split at h
  ·rename_i hg
   simp only[Option.some.injEq,ZT.mk.injEq,and_true] at h;obtain⟨rfl,rfl⟩:=h;exact⟨hg,rfl,rfl,hd⟩
  ·split at h<;>simp at h
 ·cases h
theorem VH{ops:Array Oper}{o:Oper}{d:Option Tmp}{x:Wv}{t:Tmp}{b:Bool}(h:vN P n ops o=some ⟨d,x,some (t,b)⟩):
 ∃j,o.guard=some (j,b)∧(ops[j]?).bind (·.dst)=some t∧o.dst=d∧cop P o.op o.type=x∧qK n d=true:=by
 unfold vN at h;split at h
 ·rename_i hd
  split at h
  ·simp at h
  ·rename_i j b' hg
   split at h
   ·rename_i t' ht
    simp only[Option.some.injEq,ZT.mk.injEq,Prod.mk.injEq] at h;obtain⟨rfl,rfl,rfl,rfl⟩:=h;exact⟨j,hg,ht,rfl,rfl,hd⟩
   ·cases h
 ·cases h
theorem zh{d:Option Tmp}{x:Wv}{l:List ZT}(h:YO P r n d x (YL P r n l K) E S):YL P r n (⟨d,x,none⟩::l) K E S:=by
 intro ops l' hl;obtain⟨o,l'',rfl,h1,h2⟩:=xE hl;obtain⟨hg,rfl,rfl,hd⟩:=VI h1;refine D7 hg ?_;have:=h o.op o.type o.pos o.after o.guard rfl hd;intro D F a w hs;refine Oper.wpIn_mono (this D F a w hs) ?_ (fun _ _ _ hf=>hf);rintro a' w' ⟨hx,E',S',hs',hk⟩;exact⟨hx,E',S',hs',hk ops l'' h2⟩
theorem dD{d:Option Tmp}{x:Wv}{l:List ZT}{t:Tmp}{b:Bool}(h1:gB (E t)=some b→YO P r n d x (YL P r n l K) E S)(h2:gB (E t)≠some b→YL P r n l K (Zk d undef E) S):
 YL P r n (⟨d,x,some (t,b)⟩::l) K E S:=by
 intro ops l' hl;obtain⟨o,l'',rfl,e1,e2⟩:=xE hl;obtain⟨j,hg,ht,rfl,rfl,hd⟩:=VH e1;refine Ah hg ht hd ?_ (fun hc=>h2 hc ops l'' e2);intro hc D F a w hs;refine Oper.wpIn_mono (h1 hc o.op o.type o.pos o.after o.guard rfl hd D F a w hs) ?_ (fun _ _ _ hf=>hf);rintro a' w' ⟨hx,E',S',hs',hk⟩;exact⟨hx,E',S',hs',hk ops l'' e2⟩
theorem iO{v:Value}{b:Bool}(h:v= .bool (!b)):gB v≠some b:=by subst h; cases b<;>simp[gB]
theorem Z0{d:Option Tmp}{x:Wv}{l:List ZT}{t:Tmp}{b:Bool}(hv:E t= .bool b)(h:YO P r n d x (YL P r n l K) E S):YL P r n (⟨d,x,some (t,b)⟩::l) K E S:=
 dD (fun _=>h) (fun hc=>absurd (by rw[hv]; rfl) hc)
theorem Z5{d:Option Tmp}{x:Wv}{l:List ZT}{t:Tmp}{b:Bool}(hv:E t= .bool (!b))(h:YL P r n l K (Zk d undef E) S):YL P r n (⟨d,x,some (t,b)⟩::l) K E S:=
 dD (fun hc=>absurd hc (iO hv)) (fun _=>h)
/-! ### computing operations -/
theorem Zc{d:Option Tmp}{x:Wv}{v:Value}(hv:zu (ev E) x=some v)(h:K (Zk d v E) S):YO P r n d x K E S:=by
 intro op ty pos af g hc hd;subst hc;exact CZ v (fun w=>YG hv w) (Xk hv) hd h
/-- the same, its record and all -/
theorem yp{d:Option Tmp}{x:Wv}{v:Value}{l:List ZT}(hv:zu (ev E) x=some v)(h:YL P r n l K (Zk d v E) S):YL P r n (⟨d,x,none⟩::l) K E S:=zh (Zc hv h)
/-! ### a function's contract out of its body -/
/-- a function, as it is compiled -/
structure Z6(P:Program)(f:FuncId)(m:Nat)(rs:Array ResultVar)(x:zA):Prop where
 ex : ∃ fn, P.funcs[f]? = some fn ∧ fn.body.map (comp P m) = some x ∧ fn.ntmps = m ∧ fn.results = rs ∧ (fn.name == "runtime.NumGoroutine") = false
def Xo(P:Program)(rs:Array ResultVar)(E:Env)(S:zB)(v:Value):Prop:=
 ∀(fn:Func) (F:zB) (w:World) (tmps:Array Value),fn.results=rs→Sat (S++F) w→(fun i=>tmps.getD i undef)=E→(results fn tmps).run P w= .ok v w
def Ny(P:Program)(rs:Array ResultVar)(R:Value→zB→Prop):Exit→Env→zB→Prop
 | .normal,E,S=>∃v,Xo P rs E S v∧R v S
 | .ret,E,S=>∃v,Xo P rs E S v∧R v S
 | _,_,_=>False
theorem Zy.upd{l1 l2:List Chunk}{b:Nat}{o o':Obj}{w w':World}(h:Zy (l1++(b,o)::l2) w)(hb:w'.heap[b]?=some o')(hne:∀i,i≠b→w'.heap[i]?=w.heap[i]?):Zy (l1++(b,o')::l2) w':=by
 have hk:(l1++(b,o')::l2).map Prod.fst=(l1++(b,o)::l2).map Prod.fst:=by simp
 have hnd:=h.nodup;refine⟨by rw[hk]; exact hnd,?_⟩;intro x hx;have hne1:∀y,(y∈l1∨y∈l2)→y.1≠b:=by
  intro y hy hyb;simp only[List.map_append,List.map_cons,List.nodup_append,List.nodup_cons,List.mem_map,List.mem_cons] at hnd;rcases hy with hy | hy
  ·exact hnd.2.2 y.1 ⟨y,hy,rfl⟩ b (.inl rfl) hyb
  ·exact hnd.2.1.1 ⟨y,hy,hyb⟩
 rcases List.mem_append.1 hx with hx1 | hx1
 ·rw[hne _ (hne1 x (.inl hx1))]; exact h.at_ x (List.mem_append.2 (.inl hx1))
 ·rcases List.mem_cons.1 hx1 with rfl | hx2
  ·exact hb
  ·rw[hne _ (hne1 x (.inr hx2))]; exact h.at_ x (List.mem_append.2 (.inr (List.mem_cons_of_mem _ hx2)))
theorem Zy.l6{l1 l2:List Chunk}{b:Nat}{o:Obj}{w w':World}(h:Zy (l1++(b,o)::l2) w)(hne:∀i,i≠b→w'.heap[i]?=w.heap[i]?):Zy (l1++l2) w':=by
 have hnd:=h.nodup;refine⟨(h.sub (l':=l1++l2) (by simp)).nodup,?_⟩;intro x hx;have hxb:x.1≠b:=by
  intro hyb;simp only[List.map_append,List.map_cons,List.nodup_append,List.nodup_cons,List.mem_map,List.mem_cons] at hnd;rcases List.mem_append.1 hx with hy | hy
  ·exact hnd.2.2 x.1 ⟨x,hy,rfl⟩ b (.inl rfl) hyb
  ·exact hnd.2.1.1 ⟨x,hy,hyb⟩
 rw[hne _ hxb];exact h.at_ x (by rcases List.mem_append.1 hx with hy | hy<;>simp[hy])
theorem Vt(S F:zB)(c:List Chunk):(S++(c::F)).flatten=S.flatten++(c++F.flatten):=by simp
theorem xq{fn:Func}{R:Ending→World→Prop}{tmps:Array Value}{w0:World}:∀(D:List Nat) (S F:zB) (w:World),Sat (S++(WU D::F)) w→Ext w0 w→
 (∀w',Ext w0 w'→Sat (S++([]::F)) w'→∃v,(results fn tmps).run P w'= .ok v w'∧R (.returned v) w')→LeavesInM (Fk none) 0 P fn tmps R (qH D) .returning w
 | [],S,F,w,hs,hx,h=>h w hx hs
 | b::D,S,F,w,hs,hx,h=>by
  have hs':Zy (S.flatten++(b,Obj.deferred (some []))::(WU D++F.flatten)) w:=by
   have:=hs; unfold Sat at this; rw[Vt] at this; simpa[WU] using this
  have hb:=hs'.at_ (b,Obj.deferred (some [])) (by simp);simp only at hb;refine⟨(by simp),.inl ⟨b,w.putObj b (.deferred none),rfl,run_takeDeferred hb,?_⟩⟩;have hne:∀i,i≠b→(w.putObj b (.deferred none)).heap[i]?=w.heap[i]?:=fun i hi=>World.putObj_heap_other hi
  refine xq D S F _ ?_ ?_ h
  ·have:=hs'.l6 hne;unfold Sat;rw[Vt];exact this
  ·exact hx.trans ⟨rfl,rfl,rfl,by simp⟩
theorem q9(args:Array Value)(k:Nat):Vl {tmps:=args++Array.replicate k undef,defers:=[]}=Kv args.toList:=by
 funext i;simp only[Vl,Kv,Array.getD_eq_getD_getElem?,List.getD_eq_getElem?_getD];by_cases h:i<args.size
 ·rw[Array.getElem?_append_left h]; simp
 ·rw[Array.getElem?_append_right (by omega)];have:args.toList[i]?=none:=by simp; omega
  rw[this];by_cases h2:i-args.size<k<;>simp[h2]
/-- A CONTRACT FROM THE BODY. -/
theorem zn{f:FuncId}{args:Array Value}{R:Value→zB→Prop}{x:zA}{m:Nat}{rs:Array ResultVar}
 (hx:Z6 P f m rs x) (ha:args.size≤m) (h:Y P none m x (Ny P rs R) (Kv args.toList) S):Tri P f args S R:=by
 obtain⟨fn,hf,hb',hn,hrs,hname⟩:=hx.ex;cases hb:fn.body with
 | none=>rw[hb] at hb'; cases hb'
 | some body=>
 have hx:comp P m body=x:=by rw[hb] at hb'; simpa using hb'
 refine⟨⟨fn,hf,by rw[hb]; rfl,hname⟩,?_⟩;intro F w hs;rw[←UA (r:=none) (m:=0)];subst hn;refine callsIn_of_wp_marks hf hb trivial ?_ rfl;have hst:St fn.ntmps [] F (Kv args.toList) S {tmps:=args++Array.replicate (fn.ntmps-args.size) undef,defers:=[]} w:=
  ⟨by simp; omega,q9 _ _,rfl,by
   have:Zy (S++F).flatten w:=hs;show Zy (S++(WU []::F)).flatten w;rw[Vt]; simpa[WU] using this⟩
 refine Go.wpIn_mono (h body hx [] F _ w hst) ?_;rintro e a' w' ⟨hx',D',E',S',hs',hq⟩;have fin:∀v,Xo P rs E' S' v→R v S'→LeavesInM (Fk none) 0 P fn a'.tmps (fun e w'=>Ext w w'∧∃v S',e= .returned v∧Sat (S'++F) w'∧R v S') a'.defers .returning w':=by
  intro v hres hR;rw[hs'.defers];refine xq D' S' F w' hs'.sat hx' ?_;intro w2 hx2 hsat2;have hsat3:Sat (S'++F) w2:=by
   have:Zy (S'++([]::F)).flatten w2:=hsat2;rw[Vt] at this;show Zy (S'++F).flatten w2;simpa using this
  exact⟨v,hres fn F w2 a'.tmps hrs hsat3 hs'.env,hx2,v,S',rfl,hsat3,hR⟩
 cases e with
 | normal=>obtain⟨v,h1,h2⟩:=hq; exact fin v h1 h2
 | ret=>obtain⟨v,h1,h2⟩:=hq; exact fin v h1 h2
 | _=>exact hq.elim
/-! results -/
theorem ZG:Xo P #[] E S (.tuple #[]):=fun _fn _F w tmps h _ _=>results_none h tmps P w
theorem res1{t:Tmp}{v:Value}(hv:E t=v):Xo P #[.tmp t] E S v:=fun fn F w tmps h _ he=>by
 rw[results_tmp h, ←hv, ←he]
theorem res2{t u:Tmp}{v v':Value}(hv:E t=v)(hv':E u=v'):Xo P #[.tmp t,.tmp u] E S (.tuple #[v,v']):=fun fn F w tmps h _ he=>by
 rw[results_tmp2 h, ←hv, ←hv', ←he]
/-- the end of a function, in each way -/
theorem zK{R:Value→zB→Prop}{rs:Array ResultVar}{v:Value}(h1:Xo P rs E S v)(h2:R v S):Ny P rs R .ret E S:=⟨v,h1,h2⟩
theorem ZF{R:Value→zB→Prop}{rs:Array ResultVar}{v:Value}(h1:Xo P rs E S v)(h2:R v S):Ny P rs R .normal E S:=⟨v,h1,h2⟩
/-- short words of the printed code -/
instance instOfNatOperandXs(n:Nat):OfNat Operand n:=⟨.tmp n⟩
abbrev cI(n:Int):Operand:= .const (.int .i64 n)
abbrev cB(b:Bool):Operand:= .const (.bool b)
abbrev oS(d:Nat)(k:Wv):ZT:=⟨some d,k,none⟩
abbrev oN(k:Wv):ZT:=⟨none,k,none⟩
abbrev oG(d:Nat)(k:Wv)(g:Nat)(b:Bool):ZT:=⟨some d,k,some (g,b)⟩
abbrev oM(d:Nat)(x:Operand):ZT:=oS d (.mov x)
abbrev oB(d:Nat)(o:BinOp)(x y:Operand):ZT:=oS d (.bin o x y)
abbrev oC(d f:Nat)(l:List Operand):ZT:=oS d (.call (.func f) l)
abbrev oL(d:Nat)(x:Operand):ZT:=oS d (.load1 x)
abbrev oK(d k:Nat)(x:Operand):ZT:=oS d (.loadN k x)
abbrev oI(d:Nat)(x i:Operand)(k:Nat):ZT:=oS d (.iadr x i k)
abbrev oA(d:Nat)(x:Operand)(k:Nat):ZT:=oS d (.fadr x k)
abbrev oZ(d:Nat)(x:Operand):ZT:=oS d (.nilc x)
abbrev oX(d:Nat)(x:Operand)(k:Nat):ZT:=oS d (.ext x k)
abbrev gM(d:Nat)(x:Operand)(g:Nat)(b:Bool):ZT:=oG d (.mov x) g b
abbrev cR(l:List ZT)(k:zA):zA:= .seq (.region l) k
abbrev qS(d:Nat)(k:Wv)(t:Zx):Zx:= .q (oS d k) t
abbrev qM(d:Nat)(x:Operand)(t:Zx):Zx:= .q (oM d x) t
abbrev qL(d:Nat)(x:Operand)(t:Zx):Zx:= .q (oL d x) t
abbrev qA(d:Nat)(x:Operand)(k:Nat)(t:Zx):Zx:= .q (oA d x k) t
abbrev qI(d:Nat)(x i:Operand)(k:Nat)(t:Zx):Zx:= .q (oI d x i k) t
abbrev qZ(d:Nat)(x:Operand)(t:Zx):Zx:= .q (oZ d x) t
abbrev qB(d:Nat)(o:BinOp)(x y:Operand)(t:Zx):Zx:= .q (oB d o x y) t
abbrev qG(d:Nat)(k:Wv)(g:Nat)(b:Bool)(t:Zx):Zx:= .q (oG d k g b) t
abbrev qN(d:Nat)(x:Operand)(g:Nat)(b:Bool)(t:Zx):Zx:= .q (gM d x g b) t
theorem Zn {P : Program} {f : FuncId} {m : Nat} {rs : Array ResultVar} {x : zA} {fn : Func} (h : P.funcs[f]? = some fn) (k : (fn.body.map (comp P m), fn.ntmps, fn.results, fn.name == "runtime.NumGoroutine") = (some x, m, rs, false)) : Z6 P f m rs x :=
 ⟨fn,h,congrArg (·.1) k,congrArg (·.2.1) k,congrArg (·.2.2.1) k,congrArg (·.2.2.2) k⟩
end Go.Xs
