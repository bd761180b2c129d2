/- Keys of two cells, a string and a number: told apart, and as keys of maps. Whole objects: loads, stores. What slices.Grow does: append(.., make(..)...) onto nothing makes a row of zeros. -/
import Derived.Test.YtekgciopamkjlaaGreatB3
namespace Go.Xs
open Enc (enc)
open Key (kv)
structure Ky where
 n:List UInt8
 t:Int
theorem Ky.ext'{a b:Ky}(h1:a.n=b.n)(h2:a.t=b.t):a=b:=by cases a; cases b; simp_all
instance:DecidableEq Ky:=fun a b=>
 if h:a.n=b.n∧a.t=b.t then isTrue (Ky.ext' h.1 h.2) else isFalse fun e=>h ⟨congrArg (·.n) e,congrArg (·.t) e⟩
abbrev WS(k:Ky):Array Value:= #[.string ⟨k.n.toArray⟩,.int .i64 k.t]
instance:Enc Ky:=⟨fun k=>[.string ⟨k.n.toArray⟩,.int .i64 k.t],2,fun _=>rfl,fun _=>rfl⟩
theorem str_inj{a b:List UInt8}:(⟨a.toArray⟩:ByteArray)=⟨b.toArray⟩↔a=b:=
 ⟨fun e=>by have:=congrArg (fun x:ByteArray=>x.data.toList) e; simpa using this,fun e=>by rw[e]⟩
theorem Ky.iff{a b:Ky}:a=b↔a.n=b.n∧a.t=b.t:=⟨fun e=>by rw[e]; exact⟨rfl,rfl⟩,fun h=>Ky.ext' h.1 h.2⟩
theorem Qh(a b:Ky):jo (WS a) (WS b) [(0,1),(1,0)]=some (decide (a=b)):=by
 simp only[jo];simp only[List.getElem?_toArray,List.getElem?_cons_zero,List.getElem?_cons_succ,nu];simp[str_inj,Ky.iff]
theorem BG{E:Env}{x y:Operand}{a b:Ky}(h1:ev E x= .agg (WS a))(h2:ev E y= .agg (WS b)):zu (ev E) (.eqs false [(0,1),(1,0)] x y)=some (.bool (decide (a=b))):=by
 simp only[zu,h1,h2,Qh]
/-- a type of such keys -/
def sQ(P:Program)(t:TypeId):Bool:= !(P.stoodInHeld t) && match P.underlying t with
 | some (.struct ⟨[f, g]⟩) => decide (f.name ≠ "_") && decide (g.name ≠ "_") && decide (f.offset = 0) && decide (g.offset = 1) && (match P.underlying f.type with | some .string => true | _ => false) && (match P.underlying g.type with | some (.int .i64) => true | _ => false)
 | _=>false
theorem KE {P : Program} {t : TypeId} (h : sQ P t = true) : P.stoodInHeld t = false ∧ ∃ f g : Field, P.underlying t = some (.struct #[f, g]) ∧ f.name ≠ "_" ∧ g.name ≠ "_" ∧ f.offset = 0 ∧ g.offset = 1 ∧ P.underlying f.type = some .string ∧ P.underlying g.type = some (.int .i64) := by
 unfold sQ at h;rw[Bool.and_eq_true] at h;obtain⟨h1,h2⟩:=h;refine⟨by simpa using h1,?_⟩;split at h2
 ·rename_i f g hu
  simp only[Bool.and_eq_true,decide_eq_true_eq] at h2;obtain⟨⟨⟨⟨⟨h3,h4⟩,h5⟩,h6⟩,h7⟩,h8⟩:=h2;refine⟨f,g,hu,h3,h4,h5,h6,?_,?_⟩
  ·split at h7
   ·assumption
   ·cases h7
  ·split at h8
   ·assumption
   ·cases h8
 ·cases h2
theorem iX{P:Program}{t:TypeId}(h:sQ P t=true)(w:World)(a b:Ky):(Op.equal t (.agg (WS a)) (.agg (WS b))).run P w= .ok (decide (a=b)) w:=by
 obtain⟨h1,f,g,hu,hf,hg,hf0,hg1,hfs,hgi⟩:=KE h;have hfo:P.fieldsOf t= #[f,g]:=by simp[Program.fieldsOf,hu]
 have hff:wW P #[f,g].toList=some [(0,1),(1,0)]:=by simp[wW,hf,hg,hf0,hg1,hfs,hgi]
 unfold Op.equal;rw[vG,run_equalIn_struct w 9999 t (WS a) (WS b) (by rw[hfo]; exact hu) h1,hfo];exact KM 9998 _ _ _ _ _ hff (Qh a b) w
theorem lG{P:Program}{t:TypeId}(h:sQ P t=true)(w:World)(a:Ky)(e:Bool):(Instr.checkKey e 10000 t (.agg (WS a))).run P w= .ok () w:=by
 obtain⟨h1,f,g,hu,hf,hg,hf0,hg1,hfs,hgi⟩:=KE h;have e1:(part f.type (WS a) 0).run P w= .ok (.string ⟨a.n.toArray⟩) w:=U8 (uW hfs (by simp)) (by rfl) w;have e2:(part g.type (WS a) 1).run P w= .ok (.int .i64 a.t) w:=U8 (uW hgi (by simp)) (by rfl) w;have e3:(Instr.checkKey e 9999 f.type (.string ⟨a.n.toArray⟩)).run P w= .ok () w:=Go.MapKept.run_checkKey (d:= .string) (k:= .string ⟨a.n.toArray⟩) hfs trivial e 9998;have e4:(Instr.checkKey e 9999 g.type (.int .i64 a.t)).run P w= .ok () w:=Go.MapKept.run_checkKey (d:= .int .i64) hgi (by rfl) e 9998;show(Instr.checkKey e (9999+1) t (.agg (WS a))).run P w=_;unfold Instr.checkKey;simp only[Sem.run_bind,run_underlying hu,Result.andThen_ok];rw[←Array.forIn_toList];simp only[List.forIn_cons,List.forIn_nil,Sem.run_bind,hf,hg,hf0,hg1,ne_eq,not_false_eq_true,if_true,e1,e2,e3,e4,Result.andThen_ok,pure,Sem.run]
theorem aj{P:Program}{t:TypeId}(h:sQ P t=true)(w:World)(a:Ky):∀(l:List MapEntry) (i:Nat),(∀x∈l,∃b:Ky,x.key= .agg (WS b))→
 (Instr.findAsking t (.agg (WS a)) l i).run P w= .ok none w∧(∀x∈l,x.key≠ .agg (WS a))∨∃j e,(Instr.findAsking t (.agg (WS a)) l i).run P w= .ok (some (i+j,e.val)) w∧l[j]?=some e∧e.key= .agg (WS a)
 | [],i,_=> .inl ⟨by simp[Instr.findAsking,pure],by simp⟩
 | e::l,i,hl=>by
  obtain⟨b,hb⟩:=hl e (by simp);have he:=iX h w a b;by_cases hab:a=b
  ·rw[decide_eq_true hab] at he;refine .inr ⟨0,e,?_,rfl,by rw[hb,hab]⟩;simp only[Instr.findAsking,hb,Sem.run_bind,he,Result.andThen_ok,if_true,Nat.add_zero,pure,Sem.run]
  ·rw[decide_eq_false hab] at he;have hne:e.key≠ .agg (WS a):=fun q=>hab (by
    rw[hb] at q;simp only[Value.agg.injEq] at q;have h1:=congrArg (fun x:Array Value=>x[0]?) q;have h2:=congrArg (fun x:Array Value=>x[1]?) q;simp at h1 h2;exact Ky.ext' h1.symm h2.symm)
   rcases aj h w a l (i+1) fun x hx=>hl x (List.mem_cons_of_mem _ hx) with⟨h1,h2⟩ | ⟨j,e',h1,h2,h3⟩
   ·refine .inl ⟨?_,fun x hx=>?_⟩
    ·simp only[Instr.findAsking,hb,Sem.run_bind,he,Result.andThen_ok,Bool.false_eq_true,if_false,h1]
    ·rcases List.mem_cons.1 hx with rfl | hx
     ·exact hne
     ·exact h2 x hx
   ·refine .inr ⟨j+1,e',?_,h2,h3⟩;simp only[Instr.findAsking,hb,Sem.run_bind,he,Result.andThen_ok,Bool.false_eq_true,if_false,h1,Nat.add_assoc,Nat.add_comm 1 j]
theorem qy{P:Program}{t:TypeId}(h:sQ P t=true)(w:World)(x:Value)(es:List MapEntry):(Instr.findKey t x es).run P w=(Instr.findAsking t x es).run P w:=by
 obtain⟨h1,f,g,hu,_⟩:=KE h;cases es with
 | nil=>simp[Instr.findKey,run_underlying hu,Instr.findNow,Instr.findAsking]
 | cons e es=>simp[Instr.findKey,run_underlying hu,Instr.findNow,Instr.sameNow]
instance:Key Ky where
 kv a:= .agg (WS a)
 ok P t:=sQ P t=true
 inj a b q:=by
  simp only[Value.agg.injEq] at q;have h1:=congrArg (fun x:Array Value=>x[0]?) q;have h2:=congrArg (fun x:Array Value=>x[1]?) q;simp at h1 h2;exact Ky.ext' h1 h2
 bits a:=by simp[Instr.sameBits,Go.MapKept.bytes_beq]
 chk h w a e:=lG h w a e
 find h w a l hl:=by
  rw[qy h w];have:=aj h w a l 0 hl;simpa only[Nat.zero_add] using this
end Go.Xs
namespace Go.Xs
variable {P:Program} {r:Option Nat} {n:Nat} {K:Env→zB→Prop} {E:Env} {S R:zB} {d:Option Tmp}
theorem wC{b k:Nat}{a:Operand}{c:Array Value}{ty:TypeId}{fz:Nat × Nat}{f:Obj→zB}[hA:At S b (.cells c ty fz) f](ha:ev E a= .pointer (some ⟨b,0,none⟩))(hk:c.toList.length=k)(h:K (Zk d (.agg c) E) S):YO P r n d (.loadN k a) K E S:=
 wB (l:=c.toList) ha (by rw[List.drop_zero, ←hk,List.take_length]) hk (by rw[Array.toArray_toList]; exact h)
theorem vH{b k:Nat}{a:Operand}{c:Array Value}{ty:TypeId}{fz:Nat × Nat}{f:Obj→zB}{t:Zx}[hA:At R b (.cells c ty fz) f](ha:ev E a= .pointer (some ⟨b,0,none⟩))(hk:c.toList.length=k)(h:YT P r n R K t (Zk d (.agg c) E) S):YT P r n R K (.q ⟨d,.loadN k a,none⟩ t) E S:=
 VA (l:=c.toList) ha (by rw[List.drop_zero, ←hk,List.take_length]) hk (by rw[Array.toArray_toList]; exact h)
theorem wz{b k:Nat}{a v:Operand}{c c':Array Value}{ty:TypeId}{f:Obj→zB}[hA:At S b (.cells c ty) f](ha:ev E a= .pointer (some ⟨b,0,none⟩))(hv:ev E v= .agg c')(h1:c'.toList.length=k)(h2:c.toList.length=k)(hp:c'.toList.all vT=true)
 (h:K (Zk d undef E) (f (.cells c' ty))):YO P r n d (.store k a v) K E S:=by
 have hA':At S b (.cells c.toList.toArray ty) f:=by rw[Array.toArray_toList]; exact hA
 exact vQ (hA:=hA') (c':=c'.toList) ha (by rw[Array.toArray_toList]; exact hv) h1 h2 hp (by rw[Array.toArray_toList]; exact h)
theorem JO{t:Tmp}{b k:Nat}{ty ty':TypeId}{c:Array Value}{fz:Nat × Nat}{f:Obj→zB}(hagg:isAgg? P ty=some true)(hsz:sizeOf? P ty=some k)(hk:c.toList.length=k)(ha:E t= .pointer (some ⟨b,0,none⟩))[hA:At S b (.cells c ty' fz) f]:RV P (.cell t ty) E S (.agg c):=by
 have hA':At S b (.cells c.toList.toArray ty' fz) f:=by rw[Array.toArray_toList]; exact hA
 have:=IX (hA:=hA') (l:=c.toList) hagg hsz hk ha;rw[Array.toArray_toList] at this;exact this
theorem zG.pm{S S2:zB}(h:S.flatten.Perm S2.flatten):zG S S2:=⟨[],by rw[List.append_nil]; exact h⟩
end Go.Xs
namespace Go.Xs
open Enc (enc)
variable {P:Program} {r:Option Nat} {m:Nat} {K:Env→zB→Prop} {E:Env} {S:zB} {d:Option Tmp}
theorem iT(z:List Value)(a b:Nat):(List.replicate a z).flatten++(List.replicate b z).flatten=(List.replicate (a+b) z).flatten:=by
 rw[←List.flatten_append,List.replicate_append_replicate]
theorem j3{t u e:TypeId}{ty:TypeId}{k n b:Nat}{w:World}{z:List Value}(ht:P.underlying t=some (.slice e))(hu:P.underlying u=some (.int .i64))(hsz:sizeOf? P e=some k)
 (hzz:zero? P e=some z) (hbb:bytes? P e=some b) (hn:0<n) (hk:0<k) (hfit:n*b≤140737488355328) (hnn:n≤1099511627776):
 ∃(M:Nat) (w1:World),n≤M∧w1.heap=w.heap∧Ext w w1∧
  (Builtin.append_ #[t,u] ty #[.slice none 0 0,.int .i64 (n:Int)]).run P w= .ok (.slice (some ⟨w1.heap.size,0,none⟩) n M) {w1 with heap:=w1.heap.push (.cells ((List.replicate M z).flatten).toArray e)}:=by
 let q:Question:= .appendCap (0+n) 0 e
 let M:=q.cut (w.tape w.drawn q)
 let w1:World:={w with drawn:=w.drawn+1}
 obtain⟨ti,hti,htb⟩:=ug hbb w;obtain⟨ti1,hti1,htb1⟩:=ug hbb w1;obtain⟨zv,hzr,hzc⟩:=Vd hzz w1;have hw:IntKind.i64.wrap (n:Int)=n:=wrap_i64 (by omega);have hc0:¬((n:Int)<0):=by omega
 have hcb:¬((n:Int)*(ti.bytes:Int)>2 ^ 48):=by
  have e48:(2:Int) ^ 48=281474976710656:=by decide
  rw[htb,e48, ←Int.natCast_mul]; omega
 have hnx:Builtin.nextslicecap (0+n) 0=n:=by
  unfold Builtin.nextslicecap;rw[if_pos (by omega)]; omega
 have hc1:¬(((0+n:Nat):Int)>IntKind.i64.max∧(True∨ti.bytes=0)):=by
  intro h;have:=h.1;simp[IntKind.max,IntKind.signed,IntKind.bits] at this;omega
 have hc2:¬Builtin.nextslicecap (0+n) 0*ti.bytes>2 ^ 48:=by rw[htb,hnx]; omega
 have hch:(choose (.appendCap (0+n) 0 e)).run P w= .ok M w1:=rfl;have hroom:(askRoom (M*ti1.bytes)).run P w1= .ok () w1:=by
  unfold askRoom;split<;>rfl
 have hM:0+n≤M:=Nat.le_add_right _ _;have hold:(Builtin.firstCells k 0 (.slice none 0 0)).run P w1= .ok #[] w1:=by simp[Builtin.firstCells,pure]
 have hnk:¬n*k=0:=by intro h; rcases Nat.mul_eq_zero.1 h with h | h<;>omega
 have hcells: #[]++Builtin.zeroCells zv.cells n++Builtin.zeroCells zv.cells (M-(0+n))=((List.replicate M z).flatten).toArray:=by
  apply Array.ext';simp only[Array.toList_append,vY hzc,List.nil_append];rw[iT]; congr 2; omega
 refine⟨M,w1,by omega,rfl,⟨rfl,rfl,rfl,Nat.le_refl _⟩,?_⟩;simp only[Builtin.append_,List.getElem?_toArray,List.getElem?_cons_zero,List.getElem?_cons_succ];simp only[Sem.run_bind,run_underlying ht,Result.andThen_ok,run_sizeOf hsz,run_underlying hu,pure,Sem.run,if_true,asInt,asIntOf,hw];rw[if_neg hc0];simp only[Sem.run_bind,hti,Result.andThen_ok];rw[if_neg hcb];simp only[Sem.run_bind,Sem.run,Result.andThen_ok,Int.toNat_natCast];rw[if_neg (by omega:¬0+n≤0)];simp only[Sem.run_bind,hti,Result.andThen_ok];rw[if_neg hc1];simp only[Sem.run_bind,hti,Result.andThen_ok];rw[if_neg hc2];simp only[Sem.run_bind,hch,Result.andThen_ok,hti1,hroom,hold,Bool.not_true,Bool.false_eq_true,if_false];rw[if_neg hnk];simp only[Sem.run_bind,hzr,Result.andThen_ok,Sem.run,wF,Nat.zero_add];rw[Nat.zero_add] at hcells;rw[hcells]
theorem CW{t u e ty:TypeId}{k n b:Nat}{z:List Value}{s x:Operand}(ht:P.underlying t=some (.slice e))(hu:P.underlying u=some (.int .i64))(hsz:sizeOf? P e=some k)
 (hzz:zero? P e=some z) (hbb:bytes? P e=some b) (hs:ev E s= .slice none 0 0) (hx:ev E x= .int .i64 (n:Int)) (hn:0<n) (hk:0<k) (hfit:n*b≤140737488355328) (hnn:n≤1099511627776)
 (h:∀c M,n≤M→K (Zk d (.slice (some ⟨c,0,none⟩) n M) E) ([(c,.cells ((List.replicate M z).flatten).toArray e)]::S)):
 YO P r m d (.raw (.call {callee:= .builtin .append,args:= #[s,x],argTypes:= #[t,u]}) ty) K E S:=by
 intro op ty' pos af g hc hd;obtain⟨rfl,rfl⟩:=Zu hc;refine uj (by simp) hd fun F w hsat=>?_
 obtain⟨M,w1,hM,hw1,hx1,hrun⟩:=j3 (ty:=ty') (w:=w) ht hu hsz hzz hbb hn hk hfit hnn;refine⟨_,_,[(w1.heap.size,.cells ((List.replicate M z).flatten).toArray e)]::S,?_,hx1.trans (Ext.push w1 (.cells ((List.replicate M z).flatten).toArray e)),?_,h _ _ hM⟩
 ·refine ZR rfl ?_;have:(#[s,x]:Array Operand).map (ev E)= #[.slice none 0 0,.int .i64 (n:Int)]:=by simp[hs,hx]
  rw[this];simp[builtin,Sem.run_bind,hrun,Result.andThen,pure,Sem.run]
 ·have hs1:Sat (S++F) w1:=⟨Zy.nodup hsat,fun y hy=>by rw[hw1]; exact Zy.at_ hsat y hy⟩
  exact Sat.new _ hs1
end Go.Xs
