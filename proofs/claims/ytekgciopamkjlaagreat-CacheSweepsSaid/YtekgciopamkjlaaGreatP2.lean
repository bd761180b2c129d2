/- Sets in blocks (chapter 8): what may be, its names, its size. Sets in blocks (chapter 8): a set's names, its size. Sets in blocks (chapter 8): what a set would cost. Sets in blocks (chapter 8): a set's bytes. -/
import Derived.Test.YtekgciopamkjlaaGreatP1
import Derived.Test.YtekgciopamkjlaaGreatI1
namespace Go.Proofs.YtekgciopamkjlaaGreat
open Go.Xs
open Enc (enc)
theorem Gb(a b:Bs)(ha:a.length<2 ^ 62)(hb:b.length<2 ^ 62):Tri Tryz.prog 94 #[sv a,sv b] [] (fun r S=>r= .bool (UG a b)∧S=[]):=by
 refine Tri.forget (zq Tryz.RG (Nat.le_of_ble_eq_true rfl) ?_);unfold Tryz.TD UG;refine ze (z8 (yp pC (zf (za (ze (z8 (yp (pT rfl) ?_)))))));refine zh (zk (VG a ha) rfl rfl fun r S' h=>?_);obtain⟨rfl,rfl⟩:=h;cases wm a with
 | false=>
  refine yp (pB rfl) (zP rfl (zP rfl (yp (zD rfl rfl) (yp (pB rfl) (zP rfl (zP rfl (zP rfl (zP rfl (zP rfl (yp (zD rfl rfl) (yp (pB rfl) (zf (za (zJ ?_))))))))))))));exact zI (rB rfl) ⟨_,.of,rfl,rfl⟩
 | true=>
  refine yp (pB rfl) (zK rfl (zQ (pT rfl) (zK rfl ?_)));refine zk (VG b hb) rfl rfl fun r S' h=>?_
  obtain⟨rfl,rfl⟩:=h;cases wm b with
  | false=>
   refine yp (zw rfl rfl) (yp (pB rfl) (zP rfl (zP rfl (zP rfl (zP rfl (zP rfl (yp (zD rfl rfl) (yp (pB rfl) (zf (za (zJ ?_)))))))))));exact zI (rB rfl) ⟨_,.of,rfl,rfl⟩
  | true=>
   refine yp (zw rfl rfl) (yp (pB rfl) (zK rfl (zQ (pT rfl) (zK rfl ?_))));refine zk (bF a ha) rfl rfl fun r S' h=>?_
   obtain⟨rfl,rfl⟩:=h;refine zK rfl (zQ (pT rfl) (zK rfl ?_));refine zk (bF b hb) rfl rfl fun r S' h=>?_
   obtain⟨rfl,rfl⟩:=h;refine zK rfl (zQ (iP rfl rfl) (yp (zw rfl rfl) (yp (pB rfl) (zf (za (zJ ?_))))));exact zI (rB rfl) ⟨_,.of,by
    congr 1;by_cases h:a.map low=b.map low
    ·rw[decide_eq_true (Jc.2 h)]; simp[h]
    ·rw[decide_eq_false (fun h2=>h (Jc.1 h2))]; simp[h],rfl⟩
/-- how long a set's texts are -/
structure YF(s:St):Prop where
 name:s.name.length<2 ^ 40
 zone:s.zone.length<2 ^ 40
 rrs:s.rrs.length<2 ^ 20
 each:∀r∈s.rrs,r.n.length<2 ^ 40∧r.d.length<2 ^ 40
abbrev X7(s:St)(w:Value):Array Value:= #[sv s.name,.int .i64 s.typ,w,.int .i64 s.kind,sv s.zone]
abbrev kg(b:Nat)(s:St)(w:Value):List Chunk:=[(b,.cells (X7 s w) 46)]
abbrev BI(r:RR):Array Value:= #[sv r.n,.int .i64 r.t,.int .i64 r.c,.int .i64 r.ttl,sv r.d]
theorem FJ{bs:Nat}{s:St}{w:Value}(r:RR)(h1:s.name.length<2 ^ 40)(h2:r.n.length<2 ^ 40)(h3:r.d.length<2 ^ 40):Tri Tryz.prog 93 #[.agg (BI r),.pointer (some ⟨bs,0,none⟩)] [kg bs s w] (fun x S=>x= .bool (!vY s r)∧S=[kg bs s w]):=by
 refine Tri.forget (zq Tryz.RH (Nat.le_of_ble_eq_true rfl) ?_);unfold Tryz.x93 vY;refine ze (z8 ?_);refine zh (ZC rfl fun p2=>?_);refine yp pC (zf (za (ze (z8 (yp (zx rfl) ?_)))));refine zh (zy rfl rfl ?_);refine yp (zx rfl) (yp (zx rfl) ?_);refine zh (zy rfl rfl ?_);refine zh (zk (Gb r.n s.name (by omega) (by omega)) rfl rfl fun r' S' h=>?_);obtain⟨rfl,rfl⟩:=h;cases UG r.n s.name with
 | false=>
  refine yp (Za rfl) (yp (pB rfl) (zP rfl (zP rfl (zP rfl (zP rfl (zP rfl (zP rfl (yp (zw rfl rfl) (yp (pB rfl) (zP rfl (zP rfl (zP rfl (yp (zw rfl rfl) (yp (pB rfl) (zP rfl (zP rfl (zP rfl (zP rfl (zP rfl (zP rfl (yp (zw rfl rfl) (yp (pB rfl) (zf (za (zJ ?_)))))))))))))))))))))))));exact zI (rB rfl) ⟨_,.of,rfl,rfl⟩
 | true=>
  refine yp (Za rfl) (yp (pB rfl) (zK rfl (zQ (zx rfl) (zK rfl ?_))));refine(zy rfl rfl ?_);refine zK rfl (zQ (zx rfl) (zK rfl (zQ (zx rfl) (zK rfl ?_))));refine(zy rfl rfl ?_);refine zK rfl (zQ (WU rfl rfl) (yp (zD rfl rfl) (yp (pB rfl) ?_)));by_cases ht:r.t=s.typ
  ·rw[decide_eq_true ht];refine zK rfl (zQ (zx rfl) (zK rfl ?_));refine(zy rfl rfl ?_);refine zK rfl (zQ (WU rfl rfl) (yp (zD rfl rfl) (yp (pB rfl) ?_)));by_cases hc:r.c=1
   ·rw[decide_eq_true hc];refine zK rfl (zQ (zx rfl) (zK rfl ?_));refine(zy rfl rfl ?_);refine zK rfl (zQ (zx rfl) (zK rfl ?_));refine(zy rfl rfl ?_);refine zK rfl ?_;refine zk (bf r.t r.d h3) rfl rfl fun r' S' h=>?_
    obtain⟨rfl,rfl⟩:=h;refine zK rfl (zQ (Za rfl) (yp (zD rfl rfl) (yp (pB rfl) (zf (za (zJ ?_))))));exact zI (rB rfl) ⟨_,.of,by cases Zk r.t r.d<;>rfl,rfl⟩
   ·rw[decide_eq_false hc];refine zP rfl (zP rfl (zP rfl (zP rfl (zP rfl (zP rfl (yp (zw rfl rfl) (yp (pB rfl) (zf (za (zJ ?_))))))))));exact zI (rB rfl) ⟨_,.of,rfl,rfl⟩
  ·rw[decide_eq_false ht];refine zP rfl (zP rfl (zP rfl (yp (zw rfl rfl) (yp (pB rfl) (zP rfl (zP rfl (zP rfl (zP rfl (zP rfl (zP rfl (yp (zw rfl rfl) (yp (pB rfl) (zf (za (zJ ?_)))))))))))))));exact zI (rB rfl) ⟨_,.of,rfl,rfl⟩
theorem LG{S:zL}{bs:Nat}{s:St}{w v:Value}(hs:YF s)(hv:Src S v s.rrs):Tri Tryz.prog 141 #[v,.func (.func 93) #[] #[.pointer (some ⟨bs,0,none⟩)]] (kg bs s w::S)
 (fun x S'=>∃z,x= .int .i64 z∧decide (0≤z)= !(s.rrs.all (vY s))∧S'=kg bs s w::S):=by
 refine Tri.forget (zq Tryz.O1 (Nat.le_of_ble_eq_true rfl) ?_);unfold Tryz.Io;obtain⟨a,c,rfl⟩:=hv.isSlice;have hrr:=hs.rrs;refine ze (z8 (yp pC (zf (za (ze (ze (z8 (yp (pS rfl) (yp (Zp rfl) (yp pC (zf (za (zu ?_)))))))))))));refine Z7 (σ:=Nat) (fun i E S'=>Has E [(0,.slice a s.rrs.length c),(1,.func (.func 93) #[] #[.pointer (some ⟨bs,0,none⟩)]),(7,.int .i64 (s.rrs.length:Int)),(8,.int .i64 (i:Int))]∧(i≤s.rrs.length∧∀r∈s.rrs.take i,vY s r=true)∧zG S' (kg bs s w::S)) (fun i=>s.rrs.length-i) 0
  ⟨⟨rfl,rfl,rfl,rfl,trivial⟩,⟨Nat.zero_le _,fun r h=>by simp at h⟩,.of⟩ fun i E S' ⟨hE,⟨hi,hall⟩,hJ⟩=>?_
 obtain⟨E0,e0⟩:=zm hE; subst e0; clear hE;refine zn hJ (ze (z8 (yp (ZE rfl rfl) (zf (za (ze ?_))))));refine zR rfl (fun h=>?_) (fun h=>?_)
 ·have hlt:i<s.rrs.length:=by omega
  obtain⟨b,o,ca,ty,fz,rfl,_,hmem,_,hg⟩:=hv.get (by intro h; simp[h] at hlt);have hge:=hg i hlt;have hr:=List.getElem_mem hlt;have hts:s.rrs.take (i+1)=s.rrs.take i++[s.rrs[i]]:=List.take_succ_eq_append_getElem hlt;generalize s.rrs[i]=r at hge hr hts;obtain⟨hn,hd⟩:=hs.each r hr;refine zl (za (ze (zu (ze (z8 (yp (pI rfl) (yp (pI rfl) (zf (za (ze (z8 (yp (pF rfl) (yp (pS rfl) (yp (pI rfl) (yp (zT rfl rfl (by omega)) ?_)))))))))))))));refine zh (xg (S:=kg bs s w::S) (l:=enc r) (List.mem_cons_of_mem _ hmem) rfl hge rfl ?_)
  skip
  refine zh (zk (FJ (s:=s) (w:=w) r hs.name hn hd) rfl rfl fun r' S' h=>?_);obtain⟨rfl,rfl⟩:=h;cases hok:vY s r with
  | false=>
   refine zf (za (zC rfl (ze (z8 (yp (pI rfl) (yp (pI rfl) (zf (za (zJ (bret (zV (zV (bret (zV ?_))))))))))))));refine zI (rI rfl) ⟨_,.of,_,rfl,?_,rfl⟩;rw[decide_eq_true (by omega)];cases ha:s.rrs.all (vY s) with
   | false=>rfl
   | true=>have:=List.all_eq_true.1 ha r hr; rw[hok] at this; cases this
  | true=>
   refine zf (za (zo rfl (zl (zW (za (z8 (yp (Z8 rfl rfl (by omega)) (yp (pI rfl) (zf (za ?_))))))))));refine⟨i+1,⟨⟨rfl,rfl,rfl,rfl,trivial⟩,⟨by omega,fun x hx=>?_⟩,.of⟩,by omega⟩;rw[hts] at hx;rcases List.mem_append.1 hx with hx | hx
   ·exact hall x hx
   ·rw[List.mem_singleton.1 hx]; exact hok
 ·refine zZ (zA (zA (Z0 (za (ze (z8 (yp pC (zf (za (zJ ?_))))))))));refine zI (rI rfl) ⟨_,.of,_,rfl,?_,rfl⟩;have:s.rrs.all (vY s)=true:=List.all_eq_true.2 fun r hr=>hall r (by rw[List.take_of_length_le (by omega)]; exact hr)
  rw[this]; rfl
theorem LJ{S:zL}{bs:Nat}{s:St}{w v:Value}(hs:YF s)(hv:Src S v s.rrs):Tri Tryz.prog 92 #[v,.func (.func 93) #[] #[.pointer (some ⟨bs,0,none⟩)]] (kg bs s w::S)
 (fun x S'=>x= .bool (!(s.rrs.all (vY s)))∧S'=kg bs s w::S):=by
 refine Tri.forget (zq Tryz.RI (Nat.le_of_ble_eq_true rfl) ?_);unfold Tryz.TF;obtain⟨a,c,rfl⟩:=hv.isSlice;refine ze (z8 (yp pC (zf (za (ze (z8 (yp (pS rfl) (yp (pF rfl) ?_))))))));refine zh (zk (LG (bs:=bs) (w:=w) hs hv) rfl rfl fun r' S' h=>?_);obtain⟨z,rfl,hz,rfl⟩:=h;refine yp (Ux rfl rfl) (yp (pB rfl) (zf (za (zJ ?_))));exact zI (rB rfl) ⟨_,.of,by rw[hz],rfl⟩
theorem LD{S:zL}{s:St}{v:Value}(hs:YF s)(hv:Src S v s.rrs):Tri Tryz.prog 50 #[.agg (X7 s v)] S (fun x S'=>x= .bool (Wh s)∧S'=S):=by
 refine Tri.forget (zq Tryz.SF (Nat.le_of_ble_eq_true rfl) ?_);unfold Tryz.x50 Wh;have hno:∀{x:Value} {b:Bool} {S':zL},b=false→x= .bool false→zG S' S→∃S'',zG S' S''∧x= .bool b∧S''=S:=fun h1 h2 h3=>⟨S,h3,by rw[h1,h2],rfl⟩
 refine ze (z8 ?_);refine zh (ZC rfl fun p1=>?_);refine yp pC (zf (za (ze (ze (z8 (yp (zx rfl) (yp (zx rfl) ?_)))))));refine zh (zy rfl rfl ?_);refine zh (zk (VG s.name (by have:=hs.name; omega)) rfl rfl fun r' S' h=>?_);obtain⟨rfl,rfl⟩:=h;cases wm s.name with
 | false=>
  refine yp (Za rfl) (yp (pB rfl) (zP rfl (zP rfl (zP rfl (zP rfl (yp (zw rfl rfl) (yp (pB rfl) (zP rfl (zP rfl (zP rfl (zP rfl (yp (zw rfl rfl) (yp (pB rfl) (zP rfl (zP rfl (zP rfl (zP rfl (yp (zw rfl rfl) (yp (pB rfl) (zP rfl (zP rfl (zP rfl (yp (zw rfl rfl) (yp (pB rfl) (zP rfl (zP rfl (zP rfl (yp (zw rfl rfl) (zf (za (zC rfl (ze (z8 (yp pC (zf (za (zJ (zV ?_))))))))))))))))))))))))))))))))))))));exact zI (rB rfl) (hno rfl rfl .of)
 | true=>
 refine yp (Za rfl) (yp (pB rfl) (zK rfl (zQ (zx rfl) (zK rfl ?_))));refine(zy rfl rfl ?_);refine zK rfl ?_;refine zk (VG s.zone (by have:=hs.zone; omega)) rfl rfl fun r' S' h=>?_
 obtain⟨rfl,rfl⟩:=h;cases wm s.zone with
 | false=>
  refine zK rfl (zQ (Za rfl) (yp (zD rfl rfl) (yp (pB rfl) (zP rfl (zP rfl (zP rfl (zP rfl (yp (zw rfl rfl) (yp (pB rfl) (zP rfl (zP rfl (zP rfl (zP rfl (yp (zw rfl rfl) (yp (pB rfl) (zP rfl (zP rfl (zP rfl (yp (zw rfl rfl) (yp (pB rfl) (zP rfl (zP rfl (zP rfl (yp (zw rfl rfl) (zf (za (zC rfl (ze (z8 (yp pC (zf (za (zJ (zV ?_))))))))))))))))))))))))))))))))));exact zI (rB rfl) (hno rfl rfl .of)
 | true=>
 refine zK rfl (zQ (Za rfl) (yp (zD rfl rfl) (yp (pB rfl) (zK rfl (zQ (zx rfl) (zK rfl (zQ (zx rfl) (zK rfl ?_))))))));refine(zy rfl rfl ?_);refine zK rfl (zQ (ZE rfl rfl) (yp (zD rfl rfl) (yp (pB rfl) ?_)));by_cases h1:s.typ<1
 ·rw[decide_eq_true h1];refine zP rfl (zP rfl (zP rfl (zP rfl (yp (zw rfl rfl) (yp (pB rfl) (zP rfl (zP rfl (zP rfl (yp (zw rfl rfl) (yp (pB rfl) (zP rfl (zP rfl (zP rfl (yp (zw rfl rfl) (zf (za (zC rfl (ze (z8 (yp pC (zf (za (zJ (zV ?_))))))))))))))))))))))));exact zI (rB rfl) (hno (by rw[decide_eq_false (by omega)]; simp) rfl .of)
 rw[decide_eq_false h1];refine zK rfl (zQ (zx rfl) (zK rfl (zQ (zx rfl) (zK rfl ?_))));refine(zy rfl rfl ?_);refine zK rfl (zQ (WS rfl rfl) (yp (zD rfl rfl) (yp (pB rfl) ?_)));by_cases h2:65535<s.typ
 ·rw[decide_eq_true h2];refine zP rfl (zP rfl (zP rfl (yp (zw rfl rfl) (yp (pB rfl) (zP rfl (zP rfl (zP rfl (yp (zw rfl rfl) (zf (za (zC rfl (ze (z8 (yp pC (zf (za (zJ (zV ?_))))))))))))))))));exact zI (rB rfl) (hno (by rw[decide_eq_false (by omega)]; simp) rfl .of)
 rw[decide_eq_false h2];refine zK rfl (zQ (zx rfl) (zK rfl ?_));refine(zy rfl rfl ?_);refine zK rfl (zQ (ZE rfl rfl) (yp (zD rfl rfl) (yp (pB rfl) ?_)));by_cases h3:s.kind<0
 ·rw[decide_eq_true h3];refine zP rfl (zP rfl (zP rfl (yp (zw rfl rfl) (zf (za (zC rfl (ze (z8 (yp pC (zf (za (zJ (zV ?_)))))))))))));exact zI (rB rfl) (hno (by rw[decide_eq_false (show ¬(1≤s.typ∧s.typ≤65535∧0≤s.kind∧s.kind≤2) from by omega)]; simp) rfl .of)
 rw[decide_eq_false h3];refine zK rfl (zQ (zx rfl) (zK rfl ?_));refine(zy rfl rfl ?_);refine zK rfl (zQ (WS rfl rfl) (yp (zD rfl rfl) (zf (za ?_))));by_cases h4:2<s.kind
 ·rw[decide_eq_true h4];refine zC rfl (ze (z8 (yp pC (zf (za (zJ (zV ?_)))))));exact zI (rB rfl) (hno (by rw[decide_eq_false (show ¬(1≤s.typ∧s.typ≤65535∧0≤s.kind∧s.kind≤2) from by omega)]; simp) rfl .of)
 rw[decide_eq_false h4,decide_eq_true (show 1≤s.typ∧s.typ≤65535∧0≤s.kind∧s.kind≤2 from by omega)];obtain⟨a,c,rfl⟩:=hv.isSlice;refine zo rfl (zl (za (ze (ze (z8 (yp (zx rfl) ?_))))));refine zh (zy rfl rfl ?_);refine yp (Zp rfl) (yp (WS rfl rfl) (yp (pB rfl) ?_));by_cases h5:32<(s.rrs.length:Int)
 ·rw[decide_eq_true h5];refine zP rfl (zP rfl (zP rfl (zP rfl (zP rfl (zP rfl (zP rfl (zP rfl (yp (zw rfl rfl) (zf (za (zC rfl (ze (z8 (yp pC (zf (za (zJ (zV ?_))))))))))))))))));exact zI (rB rfl) (hno (by rw[decide_eq_false (show ¬s.rrs.length≤32 from by omega)]; simp) rfl .of)
 rw[decide_eq_false h5,decide_eq_true (show s.rrs.length≤32 from by omega)];refine zK rfl (zQ (zx rfl) (zK rfl ?_));refine(zy rfl rfl ?_);refine zK rfl (zQ (Zp rfl) (zK rfl (zQ (WS rfl rfl) (zK rfl (zQ (zx rfl) (zK rfl ?_))))));refine(zy rfl rfl ?_);refine zK rfl (zQ (wB rfl rfl) (zK rfl (zQ (Y6 rfl rfl) (yp (zD rfl rfl) (zf (za ?_))))));rw[show decide (0<(s.rrs.length:Int))=decide (0<s.rrs.length) from decide_eq_decide.2 (by omega)];cases h6:(decide (0<s.rrs.length)==decide (s.kind=0)) with
 | false=>
  refine zC rfl (ze (z8 (yp pC (zf (za (zJ (zV ?_)))))));exact zI (rB rfl) (hno rfl rfl .of)
 | true=>
 refine zo rfl (zl (za (ze (z8 (yp (zx rfl) ?_)))));refine zh (zy rfl rfl ?_);refine yp (pV (qE rfl)) ?_;refine zh (zk (LJ (w:= .slice a s.rrs.length c) hs hv) rfl rfl fun r' S' h=>?_);obtain⟨rfl,rfl⟩:=h;refine yp (Za rfl) (yp (pB rfl) (zf (za (zJ ?_))));exact zI (rB rfl) ⟨_,.of,by cases s.rrs.all (vY s)<;>rfl,rfl⟩
def bss(l:List Bs):List ByteArray:=l.map fun Y=>⟨Y.toArray⟩
theorem Ur(l:List Bs):(bss l).length=l.length:=by unfold bss; simp
theorem cO(l m:List Bs):bss (l++m)=bss l++bss m:=by unfold bss; simp
theorem XE:∀(l:List RR),((l.map ZF).flatten).length≤2*l.length
 | []=>Nat.le_refl _
 | r::l=>by
  have h:=XE l;have h2:(ZF r).length≤2:=by
   unfold ZF prt;rw[List.length_map];split
   ·cases hp:xX r.t r.d with
    | none=>simp
    | some x=>exact Jp hp
   ·simp
  rw[List.map_cons,List.flatten_cons,List.length_append,List.length_cons]; omega
/-- the names of the first i records, and of the next one's first k -/
theorem kI{l:List RR}{i:Nat}(h:i<l.length):((l.take (i+1)).map ZF).flatten=((l.take i).map ZF).flatten++ZF l[i]:=by
 rw[List.take_succ_eq_append_getElem h,List.map_append,List.flatten_append]; simp
theorem eO{S:zL}{s:St}{v:Value}(hs:YF s)(hv:Src S v s.rrs):Tri Tryz.prog 54 #[.agg (X7 s v)] S (fun x S'=>∃H,Zg 9 x (bss (Ze s)) H∧S'=H::S):=by
 refine Tri.forget (zq Tryz.SA (Nat.le_of_ble_eq_true rfl) ?_);unfold Tryz.x54;obtain⟨a,c,rfl⟩:=hv.isSlice;have hrr:=hs.rrs;refine ze (z8 ?_);refine zh (ZC rfl fun p1=>?_);refine yp pC (zf (za (ze (z8 (yp (zx rfl) (yp (zx rfl) ?_))))));refine zh (zy rfl rfl ?_);refine yp (zx rfl) ?_;refine zh (zy rfl rfl ?_);refine zh (mJ (l:=[sv s.name,sv s.zone]) rfl (by decide) (by decide) (by decide) rfl fun p13=>?_);refine zh (Z5 fun p3=>?_);refine zh (ZU rfl rfl (YZ rfl) ?_);refine zf (za (ze (ze (z8 (yp (zx rfl) ?_)))));refine zh (zy rfl rfl ?_);refine yp (Zp rfl) (yp pC (zf (za (zu ?_))));have h0:Zg 9 (.slice (some ⟨p13,0,none⟩) 2 2) (bss (s.name::s.zone::((s.rrs.take 0).map ZF).flatten)) [(p13,.cells [sv s.name,sv s.zone].toArray 9)]:=Zg.full (L:=bss [s.name,s.zone]) rfl;refine Z7 (σ:=Nat) (fun i E S'=>∃vo Ho,Has E [(3,.pointer (some ⟨p3,0,none⟩)),(15,.slice a s.rrs.length c),(16,.int .i64 (s.rrs.length:Int)),(17,.int .i64 (i:Int))]∧i≤s.rrs.length∧Zg 9 vo (bss (s.name::s.zone::((s.rrs.take i).map ZF).flatten)) Ho∧zG S' (Ho::[(p3,.cells #[vo] 87)]::S)) (fun i=>s.rrs.length-i) 0
  ⟨_,_,⟨rfl,rfl,rfl,rfl,trivial⟩,Nat.zero_le _,h0,.of⟩ fun i E S' ⟨vo,Ho,hE,hi,hL,hJ⟩=>?_
 obtain⟨E0,e0⟩:=zm hE; subst e0; clear hE;refine zn hJ ?_;obtain⟨la,lc,rfl⟩:=hL.isSlice;refine ze (z8 (yp (ZE rfl rfl) (zf (za (ze ?_)))));refine zR rfl (fun h=>?_) (fun h=>?_)
 ·have hlt:i<s.rrs.length:=by omega
  obtain⟨b,o,ca,ty,fz,rfl,_,hmem,_,hg⟩:=hv.get (by intro h; simp[h] at hlt);have hge:=hg i hlt;have hr:=List.getElem_mem hlt;have hts:=kI hlt;have hnl:=XE (s.rrs.take i);have hil:(s.rrs.take i).length=i:=by rw[List.length_take]; omega
  generalize s.rrs[i]=r at hge hr hts;obtain⟨hn,hd⟩:=hs.each r hr;refine zl (za (ze (zu (ze (z8 (yp (zT rfl rfl (by omega)) ?_))))));refine zh (xg (S:=Ho::[(p3,.cells #[.slice la (bss (s.name::s.zone::((s.rrs.take i).map ZF).flatten)).length lc] 87)]::S) (l:=enc r) (List.mem_cons_of_mem _ (List.mem_cons_of_mem _ hmem)) rfl hge rfl ?_);refine zh (Z5 fun p5=>?_);refine zh (Vx (c':=[sv r.n,.int .i64 r.t,.int .i64 r.c,.int .i64 r.ttl,sv r.d]) rfl rfl rfl rfl rfl ?_);refine zf (za (ze (z8 (yp (zx rfl) ?_))));refine zh (zy rfl rfl ?_);refine yp (zx rfl) ?_;refine zh (zy rfl rfl ?_);refine zh (zk (Jm r.t r.d) rfl rfl fun r' S' h=>?_);obtain⟨bt,bd,rfl,rfl⟩:=h;refine zf (za (zu ?_));refine jT (t:=r.t) (d:=r.d) (S:=[(p5,.cells (BI r) 89)]::Ho::[(p3,.cells #[.slice la (bss (s.name::s.zone::((s.rrs.take i).map ZF).flatten)).length lc] 87)]::S)
   (fun k T=>∃vo Ho,Zg 9 vo (bss (s.name::s.zone::((s.rrs.take i).map ZF).flatten++(ZF r).take k)) Ho∧zG T ([(p5,.cells (BI r) 89)]::Ho::[(p3,.cells #[vo] 87)]::S)) rfl rfl hd ⟨_,Ho,by rw[List.take_zero,List.append_nil]; exact hL,.self⟩ ?_ ?_
  ·rintro l k x T hx ⟨vo,Ho,hL,hJ⟩;obtain⟨hv1,hv2,hv3⟩:=Ym (List.mem_of_getElem? hx);obtain⟨la2,lc2,rfl⟩:=hL.isSlice;have hkl:=(List.getElem?_eq_some_iff.1 hx).1;have htk:(ZF r).take (k+1)=(ZF r).take k++[UO r.d x]:=by
    unfold ZF;rw[←List.map_take, ←List.map_take,List.take_add_one,hx]; simp
   have hlen:(bss (s.name::s.zone::((s.rrs.take i).map ZF).flatten++(ZF r).take k)).length≤2 ^ 22+2:=by
    have h1:=XE (s.rrs.take (i+1));rw[hts,List.length_append,List.length_take] at h1;rw[Ur,List.cons_append,List.cons_append,List.length_cons,List.length_cons,List.length_append,List.length_take];omega
   refine zn hJ (ze (z8 (yp (pI rfl) (zf (za (z8 (yp (pI rfl) (zf (za (zu (Z6 (Zb rfl rfl (zi (zx rfl) (Zb rfl rfl (zi (pI rfl) (zi (pI rfl) (zi (pI rfl) (zi (Zj rfl rfl (by omega)) (zi (pG (Y:=r.d) (j:=x.at_) (k:=x.at_+x.n) rfl rfl rfl ⟨by omega,hv3⟩) ?_)))))))))))))))))));rw[show x.at_+x.n-x.at_=x.n from by omega];refine Zd (wJ (⟨(UO r.d x).toArray⟩:ByteArray) rfl rfl (by decide) (by decide) rfl fun p36=>⟨fun _ hs=>List.mem_cons_of_mem _ hs,?_⟩) zN;refine zO (V6 (Y:=[(⟨(UO r.d x).toArray⟩:ByteArray)]) rfl rfl hL (.lit (by repeat (first | exact List.mem_cons_self | apply List.mem_cons_of_mem)) rfl) rfl (⟨#[]⟩:ByteArray) rfl (by rw[List.length_singleton]; omega) (by rw[List.length_singleton]; omega) fun v2 H2 hL2=>?_) zN;obtain⟨la3,lc3,rfl⟩:=hL2.isSlice;refine zO (ZU rfl rfl (YZ rfl) ?_) zN;refine zH (zW ?_);exact⟨.slice la3 (bss (s.name::s.zone::((s.rrs.take i).map ZF).flatten++(ZF r).take k)++[(⟨(UO r.d x).toArray⟩:ByteArray)]).length lc3,H2,by rw[htk, ←List.append_assoc,cO _ [UO r.d x]]; exact hL2,.of⟩
  ·rintro T ⟨vo,Ho,hL,hJ⟩;have hkt:(ZF r).take (prt r.t r.d).length=ZF r:=List.take_of_length_le (by unfold ZF; rw[List.length_map]; exact Nat.le_refl _);rw[hkt,List.cons_append,List.cons_append, ←hts] at hL;refine zW (zW (za ?_));refine zn hJ (z8 (yp (Z8 rfl rfl (by omega)) (yp (pI rfl) (zf (za ?_)))));exact⟨i+1,⟨vo,Ho,⟨rfl,rfl,rfl,rfl,trivial⟩,by omega,hL,.of⟩,by omega⟩
 ·refine zZ (zA (zA (Z0 (za (ze (z8 ?_))))));refine zh (zy rfl rfl ?_);refine yp (pS rfl) (zf (za (zJ ?_)));have hni:s.rrs.take i=s.rrs:=List.take_of_length_le (by omega);have hfin:bss (Ze s)=bss (s.name::s.zone::((s.rrs.take i).map ZF).flatten):=by unfold Ze; rw[hni]
  exact zI (rS rfl) ⟨_,.of,Ho,by rw[hfin]; exact hL,rfl⟩
theorem iH{l:List Int}{i:Nat}(h:i<l.length):WA (l.take (i+1))=WA (l.take i)+l[i]:=by
 rw[List.take_succ_eq_append_getElem h,yT];show _+(l[i]+0)=_; omega
theorem eu{t:Int}{d:Bs}(k:Nat): -(255*(k:Int))≤WA (((prt t d).take k).map fun p=>4-(p.n:Int))∧WA (((prt t d).take k).map fun p=>4-(p.n:Int))≤4*(k:Int):=by
 have key:∀(l:List Pl) (k:Nat),(∀p∈l,p.n≤255)→ -(255*(k:Int))≤WA ((l.take k).map fun p=>4-(p.n:Int))∧WA ((l.take k).map fun p=>4-(p.n:Int))≤4*(k:Int):=by
  intro l
  induction l with
  | nil=>intro k _; rw[List.take_nil]; show-(255*(k:Int))≤0∧(0:Int)≤4*(k:Int); omega
  | cons p l ih=>
   intro k h;cases k with
   | zero=>show-(255*((0:Nat):Int))≤0∧(0:Int)≤4*((0:Nat):Int); omega
   | succ k=>
    have:=ih k fun q hq=>h q (List.mem_cons_of_mem _ hq)
    have h1:=h p (by simp);rw[List.take_succ_cons,List.map_cons,VR]
    push_cast
    omega
 refine key _ k fun p hp=>?_
 obtain⟨h1,h2,_⟩:=Ym hp;have:=Wt h1;omega
theorem eD(t:Int)(d:Bs):(prt t d).length≤2:=by
 unfold prt;split
 ·cases hp:xX t d with
  | none=>simp
  | some x=>exact Jp hp
 ·simp
theorem nX{s:St}(hm:Wh s=true)(i:Nat):0≤WA ((s.rrs.map vF).take i)∧WA ((s.rrs.map vF).take i)≤1100*(i:Int):=by
 have key:∀(l:List RR) (i:Nat),(∀r∈l,Zk r.t r.d=true)→0≤WA ((l.map vF).take i)∧WA ((l.map vF).take i)≤1100*(i:Int):=by
  intro l
  induction l with
  | nil=>intro i _; rw[List.map_nil,List.take_nil]; show(0:Int)≤0∧(0:Int)≤1100*(i:Int); omega
  | cons r l ih=>
   intro i h;cases i with
   | zero=>show(0:Int)≤0∧(0:Int)≤1100*((0:Nat):Int); omega
   | succ i=>
    have:=ih i fun q hq=>h q (List.mem_cons_of_mem _ hq)
    have h1:=h r (by simp);have h2:=Br h1;have h3:=WH h1;have h4:=(eu (t:=r.t) (d:=r.d) (prt r.t r.d).length).2;have h5:=eD r.t r.d;rw[List.take_length] at h4;have h6:vF r≤1100:=by unfold vF; omega
    rw[List.map_cons,List.take_succ_cons,VR]
    push_cast
    omega
 exact key _ i fun r hr=>(vL hm r hr).1
set_option maxRecDepth 10000 in
theorem Js{S:zL}{s:St}{v:Value}(hs:YF s)(hv:Src S v s.rrs):Tri Tryz.prog 15 #[.agg (X7 s v)] S (fun x S'=>x= .tuple #[.int .i64 (yw s),.int .i64 (w9 s)]∧S'=S):=by
 refine Tri.forget (zq Tryz.Tk (Nat.le_of_ble_eq_true rfl) ?_);unfold Tryz.x15;obtain⟨a,c,rfl⟩:=hv.isSlice;have hrr:=hs.rrs;refine ze (z8 ?_);refine zh (ZC rfl fun p1=>?_);refine yp pC (yp pC (zf (za (ze (ze (z8 ?_))))));refine zh (wH (l:=[sv s.name,.int .i64 s.typ,.slice a s.rrs.length c,.int .i64 s.kind,sv s.zone]) rfl rfl rfl ?_);refine zh (zk (LD hs hv) rfl rfl fun r' S' h=>?_);obtain⟨rfl,hSS⟩:=h;have hSS:=hSS.symm;subst hSS;cases hm:Wh s with
 | false=>
  have hE:w9 s=1:=by unfold w9; rw[if_pos hm]
  have hZ:yw s=0:=by unfold yw; rw[hE,if_neg (by decide)]
  refine yp (Za rfl) (zf (za (zC rfl (ze (z8 (yp pC (yp pC (zf (za (zJ (zV ?_)))))))))));exact zI (Kz rfl rfl) ⟨_,.of,by rw[hE,hZ],rfl⟩
 | true=>
 have hE0:w9 s=if 4096<Zx s then 3 else 0:=by unfold w9; rw[if_neg (by rw[hm]; decide)]
 have hbd:=nX hm;have hlen32:=(U4 hm).2.2.2.2.2.2.1;refine yp (Za rfl) (zf (za (zo rfl (zl (za (ze (z8 ?_)))))));refine zh (Z5 fun p4=>?_);refine zh (ZU rfl rfl (vH rfl) ?_);refine zf (za (ze (ze (z8 (yp (zx rfl) ?_)))));refine zh (zy rfl rfl ?_);refine yp (Zp rfl) (yp pC (zf (za (zu ?_))));refine Z7 (σ:=Nat) (fun i E S'=>Has E [(4,.pointer (some ⟨p4,0,none⟩)),(13,.slice a s.rrs.length c),(14,.int .i64 (s.rrs.length:Int)),(15,.int .i64 (i:Int))]∧i≤s.rrs.length∧zG S' ([(p4,.cells #[.int .i64 (16+WA ((s.rrs.map vF).take i))] 3)]::S)) (fun i=>s.rrs.length-i) 0
  ⟨⟨rfl,rfl,rfl,rfl,trivial⟩,Nat.zero_le _,by rw[show(16:Int)+WA ((s.rrs.map vF).take 0)=16 from rfl]; exact .of⟩ fun i E S' ⟨hE,hi,hJ⟩=>?_
 obtain⟨E0,e0⟩:=zm hE; subst e0; clear hE;refine zn hJ ?_;have hbi:=hbd i;refine ze (z8 (yp (ZE rfl rfl) (zf (za (ze ?_)))));refine zR rfl (fun h=>?_) (fun h=>?_)
 ·have hlt:i<s.rrs.length:=by omega
  obtain⟨b,o,ca,ty,fz,rfl,_,hmem,_,hg⟩:=hv.get (by intro h; simp[h] at hlt);have hge:=hg i hlt;have hr:=List.getElem_mem hlt;have hts:=iH (l:=s.rrs.map vF) (i:=i) (by rw[List.length_map]; exact hlt);rw[List.getElem_map] at hts;generalize s.rrs[i]=r at hge hr hts;obtain⟨hn,hd⟩:=hs.each r hr;have hd1000:=WH (vL hm r hr).1;generalize WA ((s.rrs.map vF).take i)=A at hts hbi;refine zl (za (ze (zu (ze (z8 (yp (zT rfl rfl (by omega)) ?_))))));refine zh (xg (S:=[(p4,.cells #[.int .i64 (16+A)] 3)]::S) (l:=enc r) (List.mem_cons_of_mem _ hmem) rfl hge rfl ?_);refine zh (Z5 fun p6=>?_);refine zh (Vx (c':=[sv r.n,.int .i64 r.t,.int .i64 r.c,.int .i64 r.ttl,sv r.d]) rfl rfl rfl rfl rfl ?_);refine zf (za (ze (z8 ?_)));refine zh (zy rfl rfl ?_);refine yp (zx rfl) ?_;refine zh (zy rfl rfl ?_);refine yp (Wm rfl) ?_;rw[Xt];refine yp (vJ rfl rfl (by omega)) (yp (vJ rfl rfl (by omega)) ?_);refine zh (ZU rfl rfl (vH rfl) ?_);refine zf (za (ze (z8 (yp (zx rfl) ?_))));refine zh (zy rfl rfl ?_);refine yp (zx rfl) ?_;refine zh (zy rfl rfl ?_);refine zh (zk (Jm r.t r.d) rfl rfl fun r' S' h=>?_);obtain⟨bt,bd,rfl,rfl⟩:=h;refine zf (za (zu ?_));refine jT (t:=r.t) (d:=r.d) (S:=[(p4,.cells #[.int .i64 (16+A+(2+(r.d.length:Int)))] 3)]::S)
   (fun k T=>zG T ([(p4,.cells #[.int .i64 (16+A+(2+(r.d.length:Int))+WA (((prt r.t r.d).take k).map fun p=>4-(p.n:Int)))] 3)]::S)) rfl rfl hd ?_ ?_ ?_
  ·rw[List.take_zero,List.map_nil,show WA []=0 from rfl,Int.add_zero]; exact .self
  ·rintro l k x T hx hJ;have hk2:=eu (t:=r.t) (d:=r.d) k;obtain⟨hv1,hv2,hv3⟩:=Ym (List.mem_of_getElem? hx);have h255:=Wt hv1;have hkl:=(List.getElem?_eq_some_iff.1 hx).1;have hpl:=eD r.t r.d;have hst:WA (((prt r.t r.d).take (k+1)).map fun p=>4-(p.n:Int))=WA (((prt r.t r.d).take k).map fun p=>4-(p.n:Int))+(4-(x.n:Int)):=by
    rw[List.take_add_one,hx,List.map_append,yT];show _+((4-(x.n:Int))+0)=_; omega
   show Y _ _ _ _ (uY (fun E1 S1=>Y _ _ _ _ (Jk (fun _ S'=>zG S' _) _ _) E1 S1) _) _ _;rw[hst];generalize WA (((prt r.t r.d).take k).map fun p=>4-(p.n:Int))=B at hJ hk2;refine zn hJ (z8 (yp (pI rfl) (zf (za (zu (z8 ?_))))));refine zh (zy rfl rfl ?_);refine yp (pI rfl) (yp (Zy rfl rfl (by omega)) (yp (vJ rfl rfl (by omega)) ?_));refine zh (ZU rfl rfl (vH rfl) ?_);refine zf (zW ?_);rw[show 16+A+(2+(r.d.length:Int))+(B+(4-(x.n:Int)))=16+A+(2+(r.d.length:Int))+B+(4-(x.n:Int)) from by omega];exact .of
  ·rintro T hJ;rw[List.take_length] at hJ;have hsz:16+A+(2+(r.d.length:Int))+WA ((prt r.t r.d).map fun p=>4-(p.n:Int))=16+WA ((s.rrs.map vF).take (i+1)):=by rw[hts]; unfold vF; omega
   rw[hsz] at hJ;refine zW (zW (za ?_));refine zn hJ (z8 (yp (Z8 rfl rfl (by omega)) (yp (pI rfl) (zf (za ?_)))));exact⟨i+1,⟨⟨rfl,rfl,rfl,rfl,trivial⟩,by omega,.of⟩,by omega⟩
 ·have hni:(s.rrs.map vF).take i=s.rrs.map vF:=List.take_of_length_le (by rw[List.length_map]; omega);have hsz:16+WA ((s.rrs.map vF).take i)=Zx s:=by rw[hni]; rfl
  rw[hsz];refine zZ (zA (zA (Z0 (za (ze (ze (z8 ?_)))))));refine zh (zy rfl rfl ?_);refine yp (WS rfl rfl) (zf (za ?_));by_cases h4:4096<Zx s
  ·rw[if_pos h4] at hE0;have hZ:yw s=0:=by unfold yw; rw[hE0,if_neg (by decide)]
   rw[decide_eq_true h4];refine zC rfl (ze (z8 (yp pC (yp pC (zf (za (zJ (zV ?_))))))));exact zI (Kz rfl rfl) ⟨_,.of,by rw[hE0,hZ],rfl⟩
  ·rw[if_neg h4] at hE0;have hZ:yw s=Zx s:=by unfold yw; rw[hE0,if_pos rfl]
   rw[decide_eq_false h4];refine zo rfl (zl (za (ze (z8 ?_))));refine zh (zy rfl rfl ?_);refine yp (pI rfl) (yp pC (zf (za (zJ ?_))));exact zI (Kz rfl rfl) ⟨_,.of,by rw[hE0,hZ],rfl⟩
theorem nE:Tryz.prog.underlying 107=some (.map 9 4):=by kernel_rfl
def bI(l:List Bs):ByteArray→Option Bool:=fun s=>if s.data.toList∈l then some true else none
theorem rJ:(fun _:ByteArray=>(none:Option Bool))=bI []:=by funext s; simp[bI]
theorem iT(l:List Bs)(n:Bs):Wy (bI l) (⟨n.toArray⟩:ByteArray) (some true)=bI (n::l):=by
 funext s;unfold Wy bI;by_cases h:s=⟨n.toArray⟩
 ·rw[if_pos h,if_pos (by rw[h]; simp)]
 ·rw[if_neg h];have:s.data.toList∈n::l↔s.data.toList∈l:=by
   rw[List.mem_cons];exact⟨fun h2=>h2.resolve_left fun e=>h ((Kj s n).2 e),.inr⟩
  simp only[this]
def UQ(L:List Nm)(s:St):Int:=if w9 s=0 then cost (Zx s)+(Wo L [] (Ze s):Nat) else 0
theorem QJ(k:Nat):Z4 k≤8192:=by
 unfold Z4
 (repeat' split)<;>omega
theorem QK(L:List Nm):∀(l s:List Bs),Wo L s l≤8192*l.length
 | [],_=>Nat.le_refl _
 | n::l,s=>by
  have h1:=QK L l (zM n::s);have h2:=QJ (8+n.length);unfold Wo;rw[List.length_cons];split<;>omega
theorem U1(s:St):(Ze s).length≤2+2*s.rrs.length:=by
 have:=XE s.rrs;unfold Ze;rw[List.length_cons,List.length_cons]; omega
set_option maxRecDepth 10000 in
theorem FL{S:zL}{s:St}{v:Value}{tb ab:Nat}{L:List Nm}{T:List Chunk}(hT:Tb tb ab L T)(hs:YF s)(hv:Src S v s.rrs):Tri Tryz.prog 17 #[.pointer (some ⟨tb,0,none⟩),.agg (X7 s v)] (T::S) (fun x S'=>x= .int .i64 (UQ L s)∧S'=T::S):=by
 refine Tri.forget (zq Tryz.Tj (Nat.le_of_ble_eq_true rfl) ?_);unfold Tryz.x17;obtain⟨a,c,rfl⟩:=hv.isSlice;refine ze (z8 ?_);refine zh (ZC rfl fun p3=>?_);refine yp pC (zf (za (ze (z8 ?_))));refine zh (wH (l:=[sv s.name,.int .i64 s.typ,.slice a s.rrs.length c,.int .i64 s.kind,sv s.zone]) rfl rfl rfl ?_);refine zh (zk (Js hs hv) rfl rfl fun r' S' h=>?_);obtain⟨rfl,hSS⟩:=h;have hSS:=hSS.symm;subst hSS;refine yp (pU rfl) (yp (pExt rfl rfl) (yp (pExt rfl rfl) (yp (pI rfl) (yp (pI rfl) (zf (za (ze (ze (z8 (yp (pI rfl) (yp (WU rfl rfl) (zf (za ?_)))))))))))));by_cases hE:w9 s=0
 case neg=>
  have hC:UQ L s=0:=by unfold UQ; rw[if_neg hE]
  rw[decide_eq_false hE];refine zC rfl (ze (z8 (yp pC (zf (za (zJ (zV ?_)))))));exact zI (rI rfl) ⟨_,.of,by rw[hC],rfl⟩
 have hm:Wh s=true:=by
  cases hm:Wh s with
  | true=>rfl
  | false=>unfold w9 at hE; rw[if_pos hm] at hE; cases hE
 have hZ:yw s=Zx s:=by unfold yw; rw[if_pos hE]
 have hC:UQ L s=cost (Zx s)+(Wo L [] (Ze s):Nat):=by unfold UQ; rw[if_pos hE]
 rw[decide_eq_true hE,hZ];refine zo rfl (zl (za (ze (z8 (yp (pI rfl) ?_)))));refine zh (zk (yO (Zx s)) rfl rfl fun r' S' h=>?_);obtain⟨rfl,rfl⟩:=h;refine yp (pI rfl) (zf (za (ze (z8 ?_))));refine zh (jU ByteArray Bool fun mb HM hM=>?_);rw[rJ] at hM;refine yp (pM rfl) (zf (za (ze (ze (z8 ?_)))));refine zh (wH (l:=[sv s.name,.int .i64 s.typ,.slice a s.rrs.length c,.int .i64 s.kind,sv s.zone]) rfl rfl rfl ?_);refine zh (zk (eO hs hv) rfl rfl fun r' S' h=>?_);obtain⟨HN,hN,hSS⟩:=h;subst hSS;obtain⟨na,nc,rfl⟩:=hN.isSlice;rw[Ur] at hN ⊢;have hnl:=U1 s;have hrr:=hs.rrs;have hcb:0≤cost (Zx s)∧cost (Zx s)≤8192:=by
  have:=QJ (Zx s).toNat;unfold cost;split<;>omega
 refine yp (Zp rfl) (yp pC (zf (za (zu ?_))));refine Z7 (σ:=Nat) (fun i E S'=>∃(seen:List Bs) (acc m:Nat) (HM:List Chunk),Has E [(0,.pointer (some ⟨tb,0,none⟩)),(7,.int .i64 (cost (Zx s)+(acc:Nat))),(8,.map (some mb)),(22,.slice na (Ze s).length nc),(23,.int .i64 ((Ze s).length:Int)),(24,.int .i64 (i:Int))]∧i≤(Ze s).length∧acc+Wo L seen ((Ze s).drop i)=Wo L [] (Ze s)∧Mp mb (bI seen) m HM∧zG S' (HM::T::HN::S)) (fun i=>(Ze s).length-i) 0
  ⟨[],0,0,HM,⟨rfl,by show Value.int _ _=_; congr 1; omega,rfl,rfl,rfl,rfl,trivial⟩,Nat.zero_le _,by rw[List.drop_zero,Nat.zero_add],hM,.of⟩ fun i E S' ⟨seen,acc,m,HM,hE2,hi,hacc,hM,hJ⟩=>?_
 have htot:=QK L (Ze s) [];obtain⟨E0,e0⟩:=zm hE2; subst e0; clear hE2;refine zn hJ (ze (z8 (yp (ZE rfl rfl) (zf (za (ze ?_))))));refine zR rfl (fun h=>?_) (fun h=>?_)
 ·have hlt:i<(Ze s).length:=by omega
  have hdr:(Ze s).drop i=(Ze s)[i]::(Ze s).drop (i+1):=List.drop_eq_getElem_cons hlt;have hvl:=kJ hm _ (List.getElem_mem hlt);obtain⟨b,sp,fz,hz,rfl,_,hc',rfl⟩:=hN.at' (by intro h; rw[←List.length_eq_zero_iff,Ur] at h; omega);have hld:((cells (bss (Ze s)++sp)).toArray.toList)[0+i*1+0]?=some (sv (Ze s)[i]):=(wZ (kk:=1) (j:=0) (by rw[Ur]; exact hlt) rfl (by omega)).trans (by unfold bss; rw[List.getElem_map]; rfl);generalize (Ze s)[i]=n at hdr hvl hld;have h255:=Wt hvl;rw[hdr,Wo] at hacc;refine zl (za (ze (zu (ze (z8 (yp (zT rfl rfl (by omega)) ?_))))));refine zh (zy (v:=sv n) rfl hld ?_);refine yp (pT rfl) (zf (za (ze (z8 (yp (pT rfl) ?_)))));refine zh (zk (JA n (by omega)) rfl rfl fun r' S' h=>?_);obtain⟨rfl,rfl⟩:=h;refine yp (pT rfl) (zf (za (ze (z8 (yp (pM rfl) (yp (pT rfl) ?_))))));refine zh (uM (v:= .bool (decide (zM n∈seen))) hM (by simp) (⟨(zM n).toArray⟩:ByteArray) nE yu Yd rfl rfl ?_ ?_)
  ·unfold bI;by_cases h:zM n∈seen
   ·rw[if_pos h,decide_eq_true h]; rfl
   ·rw[if_neg h,decide_eq_false h]; rfl
  by_cases hin:zM n∈seen
  ·rw[decide_eq_true hin];rw[if_pos (.inl hin)] at hacc;refine yp (Za rfl) (zf (za (zo rfl (zl (zW (za (z8 (yp (Z8 rfl rfl (by omega)) (yp (pI rfl) (zf (za ?_)))))))))));have hcg:=UR (L:=L) (l:=(Ze s).drop (i+1)) (s:=zM n::seen) (s':=seen) fun m=>by
    rw[List.mem_cons];exact⟨fun h=>by rcases h with rfl | h<;>assumption,.inr⟩
   exact⟨i+1,⟨seen,acc,m,HM,⟨rfl,rfl,rfl,rfl,rfl,rfl,trivial⟩,by omega,by rw[hcg] at hacc; omega,hM,.of⟩,by omega⟩
  ·rw[decide_eq_false hin];refine yp (Za rfl) (zf (za (zC rfl (ze (z8 (yp (pM rfl) (yp (pT rfl) ?_)))))));refine zh (D7 hM (⟨(zM n).toArray⟩:ByteArray) true nE yu rfl rfl rfl fun HM2 hM2=>?_);rw[iT] at hM2;refine zf (za (z8 (yp (pI rfl) (yp (pP rfl) (yp (pT rfl) ?_)))));refine zh (zk (ES hT (zM n) (by rw[Wp]; omega)) rfl rfl fun r' S' h=>?_);obtain⟨rfl,rfl⟩:=h;rw[yH,uX,hvl,Wp];have hcc:cost (8+(n.length:Int))=(Z4 (8+n.length):Nat):=by
    unfold cost; rw[if_neg (by omega)]; congr 1
   have hval:(if(uq L (zM n)).isSome=true∨true=false then(0:Int) else cost (8+(n.length:Int)))=((if zM n∈seen∨(uq L (zM n)).isSome=true then 0 else Z4 (8+n.length):Nat):Int):=by
    by_cases hb:(uq L (zM n)).isSome=true
    ·rw[if_pos (.inl hb),if_pos (.inr hb)]; rfl
    ·rw[if_neg (by simp[hb]),if_neg (by simp[hb,hin]),hcc]
   rw[hval];generalize (if zM n∈seen∨(uq L (zM n)).isSome=true then 0 else Z4 (8+n.length):Nat)=q at hacc;refine yp (vJ rfl rfl (by omega)) (yp (pI rfl) (zf (zW (za (z8 (yp (Z8 rfl rfl (by omega)) (yp (pI rfl) (zf (za ?_)))))))));exact⟨i+1,⟨zM n::seen,acc+q,_,HM2,⟨rfl,by show Value.int _ _=_; congr 1; omega,rfl,rfl,rfl,rfl,trivial⟩,by omega,by omega,hM2,.of⟩,by omega⟩
 ·have hd0:(Ze s).drop i=[]:=List.drop_eq_nil_of_le (by omega);rw[hd0,Wo] at hacc;refine zZ (zA (zA (Z0 (za (ze (z8 (yp (pI rfl) (yp (pI rfl) (zf (za (zJ ?_)))))))))));exact zI (rI rfl) ⟨_,.of,by rw[hC, ←hacc]; rfl,rfl⟩
theorem G5{E:Env}{x:Operand}{j:Nat}(h:ev E x= .int .i64 (j:Int)):zB (ev E) (.conv .u8 x)=some (.int .u8 ((UInt8.ofNat (j%256)).toNat:Int)):=by
 simp only[zB,h,YS];have:(UInt8.ofNat (j%256)).toNat=j%256%256:=by simp
 rw[this];congr 2;omega
theorem LU{E:Env}{x:Operand}{j:Nat}(h:ev E x= .int .i64 (j:Int)):zB (ev E) (.bin .shr x (.const (.int .u64 8)))=some (.int .i64 ((j/256:Nat):Int)):=by
 have h2:(j:Int).fdiv 256=((j/256:Nat):Int):=by rw[Int.fdiv_eq_ediv_of_nonneg _ (by decide)]; omega
 rw[←h2];simp only[zB,h];rfl
theorem rT(k n:Nat):xO (k+1) n=UInt8.ofNat (n%256)::xO k (n/256):=rfl
theorem LC{v:Value}{L:Bs}{H:List Chunk}(hL:Zg 5 v L H)(hLl:L.length<2 ^ 40)(n size:Nat)(hs:size≤8):Tri Tryz.prog 111 #[v,.int .i64 (n:Int),.int .i64 (size:Int)] [H] (fun x S=>∃H',Zg 5 x (L++xO size n) H'∧S=[H']):=by
 refine Tri.forget (zq Tryz.Oy (Nat.le_of_ble_eq_true rfl) ?_);unfold Tryz.IY;refine ze (z8 (yp pC (zf (za (ze (ze (z8 (yp (pI rfl) (yp pC (zf (za (zu ?_))))))))))));refine Z7 (σ:=Nat) (fun i E S=>∃(v:Value) (L':Bs) (H':List Chunk) (m:Nat),Has E [(1,.int .i64 (m:Int)),(7,.int .i64 (size:Int)),(8,.int .i64 (i:Int))]∧E 0=v∧Zg 5 v L' H'∧i≤size∧m≤n∧L'.length≤L.length+i∧L'++xO (size-i) m=L++xO size n∧zG S [H']) (fun i=>size-i) 0
  ⟨v,L,H,n,⟨rfl,rfl,rfl,trivial⟩,rfl,hL,Nat.zero_le _,Nat.le_refl _,Nat.le_refl _,rfl,.of⟩ fun i E S ⟨v',L',H',m,hE,hE0,hL',hi,hm,hll,heq,hJ⟩=>?_
 obtain⟨la,lc,rfl⟩:=hL'.isSlice;have hE2:Has E [(0,.slice la L'.length lc),(1,.int .i64 (m:Int)),(7,.int .i64 (size:Int)),(8,.int .i64 (i:Int))]:=⟨hE0,hE⟩
 clear hE hE0;obtain⟨E0,e0⟩:=zm hE2; subst e0; clear hE2;refine zn hJ (ze (z8 (yp (ZE rfl rfl) (zf (za (ze ?_))))));refine zR rfl (fun h=>?_) (fun h=>?_)
 ·obtain⟨j,hj⟩:∃j,size-i=j+1:=⟨size-i-1,by omega⟩
  rw[hj,rT] at heq;refine zl (za (ze (zu (ze (z8 (yp (pS rfl) (yp (pI rfl) (yp (G5 rfl) ?_))))))));generalize UInt8.ofNat (m%256)=b at heq;refine zh (wJ b rfl rfl (by decide) (by decide) rfl fun p13=>?_);refine zh (V6 (Y:=[b]) rfl rfl hL' (.lit (by repeat (first | exact List.mem_cons_self | apply List.mem_cons_of_mem)) rfl) rfl (0:UInt8) rfl (by rw[List.length_singleton]; omega) (by rw[List.length_singleton]; omega) fun v2 H2 hL2=>?_);obtain⟨la2,lc2,rfl⟩:=hL2.isSlice;refine yp (pS rfl) (zf (za (z8 (yp (pI rfl) (yp (LU rfl) (yp (pI rfl) (zf (zW (za (z8 (yp (Z8 rfl rfl (by omega)) (yp (pI rfl) (zf (za ?_))))))))))))));refine⟨i+1,⟨.slice la2 (L'++[b]).length lc2,L'++[b],H2,m/256,⟨rfl,rfl,rfl,trivial⟩,rfl,hL2,by omega,by omega,by rw[List.length_append,List.length_singleton]; omega,?_,.of⟩,by omega⟩;rw[show size-(i+1)=j from by omega,List.append_assoc]; exact heq
 ·rw[show size-i=0 from by omega] at heq;have heq2:L'=L++xO size n:=by rw[←heq]; show L'=L'++[]; rw[List.append_nil]
  refine zZ (zA (zA (Z0 (za (ze (z8 (yp (pS rfl) (yp (pS rfl) (zf (za (zJ ?_)))))))))));exact zI (rS rfl) ⟨_,.of,H',by rw[←heq2]; exact hL',rfl⟩
theorem Xa{v:Value}{L:Bs}{H:List Chunk}(hL:Zg 5 v L H)(hLl:L.length<2 ^ 40)(n:Int)(size:Nat)(hn:0≤n)(hs:size≤8):Tri Tryz.prog 111 #[v,.int .i64 n,.int .i64 (size:Int)] [H] (fun x S=>∃H',Zg 5 x (L++xO size n.toNat) H'∧S=[H']):=by
 have:=LC hL hLl n.toNat size hs
 rwa [show((n.toNat:Nat):Int)=n from by omega] at this
/-- an element of a list that is read -/
theorem j3{α:Type}[Enc α]{S:zL}{a:Option Addr}{c:Nat}{L:List α}(h:Src S (.slice a L.length c) L){i:Nat}(hi:i<L.length):∃(b o:Nat) (ca:Array Value) (ty:TypeId) (fz:Nat × Nat),a=some ⟨b,o,none⟩∧[(b,Obj.cells ca ty fz)]∈S∧(ca.toList.drop (o+i*Enc.k α)).take (Enc.k α)=enc L[i]∧∀j,j<Enc.k α→ca.toList[o+i*Enc.k α+j]?=(enc L[i])[j]?:=by
 obtain⟨b,o,ca,ty,fz,rfl,_,hmem,h1,h2⟩:=h.get (by intro h; simp[h] at hi);exact⟨b,o,ca,ty,fz,rfl,hmem,h2 i hi,fun j hj=>h1 i j hi hj⟩
set_option maxRecDepth 10000 in
theorem BM{S:zL}{s:St}{v iv:Value}{ids:List Int}(hs:YF s)(hv:Src S v s.rrs)(hi:Src S iv ids)(hE:w9 s=0)(hlen:ids.length=(Ze s).length)(hnn:∀i∈ids,0≤i):
 Tri Tryz.prog 65 #[.agg (X7 s v),iv] S (fun x S'=>∃H,Zg 5 x (vB s ids) H∧S'=H::S):=by
 refine Tri.forget (zq Tryz.Sj (Nat.le_of_ble_eq_true rfl) ?_);unfold Tryz.TU;obtain⟨a,c,rfl⟩:=hv.isSlice;obtain⟨ia,ic,rfl⟩:=hi.isSlice;have hrr:=hs.rrs;have hl2:2≤ids.length:=by rw[hlen]; unfold Ze; simp
 have hidb:ids.length≤2 ^ 22:=by
  have:=U1 s;omega
 obtain⟨b0,o0,ca0,ty0,fz0,rfl,hm0,_,hg0⟩:=j3 hi (i:=0) (by omega);obtain⟨b1,o1,ca1,ty1,fz1,hb1,hm1,_,hg1⟩:=j3 hi (i:=1) (by omega);have hg0:=hg0 0 (by decide);have hg1:=hg1 0 (by decide);have hn0:=hnn ids[0] (List.getElem_mem _);have hn1:=hnn ids[1] (List.getElem_mem _);have hi0:ids.getD 0 0=ids[0]:=by rw[List.getD_eq_getElem?_getD,List.getElem?_eq_getElem (by omega)]; rfl
 have hi1:ids.getD 1 0=ids[1]:=by rw[List.getD_eq_getElem?_getD,List.getElem?_eq_getElem (by omega)]; rfl
 have hld0:ca0.toList[o0+0*1+0]?=some (.int .i64 ids[0]):=hg0;have hld1:ca1.toList[o1+1*1+0]?=some (.int .i64 ids[1]):=hg1;have hm:Wh s=true:=by
  cases hm:Wh s with
  | true=>rfl
  | false=>unfold w9 at hE; rw[if_pos hm] at hE; cases hE
 have hnum:=U4 hm;have hhead:vB s ids=[]++xO 4 ids[0].toNat++xO 2 s.typ.toNat++xO 2 s.kind.toNat++xO 4 ids[1].toNat++xO 4 1585123525++X8 s.rrs (ids.drop 2):=by
  unfold vB xP;rw[hi0,hi1]; rfl
 generalize ids[0]=z0 at hld0 hn0 hhead;generalize ids[1]=z1 at hld1 hn1 hhead;refine ze (z8 ?_);refine zh (ZC rfl fun p2=>?_);refine zh (mI (YZ rfl) fun p3=>?_);refine yp pC (zf (za (ze (z8 ?_))));refine zh (zy rfl rfl ?_);refine yp (zT (k:=0) rfl rfl (by omega)) ?_;refine zh (uN (by repeat (first | exact hm0 | apply List.mem_cons_of_mem)) rfl hld0 ?_);refine zh (zk (Xa (v:= .slice none 0 0) (L:=[]) (H:=[]) .nil (by decide) z0 4 hn0 (by decide)) rfl rfl fun x S' h=>?_);obtain⟨H1,hL1,rfl⟩:=h;obtain⟨la1,lc1,rfl⟩:=hL1.isSlice;refine yp (pS rfl) (zf (za (ze (z8 (yp (pS rfl) (yp (zx rfl) (yp (zx rfl) ?_)))))));refine zh (zy rfl rfl ?_);refine zh (zk (Xa hL1 (by simp[ZL]) s.typ 2 (by omega) (by decide)) rfl rfl fun x S' h=>?_);obtain⟨H2,hL2,rfl⟩:=h;obtain⟨la2,lc2,rfl⟩:=hL2.isSlice;refine yp (pS rfl) (zf (za (ze (z8 (yp (pS rfl) (yp (zx rfl) ?_))))));refine zh (zy rfl rfl ?_);refine zh (zk (Xa hL2 (by simp[ZL]) s.kind 2 (by omega) (by decide)) rfl rfl fun x S' h=>?_);obtain⟨H3,hL3,rfl⟩:=h;obtain⟨la3,lc3,rfl⟩:=hL3.isSlice;refine yp (pS rfl) (zf (za (ze (z8 (yp (pS rfl) ?_)))));refine zh (zy rfl rfl ?_);obtain⟨rfl,rfl⟩:b0=b1∧o0=o1:=by cases hb1; exact⟨rfl,rfl⟩
 refine yp (zT (k:=1) rfl rfl (by omega)) ?_;refine zh (uN (by repeat (first | exact hm1 | apply List.mem_cons_of_mem)) rfl hld1 ?_);refine zh (zk (Xa hL3 (by simp[ZL]) z1 4 hn1 (by decide)) rfl rfl fun x S' h=>?_);obtain⟨H4,hL4,rfl⟩:=h;obtain⟨la4,lc4,rfl⟩:=hL4.isSlice;refine yp (pS rfl) (zf (za (ze (z8 (yp (pS rfl) ?_)))));refine zh (zk (Xa hL4 (by simp[ZL]) 1585123525 4 (by decide) (by decide)) rfl rfl fun x S' h=>?_);obtain⟨H5,hL5,rfl⟩:=h;obtain⟨la5,lc5,rfl⟩:=hL5.isSlice;refine yp (pS rfl) (zf (za (ze (z8 ?_))));refine zh (Z5 fun p6=>?_);refine zh (ZU rfl rfl (vH rfl) ?_);refine zf (za (ze (ze (z8 (yp (zx rfl) ?_)))));refine zh (zy rfl rfl ?_);refine yp (Zp rfl) (yp pC (zf (za (zu ?_))));have hblk:(vB s ids).length≤4096:=by
  have h1:=XY (fun r hr=>(vL hm r hr).1) hlen;unfold w9 at hE;rw[if_neg (by rw[hm]; decide)] at hE;split at hE
  ·cases hE
  ·omega
 refine Z7 (σ:=Nat) (fun i E S'=>∃(v:Value) (Lb:Bs) (Hb:List Chunk),Has E [(3,.pointer (some ⟨p3,0,none⟩)),(6,.pointer (some ⟨p6,0,none⟩)),(34,.slice a s.rrs.length c),(35,.int .i64 (s.rrs.length:Int)),(36,.int .i64 (i:Int))]∧E 5=v∧Zg 5 v Lb Hb∧i≤s.rrs.length∧Lb++X8 (s.rrs.drop i) (ids.drop (2+((s.rrs.take i).map ZF).flatten.length))=vB s ids∧
  zG S' (Hb::[(p6,.cells #[.int .i64 ((2+((s.rrs.take i).map ZF).flatten.length:Nat):Int)] 3)]::[(p3,.cells #[.slice (some ⟨b0,o0,none⟩) ids.length ic] 23)]::S)) (fun i=>s.rrs.length-i) 0
  ⟨.slice la5 _ lc5,_,H5,⟨rfl,rfl,rfl,rfl,rfl,trivial⟩,rfl,hL5,Nat.zero_le _,hhead.symm,by
   show zG _ (H5::[(p6,.cells #[.int .i64 2] 3)]::[(p3,.cells #[.slice (some ⟨b0,o0,none⟩) ids.length ic] 23)]::S);exact .of⟩ fun i E S' ⟨vb,Lb,Hb,hE2,hE5,hLb,hile,heq,hJ⟩=>?_
 clear hL1 hL2 hL3 hL4 hL5 hhead;obtain⟨la,lc,rfl⟩:=hLb.isSlice;have hE3:Has E [(3,.pointer (some ⟨p3,0,none⟩)),(5,.slice la Lb.length lc),(6,.pointer (some ⟨p6,0,none⟩)),(34,.slice a s.rrs.length c),(35,.int .i64 (s.rrs.length:Int)),(36,.int .i64 (i:Int))]:=⟨hE2.1,hE5,hE2.2⟩
 clear hE2 hE5;obtain⟨E0,e0⟩:=zm hE3; subst e0; clear hE3;refine zn hJ (ze (z8 (yp (ZE rfl rfl) (zf (za (ze ?_))))));refine zR rfl (fun h=>?_) (fun h=>?_)
 ·have hlt:i<s.rrs.length:=by omega
  obtain⟨rb,ro,rca,rty,rfz,rfl,rmem,hge,_⟩:=j3 hv hlt;have hr:=List.getElem_mem hlt;have hts:=kI hlt;have hdr:s.rrs.drop i=s.rrs[i]::s.rrs.drop (i+1):=List.drop_eq_getElem_cons hlt;rw[hdr] at heq;have hnt:((s.rrs.take (i+1)).map ZF).flatten.length≤((s.rrs.map ZF).flatten).length:=by
   have e:s.rrs.map ZF=(s.rrs.take (i+1)).map ZF++(s.rrs.drop (i+1)).map ZF:=by rw[←List.map_append,List.take_append_drop]
   rw[e,List.flatten_append,List.length_append]; omega
  have hidl:ids.length=2+((s.rrs.map ZF).flatten).length:=by rw[hlen]; unfold Ze; simp; omega
  rw[hts,List.length_append] at hnt;have hts2:((s.rrs.take (i+1)).map ZF).flatten.length=((s.rrs.take i).map ZF).flatten.length+(prt s.rrs[i].t s.rrs[i].d).length:=by rw[hts,List.length_append]; unfold ZF; rw[List.length_map]
  have hnr:(ZF s.rrs[i]).length=(prt s.rrs[i].t s.rrs[i].d).length:=by unfold ZF; rw[List.length_map]
  rw[hnr] at hnt;clear hts hnr hdr;generalize hnk:((s.rrs.take (i+1)).map ZF).flatten.length=nk' at hts2;generalize s.rrs[i]=r at hge hr hts2 hnt heq;generalize ((s.rrs.take i).map ZF).flatten.length=nk at hts2 hnt heq;obtain⟨hn,hd⟩:=hs.each r hr;obtain⟨hok,_⟩:=vL hm r hr;have hd1000:=WH hok;have hrow:∃a0,Row r.d a0 (prt r.t r.d):=by
   rcases eB r.t r.d with h | ⟨a0,k,b,e,_,ha,hc,_⟩
   ·exact⟨0,by rw[h]; exact Nat.zero_le _⟩
   ·exact⟨a0,Jq hc ha⟩
  obtain⟨a0,hrow⟩:=hrow;rw[X8] at heq;refine zl (za (ze (zu (ze (z8 (yp (zT rfl rfl (by omega)) ?_))))));refine zh (xg (l:=enc r) (by repeat (first | exact rmem | apply List.mem_cons_of_mem)) rfl hge rfl ?_);refine zh (Z5 fun p8=>?_);refine zh (Vx (c':=[sv r.n,.int .i64 r.t,.int .i64 r.c,.int .i64 r.ttl,sv r.d]) rfl rfl rfl rfl rfl ?_);refine zf (za (ze (z8 ?_)));refine zh (Z5 fun p9=>?_);refine zf (za (ze (z8 ?_)));refine zh (Z5 fun p10=>?_);refine zh (ZU rfl rfl (vH rfl) ?_);refine zf (za (ze (ze (z8 (yp (zx rfl) ?_)))));refine zh (zy rfl rfl ?_);refine yp (zx rfl) ?_;refine zh (zy rfl rfl ?_);refine zh (zk (Jm r.t r.d) rfl rfl fun r' S' h=>?_);obtain⟨bt,bd,rfl,rfl⟩:=h;refine zf (za (zu ?_));have hrle:∀{a0:Nat} {l:List Pl},Row r.d a0 l→a0≤r.d.length:=fun {a0 l} h=>by
   cases l with
   | nil=>exact h
   | cons p l=>
    have:=(WC h.2.1).2.2;have h0:=(WC h.2.1).1;rw[List.length_drop] at this; omega
  refine jT (t:=r.t) (d:=r.d) (S:=[(p8,.cells (BI r) 89)]::[]::[(p9,.cells #[.slice none 0 0] 80)]::[(p10,.cells #[.int .i64 0] 3)]::Hb::[(p6,.cells #[.int .i64 ((2+nk:Nat):Int)] 3)]::[(p3,.cells #[.slice (some ⟨b0,o0,none⟩) ids.length ic] 23)]::S)
   (fun q T=>∃(vd:Value) (Ld:Bs) (Hd:List Chunk) (fr a0:Nat),Zg 5 vd Ld Hd∧fr≤a0∧Row r.d a0 ((prt r.t r.d).drop q)∧Ld++splice r.d fr ((prt r.t r.d).drop q) ((ids.drop (2+nk+q)).map xP)=Ve r (ids.drop (2+nk))∧
    zG T ([(p8,.cells (BI r) 89)]::Hd::[(p9,.cells #[vd] 80)]::[(p10,.cells #[.int .i64 (fr:Int)] 3)]::Hb::[(p6,.cells #[.int .i64 ((2+nk+q:Nat):Int)] 3)]::[(p3,.cells #[.slice (some ⟨b0,o0,none⟩) ids.length ic] 23)]::S)) rfl rfl hd ⟨_,[],[],0,a0,.nil,Nat.zero_le _,hrow,rfl,.self⟩ ?_ ?_
  ·rintro l q x T hx ⟨vd,Ld,Hd,fr,a1,hLd,hfr,hrw,hsp,hJ⟩;have hql:=(List.getElem?_eq_some_iff.1 hx).1;have hdq:(prt r.t r.d).drop q=x::(prt r.t r.d).drop (q+1):=by
    rw[List.drop_eq_getElem_cons hql,(List.getElem?_eq_some_iff.1 hx).2]
   rw[hdq] at hrw hsp;obtain⟨hxa,hxl,hrw2⟩:=hrw;obtain⟨hx1,hx2,hx3⟩:=WC hxl;rw[List.length_drop] at hx3;have hidq:2+nk+q<ids.length:=by omega
   have hid:ids.drop (2+nk+q)=ids[2+nk+q]::ids.drop (2+nk+(q+1)):=List.drop_eq_getElem_cons hidq;have hz:=hnn _ (List.getElem_mem hidq);obtain⟨b2,o2,ca2,ty2,fz2,hb2,hm2,_,hg2⟩:=j3 hi hidq;have hg2:=hg2 0 (by decide);obtain⟨rfl,rfl⟩:b0=b2∧o0=o2:=by cases hb2; exact⟨rfl,rfl⟩
   have hld2:ca2.toList[o0+(2+nk+q)*1+0]?=some (.int .i64 ids[2+nk+q]):=hg2;rw[hid,List.map_cons,splice] at hsp;generalize ids[2+nk+q]=z at hz hld2 hsp;obtain⟨lda,ldc,rfl⟩:=hLd.isSlice;have hdl:(Ve r (ids.drop (2+nk))).length≤4096:=by
    rw[←heq] at hblk;simp only[List.length_append] at hblk; omega
   have hLdl:Ld.length+(x.at_-fr)≤4096:=by
    rw[←hsp] at hdl;simp only[List.length_append,List.length_take,List.length_drop] at hdl; omega
   refine zn hJ ?_
   skip
   refine ze (z8 (yp (pI rfl) (zf (za (z8 (yp (pI rfl) (zf (za (zu (ze ?_))))))))));have hR:∀(S':zL) (x9:List Chunk),(∀s∈[[(p8,Obj.cells (BI r) 89)],x9,[(p10,Obj.cells #[.int .i64 (fr:Int)] 3)],[(p6,Obj.cells #[.int .i64 ((2+nk+q:Nat):Int)] 3)],[(p3,Obj.cells #[.slice (some ⟨b0,o0,none⟩) ids.length ic] 23)]],s∈S')→[(b0,Obj.cells ca2 ty2 fz2)]∈S'→
    ∀s∈[[(p8,Obj.cells (BI r) 89)],x9,[(p10,Obj.cells #[.int .i64 (fr:Int)] 3)],[(p6,Obj.cells #[.int .i64 ((2+nk+q:Nat):Int)] 3)],[(p3,Obj.cells #[.slice (some ⟨b0,o0,none⟩) ids.length ic] 23)],[(b0,Obj.cells ca2 ty2 fz2)]],s∈S':=fun S' x9 h1 h2 s hs=>by
    simp only[List.mem_cons,List.not_mem_nil,or_false] at hs;rcases hs with rfl | rfl | rfl | rfl | rfl | rfl
    ·exact h1 _ (by simp)
    ·exact h1 _ (by simp)
    ·exact h1 _ (by simp)
    ·exact h1 _ (by simp)
    ·exact h1 _ (by simp)
    ·exact h2
   refine wU (R:=[[(p8,Obj.cells (BI r) 89)],[(p9,Obj.cells #[.slice lda Ld.length ldc] 80)],[(p10,Obj.cells #[.int .i64 (fr:Int)] 3)],[(p6,Obj.cells #[.int .i64 ((2+nk+q:Nat):Int)] 3)],[(p3,Obj.cells #[.slice (some ⟨b0,o0,none⟩) ids.length ic] 23)],[(b0,Obj.cells ca2 ty2 fz2)]]) (hR _ _ (by simp) (by repeat (first | exact hm2 | apply List.mem_cons_of_mem))) (Zb rfl rfl (zi (zx rfl) (Zb rfl rfl (Zb rfl rfl (zi (pI rfl) (zi (pG (Y:=r.d) (j:=fr) (k:=x.at_) rfl rfl rfl ⟨by omega,by omega⟩) (Zb rfl rfl (Zb rfl rfl (zi (zT rfl rfl (by omega)) (iw (b:=b0) (c:=ca2) (ty:=ty2) (fz:=fz2) (by repeat (first | exact List.mem_cons_self | apply List.mem_cons_of_mem)) rfl hld2 ?_))))))))));refine Zd (Df (L:=Ld) (H:=Hd) rfl rfl hLd rfl (by rw[List.length_take,List.length_drop]; omega) (by rw[List.length_take,List.length_drop]; omega) fun v3 H3 hL3=>⟨hR _ _ (by simp) (by repeat (first | exact hm2 | apply List.mem_cons_of_mem)),?_⟩) zN;obtain⟨l3a,l3c,rfl⟩:=hL3.isSlice;refine zO (zk (Xa hL3 (by rw[List.length_append,List.length_take,List.length_drop]; omega) z 4 hz (by decide)) rfl rfl fun x3 S3 h=>?_) zN;obtain⟨H4,hL4,rfl⟩:=h;obtain⟨l4a,l4c,rfl⟩:=hL4.isSlice;refine zO (ZU rfl rfl (YZ rfl) ?_) zN;refine zH (za (ze (z8 (yp (pI rfl) (yp (pI rfl) (yp (Zj rfl rfl (by omega)) ?_))))));refine zh (ZU rfl rfl (vH rfl) ?_);refine zf (za (z8 ?_));refine zh (zy rfl rfl ?_);refine yp (Z8 rfl rfl (by omega)) ?_;refine zh (ZU rfl rfl (vH rfl) ?_);refine zf (zW ?_);refine⟨.slice l4a (Ld++(r.d.drop fr).take (x.at_-fr)++xO 4 z.toNat).length l4c,_,H4,x.at_+x.n,a1+x.n,hL4,by omega,hrw2,?_,.of⟩;rw[←hsp];simp only[List.append_assoc];rfl
  ·rintro T ⟨vd,Ld,Hd,fr,a1,hLd,hfr,hrw,hsp,hJ⟩;refine zW (za ?_);refine zn hJ ?_;rw[List.drop_length] at hrw hsp;have hfl:fr≤r.d.length:=Nat.le_trans hfr hrw;obtain⟨lda,ldc,rfl⟩:=hLd.isSlice;have hdat:Ld++r.d.drop fr=Ve r (ids.drop (2+nk)):=by
    rw[←hsp];cases(ids.drop (2+nk+(prt r.t r.d).length)).map xP<;>rfl
   have hdl:(Ve r (ids.drop (2+nk))).length≤4096:=by
    rw[←heq] at hblk;simp only[List.length_append] at hblk; omega
   have hLdl:Ld.length+(r.d.length-fr)≤4096:=by
    rw[←hdat] at hdl;simp only[List.length_append,List.length_drop] at hdl; omega
   refine ze (Z6 (Zb rfl rfl (zi (zx rfl) (Zb rfl rfl (Zb rfl rfl (zi (Yn (Y:=r.d) (j:=fr) rfl rfl hfl) ?_))))));refine zO (Df (L:=Ld) (H:=Hd) rfl rfl hLd rfl (by rw[List.length_drop]; omega) (by rw[List.length_drop]; omega) fun v3 H3 hL3=>?_) zN;obtain⟨l3a,l3c,rfl⟩:=hL3.isSlice;rw[hdat] at hL3 ⊢;refine zO (ZU rfl rfl (YZ rfl) ?_) zN;refine zH (za ?_);refine wU (R:=[[(p9,Obj.cells #[.slice l3a (Ve r (ids.drop (2+nk))).length l3c] 80)]]) (by simp) (zi (pS rfl) (Zb rfl rfl (zi (Zp rfl) (Zb rfl rfl ?_))));refine Zd (zk (Xa hLb (by rw[←heq,List.length_append] at hblk; omega) ((Ve r (ids.drop (2+nk))).length:Nat) 2 (by omega) (by decide)) rfl rfl fun x3 S3 h=>?_) zN;obtain⟨H4,hL4,rfl⟩:=h;refine⟨by simp,?_⟩;obtain⟨l4a,l4c,rfl⟩:=hL4.isSlice;have hbl4:(Lb++xO 2 (Ve r (ids.drop (2+nk))).length).length+(Ve r (ids.drop (2+nk))).length≤4096:=by
    rw[←heq] at hblk;simp only[List.length_append] at hblk ⊢; omega
   refine zO (V6 (Y:=Ve r (ids.drop (2+nk))) rfl rfl hL4 (hL3.src (by simp)) rfl (0:UInt8) rfl (by simp only[Int.toNat_natCast]; omega) (by simp only[Int.toNat_natCast]; omega) fun v5 H5 hL5=>?_) zN;obtain⟨l5a,l5c,rfl⟩:=hL5.isSlice;refine zi (pS rfl) (zH (zW (za (z8 (yp (Z8 rfl rfl (by omega)) (yp (pI rfl) (zf (za ?_))))))));refine⟨i+1,⟨.slice l5a _ l5c,_,H5,⟨rfl,rfl,rfl,rfl,rfl,trivial⟩,rfl,hL5,by omega,?_,?_⟩,by omega⟩
   ·rw[hnk,hts2, ←heq,List.drop_drop, ←Nat.add_assoc,Int.toNat_natCast];simp only[List.append_assoc]
   ·rw[hnk,hts2, ←Nat.add_assoc];exact .of
 ·have hni:s.rrs.drop i=[]:=List.drop_eq_nil_of_le (by omega);rw[hni,X8,List.append_nil] at heq;refine zZ (zA (zA (Z0 (za (ze (z8 (yp (pS rfl) (yp (pS rfl) (zf (za (zJ ?_)))))))))));exact zI (rS rfl) ⟨_,.of,Hb,by rw[←heq]; exact hLb,rfl⟩
end Go.Proofs.YtekgciopamkjlaaGreat
