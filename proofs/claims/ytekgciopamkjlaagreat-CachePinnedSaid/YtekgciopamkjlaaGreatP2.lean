/- Sets in blocks (chapter 8): what may be, its names, its size. Sets in blocks (chapter 8): a set's names, its size. Sets in blocks (chapter 8): what a set would cost. Sets in blocks (chapter 8): a set's bytes. -/
import Derived.Test.YtekgciopamkjlaaGreatP1
import Derived.Test.YtekgciopamkjlaaGreatI1
namespace Go.Proofs.YtekgciopamkjlaaGreat
open Go.Xs
open Enc (enc)
theorem AV(a b:Bs)(ha:a.length<2 ^ 62)(hb:b.length<2 ^ 62):zP Tryz.prog 94 #[sv a,sv b] [] (fun r S=>r= .bool (YE a b)∧S=[]):=by
 refine zP.forget (zl Tryz.Li (Nat.le_of_ble_eq_true rfl) ?_);unfold Tryz.MC YE;refine ze (z8 (yp pC (zf (za (ze (z8 (yp (pT rfl) ?_)))))));refine zh (zk (uw a ha) rfl rfl fun r S' h=>?_);obtain⟨rfl,rfl⟩:=h;cases WQ a with
 | false=>
  refine yp (pB rfl) (zW rfl (zW rfl (yp (zQ rfl rfl) (yp (pB rfl) (zW rfl (zW rfl (zW rfl (zW rfl (zW rfl (yp (zQ rfl rfl) (yp (pB rfl) (zf (za (zH ?_))))))))))))));exact zG (rB rfl) ⟨_,.of,rfl,rfl⟩
 | true=>
  refine yp (pB rfl) (zY rfl (Z7 (pT rfl) (zY rfl ?_)));refine zk (uw b hb) rfl rfl fun r S' h=>?_
  obtain⟨rfl,rfl⟩:=h;cases WQ b with
  | false=>
   refine yp (zK rfl rfl) (yp (pB rfl) (zW rfl (zW rfl (zW rfl (zW rfl (zW rfl (yp (zQ rfl rfl) (yp (pB rfl) (zf (za (zH ?_)))))))))));exact zG (rB rfl) ⟨_,.of,rfl,rfl⟩
  | true=>
   refine yp (zK rfl rfl) (yp (pB rfl) (zY rfl (Z7 (pT rfl) (zY rfl ?_))));refine zk (qm a ha) rfl rfl fun r S' h=>?_
   obtain⟨rfl,rfl⟩:=h;refine zY rfl (Z7 (pT rfl) (zY rfl ?_));refine zk (qm b hb) rfl rfl fun r S' h=>?_
   obtain⟨rfl,rfl⟩:=h;refine zY rfl (Z7 (Eh rfl rfl) (yp (zK rfl rfl) (yp (pB rfl) (zf (za (zH ?_))))));exact zG (rB rfl) ⟨_,.of,by
    congr 1;by_cases h:a.map low=b.map low
    ·rw[decide_eq_true (JM.2 h)]; simp[h]
    ·rw[decide_eq_false (fun h2=>h (JM.1 h2))]; simp[h],rfl⟩
/-- how long a set's texts are -/
structure kM(s:St):Prop where
 name:s.name.length<2 ^ 40
 zone:s.zone.length<2 ^ 40
 rrs:s.rrs.length<2 ^ 20
 each:∀r∈s.rrs,r.n.length<2 ^ 40∧r.d.length<2 ^ 40
abbrev JU(s:St)(w:Value):Array Value:= #[sv s.name,.int .i64 s.typ,w,.int .i64 s.kind,sv s.zone]
abbrev jF(b:Nat)(s:St)(w:Value):List Chunk:=[(b,.cells (JU s w) 46)]
abbrev nK(r:RR):Array Value:= #[sv r.n,.int .i64 r.t,.int .i64 r.c,.int .i64 r.ttl,sv r.d]
theorem Ae{bs:Nat}{s:St}{w:Value}(r:RR)(h1:s.name.length<2 ^ 40)(h2:r.n.length<2 ^ 40)(h3:r.d.length<2 ^ 40):zP Tryz.prog 93 #[.agg (nK r),.pointer (some ⟨bs,0,none⟩)] [jF bs s w] (fun x S=>x= .bool (!Xv s r)∧S=[jF bs s w]):=by
 refine zP.forget (zl Tryz.Lj (Nat.le_of_ble_eq_true rfl) ?_);unfold Tryz.x93 Xv;refine ze (z8 ?_);refine zh (Zp rfl fun p2=>?_);refine yp pC (zf (za (ze (z8 (yp (zn rfl) ?_)))));refine zh (zB rfl rfl ?_);refine yp (zn rfl) (yp (zn rfl) ?_);refine zh (zB rfl rfl ?_);refine zh (zk (AV r.n s.name (by omega) (by omega)) rfl rfl fun r' S' h=>?_);obtain⟨rfl,rfl⟩:=h;cases YE r.n s.name with
 | false=>
  refine yp (Zd rfl) (yp (pB rfl) (zW rfl (zW rfl (zW rfl (zW rfl (zW rfl (zW rfl (yp (zK rfl rfl) (yp (pB rfl) (zW rfl (zW rfl (zW rfl (yp (zK rfl rfl) (yp (pB rfl) (zW rfl (zW rfl (zW rfl (zW rfl (zW rfl (zW rfl (yp (zK rfl rfl) (yp (pB rfl) (zf (za (zH ?_)))))))))))))))))))))))));exact zG (rB rfl) ⟨_,.of,rfl,rfl⟩
 | true=>
  refine yp (Zd rfl) (yp (pB rfl) (zY rfl (Z7 (zn rfl) (zY rfl ?_))));refine(zB rfl rfl ?_);refine zY rfl (Z7 (zn rfl) (zY rfl (Z7 (zn rfl) (zY rfl ?_))));refine(zB rfl rfl ?_);refine zY rfl (Z7 (uO rfl rfl) (yp (zQ rfl rfl) (yp (pB rfl) ?_)));by_cases ht:r.t=s.typ
  ·rw[decide_eq_true ht];refine zY rfl (Z7 (zn rfl) (zY rfl ?_));refine(zB rfl rfl ?_);refine zY rfl (Z7 (uO rfl rfl) (yp (zQ rfl rfl) (yp (pB rfl) ?_)));by_cases hc:r.c=1
   ·rw[decide_eq_true hc];refine zY rfl (Z7 (zn rfl) (zY rfl ?_));refine(zB rfl rfl ?_);refine zY rfl (Z7 (zn rfl) (zY rfl ?_));refine(zB rfl rfl ?_);refine zY rfl ?_;refine zk (q9 r.t r.d h3) rfl rfl fun r' S' h=>?_
    obtain⟨rfl,rfl⟩:=h;refine zY rfl (Z7 (Zd rfl) (yp (zQ rfl rfl) (yp (pB rfl) (zf (za (zH ?_))))));exact zG (rB rfl) ⟨_,.of,by cases Zo r.t r.d<;>rfl,rfl⟩
   ·rw[decide_eq_false hc];refine zW rfl (zW rfl (zW rfl (zW rfl (zW rfl (zW rfl (yp (zK rfl rfl) (yp (pB rfl) (zf (za (zH ?_))))))))));exact zG (rB rfl) ⟨_,.of,rfl,rfl⟩
  ·rw[decide_eq_false ht];refine zW rfl (zW rfl (zW rfl (yp (zK rfl rfl) (yp (pB rfl) (zW rfl (zW rfl (zW rfl (zW rfl (zW rfl (zW rfl (yp (zK rfl rfl) (yp (pB rfl) (zf (za (zH ?_)))))))))))))));exact zG (rB rfl) ⟨_,.of,rfl,rfl⟩
theorem DV{S:zw}{bs:Nat}{s:St}{w v:Value}(hs:kM s)(hv:Src S v s.rrs):zP Tryz.prog 141 #[v,.func (.func 93) #[] #[.pointer (some ⟨bs,0,none⟩)]] (jF bs s w::S)
 (fun x S'=>∃z,x= .int .i64 z∧decide (0≤z)= !(s.rrs.all (Xv s))∧S'=jF bs s w::S):=by
 refine zP.forget (zl Tryz.Gd (Nat.le_of_ble_eq_true rfl) ?_);unfold Tryz.CP;obtain⟨a,c,rfl⟩:=hv.isSlice;have hrr:=hs.rrs;refine ze (z8 (yp pC (zf (za (ze (ze (z8 (yp (pS rfl) (yp (ZM rfl) (yp pC (zf (za (zy ?_)))))))))))));refine Zb (σ:=Nat) (fun i E S'=>Has E [(0,.slice a s.rrs.length c),(1,.func (.func 93) #[] #[.pointer (some ⟨bs,0,none⟩)]),(7,.int .i64 (s.rrs.length:Int)),(8,.int .i64 (i:Int))]∧(i≤s.rrs.length∧∀r∈s.rrs.take i,Xv s r=true)∧zD S' (jF bs s w::S)) (fun i=>s.rrs.length-i) 0
  ⟨⟨rfl,rfl,rfl,rfl,trivial⟩,⟨Nat.zero_le _,fun r h=>by simp at h⟩,.of⟩ fun i E S' ⟨hE,⟨hi,hall⟩,hJ⟩=>?_
 obtain⟨E0,e0⟩:=zu hE; subst e0; clear hE;refine zo hJ (ze (z8 (yp (ZP rfl rfl) (zf (za (ze ?_))))));refine zR rfl (fun h=>?_) (fun h=>?_)
 ·have hlt:i<s.rrs.length:=by omega
  obtain⟨b,o,ca,ty,fz,rfl,_,hmem,_,hg⟩:=hv.get (by intro h; simp[h] at hlt);have hge:=hg i hlt;have hr:=List.getElem_mem hlt;have hts:s.rrs.take (i+1)=s.rrs.take i++[s.rrs[i]]:=List.take_succ_eq_append_getElem hlt;generalize s.rrs[i]=r at hge hr hts;obtain⟨hn,hd⟩:=hs.each r hr;refine zq (za (ze (zy (ze (z8 (yp (pI rfl) (yp (pI rfl) (zf (za (ze (z8 (yp (pF rfl) (yp (pS rfl) (yp (pI rfl) (yp (zV rfl rfl (by omega)) ?_)))))))))))))));refine zh (UJ (S:=jF bs s w::S) (l:=enc r) (List.mem_cons_of_mem _ hmem) rfl hge rfl ?_)
  skip
  refine zh (zk (Ae (s:=s) (w:=w) r hs.name hn hd) rfl rfl fun r' S' h=>?_);obtain⟨rfl,rfl⟩:=h;cases hok:Xv s r with
  | false=>
   refine zf (za (zF rfl (ze (z8 (yp (pI rfl) (yp (pI rfl) (zf (za (zH (bret (zX (zX (bret (zX ?_))))))))))))));refine zG (rI rfl) ⟨_,.of,_,rfl,?_,rfl⟩;rw[decide_eq_true (by omega)];cases ha:s.rrs.all (Xv s) with
   | false=>rfl
   | true=>have:=List.all_eq_true.1 ha r hr; rw[hok] at this; cases this
  | true=>
   refine zf (za (zx rfl (zq (zT (za (z8 (yp (Zj rfl rfl (by omega)) (yp (pI rfl) (zf (za ?_))))))))));refine⟨i+1,⟨⟨rfl,rfl,rfl,rfl,trivial⟩,⟨by omega,fun x hx=>?_⟩,.of⟩,by omega⟩;rw[hts] at hx;rcases List.mem_append.1 hx with hx | hx
   ·exact hall x hx
   ·rw[List.mem_singleton.1 hx]; exact hok
 ·refine Z0 (zI (zI (Z5 (za (ze (z8 (yp pC (zf (za (zH ?_))))))))));refine zG (rI rfl) ⟨_,.of,_,rfl,?_,rfl⟩;have:s.rrs.all (Xv s)=true:=List.all_eq_true.2 fun r hr=>hall r (by rw[List.take_of_length_le (by omega)]; exact hr)
  rw[this]; rfl
theorem DX{S:zw}{bs:Nat}{s:St}{w v:Value}(hs:kM s)(hv:Src S v s.rrs):zP Tryz.prog 92 #[v,.func (.func 93) #[] #[.pointer (some ⟨bs,0,none⟩)]] (jF bs s w::S)
 (fun x S'=>x= .bool (!(s.rrs.all (Xv s)))∧S'=jF bs s w::S):=by
 refine zP.forget (zl Tryz.Ll (Nat.le_of_ble_eq_true rfl) ?_);unfold Tryz.ME;obtain⟨a,c,rfl⟩:=hv.isSlice;refine ze (z8 (yp pC (zf (za (ze (z8 (yp (pS rfl) (yp (pF rfl) ?_))))))));refine zh (zk (DV (bs:=bs) (w:=w) hs hv) rfl rfl fun r' S' h=>?_);obtain⟨z,rfl,hz,rfl⟩:=h;refine yp (Yg rfl rfl) (yp (pB rfl) (zf (za (zH ?_))));exact zG (rB rfl) ⟨_,.of,by rw[hz],rfl⟩
theorem DU{S:zw}{s:St}{v:Value}(hs:kM s)(hv:Src S v s.rrs):zP Tryz.prog 50 #[.agg (JU s v)] S (fun x S'=>x= .bool (WV s)∧S'=S):=by
 refine zP.forget (zl Tryz.M5 (Nat.le_of_ble_eq_true rfl) ?_);unfold Tryz.Nb WV;have hno:∀{x:Value} {b:Bool} {S':zw},b=false→x= .bool false→zD S' S→∃S'',zD S' S''∧x= .bool b∧S''=S:=fun h1 h2 h3=>⟨S,h3,by rw[h1,h2],rfl⟩
 refine ze (z8 ?_);refine zh (Zp rfl fun p1=>?_);refine yp pC (zf (za (ze (ze (z8 (yp (zn rfl) (yp (zn rfl) ?_)))))));refine zh (zB rfl rfl ?_);refine zh (zk (uw s.name (by have:=hs.name; omega)) rfl rfl fun r' S' h=>?_);obtain⟨rfl,rfl⟩:=h;cases WQ s.name with
 | false=>
  refine yp (Zd rfl) (yp (pB rfl) (zW rfl (zW rfl (zW rfl (zW rfl (yp (zK rfl rfl) (yp (pB rfl) (zW rfl (zW rfl (zW rfl (zW rfl (yp (zK rfl rfl) (yp (pB rfl) (zW rfl (zW rfl (zW rfl (zW rfl (yp (zK rfl rfl) (yp (pB rfl) (zW rfl (zW rfl (zW rfl (yp (zK rfl rfl) (yp (pB rfl) (zW rfl (zW rfl (zW rfl (yp (zK rfl rfl) (zf (za (zF rfl (ze (z8 (yp pC (zf (za (zH (zX ?_))))))))))))))))))))))))))))))))))))));exact zG (rB rfl) (hno rfl rfl .of)
 | true=>
 refine yp (Zd rfl) (yp (pB rfl) (zY rfl (Z7 (zn rfl) (zY rfl ?_))));refine(zB rfl rfl ?_);refine zY rfl ?_;refine zk (uw s.zone (by have:=hs.zone; omega)) rfl rfl fun r' S' h=>?_
 obtain⟨rfl,rfl⟩:=h;cases WQ s.zone with
 | false=>
  refine zY rfl (Z7 (Zd rfl) (yp (zQ rfl rfl) (yp (pB rfl) (zW rfl (zW rfl (zW rfl (zW rfl (yp (zK rfl rfl) (yp (pB rfl) (zW rfl (zW rfl (zW rfl (zW rfl (yp (zK rfl rfl) (yp (pB rfl) (zW rfl (zW rfl (zW rfl (yp (zK rfl rfl) (yp (pB rfl) (zW rfl (zW rfl (zW rfl (yp (zK rfl rfl) (zf (za (zF rfl (ze (z8 (yp pC (zf (za (zH (zX ?_))))))))))))))))))))))))))))))))));exact zG (rB rfl) (hno rfl rfl .of)
 | true=>
 refine zY rfl (Z7 (Zd rfl) (yp (zQ rfl rfl) (yp (pB rfl) (zY rfl (Z7 (zn rfl) (zY rfl (Z7 (zn rfl) (zY rfl ?_))))))));refine(zB rfl rfl ?_);refine zY rfl (Z7 (ZP rfl rfl) (yp (zQ rfl rfl) (yp (pB rfl) ?_)));by_cases h1:s.typ<1
 ·rw[decide_eq_true h1];refine zW rfl (zW rfl (zW rfl (zW rfl (yp (zK rfl rfl) (yp (pB rfl) (zW rfl (zW rfl (zW rfl (yp (zK rfl rfl) (yp (pB rfl) (zW rfl (zW rfl (zW rfl (yp (zK rfl rfl) (zf (za (zF rfl (ze (z8 (yp pC (zf (za (zH (zX ?_))))))))))))))))))))))));exact zG (rB rfl) (hno (by rw[decide_eq_false (by omega)]; simp) rfl .of)
 rw[decide_eq_false h1];refine zY rfl (Z7 (zn rfl) (zY rfl (Z7 (zn rfl) (zY rfl ?_))));refine(zB rfl rfl ?_);refine zY rfl (Z7 (uf rfl rfl) (yp (zQ rfl rfl) (yp (pB rfl) ?_)));by_cases h2:65535<s.typ
 ·rw[decide_eq_true h2];refine zW rfl (zW rfl (zW rfl (yp (zK rfl rfl) (yp (pB rfl) (zW rfl (zW rfl (zW rfl (yp (zK rfl rfl) (zf (za (zF rfl (ze (z8 (yp pC (zf (za (zH (zX ?_))))))))))))))))));exact zG (rB rfl) (hno (by rw[decide_eq_false (by omega)]; simp) rfl .of)
 rw[decide_eq_false h2];refine zY rfl (Z7 (zn rfl) (zY rfl ?_));refine(zB rfl rfl ?_);refine zY rfl (Z7 (ZP rfl rfl) (yp (zQ rfl rfl) (yp (pB rfl) ?_)));by_cases h3:s.kind<0
 ·rw[decide_eq_true h3];refine zW rfl (zW rfl (zW rfl (yp (zK rfl rfl) (zf (za (zF rfl (ze (z8 (yp pC (zf (za (zH (zX ?_)))))))))))));exact zG (rB rfl) (hno (by rw[decide_eq_false (show ¬(1≤s.typ∧s.typ≤65535∧0≤s.kind∧s.kind≤2) from by omega)]; simp) rfl .of)
 rw[decide_eq_false h3];refine zY rfl (Z7 (zn rfl) (zY rfl ?_));refine(zB rfl rfl ?_);refine zY rfl (Z7 (uf rfl rfl) (yp (zQ rfl rfl) (zf (za ?_))));by_cases h4:2<s.kind
 ·rw[decide_eq_true h4];refine zF rfl (ze (z8 (yp pC (zf (za (zH (zX ?_)))))));exact zG (rB rfl) (hno (by rw[decide_eq_false (show ¬(1≤s.typ∧s.typ≤65535∧0≤s.kind∧s.kind≤2) from by omega)]; simp) rfl .of)
 rw[decide_eq_false h4,decide_eq_true (show 1≤s.typ∧s.typ≤65535∧0≤s.kind∧s.kind≤2 from by omega)];obtain⟨a,c,rfl⟩:=hv.isSlice;refine zx rfl (zq (za (ze (ze (z8 (yp (zn rfl) ?_))))));refine zh (zB rfl rfl ?_);refine yp (ZM rfl) (yp (uf rfl rfl) (yp (pB rfl) ?_));by_cases h5:32<(s.rrs.length:Int)
 ·rw[decide_eq_true h5];refine zW rfl (zW rfl (zW rfl (zW rfl (zW rfl (zW rfl (zW rfl (zW rfl (yp (zK rfl rfl) (zf (za (zF rfl (ze (z8 (yp pC (zf (za (zH (zX ?_))))))))))))))))));exact zG (rB rfl) (hno (by rw[decide_eq_false (show ¬s.rrs.length≤32 from by omega)]; simp) rfl .of)
 rw[decide_eq_false h5,decide_eq_true (show s.rrs.length≤32 from by omega)];refine zY rfl (Z7 (zn rfl) (zY rfl ?_));refine(zB rfl rfl ?_);refine zY rfl (Z7 (ZM rfl) (zY rfl (Z7 (uf rfl rfl) (zY rfl (Z7 (zn rfl) (zY rfl ?_))))));refine(zB rfl rfl ?_);refine zY rfl (Z7 (WT rfl rfl) (zY rfl (Z7 (Az rfl rfl) (yp (zQ rfl rfl) (zf (za ?_))))));rw[show decide (0<(s.rrs.length:Int))=decide (0<s.rrs.length) from decide_eq_decide.2 (by omega)];cases h6:(decide (0<s.rrs.length)==decide (s.kind=0)) with
 | false=>
  refine zF rfl (ze (z8 (yp pC (zf (za (zH (zX ?_)))))));exact zG (rB rfl) (hno rfl rfl .of)
 | true=>
 refine zx rfl (zq (za (ze (z8 (yp (zn rfl) ?_)))));refine zh (zB rfl rfl ?_);refine yp (gJ (j5 rfl)) ?_;refine zh (zk (DX (w:= .slice a s.rrs.length c) hs hv) rfl rfl fun r' S' h=>?_);obtain⟨rfl,rfl⟩:=h;refine yp (Zd rfl) (yp (pB rfl) (zf (za (zH ?_))));exact zG (rB rfl) ⟨_,.of,by cases s.rrs.all (Xv s)<;>rfl,rfl⟩
def bss(l:List Bs):List ByteArray:=l.map fun Y=>⟨Y.toArray⟩
theorem uJ(l:List Bs):(bss l).length=l.length:=by unfold bss; simp
theorem qV(l m:List Bs):bss (l++m)=bss l++bss m:=by unfold bss; simp
theorem xC:∀(l:List RR),((l.map Zw).flatten).length≤2*l.length
 | []=>Nat.le_refl _
 | r::l=>by
  have h:=xC l;have h2:(Zw r).length≤2:=by
   unfold Zw prt;rw[List.length_map];split
   ·cases hp:X4 r.t r.d with
    | none=>simp
    | some x=>exact Ki hp
   ·simp
  rw[List.map_cons,List.flatten_cons,List.length_append,List.length_cons]; omega
/-- the names of the first i records, and of the next one's first k -/
theorem yx{l:List RR}{i:Nat}(h:i<l.length):((l.take (i+1)).map Zw).flatten=((l.take i).map Zw).flatten++Zw l[i]:=by
 rw[List.take_succ_eq_append_getElem h,List.map_append,List.flatten_append]; simp
theorem QE{S:zw}{s:St}{v:Value}(hs:kM s)(hv:Src S v s.rrs):zP Tryz.prog 54 #[.agg (JU s v)] S (fun x S'=>∃H,Zc 9 x (bss (Z8 s)) H∧S'=H::S):=by
 refine zP.forget (zl Tryz.LZ (Nat.le_of_ble_eq_true rfl) ?_);unfold Tryz.N8;obtain⟨a,c,rfl⟩:=hv.isSlice;have hrr:=hs.rrs;refine ze (z8 ?_);refine zh (Zp rfl fun p1=>?_);refine yp pC (zf (za (ze (z8 (yp (zn rfl) (yp (zn rfl) ?_))))));refine zh (zB rfl rfl ?_);refine yp (zn rfl) ?_;refine zh (zB rfl rfl ?_);refine zh (mI (l:=[sv s.name,sv s.zone]) rfl (by decide) (by decide) (by decide) rfl fun p13=>?_);refine zh (Z6 fun p3=>?_);refine zh (ZJ rfl rfl (jE rfl) ?_);refine zf (za (ze (ze (z8 (yp (zn rfl) ?_)))));refine zh (zB rfl rfl ?_);refine yp (ZM rfl) (yp pC (zf (za (zy ?_))));have h0:Zc 9 (.slice (some ⟨p13,0,none⟩) 2 2) (bss (s.name::s.zone::((s.rrs.take 0).map Zw).flatten)) [(p13,.cells [sv s.name,sv s.zone].toArray 9)]:=Zc.full (L:=bss [s.name,s.zone]) rfl;refine Zb (σ:=Nat) (fun i E S'=>∃vo Ho,Has E [(3,.pointer (some ⟨p3,0,none⟩)),(15,.slice a s.rrs.length c),(16,.int .i64 (s.rrs.length:Int)),(17,.int .i64 (i:Int))]∧i≤s.rrs.length∧Zc 9 vo (bss (s.name::s.zone::((s.rrs.take i).map Zw).flatten)) Ho∧zD S' (Ho::[(p3,.cells #[vo] 87)]::S)) (fun i=>s.rrs.length-i) 0
  ⟨_,_,⟨rfl,rfl,rfl,rfl,trivial⟩,Nat.zero_le _,h0,.of⟩ fun i E S' ⟨vo,Ho,hE,hi,hL,hJ⟩=>?_
 obtain⟨E0,e0⟩:=zu hE; subst e0; clear hE;refine zo hJ ?_;obtain⟨la,lc,rfl⟩:=hL.isSlice;refine ze (z8 (yp (ZP rfl rfl) (zf (za (ze ?_)))));refine zR rfl (fun h=>?_) (fun h=>?_)
 ·have hlt:i<s.rrs.length:=by omega
  obtain⟨b,o,ca,ty,fz,rfl,_,hmem,_,hg⟩:=hv.get (by intro h; simp[h] at hlt);have hge:=hg i hlt;have hr:=List.getElem_mem hlt;have hts:=yx hlt;have hnl:=xC (s.rrs.take i);have hil:(s.rrs.take i).length=i:=by rw[List.length_take]; omega
  generalize s.rrs[i]=r at hge hr hts;obtain⟨hn,hd⟩:=hs.each r hr;refine zq (za (ze (zy (ze (z8 (yp (zV rfl rfl (by omega)) ?_))))));refine zh (UJ (S:=Ho::[(p3,.cells #[.slice la (bss (s.name::s.zone::((s.rrs.take i).map Zw).flatten)).length lc] 87)]::S) (l:=enc r) (List.mem_cons_of_mem _ (List.mem_cons_of_mem _ hmem)) rfl hge rfl ?_);refine zh (Z6 fun p5=>?_);refine zh (vQ (c':=[sv r.n,.int .i64 r.t,.int .i64 r.c,.int .i64 r.ttl,sv r.d]) rfl rfl rfl rfl rfl ?_);refine zf (za (ze (z8 (yp (zn rfl) ?_))));refine zh (zB rfl rfl ?_);refine yp (zn rfl) ?_;refine zh (zB rfl rfl ?_);refine zh (zk (Kh r.t r.d) rfl rfl fun r' S' h=>?_);obtain⟨bt,bd,rfl,rfl⟩:=h;refine zf (za (zy ?_));refine kQ (t:=r.t) (d:=r.d) (S:=[(p5,.cells (nK r) 89)]::Ho::[(p3,.cells #[.slice la (bss (s.name::s.zone::((s.rrs.take i).map Zw).flatten)).length lc] 87)]::S)
   (fun k T=>∃vo Ho,Zc 9 vo (bss (s.name::s.zone::((s.rrs.take i).map Zw).flatten++(Zw r).take k)) Ho∧zD T ([(p5,.cells (nK r) 89)]::Ho::[(p3,.cells #[vo] 87)]::S)) rfl rfl hd ⟨_,Ho,by rw[List.take_zero,List.append_nil]; exact hL,.self⟩ ?_ ?_
  ·rintro l k x T hx ⟨vo,Ho,hL,hJ⟩;obtain⟨hv1,hv2,hv3⟩:=XG (List.mem_of_getElem? hx);obtain⟨la2,lc2,rfl⟩:=hL.isSlice;have hkl:=(List.getElem?_eq_some_iff.1 hx).1;have htk:(Zw r).take (k+1)=(Zw r).take k++[Uj r.d x]:=by
    unfold Zw;rw[←List.map_take, ←List.map_take,List.take_add_one,hx]; simp
   have hlen:(bss (s.name::s.zone::((s.rrs.take i).map Zw).flatten++(Zw r).take k)).length≤2 ^ 22+2:=by
    have h1:=xC (s.rrs.take (i+1));rw[hts,List.length_append,List.length_take] at h1;rw[uJ,List.cons_append,List.cons_append,List.length_cons,List.length_cons,List.length_append,List.length_take];omega
   refine zo hJ (ze (z8 (yp (pI rfl) (zf (za (z8 (yp (pI rfl) (zf (za (zy (Z4 (Z9 rfl rfl (zi (zn rfl) (Z9 rfl rfl (zi (pI rfl) (zi (pI rfl) (zi (pI rfl) (zi (Zt rfl rfl (by omega)) (zi (rO (Y:=r.d) (j:=x.at_) (k:=x.at_+x.n) rfl rfl rfl ⟨by omega,hv3⟩) ?_)))))))))))))))))));rw[show x.at_+x.n-x.at_=x.n from by omega];refine Zf (Vf (⟨(Uj r.d x).toArray⟩:ByteArray) rfl rfl (by decide) (by decide) rfl fun p36=>⟨fun _ hs=>List.mem_cons_of_mem _ hs,?_⟩) zO;refine zN (uQ (Y:=[(⟨(Uj r.d x).toArray⟩:ByteArray)]) rfl rfl hL (.lit (by repeat (first | exact List.mem_cons_self | apply List.mem_cons_of_mem)) rfl) rfl (⟨#[]⟩:ByteArray) rfl (by rw[List.length_singleton]; omega) (by rw[List.length_singleton]; omega) fun v2 H2 hL2=>?_) zO;obtain⟨la3,lc3,rfl⟩:=hL2.isSlice;refine zN (ZJ rfl rfl (jE rfl) ?_) zO;refine zJ (zT ?_);exact⟨.slice la3 (bss (s.name::s.zone::((s.rrs.take i).map Zw).flatten++(Zw r).take k)++[(⟨(Uj r.d x).toArray⟩:ByteArray)]).length lc3,H2,by rw[htk, ←List.append_assoc,qV _ [Uj r.d x]]; exact hL2,.of⟩
  ·rintro T ⟨vo,Ho,hL,hJ⟩;have hkt:(Zw r).take (prt r.t r.d).length=Zw r:=List.take_of_length_le (by unfold Zw; rw[List.length_map]; exact Nat.le_refl _);rw[hkt,List.cons_append,List.cons_append, ←hts] at hL;refine zT (zT (za ?_));refine zo hJ (z8 (yp (Zj rfl rfl (by omega)) (yp (pI rfl) (zf (za ?_)))));exact⟨i+1,⟨vo,Ho,⟨rfl,rfl,rfl,rfl,trivial⟩,by omega,hL,.of⟩,by omega⟩
 ·refine Z0 (zI (zI (Z5 (za (ze (z8 ?_))))));refine zh (zB rfl rfl ?_);refine yp (pS rfl) (zf (za (zH ?_)));have hni:s.rrs.take i=s.rrs:=List.take_of_length_le (by omega);have hfin:bss (Z8 s)=bss (s.name::s.zone::((s.rrs.take i).map Zw).flatten):=by unfold Z8; rw[hni]
  exact zG (rS rfl) ⟨_,.of,Ho,by rw[hfin]; exact hL,rfl⟩
theorem aY{l:List Int}{i:Nat}(h:i<l.length):Wi (l.take (i+1))=Wi (l.take i)+l[i]:=by
 rw[List.take_succ_eq_append_getElem h,Xl];show _+(l[i]+0)=_; omega
theorem Qz{t:Int}{d:Bs}(k:Nat): -(255*(k:Int))≤Wi (((prt t d).take k).map fun p=>4-(p.n:Int))∧Wi (((prt t d).take k).map fun p=>4-(p.n:Int))≤4*(k:Int):=by
 have key:∀(l:List Pl) (k:Nat),(∀p∈l,p.n≤255)→ -(255*(k:Int))≤Wi ((l.take k).map fun p=>4-(p.n:Int))∧Wi ((l.take k).map fun p=>4-(p.n:Int))≤4*(k:Int):=by
  intro l
  induction l with
  | nil=>intro k _; rw[List.take_nil]; show-(255*(k:Int))≤0∧(0:Int)≤4*(k:Int); omega
  | cons p l ih=>
   intro k h;cases k with
   | zero=>show-(255*((0:Nat):Int))≤0∧(0:Int)≤4*((0:Nat):Int); omega
   | succ k=>
    have:=ih k fun q hq=>h q (List.mem_cons_of_mem _ hq)
    have h1:=h p (by simp);rw[List.take_succ_cons,List.map_cons,V8]
    push_cast
    omega
 refine key _ k fun p hp=>?_
 obtain⟨h1,h2,_⟩:=XG hp;have:=Ws h1;omega
theorem QB(t:Int)(d:Bs):(prt t d).length≤2:=by
 unfold prt;split
 ·cases hp:X4 t d with
  | none=>simp
  | some x=>exact Ki hp
 ·simp
theorem fC{s:St}(hm:WV s=true)(i:Nat):0≤Wi ((s.rrs.map vF).take i)∧Wi ((s.rrs.map vF).take i)≤1100*(i:Int):=by
 have key:∀(l:List RR) (i:Nat),(∀r∈l,Zo r.t r.d=true)→0≤Wi ((l.map vF).take i)∧Wi ((l.map vF).take i)≤1100*(i:Int):=by
  intro l
  induction l with
  | nil=>intro i _; rw[List.map_nil,List.take_nil]; show(0:Int)≤0∧(0:Int)≤1100*(i:Int); omega
  | cons r l ih=>
   intro i h;cases i with
   | zero=>show(0:Int)≤0∧(0:Int)≤1100*((0:Nat):Int); omega
   | succ i=>
    have:=ih i fun q hq=>h q (List.mem_cons_of_mem _ hq)
    have h1:=h r (by simp);have h2:=nu h1;have h3:=wY h1;have h4:=(Qz (t:=r.t) (d:=r.d) (prt r.t r.d).length).2;have h5:=QB r.t r.d;rw[List.take_length] at h4;have h6:vF r≤1100:=by unfold vF; omega
    rw[List.map_cons,List.take_succ_cons,V8]
    push_cast
    omega
 exact key _ i fun r hr=>(Ww hm r hr).1
set_option maxRecDepth 10000 in
theorem Kl{S:zw}{s:St}{v:Value}(hs:kM s)(hv:Src S v s.rrs):zP Tryz.prog 15 #[.agg (JU s v)] S (fun x S'=>x= .tuple #[.int .i64 (xY s),.int .i64 (ZU s)]∧S'=S):=by
 refine zP.forget (zl Tryz.Ml (Nat.le_of_ble_eq_true rfl) ?_);unfold Tryz.Nq;obtain⟨a,c,rfl⟩:=hv.isSlice;have hrr:=hs.rrs;refine ze (z8 ?_);refine zh (Zp rfl fun p1=>?_);refine yp pC (yp pC (zf (za (ze (ze (z8 ?_))))));refine zh (wC (l:=[sv s.name,.int .i64 s.typ,.slice a s.rrs.length c,.int .i64 s.kind,sv s.zone]) rfl rfl rfl ?_);refine zh (zk (DU hs hv) rfl rfl fun r' S' h=>?_);obtain⟨rfl,hSS⟩:=h;have hSS:=hSS.symm;subst hSS;cases hm:WV s with
 | false=>
  have hE:ZU s=1:=by unfold ZU; rw[if_pos hm]
  have hZ:xY s=0:=by unfold xY; rw[hE,if_neg (by decide)]
  refine yp (Zd rfl) (zf (za (zF rfl (ze (z8 (yp pC (yp pC (zf (za (zH (zX ?_)))))))))));exact zG (jK rfl rfl) ⟨_,.of,by rw[hE,hZ],rfl⟩
 | true=>
 have hE0:ZU s=if 4096<Zm s then 3 else 0:=by unfold ZU; rw[if_neg (by rw[hm]; decide)]
 have hbd:=fC hm;have hlen32:=(VU hm).2.2.2.2.2.2.1;refine yp (Zd rfl) (zf (za (zx rfl (zq (za (ze (z8 ?_)))))));refine zh (Z6 fun p4=>?_);refine zh (ZJ rfl rfl (u7 rfl) ?_);refine zf (za (ze (ze (z8 (yp (zn rfl) ?_)))));refine zh (zB rfl rfl ?_);refine yp (ZM rfl) (yp pC (zf (za (zy ?_))));refine Zb (σ:=Nat) (fun i E S'=>Has E [(4,.pointer (some ⟨p4,0,none⟩)),(13,.slice a s.rrs.length c),(14,.int .i64 (s.rrs.length:Int)),(15,.int .i64 (i:Int))]∧i≤s.rrs.length∧zD S' ([(p4,.cells #[.int .i64 (16+Wi ((s.rrs.map vF).take i))] 3)]::S)) (fun i=>s.rrs.length-i) 0
  ⟨⟨rfl,rfl,rfl,rfl,trivial⟩,Nat.zero_le _,by rw[show(16:Int)+Wi ((s.rrs.map vF).take 0)=16 from rfl]; exact .of⟩ fun i E S' ⟨hE,hi,hJ⟩=>?_
 obtain⟨E0,e0⟩:=zu hE; subst e0; clear hE;refine zo hJ ?_;have hbi:=hbd i;refine ze (z8 (yp (ZP rfl rfl) (zf (za (ze ?_)))));refine zR rfl (fun h=>?_) (fun h=>?_)
 ·have hlt:i<s.rrs.length:=by omega
  obtain⟨b,o,ca,ty,fz,rfl,_,hmem,_,hg⟩:=hv.get (by intro h; simp[h] at hlt);have hge:=hg i hlt;have hr:=List.getElem_mem hlt;have hts:=aY (l:=s.rrs.map vF) (i:=i) (by rw[List.length_map]; exact hlt);rw[List.getElem_map] at hts;generalize s.rrs[i]=r at hge hr hts;obtain⟨hn,hd⟩:=hs.each r hr;have hd1000:=wY (Ww hm r hr).1;generalize Wi ((s.rrs.map vF).take i)=A at hts hbi;refine zq (za (ze (zy (ze (z8 (yp (zV rfl rfl (by omega)) ?_))))));refine zh (UJ (S:=[(p4,.cells #[.int .i64 (16+A)] 3)]::S) (l:=enc r) (List.mem_cons_of_mem _ hmem) rfl hge rfl ?_);refine zh (Z6 fun p6=>?_);refine zh (vQ (c':=[sv r.n,.int .i64 r.t,.int .i64 r.c,.int .i64 r.ttl,sv r.d]) rfl rfl rfl rfl rfl ?_);refine zf (za (ze (z8 ?_)));refine zh (zB rfl rfl ?_);refine yp (zn rfl) ?_;refine zh (zB rfl rfl ?_);refine yp (uX rfl) ?_;rw[Qo];refine yp (Vq rfl rfl (by omega)) (yp (Vq rfl rfl (by omega)) ?_);refine zh (ZJ rfl rfl (u7 rfl) ?_);refine zf (za (ze (z8 (yp (zn rfl) ?_))));refine zh (zB rfl rfl ?_);refine yp (zn rfl) ?_;refine zh (zB rfl rfl ?_);refine zh (zk (Kh r.t r.d) rfl rfl fun r' S' h=>?_);obtain⟨bt,bd,rfl,rfl⟩:=h;refine zf (za (zy ?_));refine kQ (t:=r.t) (d:=r.d) (S:=[(p4,.cells #[.int .i64 (16+A+(2+(r.d.length:Int)))] 3)]::S)
   (fun k T=>zD T ([(p4,.cells #[.int .i64 (16+A+(2+(r.d.length:Int))+Wi (((prt r.t r.d).take k).map fun p=>4-(p.n:Int)))] 3)]::S)) rfl rfl hd ?_ ?_ ?_
  ·rw[List.take_zero,List.map_nil,show Wi []=0 from rfl,Int.add_zero]; exact .self
  ·rintro l k x T hx hJ;have hk2:=Qz (t:=r.t) (d:=r.d) k;obtain⟨hv1,hv2,hv3⟩:=XG (List.mem_of_getElem? hx);have h255:=Ws hv1;have hkl:=(List.getElem?_eq_some_iff.1 hx).1;have hpl:=QB r.t r.d;have hst:Wi (((prt r.t r.d).take (k+1)).map fun p=>4-(p.n:Int))=Wi (((prt r.t r.d).take k).map fun p=>4-(p.n:Int))+(4-(x.n:Int)):=by
    rw[List.take_add_one,hx,List.map_append,Xl];show _+((4-(x.n:Int))+0)=_; omega
   show Y _ _ _ _ (VL (fun E1 S1=>Y _ _ _ _ (Ke (fun _ S'=>zD S' _) _ _) E1 S1) _) _ _;rw[hst];generalize Wi (((prt r.t r.d).take k).map fun p=>4-(p.n:Int))=B at hJ hk2;refine zo hJ (z8 (yp (pI rfl) (zf (za (zy (z8 ?_))))));refine zh (zB rfl rfl ?_);refine yp (pI rfl) (yp (ZG rfl rfl (by omega)) (yp (Vq rfl rfl (by omega)) ?_));refine zh (ZJ rfl rfl (u7 rfl) ?_);refine zf (zT ?_);rw[show 16+A+(2+(r.d.length:Int))+(B+(4-(x.n:Int)))=16+A+(2+(r.d.length:Int))+B+(4-(x.n:Int)) from by omega];exact .of
  ·rintro T hJ;rw[List.take_length] at hJ;have hsz:16+A+(2+(r.d.length:Int))+Wi ((prt r.t r.d).map fun p=>4-(p.n:Int))=16+Wi ((s.rrs.map vF).take (i+1)):=by rw[hts]; unfold vF; omega
   rw[hsz] at hJ;refine zT (zT (za ?_));refine zo hJ (z8 (yp (Zj rfl rfl (by omega)) (yp (pI rfl) (zf (za ?_)))));exact⟨i+1,⟨⟨rfl,rfl,rfl,rfl,trivial⟩,by omega,.of⟩,by omega⟩
 ·have hni:(s.rrs.map vF).take i=s.rrs.map vF:=List.take_of_length_le (by rw[List.length_map]; omega);have hsz:16+Wi ((s.rrs.map vF).take i)=Zm s:=by rw[hni]; rfl
  rw[hsz];refine Z0 (zI (zI (Z5 (za (ze (ze (z8 ?_)))))));refine zh (zB rfl rfl ?_);refine yp (uf rfl rfl) (zf (za ?_));by_cases h4:4096<Zm s
  ·rw[if_pos h4] at hE0;have hZ:xY s=0:=by unfold xY; rw[hE0,if_neg (by decide)]
   rw[decide_eq_true h4];refine zF rfl (ze (z8 (yp pC (yp pC (zf (za (zH (zX ?_))))))));exact zG (jK rfl rfl) ⟨_,.of,by rw[hE0,hZ],rfl⟩
  ·rw[if_neg h4] at hE0;have hZ:xY s=Zm s:=by unfold xY; rw[hE0,if_pos rfl]
   rw[decide_eq_false h4];refine zx rfl (zq (za (ze (z8 ?_))));refine zh (zB rfl rfl ?_);refine yp (pI rfl) (yp pC (zf (za (zH ?_))));exact zG (jK rfl rfl) ⟨_,.of,by rw[hE0,hZ],rfl⟩
theorem dZ:Tryz.prog.underlying 107=some (.map 9 4):=by kernel_rfl
def qo(l:List Bs):ByteArray→Option Bool:=fun s=>if s.data.toList∈l then some true else none
theorem gY:(fun _:ByteArray=>(none:Option Bool))=qo []:=by funext s; simp[qo]
theorem bH(l:List Bs)(n:Bs):wT (qo l) (⟨n.toArray⟩:ByteArray) (some true)=qo (n::l):=by
 funext s;unfold wT qo;by_cases h:s=⟨n.toArray⟩
 ·rw[if_pos h,if_pos (by rw[h]; simp)]
 ·rw[if_neg h];have:s.data.toList∈n::l↔s.data.toList∈l:=by
   rw[List.mem_cons];exact⟨fun h2=>h2.resolve_left fun e=>h ((Y4 s n).2 e),.inr⟩
  simp only[this]
def U0(L:List Nm)(s:St):Int:=if ZU s=0 then cost (Zm s)+(wL L [] (Z8 s):Nat) else 0
theorem Jg(k:Nat):zU k≤8192:=by
 unfold zU
 (repeat' split)<;>omega
theorem Jh(L:List Nm):∀(l s:List Bs),wL L s l≤8192*l.length
 | [],_=>Nat.le_refl _
 | n::l,s=>by
  have h1:=Jh L l (zA n::s);have h2:=Jg (8+n.length);unfold wL;rw[List.length_cons];split<;>omega
theorem VP(s:St):(Z8 s).length≤2+2*s.rrs.length:=by
 have:=xC s.rrs;unfold Z8;rw[List.length_cons,List.length_cons]; omega
set_option maxRecDepth 10000 in
theorem Ag{S:zw}{s:St}{v:Value}{tb ab:Nat}{L:List Nm}{T:List Chunk}(hT:Tb tb ab L T)(hs:kM s)(hv:Src S v s.rrs):zP Tryz.prog 17 #[.pointer (some ⟨tb,0,none⟩),.agg (JU s v)] (T::S) (fun x S'=>x= .int .i64 (U0 L s)∧S'=T::S):=by
 refine zP.forget (zl Tryz.Mk (Nat.le_of_ble_eq_true rfl) ?_);unfold Tryz.Np;obtain⟨a,c,rfl⟩:=hv.isSlice;refine ze (z8 ?_);refine zh (Zp rfl fun p3=>?_);refine yp pC (zf (za (ze (z8 ?_))));refine zh (wC (l:=[sv s.name,.int .i64 s.typ,.slice a s.rrs.length c,.int .i64 s.kind,sv s.zone]) rfl rfl rfl ?_);refine zh (zk (Kl hs hv) rfl rfl fun r' S' h=>?_);obtain⟨rfl,hSS⟩:=h;have hSS:=hSS.symm;subst hSS;refine yp (pU rfl) (yp (pExt rfl rfl) (yp (pExt rfl rfl) (yp (pI rfl) (yp (pI rfl) (zf (za (ze (ze (z8 (yp (pI rfl) (yp (uO rfl rfl) (zf (za ?_)))))))))))));by_cases hE:ZU s=0
 case neg=>
  have hC:U0 L s=0:=by unfold U0; rw[if_neg hE]
  rw[decide_eq_false hE];refine zF rfl (ze (z8 (yp pC (zf (za (zH (zX ?_)))))));exact zG (rI rfl) ⟨_,.of,by rw[hC],rfl⟩
 have hm:WV s=true:=by
  cases hm:WV s with
  | true=>rfl
  | false=>unfold ZU at hE; rw[if_pos hm] at hE; cases hE
 have hZ:xY s=Zm s:=by unfold xY; rw[if_pos hE]
 have hC:U0 L s=cost (Zm s)+(wL L [] (Z8 s):Nat):=by unfold U0; rw[if_pos hE]
 rw[decide_eq_true hE,hZ];refine zx rfl (zq (za (ze (z8 (yp (pI rfl) ?_)))));refine zh (zk (Xg (Zm s)) rfl rfl fun r' S' h=>?_);obtain⟨rfl,rfl⟩:=h;refine yp (pI rfl) (zf (za (ze (z8 ?_))));refine zh (kR ByteArray Bool fun mb HM hM=>?_);rw[gY] at hM;refine yp (pM rfl) (zf (za (ze (ze (z8 ?_)))));refine zh (wC (l:=[sv s.name,.int .i64 s.typ,.slice a s.rrs.length c,.int .i64 s.kind,sv s.zone]) rfl rfl rfl ?_);refine zh (zk (QE hs hv) rfl rfl fun r' S' h=>?_);obtain⟨HN,hN,hSS⟩:=h;subst hSS;obtain⟨na,nc,rfl⟩:=hN.isSlice;rw[uJ] at hN ⊢;have hnl:=VP s;have hrr:=hs.rrs;have hcb:0≤cost (Zm s)∧cost (Zm s)≤8192:=by
  have:=Jg (Zm s).toNat;unfold cost;split<;>omega
 refine yp (ZM rfl) (yp pC (zf (za (zy ?_))));refine Zb (σ:=Nat) (fun i E S'=>∃(seen:List Bs) (acc m:Nat) (HM:List Chunk),Has E [(0,.pointer (some ⟨tb,0,none⟩)),(7,.int .i64 (cost (Zm s)+(acc:Nat))),(8,.map (some mb)),(22,.slice na (Z8 s).length nc),(23,.int .i64 ((Z8 s).length:Int)),(24,.int .i64 (i:Int))]∧i≤(Z8 s).length∧acc+wL L seen ((Z8 s).drop i)=wL L [] (Z8 s)∧Mp mb (qo seen) m HM∧zD S' (HM::T::HN::S)) (fun i=>(Z8 s).length-i) 0
  ⟨[],0,0,HM,⟨rfl,by show Value.int _ _=_; congr 1; omega,rfl,rfl,rfl,rfl,trivial⟩,Nat.zero_le _,by rw[List.drop_zero,Nat.zero_add],hM,.of⟩ fun i E S' ⟨seen,acc,m,HM,hE2,hi,hacc,hM,hJ⟩=>?_
 have htot:=Jh L (Z8 s) [];obtain⟨E0,e0⟩:=zu hE2; subst e0; clear hE2;refine zo hJ (ze (z8 (yp (ZP rfl rfl) (zf (za (ze ?_))))));refine zR rfl (fun h=>?_) (fun h=>?_)
 ·have hlt:i<(Z8 s).length:=by omega
  have hdr:(Z8 s).drop i=(Z8 s)[i]::(Z8 s).drop (i+1):=List.drop_eq_getElem_cons hlt;have hvl:=yA hm _ (List.getElem_mem hlt);obtain⟨b,sp,fz,hz,rfl,_,hc',rfl⟩:=hN.at' (by intro h; rw[←List.length_eq_zero_iff,uJ] at h; omega);have hld:((cells (bss (Z8 s)++sp)).toArray.toList)[0+i*1+0]?=some (sv (Z8 s)[i]):=(wJ (kk:=1) (j:=0) (by rw[uJ]; exact hlt) rfl (by omega)).trans (by unfold bss; rw[List.getElem_map]; rfl);generalize (Z8 s)[i]=n at hdr hvl hld;have h255:=Ws hvl;rw[hdr,wL] at hacc;refine zq (za (ze (zy (ze (z8 (yp (zV rfl rfl (by omega)) ?_))))));refine zh (zB (v:=sv n) rfl hld ?_);refine yp (pT rfl) (zf (za (ze (z8 (yp (pT rfl) ?_)))));refine zh (zk (Kz n (by omega)) rfl rfl fun r' S' h=>?_);obtain⟨rfl,rfl⟩:=h;refine yp (pT rfl) (zf (za (ze (z8 (yp (pM rfl) (yp (pT rfl) ?_))))));refine zh (VB (v:= .bool (decide (zA n∈seen))) hM (by simp) (⟨(zA n).toArray⟩:ByteArray) dZ xX XA rfl rfl ?_ ?_)
  ·unfold qo;by_cases h:zA n∈seen
   ·rw[if_pos h,decide_eq_true h]; rfl
   ·rw[if_neg h,decide_eq_false h]; rfl
  by_cases hin:zA n∈seen
  ·rw[decide_eq_true hin];rw[if_pos (.inl hin)] at hacc;refine yp (Zd rfl) (zf (za (zx rfl (zq (zT (za (z8 (yp (Zj rfl rfl (by omega)) (yp (pI rfl) (zf (za ?_)))))))))));have hcg:=U1 (L:=L) (l:=(Z8 s).drop (i+1)) (s:=zA n::seen) (s':=seen) fun m=>by
    rw[List.mem_cons];exact⟨fun h=>by rcases h with rfl | h<;>assumption,.inr⟩
   exact⟨i+1,⟨seen,acc,m,HM,⟨rfl,rfl,rfl,rfl,rfl,rfl,trivial⟩,by omega,by rw[hcg] at hacc; omega,hM,.of⟩,by omega⟩
  ·rw[decide_eq_false hin];refine yp (Zd rfl) (zf (za (zF rfl (ze (z8 (yp (pM rfl) (yp (pT rfl) ?_)))))));refine zh (pW hM (⟨(zA n).toArray⟩:ByteArray) true dZ xX rfl rfl rfl fun HM2 hM2=>?_);rw[bH] at hM2;refine zf (za (z8 (yp (pI rfl) (yp (pP rfl) (yp (pT rfl) ?_)))));refine zh (zk (tK hT (zA n) (by rw[wM]; omega)) rfl rfl fun r' S' h=>?_);obtain⟨rfl,rfl⟩:=h;rw[Xb,VK,hvl,wM];have hcc:cost (8+(n.length:Int))=(zU (8+n.length):Nat):=by
    unfold cost; rw[if_neg (by omega)]; congr 1
   have hval:(if(Vp L (zA n)).isSome=true∨true=false then(0:Int) else cost (8+(n.length:Int)))=((if zA n∈seen∨(Vp L (zA n)).isSome=true then 0 else zU (8+n.length):Nat):Int):=by
    by_cases hb:(Vp L (zA n)).isSome=true
    ·rw[if_pos (.inl hb),if_pos (.inr hb)]; rfl
    ·rw[if_neg (by simp[hb]),if_neg (by simp[hb,hin]),hcc]
   rw[hval];generalize (if zA n∈seen∨(Vp L (zA n)).isSome=true then 0 else zU (8+n.length):Nat)=q at hacc;refine yp (Vq rfl rfl (by omega)) (yp (pI rfl) (zf (zT (za (z8 (yp (Zj rfl rfl (by omega)) (yp (pI rfl) (zf (za ?_)))))))));exact⟨i+1,⟨zA n::seen,acc+q,_,HM2,⟨rfl,by show Value.int _ _=_; congr 1; omega,rfl,rfl,rfl,rfl,trivial⟩,by omega,by omega,hM2,.of⟩,by omega⟩
 ·have hd0:(Z8 s).drop i=[]:=List.drop_eq_nil_of_le (by omega);rw[hd0,wL] at hacc;refine Z0 (zI (zI (Z5 (za (ze (z8 (yp (pI rfl) (yp (pI rfl) (zf (za (zH ?_)))))))))));exact zG (rI rfl) ⟨_,.of,by rw[hC, ←hacc]; rfl,rfl⟩
theorem AB{E:Env}{x:Operand}{j:Nat}(h:ev E x= .int .i64 (j:Int)):zm (ev E) (.conv .u8 x)=some (.int .u8 ((UInt8.ofNat (j%256)).toNat:Int)):=by
 simp only[zm,h,y5];have:(UInt8.ofNat (j%256)).toNat=j%256%256:=by simp
 rw[this];congr 2;omega
theorem Eb{E:Env}{x:Operand}{j:Nat}(h:ev E x= .int .i64 (j:Int)):zm (ev E) (.bin .shr x (.const (.int .u64 8)))=some (.int .i64 ((j/256:Nat):Int)):=by
 have h2:(j:Int).fdiv 256=((j/256:Nat):Int):=by rw[Int.fdiv_eq_ediv_of_nonneg _ (by decide)]; omega
 rw[←h2];simp only[zm,h];rfl
theorem iq(k n:Nat):Uh (k+1) n=UInt8.ofNat (n%256)::Uh k (n/256):=rfl
theorem DT{v:Value}{L:Bs}{H:List Chunk}(hL:Zc 5 v L H)(hLl:L.length<2 ^ 40)(n size:Nat)(hs:size≤8):zP Tryz.prog 111 #[v,.int .i64 (n:Int),.int .i64 (size:Int)] [H] (fun x S=>∃H',Zc 5 x (L++Uh size n) H'∧S=[H']):=by
 refine zP.forget (zl Tryz.GJ (Nat.le_of_ble_eq_true rfl) ?_);unfold Tryz.Dj;refine ze (z8 (yp pC (zf (za (ze (ze (z8 (yp (pI rfl) (yp pC (zf (za (zy ?_))))))))))));refine Zb (σ:=Nat) (fun i E S=>∃(v:Value) (L':Bs) (H':List Chunk) (m:Nat),Has E [(1,.int .i64 (m:Int)),(7,.int .i64 (size:Int)),(8,.int .i64 (i:Int))]∧E 0=v∧Zc 5 v L' H'∧i≤size∧m≤n∧L'.length≤L.length+i∧L'++Uh (size-i) m=L++Uh size n∧zD S [H']) (fun i=>size-i) 0
  ⟨v,L,H,n,⟨rfl,rfl,rfl,trivial⟩,rfl,hL,Nat.zero_le _,Nat.le_refl _,Nat.le_refl _,rfl,.of⟩ fun i E S ⟨v',L',H',m,hE,hE0,hL',hi,hm,hll,heq,hJ⟩=>?_
 obtain⟨la,lc,rfl⟩:=hL'.isSlice;have hE2:Has E [(0,.slice la L'.length lc),(1,.int .i64 (m:Int)),(7,.int .i64 (size:Int)),(8,.int .i64 (i:Int))]:=⟨hE0,hE⟩
 clear hE hE0;obtain⟨E0,e0⟩:=zu hE2; subst e0; clear hE2;refine zo hJ (ze (z8 (yp (ZP rfl rfl) (zf (za (ze ?_))))));refine zR rfl (fun h=>?_) (fun h=>?_)
 ·obtain⟨j,hj⟩:∃j,size-i=j+1:=⟨size-i-1,by omega⟩
  rw[hj,iq] at heq;refine zq (za (ze (zy (ze (z8 (yp (pS rfl) (yp (pI rfl) (yp (AB rfl) ?_))))))));generalize UInt8.ofNat (m%256)=b at heq;refine zh (Vf b rfl rfl (by decide) (by decide) rfl fun p13=>?_);refine zh (uQ (Y:=[b]) rfl rfl hL' (.lit (by repeat (first | exact List.mem_cons_self | apply List.mem_cons_of_mem)) rfl) rfl (0:UInt8) rfl (by rw[List.length_singleton]; omega) (by rw[List.length_singleton]; omega) fun v2 H2 hL2=>?_);obtain⟨la2,lc2,rfl⟩:=hL2.isSlice;refine yp (pS rfl) (zf (za (z8 (yp (pI rfl) (yp (Eb rfl) (yp (pI rfl) (zf (zT (za (z8 (yp (Zj rfl rfl (by omega)) (yp (pI rfl) (zf (za ?_))))))))))))));refine⟨i+1,⟨.slice la2 (L'++[b]).length lc2,L'++[b],H2,m/256,⟨rfl,rfl,rfl,trivial⟩,rfl,hL2,by omega,by omega,by rw[List.length_append,List.length_singleton]; omega,?_,.of⟩,by omega⟩;rw[show size-(i+1)=j from by omega,List.append_assoc]; exact heq
 ·rw[show size-i=0 from by omega] at heq;have heq2:L'=L++Uh size n:=by rw[←heq]; show L'=L'++[]; rw[List.append_nil]
  refine Z0 (zI (zI (Z5 (za (ze (z8 (yp (pS rfl) (yp (pS rfl) (zf (za (zH ?_)))))))))));exact zG (rS rfl) ⟨_,.of,H',by rw[←heq2]; exact hL',rfl⟩
theorem Uy{v:Value}{L:Bs}{H:List Chunk}(hL:Zc 5 v L H)(hLl:L.length<2 ^ 40)(n:Int)(size:Nat)(hn:0≤n)(hs:size≤8):zP Tryz.prog 111 #[v,.int .i64 n,.int .i64 (size:Int)] [H] (fun x S=>∃H',Zc 5 x (L++Uh size n.toNat) H'∧S=[H']):=by
 have:=DT hL hLl n.toNat size hs
 rwa [show((n.toNat:Nat):Int)=n from by omega] at this
/-- an element of a list that is read -/
theorem jA{α:Type}[Enc α]{S:zw}{a:Option Addr}{c:Nat}{L:List α}(h:Src S (.slice a L.length c) L){i:Nat}(hi:i<L.length):∃(b o:Nat) (ca:Array Value) (ty:TypeId) (fz:Nat × Nat),a=some ⟨b,o,none⟩∧[(b,Obj.cells ca ty fz)]∈S∧(ca.toList.drop (o+i*Enc.k α)).take (Enc.k α)=enc L[i]∧∀j,j<Enc.k α→ca.toList[o+i*Enc.k α+j]?=(enc L[i])[j]?:=by
 obtain⟨b,o,ca,ty,fz,rfl,_,hmem,h1,h2⟩:=h.get (by intro h; simp[h] at hi);exact⟨b,o,ca,ty,fz,rfl,hmem,h2 i hi,fun j hj=>h1 i j hi hj⟩
set_option maxRecDepth 10000 in
theorem nN{S:zw}{s:St}{v iv:Value}{ids:List Int}(hs:kM s)(hv:Src S v s.rrs)(hi:Src S iv ids)(hE:ZU s=0)(hlen:ids.length=(Z8 s).length)(hnn:∀i∈ids,0≤i):
 zP Tryz.prog 65 #[.agg (JU s v),iv] S (fun x S'=>∃H,Zc 5 x (Wq s ids) H∧S'=H::S):=by
 refine zP.forget (zl Tryz.LP (Nat.le_of_ble_eq_true rfl) ?_);unfold Tryz.MS;obtain⟨a,c,rfl⟩:=hv.isSlice;obtain⟨ia,ic,rfl⟩:=hi.isSlice;have hrr:=hs.rrs;have hl2:2≤ids.length:=by rw[hlen]; unfold Z8; simp
 have hidb:ids.length≤2 ^ 22:=by
  have:=VP s;omega
 obtain⟨b0,o0,ca0,ty0,fz0,rfl,hm0,_,hg0⟩:=jA hi (i:=0) (by omega);obtain⟨b1,o1,ca1,ty1,fz1,hb1,hm1,_,hg1⟩:=jA hi (i:=1) (by omega);have hg0:=hg0 0 (by decide);have hg1:=hg1 0 (by decide);have hn0:=hnn ids[0] (List.getElem_mem _);have hn1:=hnn ids[1] (List.getElem_mem _);have hi0:ids.getD 0 0=ids[0]:=by rw[List.getD_eq_getElem?_getD,List.getElem?_eq_getElem (by omega)]; rfl
 have hi1:ids.getD 1 0=ids[1]:=by rw[List.getD_eq_getElem?_getD,List.getElem?_eq_getElem (by omega)]; rfl
 have hld0:ca0.toList[o0+0*1+0]?=some (.int .i64 ids[0]):=hg0;have hld1:ca1.toList[o1+1*1+0]?=some (.int .i64 ids[1]):=hg1;have hm:WV s=true:=by
  cases hm:WV s with
  | true=>rfl
  | false=>unfold ZU at hE; rw[if_pos hm] at hE; cases hE
 have hnum:=VU hm;have hhead:Wq s ids=[]++Uh 4 ids[0].toNat++Uh 2 s.typ.toNat++Uh 2 s.kind.toNat++Uh 4 ids[1].toNat++Uh 4 1585123525++Uw s.rrs (ids.drop 2):=by
  unfold Wq Ui;rw[hi0,hi1]; rfl
 generalize ids[0]=z0 at hld0 hn0 hhead;generalize ids[1]=z1 at hld1 hn1 hhead;refine ze (z8 ?_);refine zh (Zp rfl fun p2=>?_);refine zh (dM (jE rfl) fun p3=>?_);refine yp pC (zf (za (ze (z8 ?_))));refine zh (zB rfl rfl ?_);refine yp (zV (k:=0) rfl rfl (by omega)) ?_;refine zh (kS (by repeat (first | exact hm0 | apply List.mem_cons_of_mem)) rfl hld0 ?_);refine zh (zk (Uy (v:= .slice none 0 0) (L:=[]) (H:=[]) .nil (by decide) z0 4 hn0 (by decide)) rfl rfl fun x S' h=>?_);obtain⟨H1,hL1,rfl⟩:=h;obtain⟨la1,lc1,rfl⟩:=hL1.isSlice;refine yp (pS rfl) (zf (za (ze (z8 (yp (pS rfl) (yp (zn rfl) (yp (zn rfl) ?_)))))));refine zh (zB rfl rfl ?_);refine zh (zk (Uy hL1 (by simp[Zy]) s.typ 2 (by omega) (by decide)) rfl rfl fun x S' h=>?_);obtain⟨H2,hL2,rfl⟩:=h;obtain⟨la2,lc2,rfl⟩:=hL2.isSlice;refine yp (pS rfl) (zf (za (ze (z8 (yp (pS rfl) (yp (zn rfl) ?_))))));refine zh (zB rfl rfl ?_);refine zh (zk (Uy hL2 (by simp[Zy]) s.kind 2 (by omega) (by decide)) rfl rfl fun x S' h=>?_);obtain⟨H3,hL3,rfl⟩:=h;obtain⟨la3,lc3,rfl⟩:=hL3.isSlice;refine yp (pS rfl) (zf (za (ze (z8 (yp (pS rfl) ?_)))));refine zh (zB rfl rfl ?_);obtain⟨rfl,rfl⟩:b0=b1∧o0=o1:=by cases hb1; exact⟨rfl,rfl⟩
 refine yp (zV (k:=1) rfl rfl (by omega)) ?_;refine zh (kS (by repeat (first | exact hm1 | apply List.mem_cons_of_mem)) rfl hld1 ?_);refine zh (zk (Uy hL3 (by simp[Zy]) z1 4 hn1 (by decide)) rfl rfl fun x S' h=>?_);obtain⟨H4,hL4,rfl⟩:=h;obtain⟨la4,lc4,rfl⟩:=hL4.isSlice;refine yp (pS rfl) (zf (za (ze (z8 (yp (pS rfl) ?_)))));refine zh (zk (Uy hL4 (by simp[Zy]) 1585123525 4 (by decide) (by decide)) rfl rfl fun x S' h=>?_);obtain⟨H5,hL5,rfl⟩:=h;obtain⟨la5,lc5,rfl⟩:=hL5.isSlice;refine yp (pS rfl) (zf (za (ze (z8 ?_))));refine zh (Z6 fun p6=>?_);refine zh (ZJ rfl rfl (u7 rfl) ?_);refine zf (za (ze (ze (z8 (yp (zn rfl) ?_)))));refine zh (zB rfl rfl ?_);refine yp (ZM rfl) (yp pC (zf (za (zy ?_))));have hblk:(Wq s ids).length≤4096:=by
  have h1:=xP (fun r hr=>(Ww hm r hr).1) hlen;unfold ZU at hE;rw[if_neg (by rw[hm]; decide)] at hE;split at hE
  ·cases hE
  ·omega
 refine Zb (σ:=Nat) (fun i E S'=>∃(v:Value) (Lb:Bs) (Hb:List Chunk),Has E [(3,.pointer (some ⟨p3,0,none⟩)),(6,.pointer (some ⟨p6,0,none⟩)),(34,.slice a s.rrs.length c),(35,.int .i64 (s.rrs.length:Int)),(36,.int .i64 (i:Int))]∧E 5=v∧Zc 5 v Lb Hb∧i≤s.rrs.length∧Lb++Uw (s.rrs.drop i) (ids.drop (2+((s.rrs.take i).map Zw).flatten.length))=Wq s ids∧
  zD S' (Hb::[(p6,.cells #[.int .i64 ((2+((s.rrs.take i).map Zw).flatten.length:Nat):Int)] 3)]::[(p3,.cells #[.slice (some ⟨b0,o0,none⟩) ids.length ic] 23)]::S)) (fun i=>s.rrs.length-i) 0
  ⟨.slice la5 _ lc5,_,H5,⟨rfl,rfl,rfl,rfl,rfl,trivial⟩,rfl,hL5,Nat.zero_le _,hhead.symm,by
   show zD _ (H5::[(p6,.cells #[.int .i64 2] 3)]::[(p3,.cells #[.slice (some ⟨b0,o0,none⟩) ids.length ic] 23)]::S);exact .of⟩ fun i E S' ⟨vb,Lb,Hb,hE2,hE5,hLb,hile,heq,hJ⟩=>?_
 clear hL1 hL2 hL3 hL4 hL5 hhead;obtain⟨la,lc,rfl⟩:=hLb.isSlice;have hE3:Has E [(3,.pointer (some ⟨p3,0,none⟩)),(5,.slice la Lb.length lc),(6,.pointer (some ⟨p6,0,none⟩)),(34,.slice a s.rrs.length c),(35,.int .i64 (s.rrs.length:Int)),(36,.int .i64 (i:Int))]:=⟨hE2.1,hE5,hE2.2⟩
 clear hE2 hE5;obtain⟨E0,e0⟩:=zu hE3; subst e0; clear hE3;refine zo hJ (ze (z8 (yp (ZP rfl rfl) (zf (za (ze ?_))))));refine zR rfl (fun h=>?_) (fun h=>?_)
 ·have hlt:i<s.rrs.length:=by omega
  obtain⟨rb,ro,rca,rty,rfz,rfl,rmem,hge,_⟩:=jA hv hlt;have hr:=List.getElem_mem hlt;have hts:=yx hlt;have hdr:s.rrs.drop i=s.rrs[i]::s.rrs.drop (i+1):=List.drop_eq_getElem_cons hlt;rw[hdr] at heq;have hnt:((s.rrs.take (i+1)).map Zw).flatten.length≤((s.rrs.map Zw).flatten).length:=by
   have e:s.rrs.map Zw=(s.rrs.take (i+1)).map Zw++(s.rrs.drop (i+1)).map Zw:=by rw[←List.map_append,List.take_append_drop]
   rw[e,List.flatten_append,List.length_append]; omega
  have hidl:ids.length=2+((s.rrs.map Zw).flatten).length:=by rw[hlen]; unfold Z8; simp; omega
  rw[hts,List.length_append] at hnt;have hts2:((s.rrs.take (i+1)).map Zw).flatten.length=((s.rrs.take i).map Zw).flatten.length+(prt s.rrs[i].t s.rrs[i].d).length:=by rw[hts,List.length_append]; unfold Zw; rw[List.length_map]
  have hnr:(Zw s.rrs[i]).length=(prt s.rrs[i].t s.rrs[i].d).length:=by unfold Zw; rw[List.length_map]
  rw[hnr] at hnt;clear hts hnr hdr;generalize hnk:((s.rrs.take (i+1)).map Zw).flatten.length=nk' at hts2;generalize s.rrs[i]=r at hge hr hts2 hnt heq;generalize ((s.rrs.take i).map Zw).flatten.length=nk at hts2 hnt heq;obtain⟨hn,hd⟩:=hs.each r hr;obtain⟨hok,_⟩:=Ww hm r hr;have hd1000:=wY hok;have hrow:∃a0,Row r.d a0 (prt r.t r.d):=by
   rcases QA r.t r.d with h | ⟨a0,k,b,e,_,ha,hc,_⟩
   ·exact⟨0,by rw[h]; exact Nat.zero_le _⟩
   ·exact⟨a0,Kj hc ha⟩
  obtain⟨a0,hrow⟩:=hrow;rw[Uw] at heq;refine zq (za (ze (zy (ze (z8 (yp (zV rfl rfl (by omega)) ?_))))));refine zh (UJ (l:=enc r) (by repeat (first | exact rmem | apply List.mem_cons_of_mem)) rfl hge rfl ?_);refine zh (Z6 fun p8=>?_);refine zh (vQ (c':=[sv r.n,.int .i64 r.t,.int .i64 r.c,.int .i64 r.ttl,sv r.d]) rfl rfl rfl rfl rfl ?_);refine zf (za (ze (z8 ?_)));refine zh (Z6 fun p9=>?_);refine zf (za (ze (z8 ?_)));refine zh (Z6 fun p10=>?_);refine zh (ZJ rfl rfl (u7 rfl) ?_);refine zf (za (ze (ze (z8 (yp (zn rfl) ?_)))));refine zh (zB rfl rfl ?_);refine yp (zn rfl) ?_;refine zh (zB rfl rfl ?_);refine zh (zk (Kh r.t r.d) rfl rfl fun r' S' h=>?_);obtain⟨bt,bd,rfl,rfl⟩:=h;refine zf (za (zy ?_));have hrle:∀{a0:Nat} {l:List Pl},Row r.d a0 l→a0≤r.d.length:=fun {a0 l} h=>by
   cases l with
   | nil=>exact h
   | cons p l=>
    have:=(vI h.2.1).2.2;have h0:=(vI h.2.1).1;rw[List.length_drop] at this; omega
  refine kQ (t:=r.t) (d:=r.d) (S:=[(p8,.cells (nK r) 89)]::[]::[(p9,.cells #[.slice none 0 0] 80)]::[(p10,.cells #[.int .i64 0] 3)]::Hb::[(p6,.cells #[.int .i64 ((2+nk:Nat):Int)] 3)]::[(p3,.cells #[.slice (some ⟨b0,o0,none⟩) ids.length ic] 23)]::S)
   (fun q T=>∃(vd:Value) (Ld:Bs) (Hd:List Chunk) (fr a0:Nat),Zc 5 vd Ld Hd∧fr≤a0∧Row r.d a0 ((prt r.t r.d).drop q)∧Ld++splice r.d fr ((prt r.t r.d).drop q) ((ids.drop (2+nk+q)).map Ui)=WW r (ids.drop (2+nk))∧
    zD T ([(p8,.cells (nK r) 89)]::Hd::[(p9,.cells #[vd] 80)]::[(p10,.cells #[.int .i64 (fr:Int)] 3)]::Hb::[(p6,.cells #[.int .i64 ((2+nk+q:Nat):Int)] 3)]::[(p3,.cells #[.slice (some ⟨b0,o0,none⟩) ids.length ic] 23)]::S)) rfl rfl hd ⟨_,[],[],0,a0,.nil,Nat.zero_le _,hrow,rfl,.self⟩ ?_ ?_
  ·rintro l q x T hx ⟨vd,Ld,Hd,fr,a1,hLd,hfr,hrw,hsp,hJ⟩;have hql:=(List.getElem?_eq_some_iff.1 hx).1;have hdq:(prt r.t r.d).drop q=x::(prt r.t r.d).drop (q+1):=by
    rw[List.drop_eq_getElem_cons hql,(List.getElem?_eq_some_iff.1 hx).2]
   rw[hdq] at hrw hsp;obtain⟨hxa,hxl,hrw2⟩:=hrw;obtain⟨hx1,hx2,hx3⟩:=vI hxl;rw[List.length_drop] at hx3;have hidq:2+nk+q<ids.length:=by omega
   have hid:ids.drop (2+nk+q)=ids[2+nk+q]::ids.drop (2+nk+(q+1)):=List.drop_eq_getElem_cons hidq;have hz:=hnn _ (List.getElem_mem hidq);obtain⟨b2,o2,ca2,ty2,fz2,hb2,hm2,_,hg2⟩:=jA hi hidq;have hg2:=hg2 0 (by decide);obtain⟨rfl,rfl⟩:b0=b2∧o0=o2:=by cases hb2; exact⟨rfl,rfl⟩
   have hld2:ca2.toList[o0+(2+nk+q)*1+0]?=some (.int .i64 ids[2+nk+q]):=hg2;rw[hid,List.map_cons,splice] at hsp;generalize ids[2+nk+q]=z at hz hld2 hsp;obtain⟨lda,ldc,rfl⟩:=hLd.isSlice;have hdl:(WW r (ids.drop (2+nk))).length≤4096:=by
    rw[←heq] at hblk;simp only[List.length_append] at hblk; omega
   have hLdl:Ld.length+(x.at_-fr)≤4096:=by
    rw[←hsp] at hdl;simp only[List.length_append,List.length_take,List.length_drop] at hdl; omega
   refine zo hJ ?_
   skip
   refine ze (z8 (yp (pI rfl) (zf (za (z8 (yp (pI rfl) (zf (za (zy (ze ?_))))))))));have hR:∀(S':zw) (x9:List Chunk),(∀s∈[[(p8,Obj.cells (nK r) 89)],x9,[(p10,Obj.cells #[.int .i64 (fr:Int)] 3)],[(p6,Obj.cells #[.int .i64 ((2+nk+q:Nat):Int)] 3)],[(p3,Obj.cells #[.slice (some ⟨b0,o0,none⟩) ids.length ic] 23)]],s∈S')→[(b0,Obj.cells ca2 ty2 fz2)]∈S'→
    ∀s∈[[(p8,Obj.cells (nK r) 89)],x9,[(p10,Obj.cells #[.int .i64 (fr:Int)] 3)],[(p6,Obj.cells #[.int .i64 ((2+nk+q:Nat):Int)] 3)],[(p3,Obj.cells #[.slice (some ⟨b0,o0,none⟩) ids.length ic] 23)],[(b0,Obj.cells ca2 ty2 fz2)]],s∈S':=fun S' x9 h1 h2 s hs=>by
    simp only[List.mem_cons,List.not_mem_nil,or_false] at hs;rcases hs with rfl | rfl | rfl | rfl | rfl | rfl
    ·exact h1 _ (by simp)
    ·exact h1 _ (by simp)
    ·exact h1 _ (by simp)
    ·exact h1 _ (by simp)
    ·exact h1 _ (by simp)
    ·exact h2
   refine wU (R:=[[(p8,Obj.cells (nK r) 89)],[(p9,Obj.cells #[.slice lda Ld.length ldc] 80)],[(p10,Obj.cells #[.int .i64 (fr:Int)] 3)],[(p6,Obj.cells #[.int .i64 ((2+nk+q:Nat):Int)] 3)],[(p3,Obj.cells #[.slice (some ⟨b0,o0,none⟩) ids.length ic] 23)],[(b0,Obj.cells ca2 ty2 fz2)]]) (hR _ _ (by simp) (by repeat (first | exact hm2 | apply List.mem_cons_of_mem))) (Z9 rfl rfl (zi (zn rfl) (Z9 rfl rfl (Z9 rfl rfl (zi (pI rfl) (zi (rO (Y:=r.d) (j:=fr) (k:=x.at_) rfl rfl rfl ⟨by omega,by omega⟩) (Z9 rfl rfl (Z9 rfl rfl (zi (zV rfl rfl (by omega)) (aQ (b:=b0) (c:=ca2) (ty:=ty2) (fz:=fz2) (by repeat (first | exact List.mem_cons_self | apply List.mem_cons_of_mem)) rfl hld2 ?_))))))))));refine Zf (rz (L:=Ld) (H:=Hd) rfl rfl hLd rfl (by rw[List.length_take,List.length_drop]; omega) (by rw[List.length_take,List.length_drop]; omega) fun v3 H3 hL3=>⟨hR _ _ (by simp) (by repeat (first | exact hm2 | apply List.mem_cons_of_mem)),?_⟩) zO;obtain⟨l3a,l3c,rfl⟩:=hL3.isSlice;refine zN (zk (Uy hL3 (by rw[List.length_append,List.length_take,List.length_drop]; omega) z 4 hz (by decide)) rfl rfl fun x3 S3 h=>?_) zO;obtain⟨H4,hL4,rfl⟩:=h;obtain⟨l4a,l4c,rfl⟩:=hL4.isSlice;refine zN (ZJ rfl rfl (jE rfl) ?_) zO;refine zJ (za (ze (z8 (yp (pI rfl) (yp (pI rfl) (yp (Zt rfl rfl (by omega)) ?_))))));refine zh (ZJ rfl rfl (u7 rfl) ?_);refine zf (za (z8 ?_));refine zh (zB rfl rfl ?_);refine yp (Zj rfl rfl (by omega)) ?_;refine zh (ZJ rfl rfl (u7 rfl) ?_);refine zf (zT ?_);refine⟨.slice l4a (Ld++(r.d.drop fr).take (x.at_-fr)++Uh 4 z.toNat).length l4c,_,H4,x.at_+x.n,a1+x.n,hL4,by omega,hrw2,?_,.of⟩;rw[←hsp];simp only[List.append_assoc];rfl
  ·rintro T ⟨vd,Ld,Hd,fr,a1,hLd,hfr,hrw,hsp,hJ⟩;refine zT (za ?_);refine zo hJ ?_;rw[List.drop_length] at hrw hsp;have hfl:fr≤r.d.length:=Nat.le_trans hfr hrw;obtain⟨lda,ldc,rfl⟩:=hLd.isSlice;have hdat:Ld++r.d.drop fr=WW r (ids.drop (2+nk)):=by
    rw[←hsp];cases(ids.drop (2+nk+(prt r.t r.d).length)).map Ui<;>rfl
   have hdl:(WW r (ids.drop (2+nk))).length≤4096:=by
    rw[←heq] at hblk;simp only[List.length_append] at hblk; omega
   have hLdl:Ld.length+(r.d.length-fr)≤4096:=by
    rw[←hdat] at hdl;simp only[List.length_append,List.length_drop] at hdl; omega
   refine ze (Z4 (Z9 rfl rfl (zi (zn rfl) (Z9 rfl rfl (Z9 rfl rfl (zi (Kq (Y:=r.d) (j:=fr) rfl rfl hfl) ?_))))));refine zN (rz (L:=Ld) (H:=Hd) rfl rfl hLd rfl (by rw[List.length_drop]; omega) (by rw[List.length_drop]; omega) fun v3 H3 hL3=>?_) zO;obtain⟨l3a,l3c,rfl⟩:=hL3.isSlice;rw[hdat] at hL3 ⊢;refine zN (ZJ rfl rfl (jE rfl) ?_) zO;refine zJ (za ?_);refine wU (R:=[[(p9,Obj.cells #[.slice l3a (WW r (ids.drop (2+nk))).length l3c] 80)]]) (by simp) (zi (pS rfl) (Z9 rfl rfl (zi (ZM rfl) (Z9 rfl rfl ?_))));refine Zf (zk (Uy hLb (by rw[←heq,List.length_append] at hblk; omega) ((WW r (ids.drop (2+nk))).length:Nat) 2 (by omega) (by decide)) rfl rfl fun x3 S3 h=>?_) zO;obtain⟨H4,hL4,rfl⟩:=h;refine⟨by simp,?_⟩;obtain⟨l4a,l4c,rfl⟩:=hL4.isSlice;have hbl4:(Lb++Uh 2 (WW r (ids.drop (2+nk))).length).length+(WW r (ids.drop (2+nk))).length≤4096:=by
    rw[←heq] at hblk;simp only[List.length_append] at hblk ⊢; omega
   refine zN (uQ (Y:=WW r (ids.drop (2+nk))) rfl rfl hL4 (hL3.src (by simp)) rfl (0:UInt8) rfl (by simp only[Int.toNat_natCast]; omega) (by simp only[Int.toNat_natCast]; omega) fun v5 H5 hL5=>?_) zO;obtain⟨l5a,l5c,rfl⟩:=hL5.isSlice;refine zi (pS rfl) (zJ (zT (za (z8 (yp (Zj rfl rfl (by omega)) (yp (pI rfl) (zf (za ?_))))))));refine⟨i+1,⟨.slice l5a _ l5c,_,H5,⟨rfl,rfl,rfl,rfl,rfl,trivial⟩,rfl,hL5,by omega,?_,?_⟩,by omega⟩
   ·rw[hnk,hts2, ←heq,List.drop_drop, ←Nat.add_assoc,Int.toNat_natCast];simp only[List.append_assoc]
   ·rw[hnk,hts2, ←Nat.add_assoc];exact .of
 ·have hni:s.rrs.drop i=[]:=List.drop_eq_nil_of_le (by omega);rw[hni,Uw,List.append_nil] at heq;refine Z0 (zI (zI (Z5 (za (ze (z8 (yp (pS rfl) (yp (pS rfl) (zf (za (zH ?_)))))))))));exact zG (rS rfl) ⟨_,.of,Hb,by rw[←heq]; exact hLb,rfl⟩
end Go.Proofs.YtekgciopamkjlaaGreat
