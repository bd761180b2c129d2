/- Sets in blocks (chapter 8): what may be, its names, its size. Sets in blocks (chapter 8): a set's names, its size. Sets in blocks (chapter 8): what a set would cost. Sets in blocks (chapter 8): a set's bytes. -/
import Derived.Test.YtekgciopamkjlaaGreatP1
import Derived.Test.YtekgciopamkjlaaGreatI1
namespace Go.Proofs.YtekgciopamkjlaaGreat
open Go.Xs
open Enc (enc)
theorem BN(a b:Bs)(ha:a.length<2 ^ 62)(hb:b.length<2 ^ 62):Tri Tryz.prog 94 #[sv a,sv b] [] (fun r S=>r= .bool (y9 a b)∧S=[]):=by
 refine Tri.forget (zn Tryz.MC (Nat.le_of_ble_eq_true rfl) ?_);unfold Tryz.NK y9;refine ze (z8 (yp pC (zf (za (ze (z8 (yp (pT rfl) ?_)))))));refine zh (zk (uy a ha) rfl rfl fun r S' h=>?_);obtain⟨rfl,rfl⟩:=h;cases WR a with
 | false=>
  refine yp (pB rfl) (Z5 rfl (Z5 rfl (yp (zU rfl rfl) (yp (pB rfl) (Z5 rfl (Z5 rfl (Z5 rfl (Z5 rfl (Z5 rfl (yp (zU rfl rfl) (yp (pB rfl) (zf (za (zL ?_))))))))))))));exact zK (rB rfl) ⟨_,.of,rfl,rfl⟩
 | true=>
  refine yp (pB rfl) (Z0 rfl (Zc (pT rfl) (Z0 rfl ?_)));refine zk (uy b hb) rfl rfl fun r S' h=>?_
  obtain⟨rfl,rfl⟩:=h;cases WR b with
  | false=>
   refine yp (zP rfl rfl) (yp (pB rfl) (Z5 rfl (Z5 rfl (Z5 rfl (Z5 rfl (Z5 rfl (yp (zU rfl rfl) (yp (pB rfl) (zf (za (zL ?_)))))))))));exact zK (rB rfl) ⟨_,.of,rfl,rfl⟩
  | true=>
   refine yp (zP rfl rfl) (yp (pB rfl) (Z0 rfl (Zc (pT rfl) (Z0 rfl ?_))));refine zk (qc a ha) rfl rfl fun r S' h=>?_
   obtain⟨rfl,rfl⟩:=h;refine Z0 rfl (Zc (pT rfl) (Z0 rfl ?_));refine zk (qc b hb) rfl rfl fun r S' h=>?_
   obtain⟨rfl,rfl⟩:=h;refine Z0 rfl (Zc (ES rfl rfl) (yp (zP rfl rfl) (yp (pB rfl) (zf (za (zL ?_))))));exact zK (rB rfl) ⟨_,.of,by
    congr 1;by_cases h:a.map low=b.map low
    ·rw[decide_eq_true (JH.2 h)]; simp[h]
    ·rw[decide_eq_false (fun h2=>h (JH.1 h2))]; simp[h],rfl⟩
/-- how long a set's texts are -/
structure kK(s:St):Prop where
 name:s.name.length<2 ^ 40
 zone:s.zone.length<2 ^ 40
 rrs:s.rrs.length<2 ^ 20
 each:∀r∈s.rrs,r.n.length<2 ^ 40∧r.d.length<2 ^ 40
abbrev Jw(s:St)(w:Value):Array Value:= #[sv s.name,.int .i64 s.typ,w,.int .i64 s.kind,sv s.zone]
abbrev jJ(b:Nat)(s:St)(w:Value):List Chunk:=[(b,.cells (Jw s w) 46)]
abbrev nY(r:RR):Array Value:= #[sv r.n,.int .i64 r.t,.int .i64 r.c,.int .i64 r.ttl,sv r.d]
theorem Bn{bs:Nat}{s:St}{w:Value}(r:RR)(h1:s.name.length<2 ^ 40)(h2:r.n.length<2 ^ 40)(h3:r.d.length<2 ^ 40):Tri Tryz.prog 93 #[.agg (nY r),.pointer (some ⟨bs,0,none⟩)] [jJ bs s w] (fun x S=>x= .bool (!UR s r)∧S=[jJ bs s w]):=by
 refine Tri.forget (zn Tryz.ME (Nat.le_of_ble_eq_true rfl) ?_);unfold Tryz.x93 UR;refine ze (z8 ?_);refine zh (Zv rfl fun p2=>?_);refine yp pC (zf (za (ze (z8 (yp (zx rfl) ?_)))));refine zh (zF rfl rfl ?_);refine yp (zx rfl) (yp (zx rfl) ?_);refine zh (zF rfl rfl ?_);refine zh (zk (BN r.n s.name (by omega) (by omega)) rfl rfl fun r' S' h=>?_);obtain⟨rfl,rfl⟩:=h;cases y9 r.n s.name with
 | false=>
  refine yp (Ze rfl) (yp (pB rfl) (Z5 rfl (Z5 rfl (Z5 rfl (Z5 rfl (Z5 rfl (Z5 rfl (yp (zP rfl rfl) (yp (pB rfl) (Z5 rfl (Z5 rfl (Z5 rfl (yp (zP rfl rfl) (yp (pB rfl) (Z5 rfl (Z5 rfl (Z5 rfl (Z5 rfl (Z5 rfl (Z5 rfl (yp (zP rfl rfl) (yp (pB rfl) (zf (za (zL ?_)))))))))))))))))))))))));exact zK (rB rfl) ⟨_,.of,rfl,rfl⟩
 | true=>
  refine yp (Ze rfl) (yp (pB rfl) (Z0 rfl (Zc (zx rfl) (Z0 rfl ?_))));refine(zF rfl rfl ?_);refine Z0 rfl (Zc (zx rfl) (Z0 rfl (Zc (zx rfl) (Z0 rfl ?_))));refine(zF rfl rfl ?_);refine Z0 rfl (Zc (UF rfl rfl) (yp (zU rfl rfl) (yp (pB rfl) ?_)));by_cases ht:r.t=s.typ
  ·rw[decide_eq_true ht];refine Z0 rfl (Zc (zx rfl) (Z0 rfl ?_));refine(zF rfl rfl ?_);refine Z0 rfl (Zc (UF rfl rfl) (yp (zU rfl rfl) (yp (pB rfl) ?_)));by_cases hc:r.c=1
   ·rw[decide_eq_true hc];refine Z0 rfl (Zc (zx rfl) (Z0 rfl ?_));refine(zF rfl rfl ?_);refine Z0 rfl (Zc (zx rfl) (Z0 rfl ?_));refine(zF rfl rfl ?_);refine Z0 rfl ?_;refine zk (JU r.t r.d h3) rfl rfl fun r' S' h=>?_
    obtain⟨rfl,rfl⟩:=h;refine Z0 rfl (Zc (Ze rfl) (yp (zU rfl rfl) (yp (pB rfl) (zf (za (zL ?_))))));exact zK (rB rfl) ⟨_,.of,by cases Zo r.t r.d<;>rfl,rfl⟩
   ·rw[decide_eq_false hc];refine Z5 rfl (Z5 rfl (Z5 rfl (Z5 rfl (Z5 rfl (Z5 rfl (yp (zP rfl rfl) (yp (pB rfl) (zf (za (zL ?_))))))))));exact zK (rB rfl) ⟨_,.of,rfl,rfl⟩
  ·rw[decide_eq_false ht];refine Z5 rfl (Z5 rfl (Z5 rfl (yp (zP rfl rfl) (yp (pB rfl) (Z5 rfl (Z5 rfl (Z5 rfl (Z5 rfl (Z5 rfl (Z5 rfl (yp (zP rfl rfl) (yp (pB rfl) (zf (za (zL ?_)))))))))))))));exact zK (rB rfl) ⟨_,.of,rfl,rfl⟩
theorem EB{S:zB}{bs:Nat}{s:St}{w v:Value}(hs:kK s)(hv:Src S v s.rrs):Tri Tryz.prog 141 #[v,.func (.func 93) #[] #[.pointer (some ⟨bs,0,none⟩)]] (jJ bs s w::S)
 (fun x S'=>∃z,x= .int .i64 z∧decide (0≤z)= !(s.rrs.all (UR s))∧S'=jJ bs s w::S):=by
 refine Tri.forget (zn Tryz.H8 (Nat.le_of_ble_eq_true rfl) ?_);unfold Tryz.Dz;obtain⟨a,c,rfl⟩:=hv.isSlice;have hrr:=hs.rrs;refine ze (z8 (yp pC (zf (za (ze (ze (z8 (yp (pS rfl) (yp (Zz rfl) (yp pC (zf (za (zo ?_)))))))))))));refine Z4 (σ:=Nat) (fun i E S'=>Has E [(0,.slice a s.rrs.length c),(1,.func (.func 93) #[] #[.pointer (some ⟨bs,0,none⟩)]),(7,.int .i64 (s.rrs.length:Int)),(8,.int .i64 (i:Int))]∧(i≤s.rrs.length∧∀r∈s.rrs.take i,UR s r=true)∧zG S' (jJ bs s w::S)) (fun i=>s.rrs.length-i) 0
  ⟨⟨rfl,rfl,rfl,rfl,trivial⟩,⟨Nat.zero_le _,fun r h=>by simp at h⟩,.of⟩ fun i E S' ⟨hE,⟨hi,hall⟩,hJ⟩=>?_
 obtain⟨E0,e0⟩:=zl hE; subst e0; clear hE;refine zm hJ (ze (z8 (yp (ZL rfl rfl) (zf (za (ze ?_))))));refine zO rfl (fun h=>?_) (fun h=>?_)
 ·have hlt:i<s.rrs.length:=by omega
  obtain⟨b,o,ca,ty,fz,rfl,_,hmem,_,hg⟩:=hv.get (by intro h; simp[h] at hlt);have hge:=hg i hlt;have hr:=List.getElem_mem hlt;have hts:s.rrs.take (i+1)=s.rrs.take i++[s.rrs[i]]:=List.take_succ_eq_append_getElem hlt;generalize s.rrs[i]=r at hge hr hts;obtain⟨hn,hd⟩:=hs.each r hr;refine zq (za (ze (zo (ze (z8 (yp (pI rfl) (yp (pI rfl) (zf (za (ze (z8 (yp (pF rfl) (yp (pS rfl) (yp (pI rfl) (yp (zN rfl rfl (by omega)) ?_)))))))))))))));refine zh (UG (S:=jJ bs s w::S) (l:=enc r) (List.mem_cons_of_mem _ hmem) rfl hge rfl ?_)
  skip
  refine zh (zk (Bn (s:=s) (w:=w) r hs.name hn hd) rfl rfl fun r' S' h=>?_);obtain⟨rfl,rfl⟩:=h;cases hok:UR s r with
  | false=>
   refine zf (za (zI rfl (ze (z8 (yp (pI rfl) (yp (pI rfl) (zf (za (zL (bret (zX (zX (bret (zX ?_))))))))))))));refine zK (rI rfl) ⟨_,.of,_,rfl,?_,rfl⟩;rw[decide_eq_true (by omega)];cases ha:s.rrs.all (UR s) with
   | false=>rfl
   | true=>have:=List.all_eq_true.1 ha r hr; rw[hok] at this; cases this
  | true=>
   refine zf (za (zw rfl (zq (zT (za (z8 (yp (Za rfl rfl (by omega)) (yp (pI rfl) (zf (za ?_))))))))));refine⟨i+1,⟨⟨rfl,rfl,rfl,rfl,trivial⟩,⟨by omega,fun x hx=>?_⟩,.of⟩,by omega⟩;rw[hts] at hx;rcases List.mem_append.1 hx with hx | hx
   ·exact hall x hx
   ·rw[List.mem_singleton.1 hx]; exact hok
 ·refine zV (zy (zy (zW (za (ze (z8 (yp pC (zf (za (zL ?_))))))))));refine zK (rI rfl) ⟨_,.of,_,rfl,?_,rfl⟩;have:s.rrs.all (UR s)=true:=List.all_eq_true.2 fun r hr=>hall r (by rw[List.take_of_length_le (by omega)]; exact hr)
  rw[this]; rfl
theorem ED{S:zB}{bs:Nat}{s:St}{w v:Value}(hs:kK s)(hv:Src S v s.rrs):Tri Tryz.prog 92 #[v,.func (.func 93) #[] #[.pointer (some ⟨bs,0,none⟩)]] (jJ bs s w::S)
 (fun x S'=>x= .bool (!(s.rrs.all (UR s)))∧S'=jJ bs s w::S):=by
 refine Tri.forget (zn Tryz.MF (Nat.le_of_ble_eq_true rfl) ?_);unfold Tryz.NM;obtain⟨a,c,rfl⟩:=hv.isSlice;refine ze (z8 (yp pC (zf (za (ze (z8 (yp (pS rfl) (yp (pF rfl) ?_))))))));refine zh (zk (EB (bs:=bs) (w:=w) hs hv) rfl rfl fun r' S' h=>?_);obtain⟨z,rfl,hz,rfl⟩:=h;refine yp (U9 rfl rfl) (yp (pB rfl) (zf (za (zL ?_))));exact zK (rB rfl) ⟨_,.of,by rw[hz],rfl⟩
theorem EA{S:zB}{s:St}{v:Value}(hs:kK s)(hv:Src S v s.rrs):Tri Tryz.prog 50 #[.agg (Jw s v)] S (fun x S'=>x= .bool (WK s)∧S'=S):=by
 refine Tri.forget (zn Tryz.Nf (Nat.le_of_ble_eq_true rfl) ?_);unfold Tryz.Og WK;have hno:∀{x:Value} {b:Bool} {S':zB},b=false→x= .bool false→zG S' S→∃S'',zG S' S''∧x= .bool b∧S''=S:=fun h1 h2 h3=>⟨S,h3,by rw[h1,h2],rfl⟩
 refine ze (z8 ?_);refine zh (Zv rfl fun p1=>?_);refine yp pC (zf (za (ze (ze (z8 (yp (zx rfl) (yp (zx rfl) ?_)))))));refine zh (zF rfl rfl ?_);refine zh (zk (uy s.name (by have:=hs.name; omega)) rfl rfl fun r' S' h=>?_);obtain⟨rfl,rfl⟩:=h;cases WR s.name with
 | false=>
  refine yp (Ze rfl) (yp (pB rfl) (Z5 rfl (Z5 rfl (Z5 rfl (Z5 rfl (yp (zP rfl rfl) (yp (pB rfl) (Z5 rfl (Z5 rfl (Z5 rfl (Z5 rfl (yp (zP rfl rfl) (yp (pB rfl) (Z5 rfl (Z5 rfl (Z5 rfl (Z5 rfl (yp (zP rfl rfl) (yp (pB rfl) (Z5 rfl (Z5 rfl (Z5 rfl (yp (zP rfl rfl) (yp (pB rfl) (Z5 rfl (Z5 rfl (Z5 rfl (yp (zP rfl rfl) (zf (za (zI rfl (ze (z8 (yp pC (zf (za (zL (zX ?_))))))))))))))))))))))))))))))))))))));exact zK (rB rfl) (hno rfl rfl .of)
 | true=>
 refine yp (Ze rfl) (yp (pB rfl) (Z0 rfl (Zc (zx rfl) (Z0 rfl ?_))));refine(zF rfl rfl ?_);refine Z0 rfl ?_;refine zk (uy s.zone (by have:=hs.zone; omega)) rfl rfl fun r' S' h=>?_
 obtain⟨rfl,rfl⟩:=h;cases WR s.zone with
 | false=>
  refine Z0 rfl (Zc (Ze rfl) (yp (zU rfl rfl) (yp (pB rfl) (Z5 rfl (Z5 rfl (Z5 rfl (Z5 rfl (yp (zP rfl rfl) (yp (pB rfl) (Z5 rfl (Z5 rfl (Z5 rfl (Z5 rfl (yp (zP rfl rfl) (yp (pB rfl) (Z5 rfl (Z5 rfl (Z5 rfl (yp (zP rfl rfl) (yp (pB rfl) (Z5 rfl (Z5 rfl (Z5 rfl (yp (zP rfl rfl) (zf (za (zI rfl (ze (z8 (yp pC (zf (za (zL (zX ?_))))))))))))))))))))))))))))))))));exact zK (rB rfl) (hno rfl rfl .of)
 | true=>
 refine Z0 rfl (Zc (Ze rfl) (yp (zU rfl rfl) (yp (pB rfl) (Z0 rfl (Zc (zx rfl) (Z0 rfl (Zc (zx rfl) (Z0 rfl ?_))))))));refine(zF rfl rfl ?_);refine Z0 rfl (Zc (ZL rfl rfl) (yp (zU rfl rfl) (yp (pB rfl) ?_)));by_cases h1:s.typ<1
 ·rw[decide_eq_true h1];refine Z5 rfl (Z5 rfl (Z5 rfl (Z5 rfl (yp (zP rfl rfl) (yp (pB rfl) (Z5 rfl (Z5 rfl (Z5 rfl (yp (zP rfl rfl) (yp (pB rfl) (Z5 rfl (Z5 rfl (Z5 rfl (yp (zP rfl rfl) (zf (za (zI rfl (ze (z8 (yp pC (zf (za (zL (zX ?_))))))))))))))))))))))));exact zK (rB rfl) (hno (by rw[decide_eq_false (by omega)]; simp) rfl .of)
 rw[decide_eq_false h1];refine Z0 rfl (Zc (zx rfl) (Z0 rfl (Zc (zx rfl) (Z0 rfl ?_))));refine(zF rfl rfl ?_);refine Z0 rfl (Zc (VE rfl rfl) (yp (zU rfl rfl) (yp (pB rfl) ?_)));by_cases h2:65535<s.typ
 ·rw[decide_eq_true h2];refine Z5 rfl (Z5 rfl (Z5 rfl (yp (zP rfl rfl) (yp (pB rfl) (Z5 rfl (Z5 rfl (Z5 rfl (yp (zP rfl rfl) (zf (za (zI rfl (ze (z8 (yp pC (zf (za (zL (zX ?_))))))))))))))))));exact zK (rB rfl) (hno (by rw[decide_eq_false (by omega)]; simp) rfl .of)
 rw[decide_eq_false h2];refine Z0 rfl (Zc (zx rfl) (Z0 rfl ?_));refine(zF rfl rfl ?_);refine Z0 rfl (Zc (ZL rfl rfl) (yp (zU rfl rfl) (yp (pB rfl) ?_)));by_cases h3:s.kind<0
 ·rw[decide_eq_true h3];refine Z5 rfl (Z5 rfl (Z5 rfl (yp (zP rfl rfl) (zf (za (zI rfl (ze (z8 (yp pC (zf (za (zL (zX ?_)))))))))))));exact zK (rB rfl) (hno (by rw[decide_eq_false (show ¬(1≤s.typ∧s.typ≤65535∧0≤s.kind∧s.kind≤2) from by omega)]; simp) rfl .of)
 rw[decide_eq_false h3];refine Z0 rfl (Zc (zx rfl) (Z0 rfl ?_));refine(zF rfl rfl ?_);refine Z0 rfl (Zc (VE rfl rfl) (yp (zU rfl rfl) (zf (za ?_))));by_cases h4:2<s.kind
 ·rw[decide_eq_true h4];refine zI rfl (ze (z8 (yp pC (zf (za (zL (zX ?_)))))));exact zK (rB rfl) (hno (by rw[decide_eq_false (show ¬(1≤s.typ∧s.typ≤65535∧0≤s.kind∧s.kind≤2) from by omega)]; simp) rfl .of)
 rw[decide_eq_false h4,decide_eq_true (show 1≤s.typ∧s.typ≤65535∧0≤s.kind∧s.kind≤2 from by omega)];obtain⟨a,c,rfl⟩:=hv.isSlice;refine zw rfl (zq (za (ze (ze (z8 (yp (zx rfl) ?_))))));refine zh (zF rfl rfl ?_);refine yp (Zz rfl) (yp (VE rfl rfl) (yp (pB rfl) ?_));by_cases h5:32<(s.rrs.length:Int)
 ·rw[decide_eq_true h5];refine Z5 rfl (Z5 rfl (Z5 rfl (Z5 rfl (Z5 rfl (Z5 rfl (Z5 rfl (Z5 rfl (yp (zP rfl rfl) (zf (za (zI rfl (ze (z8 (yp pC (zf (za (zL (zX ?_))))))))))))))))));exact zK (rB rfl) (hno (by rw[decide_eq_false (show ¬s.rrs.length≤32 from by omega)]; simp) rfl .of)
 rw[decide_eq_false h5,decide_eq_true (show s.rrs.length≤32 from by omega)];refine Z0 rfl (Zc (zx rfl) (Z0 rfl ?_));refine(zF rfl rfl ?_);refine Z0 rfl (Zc (Zz rfl) (Z0 rfl (Zc (VE rfl rfl) (Z0 rfl (Zc (zx rfl) (Z0 rfl ?_))))));refine(zF rfl rfl ?_);refine Z0 rfl (Zc (WB rfl rfl) (Z0 rfl (Zc (EP rfl rfl) (yp (zU rfl rfl) (zf (za ?_))))));rw[show decide (0<(s.rrs.length:Int))=decide (0<s.rrs.length) from decide_eq_decide.2 (by omega)];cases h6:(decide (0<s.rrs.length)==decide (s.kind=0)) with
 | false=>
  refine zI rfl (ze (z8 (yp pC (zf (za (zL (zX ?_)))))));exact zK (rB rfl) (hno rfl rfl .of)
 | true=>
 refine zw rfl (zq (za (ze (z8 (yp (zx rfl) ?_)))));refine zh (zF rfl rfl ?_);refine yp (gQ (jI rfl)) ?_;refine zh (zk (ED (w:= .slice a s.rrs.length c) hs hv) rfl rfl fun r' S' h=>?_);obtain⟨rfl,rfl⟩:=h;refine yp (Ze rfl) (yp (pB rfl) (zf (za (zL ?_))));exact zK (rB rfl) ⟨_,.of,by cases s.rrs.all (UR s)<;>rfl,rfl⟩
def bss(l:List Bs):List ByteArray:=l.map fun Y=>⟨Y.toArray⟩
theorem uI(l:List Bs):(bss l).length=l.length:=by unfold bss; simp
theorem qV(l m:List Bs):bss (l++m)=bss l++bss m:=by unfold bss; simp
theorem UZ:∀(l:List RR),((l.map Zw).flatten).length≤2*l.length
 | []=>Nat.le_refl _
 | r::l=>by
  have h:=UZ l;have h2:(Zw r).length≤2:=by
   unfold Zw prt;rw[List.length_map];split
   ·cases hp:xW r.t r.d with
    | none=>simp
    | some x=>exact Kl hp
   ·simp
  rw[List.map_cons,List.flatten_cons,List.length_append,List.length_cons]; omega
/-- the names of the first i records, and of the next one's first k -/
theorem yx{l:List RR}{i:Nat}(h:i<l.length):((l.take (i+1)).map Zw).flatten=((l.take i).map Zw).flatten++Zw l[i]:=by
 rw[List.take_succ_eq_append_getElem h,List.map_append,List.flatten_append]; simp
theorem Qz{S:zB}{s:St}{v:Value}(hs:kK s)(hv:Src S v s.rrs):Tri Tryz.prog 54 #[.agg (Jw s v)] S (fun x S'=>∃H,Zf 9 x (bss (Zb s)) H∧S'=H::S):=by
 refine Tri.forget (zn Tryz.Na (Nat.le_of_ble_eq_true rfl) ?_);unfold Tryz.Oc;obtain⟨a,c,rfl⟩:=hv.isSlice;have hrr:=hs.rrs;refine ze (z8 ?_);refine zh (Zv rfl fun p1=>?_);refine yp pC (zf (za (ze (z8 (yp (zx rfl) (yp (zx rfl) ?_))))));refine zh (zF rfl rfl ?_);refine yp (zx rfl) ?_;refine zh (zF rfl rfl ?_);refine zh (mY (l:=[sv s.name,sv s.zone]) rfl (by decide) (by decide) (by decide) rfl fun p13=>?_);refine zh (Z8 fun p3=>?_);refine zh (ZO rfl rfl (Ke rfl) ?_);refine zf (za (ze (ze (z8 (yp (zx rfl) ?_)))));refine zh (zF rfl rfl ?_);refine yp (Zz rfl) (yp pC (zf (za (zo ?_))));have h0:Zf 9 (.slice (some ⟨p13,0,none⟩) 2 2) (bss (s.name::s.zone::((s.rrs.take 0).map Zw).flatten)) [(p13,.cells [sv s.name,sv s.zone].toArray 9)]:=Zf.full (L:=bss [s.name,s.zone]) rfl;refine Z4 (σ:=Nat) (fun i E S'=>∃vo Ho,Has E [(3,.pointer (some ⟨p3,0,none⟩)),(15,.slice a s.rrs.length c),(16,.int .i64 (s.rrs.length:Int)),(17,.int .i64 (i:Int))]∧i≤s.rrs.length∧Zf 9 vo (bss (s.name::s.zone::((s.rrs.take i).map Zw).flatten)) Ho∧zG S' (Ho::[(p3,.cells #[vo] 87)]::S)) (fun i=>s.rrs.length-i) 0
  ⟨_,_,⟨rfl,rfl,rfl,rfl,trivial⟩,Nat.zero_le _,h0,.of⟩ fun i E S' ⟨vo,Ho,hE,hi,hL,hJ⟩=>?_
 obtain⟨E0,e0⟩:=zl hE; subst e0; clear hE;refine zm hJ ?_;obtain⟨la,lc,rfl⟩:=hL.isSlice;refine ze (z8 (yp (ZL rfl rfl) (zf (za (ze ?_)))));refine zO rfl (fun h=>?_) (fun h=>?_)
 ·have hlt:i<s.rrs.length:=by omega
  obtain⟨b,o,ca,ty,fz,rfl,_,hmem,_,hg⟩:=hv.get (by intro h; simp[h] at hlt);have hge:=hg i hlt;have hr:=List.getElem_mem hlt;have hts:=yx hlt;have hnl:=UZ (s.rrs.take i);have hil:(s.rrs.take i).length=i:=by rw[List.length_take]; omega
  generalize s.rrs[i]=r at hge hr hts;obtain⟨hn,hd⟩:=hs.each r hr;refine zq (za (ze (zo (ze (z8 (yp (zN rfl rfl (by omega)) ?_))))));refine zh (UG (S:=Ho::[(p3,.cells #[.slice la (bss (s.name::s.zone::((s.rrs.take i).map Zw).flatten)).length lc] 87)]::S) (l:=enc r) (List.mem_cons_of_mem _ (List.mem_cons_of_mem _ hmem)) rfl hge rfl ?_);refine zh (Z8 fun p5=>?_);refine zh (vQ (c':=[sv r.n,.int .i64 r.t,.int .i64 r.c,.int .i64 r.ttl,sv r.d]) rfl rfl rfl rfl rfl ?_);refine zf (za (ze (z8 (yp (zx rfl) ?_))));refine zh (zF rfl rfl ?_);refine yp (zx rfl) ?_;refine zh (zF rfl rfl ?_);refine zh (zk (Kj r.t r.d) rfl rfl fun r' S' h=>?_);obtain⟨bt,bd,rfl,rfl⟩:=h;refine zf (za (zo ?_));refine kR (t:=r.t) (d:=r.d) (S:=[(p5,.cells (nY r) 89)]::Ho::[(p3,.cells #[.slice la (bss (s.name::s.zone::((s.rrs.take i).map Zw).flatten)).length lc] 87)]::S)
   (fun k T=>∃vo Ho,Zf 9 vo (bss (s.name::s.zone::((s.rrs.take i).map Zw).flatten++(Zw r).take k)) Ho∧zG T ([(p5,.cells (nY r) 89)]::Ho::[(p3,.cells #[vo] 87)]::S)) rfl rfl hd ⟨_,Ho,by rw[List.take_zero,List.append_nil]; exact hL,.self⟩ ?_ ?_
  ·rintro l k x T hx ⟨vo,Ho,hL,hJ⟩;obtain⟨hv1,hv2,hv3⟩:=XB (List.mem_of_getElem? hx);obtain⟨la2,lc2,rfl⟩:=hL.isSlice;have hkl:=(List.getElem?_eq_some_iff.1 hx).1;have htk:(Zw r).take (k+1)=(Zw r).take k++[uX r.d x]:=by
    unfold Zw;rw[←List.map_take, ←List.map_take,List.take_add_one,hx]; simp
   have hlen:(bss (s.name::s.zone::((s.rrs.take i).map Zw).flatten++(Zw r).take k)).length≤2 ^ 22+2:=by
    have h1:=UZ (s.rrs.take (i+1));rw[hts,List.length_append,List.length_take] at h1;rw[uI,List.cons_append,List.cons_append,List.length_cons,List.length_cons,List.length_append,List.length_take];omega
   refine zm hJ (ze (z8 (yp (pI rfl) (zf (za (z8 (yp (pI rfl) (zf (za (zo (zY (Zd rfl rfl (zi (zx rfl) (Zd rfl rfl (zi (pI rfl) (zi (pI rfl) (zi (pI rfl) (zi (Zi rfl rfl (by omega)) (zi (sG (Y:=r.d) (j:=x.at_) (k:=x.at_+x.n) rfl rfl rfl ⟨by omega,hv3⟩) ?_)))))))))))))))))));rw[show x.at_+x.n-x.at_=x.n from by omega];refine Zm (Ve (⟨(uX r.d x).toArray⟩:ByteArray) rfl rfl (by decide) (by decide) rfl fun p36=>⟨fun _ hs=>List.mem_cons_of_mem _ hs,?_⟩) zM;refine zH (VL (Y:=[(⟨(uX r.d x).toArray⟩:ByteArray)]) rfl rfl hL (.lit (by repeat (first | exact List.mem_cons_self | apply List.mem_cons_of_mem)) rfl) rfl (⟨#[]⟩:ByteArray) rfl (by rw[List.length_singleton]; omega) (by rw[List.length_singleton]; omega) fun v2 H2 hL2=>?_) zM;obtain⟨la3,lc3,rfl⟩:=hL2.isSlice;refine zH (ZO rfl rfl (Ke rfl) ?_) zM;refine zD (zT ?_);exact⟨.slice la3 (bss (s.name::s.zone::((s.rrs.take i).map Zw).flatten++(Zw r).take k)++[(⟨(uX r.d x).toArray⟩:ByteArray)]).length lc3,H2,by rw[htk, ←List.append_assoc,qV _ [uX r.d x]]; exact hL2,.of⟩
  ·rintro T ⟨vo,Ho,hL,hJ⟩;have hkt:(Zw r).take (prt r.t r.d).length=Zw r:=List.take_of_length_le (by unfold Zw; rw[List.length_map]; exact Nat.le_refl _);rw[hkt,List.cons_append,List.cons_append, ←hts] at hL;refine zT (zT (za ?_));refine zm hJ (z8 (yp (Za rfl rfl (by omega)) (yp (pI rfl) (zf (za ?_)))));exact⟨i+1,⟨vo,Ho,⟨rfl,rfl,rfl,rfl,trivial⟩,by omega,hL,.of⟩,by omega⟩
 ·refine zV (zy (zy (zW (za (ze (z8 ?_))))));refine zh (zF rfl rfl ?_);refine yp (pS rfl) (zf (za (zL ?_)));have hni:s.rrs.take i=s.rrs:=List.take_of_length_le (by omega);have hfin:bss (Zb s)=bss (s.name::s.zone::((s.rrs.take i).map Zw).flatten):=by unfold Zb; rw[hni]
  exact zK (rS rfl) ⟨_,.of,Ho,by rw[hfin]; exact hL,rfl⟩
theorem aT{l:List Int}{i:Nat}(h:i<l.length):wV (l.take (i+1))=wV (l.take i)+l[i]:=by
 rw[List.take_succ_eq_append_getElem h,Xi];show _+(l[i]+0)=_; omega
theorem Qt{t:Int}{d:Bs}(k:Nat): -(255*(k:Int))≤wV (((prt t d).take k).map fun p=>4-(p.n:Int))∧wV (((prt t d).take k).map fun p=>4-(p.n:Int))≤4*(k:Int):=by
 have key:∀(l:List Pl) (k:Nat),(∀p∈l,p.n≤255)→ -(255*(k:Int))≤wV ((l.take k).map fun p=>4-(p.n:Int))∧wV ((l.take k).map fun p=>4-(p.n:Int))≤4*(k:Int):=by
  intro l
  induction l with
  | nil=>intro k _; rw[List.take_nil]; show-(255*(k:Int))≤0∧(0:Int)≤4*(k:Int); omega
  | cons p l ih=>
   intro k h;cases k with
   | zero=>show-(255*((0:Nat):Int))≤0∧(0:Int)≤4*((0:Nat):Int); omega
   | succ k=>
    have:=ih k fun q hq=>h q (List.mem_cons_of_mem _ hq)
    have h1:=h p (by simp);rw[List.take_succ_cons,List.map_cons,V9]
    push_cast
    omega
 refine key _ k fun p hp=>?_
 obtain⟨h1,h2,_⟩:=XB hp;have:=Ww h1;omega
theorem Qv(t:Int)(d:Bs):(prt t d).length≤2:=by
 unfold prt;split
 ·cases hp:xW t d with
  | none=>simp
  | some x=>exact Kl hp
 ·simp
theorem fA{s:St}(hm:WK s=true)(i:Nat):0≤wV ((s.rrs.map WH).take i)∧wV ((s.rrs.map WH).take i)≤1100*(i:Int):=by
 have key:∀(l:List RR) (i:Nat),(∀r∈l,Zo r.t r.d=true)→0≤wV ((l.map WH).take i)∧wV ((l.map WH).take i)≤1100*(i:Int):=by
  intro l
  induction l with
  | nil=>intro i _; rw[List.map_nil,List.take_nil]; show(0:Int)≤0∧(0:Int)≤1100*(i:Int); omega
  | cons r l ih=>
   intro i h;cases i with
   | zero=>show(0:Int)≤0∧(0:Int)≤1100*((0:Nat):Int); omega
   | succ i=>
    have:=ih i fun q hq=>h q (List.mem_cons_of_mem _ hq)
    have h1:=h r (by simp);have h2:=nN h1;have h3:=wX h1;have h4:=(Qt (t:=r.t) (d:=r.d) (prt r.t r.d).length).2;have h5:=Qv r.t r.d;rw[List.take_length] at h4;have h6:WH r≤1100:=by unfold WH; omega
    rw[List.map_cons,List.take_succ_cons,V9]
    push_cast
    omega
 exact key _ i fun r hr=>(WC hm r hr).1
set_option maxRecDepth 10000 in
theorem Ko{S:zB}{s:St}{v:Value}(hs:kK s)(hv:Src S v s.rrs):Tri Tryz.prog 15 #[.agg (Jw s v)] S (fun x S'=>x= .tuple #[.int .i64 (xU s),.int .i64 (wh s)]∧S'=S):=by
 refine Tri.forget (zn Tryz.Nw (Nat.le_of_ble_eq_true rfl) ?_);unfold Tryz.Ov;obtain⟨a,c,rfl⟩:=hv.isSlice;have hrr:=hs.rrs;refine ze (z8 ?_);refine zh (Zv rfl fun p1=>?_);refine yp pC (yp pC (zf (za (ze (ze (z8 ?_))))));refine zh (wB (l:=[sv s.name,.int .i64 s.typ,.slice a s.rrs.length c,.int .i64 s.kind,sv s.zone]) rfl rfl rfl ?_);refine zh (zk (EA hs hv) rfl rfl fun r' S' h=>?_);obtain⟨rfl,hSS⟩:=h;have hSS:=hSS.symm;subst hSS;cases hm:WK s with
 | false=>
  have hE:wh s=1:=by unfold wh; rw[if_pos hm]
  have hZ:xU s=0:=by unfold xU; rw[hE,if_neg (by decide)]
  refine yp (Ze rfl) (zf (za (zI rfl (ze (z8 (yp pC (yp pC (zf (za (zL (zX ?_)))))))))));exact zK (Ya rfl rfl) ⟨_,.of,by rw[hE,hZ],rfl⟩
 | true=>
 have hE0:wh s=if 4096<Zp s then 3 else 0:=by unfold wh; rw[if_neg (by rw[hm]; decide)]
 have hbd:=fA hm;have hlen32:=(VY hm).2.2.2.2.2.2.1;refine yp (Ze rfl) (zf (za (zw rfl (zq (za (ze (z8 ?_)))))));refine zh (Z8 fun p4=>?_);refine zh (ZO rfl rfl (uM rfl) ?_);refine zf (za (ze (ze (z8 (yp (zx rfl) ?_)))));refine zh (zF rfl rfl ?_);refine yp (Zz rfl) (yp pC (zf (za (zo ?_))));refine Z4 (σ:=Nat) (fun i E S'=>Has E [(4,.pointer (some ⟨p4,0,none⟩)),(13,.slice a s.rrs.length c),(14,.int .i64 (s.rrs.length:Int)),(15,.int .i64 (i:Int))]∧i≤s.rrs.length∧zG S' ([(p4,.cells #[.int .i64 (16+wV ((s.rrs.map WH).take i))] 3)]::S)) (fun i=>s.rrs.length-i) 0
  ⟨⟨rfl,rfl,rfl,rfl,trivial⟩,Nat.zero_le _,by rw[show(16:Int)+wV ((s.rrs.map WH).take 0)=16 from rfl]; exact .of⟩ fun i E S' ⟨hE,hi,hJ⟩=>?_
 obtain⟨E0,e0⟩:=zl hE; subst e0; clear hE;refine zm hJ ?_;have hbi:=hbd i;refine ze (z8 (yp (ZL rfl rfl) (zf (za (ze ?_)))));refine zO rfl (fun h=>?_) (fun h=>?_)
 ·have hlt:i<s.rrs.length:=by omega
  obtain⟨b,o,ca,ty,fz,rfl,_,hmem,_,hg⟩:=hv.get (by intro h; simp[h] at hlt);have hge:=hg i hlt;have hr:=List.getElem_mem hlt;have hts:=aT (l:=s.rrs.map WH) (i:=i) (by rw[List.length_map]; exact hlt);rw[List.getElem_map] at hts;generalize s.rrs[i]=r at hge hr hts;obtain⟨hn,hd⟩:=hs.each r hr;have hd1000:=wX (WC hm r hr).1;generalize wV ((s.rrs.map WH).take i)=A at hts hbi;refine zq (za (ze (zo (ze (z8 (yp (zN rfl rfl (by omega)) ?_))))));refine zh (UG (S:=[(p4,.cells #[.int .i64 (16+A)] 3)]::S) (l:=enc r) (List.mem_cons_of_mem _ hmem) rfl hge rfl ?_);refine zh (Z8 fun p6=>?_);refine zh (vQ (c':=[sv r.n,.int .i64 r.t,.int .i64 r.c,.int .i64 r.ttl,sv r.d]) rfl rfl rfl rfl rfl ?_);refine zf (za (ze (z8 ?_)));refine zh (zF rfl rfl ?_);refine yp (zx rfl) ?_;refine zh (zF rfl rfl ?_);refine yp (uU rfl) ?_;rw[Qm];refine yp (Vo rfl rfl (by omega)) (yp (Vo rfl rfl (by omega)) ?_);refine zh (ZO rfl rfl (uM rfl) ?_);refine zf (za (ze (z8 (yp (zx rfl) ?_))));refine zh (zF rfl rfl ?_);refine yp (zx rfl) ?_;refine zh (zF rfl rfl ?_);refine zh (zk (Kj r.t r.d) rfl rfl fun r' S' h=>?_);obtain⟨bt,bd,rfl,rfl⟩:=h;refine zf (za (zo ?_));refine kR (t:=r.t) (d:=r.d) (S:=[(p4,.cells #[.int .i64 (16+A+(2+(r.d.length:Int)))] 3)]::S)
   (fun k T=>zG T ([(p4,.cells #[.int .i64 (16+A+(2+(r.d.length:Int))+wV (((prt r.t r.d).take k).map fun p=>4-(p.n:Int)))] 3)]::S)) rfl rfl hd ?_ ?_ ?_
  ·rw[List.take_zero,List.map_nil,show wV []=0 from rfl,Int.add_zero]; exact .self
  ·rintro l k x T hx hJ;have hk2:=Qt (t:=r.t) (d:=r.d) k;obtain⟨hv1,hv2,hv3⟩:=XB (List.mem_of_getElem? hx);have h255:=Ww hv1;have hkl:=(List.getElem?_eq_some_iff.1 hx).1;have hpl:=Qv r.t r.d;have hst:wV (((prt r.t r.d).take (k+1)).map fun p=>4-(p.n:Int))=wV (((prt r.t r.d).take k).map fun p=>4-(p.n:Int))+(4-(x.n:Int)):=by
    rw[List.take_add_one,hx,List.map_append,Xi];show _+((4-(x.n:Int))+0)=_; omega
   show Y _ _ _ _ (VO (fun E1 S1=>Y _ _ _ _ (Kh (fun _ S'=>zG S' _) _ _) E1 S1) _) _ _;rw[hst];generalize wV (((prt r.t r.d).take k).map fun p=>4-(p.n:Int))=B at hJ hk2;refine zm hJ (z8 (yp (pI rfl) (zf (za (zo (z8 ?_))))));refine zh (zF rfl rfl ?_);refine yp (pI rfl) (yp (Zt rfl rfl (by omega)) (yp (Vo rfl rfl (by omega)) ?_));refine zh (ZO rfl rfl (uM rfl) ?_);refine zf (zT ?_);rw[show 16+A+(2+(r.d.length:Int))+(B+(4-(x.n:Int)))=16+A+(2+(r.d.length:Int))+B+(4-(x.n:Int)) from by omega];exact .of
  ·rintro T hJ;rw[List.take_length] at hJ;have hsz:16+A+(2+(r.d.length:Int))+wV ((prt r.t r.d).map fun p=>4-(p.n:Int))=16+wV ((s.rrs.map WH).take (i+1)):=by rw[hts]; unfold WH; omega
   rw[hsz] at hJ;refine zT (zT (za ?_));refine zm hJ (z8 (yp (Za rfl rfl (by omega)) (yp (pI rfl) (zf (za ?_)))));exact⟨i+1,⟨⟨rfl,rfl,rfl,rfl,trivial⟩,by omega,.of⟩,by omega⟩
 ·have hni:(s.rrs.map WH).take i=s.rrs.map WH:=List.take_of_length_le (by rw[List.length_map]; omega);have hsz:16+wV ((s.rrs.map WH).take i)=Zp s:=by rw[hni]; rfl
  rw[hsz];refine zV (zy (zy (zW (za (ze (ze (z8 ?_)))))));refine zh (zF rfl rfl ?_);refine yp (VE rfl rfl) (zf (za ?_));by_cases h4:4096<Zp s
  ·rw[if_pos h4] at hE0;have hZ:xU s=0:=by unfold xU; rw[hE0,if_neg (by decide)]
   rw[decide_eq_true h4];refine zI rfl (ze (z8 (yp pC (yp pC (zf (za (zL (zX ?_))))))));exact zK (Ya rfl rfl) ⟨_,.of,by rw[hE0,hZ],rfl⟩
  ·rw[if_neg h4] at hE0;have hZ:xU s=Zp s:=by unfold xU; rw[hE0,if_pos rfl]
   rw[decide_eq_false h4];refine zw rfl (zq (za (ze (z8 ?_))));refine zh (zF rfl rfl ?_);refine yp (pI rfl) (yp pC (zf (za (zL ?_))));exact zK (Ya rfl rfl) ⟨_,.of,by rw[hE0,hZ],rfl⟩
theorem dZ:Tryz.prog.underlying 107=some (.map 9 4):=by kernel_rfl
def qg(l:List Bs):ByteArray→Option Bool:=fun s=>if s.data.toList∈l then some true else none
theorem iA:(fun _:ByteArray=>(none:Option Bool))=qg []:=by funext s; simp[qg]
theorem bC(l:List Bs)(n:Bs):wT (qg l) (⟨n.toArray⟩:ByteArray) (some true)=qg (n::l):=by
 funext s;unfold wT qg;by_cases h:s=⟨n.toArray⟩
 ·rw[if_pos h,if_pos (by rw[h]; simp)]
 ·rw[if_neg h];have:s.data.toList∈n::l↔s.data.toList∈l:=by
   rw[List.mem_cons];exact⟨fun h2=>h2.resolve_left fun e=>h ((yY s n).2 e),.inr⟩
  simp only[this]
def uY(L:List Nm)(s:St):Int:=if wh s=0 then cost (Zp s)+(wL L [] (Zb s):Nat) else 0
theorem Jc(k:Nat):zZ k≤8192:=by
 unfold zZ
 (repeat' split)<;>omega
theorem Jd(L:List Nm):∀(l s:List Bs),wL L s l≤8192*l.length
 | [],_=>Nat.le_refl _
 | n::l,s=>by
  have h1:=Jd L l (zC n::s);have h2:=Jc (8+n.length);unfold wL;rw[List.length_cons];split<;>omega
theorem VT(s:St):(Zb s).length≤2+2*s.rrs.length:=by
 have:=UZ s.rrs;unfold Zb;rw[List.length_cons,List.length_cons]; omega
set_option maxRecDepth 10000 in
theorem Bp{S:zB}{s:St}{v:Value}{tb ab:Nat}{L:List Nm}{T:List Chunk}(hT:Tb tb ab L T)(hs:kK s)(hv:Src S v s.rrs):Tri Tryz.prog 17 #[.pointer (some ⟨tb,0,none⟩),.agg (Jw s v)] (T::S) (fun x S'=>x= .int .i64 (uY L s)∧S'=T::S):=by
 refine Tri.forget (zn Tryz.Nv (Nat.le_of_ble_eq_true rfl) ?_);unfold Tryz.Ot;obtain⟨a,c,rfl⟩:=hv.isSlice;refine ze (z8 ?_);refine zh (Zv rfl fun p3=>?_);refine yp pC (zf (za (ze (z8 ?_))));refine zh (wB (l:=[sv s.name,.int .i64 s.typ,.slice a s.rrs.length c,.int .i64 s.kind,sv s.zone]) rfl rfl rfl ?_);refine zh (zk (Ko hs hv) rfl rfl fun r' S' h=>?_);obtain⟨rfl,hSS⟩:=h;have hSS:=hSS.symm;subst hSS;refine yp (pU rfl) (yp (pExt rfl rfl) (yp (pExt rfl rfl) (yp (pI rfl) (yp (pI rfl) (zf (za (ze (ze (z8 (yp (pI rfl) (yp (UF rfl rfl) (zf (za ?_)))))))))))));by_cases hE:wh s=0
 case neg=>
  have hC:uY L s=0:=by unfold uY; rw[if_neg hE]
  rw[decide_eq_false hE];refine zI rfl (ze (z8 (yp pC (zf (za (zL (zX ?_)))))));exact zK (rI rfl) ⟨_,.of,by rw[hC],rfl⟩
 have hm:WK s=true:=by
  cases hm:WK s with
  | true=>rfl
  | false=>unfold wh at hE; rw[if_pos hm] at hE; cases hE
 have hZ:xU s=Zp s:=by unfold xU; rw[if_pos hE]
 have hC:uY L s=cost (Zp s)+(wL L [] (Zb s):Nat):=by unfold uY; rw[if_pos hE]
 rw[decide_eq_true hE,hZ];refine zw rfl (zq (za (ze (z8 (yp (pI rfl) ?_)))));refine zh (zk (Xc (Zp s)) rfl rfl fun r' S' h=>?_);obtain⟨rfl,rfl⟩:=h;refine yp (pI rfl) (zf (za (ze (z8 ?_))));refine zh (kS ByteArray Bool fun mb HM hM=>?_);rw[iA] at hM;refine yp (pM rfl) (zf (za (ze (ze (z8 ?_)))));refine zh (wB (l:=[sv s.name,.int .i64 s.typ,.slice a s.rrs.length c,.int .i64 s.kind,sv s.zone]) rfl rfl rfl ?_);refine zh (zk (Qz hs hv) rfl rfl fun r' S' h=>?_);obtain⟨HN,hN,hSS⟩:=h;subst hSS;obtain⟨na,nc,rfl⟩:=hN.isSlice;rw[uI] at hN ⊢;have hnl:=VT s;have hrr:=hs.rrs;have hcb:0≤cost (Zp s)∧cost (Zp s)≤8192:=by
  have:=Jc (Zp s).toNat;unfold cost;split<;>omega
 refine yp (Zz rfl) (yp pC (zf (za (zo ?_))));refine Z4 (σ:=Nat) (fun i E S'=>∃(seen:List Bs) (acc m:Nat) (HM:List Chunk),Has E [(0,.pointer (some ⟨tb,0,none⟩)),(7,.int .i64 (cost (Zp s)+(acc:Nat))),(8,.map (some mb)),(22,.slice na (Zb s).length nc),(23,.int .i64 ((Zb s).length:Int)),(24,.int .i64 (i:Int))]∧i≤(Zb s).length∧acc+wL L seen ((Zb s).drop i)=wL L [] (Zb s)∧Mp mb (qg seen) m HM∧zG S' (HM::T::HN::S)) (fun i=>(Zb s).length-i) 0
  ⟨[],0,0,HM,⟨rfl,by show Value.int _ _=_; congr 1; omega,rfl,rfl,rfl,rfl,trivial⟩,Nat.zero_le _,by rw[List.drop_zero,Nat.zero_add],hM,.of⟩ fun i E S' ⟨seen,acc,m,HM,hE2,hi,hacc,hM,hJ⟩=>?_
 have htot:=Jd L (Zb s) [];obtain⟨E0,e0⟩:=zl hE2; subst e0; clear hE2;refine zm hJ (ze (z8 (yp (ZL rfl rfl) (zf (za (ze ?_))))));refine zO rfl (fun h=>?_) (fun h=>?_)
 ·have hlt:i<(Zb s).length:=by omega
  have hdr:(Zb s).drop i=(Zb s)[i]::(Zb s).drop (i+1):=List.drop_eq_getElem_cons hlt;have hvl:=yA hm _ (List.getElem_mem hlt);obtain⟨b,sp,fz,hz,rfl,_,hc',rfl⟩:=hN.at' (by intro h; rw[←List.length_eq_zero_iff,uI] at h; omega);have hld:((cells (bss (Zb s)++sp)).toArray.toList)[0+i*1+0]?=some (sv (Zb s)[i]):=(wH (kk:=1) (j:=0) (by rw[uI]; exact hlt) rfl (by omega)).trans (by unfold bss; rw[List.getElem_map]; rfl);generalize (Zb s)[i]=n at hdr hvl hld;have h255:=Ww hvl;rw[hdr,wL] at hacc;refine zq (za (ze (zo (ze (z8 (yp (zN rfl rfl (by omega)) ?_))))));refine zh (zF (v:=sv n) rfl hld ?_);refine yp (pT rfl) (zf (za (ze (z8 (yp (pT rfl) ?_)))));refine zh (zk (Kz n (by omega)) rfl rfl fun r' S' h=>?_);obtain⟨rfl,rfl⟩:=h;refine yp (pT rfl) (zf (za (ze (z8 (yp (pM rfl) (yp (pT rfl) ?_))))));refine zh (uh (v:= .bool (decide (zC n∈seen))) hM (by simp) (⟨(zC n).toArray⟩:ByteArray) dZ xS Xv rfl rfl ?_ ?_)
  ·unfold qg;by_cases h:zC n∈seen
   ·rw[if_pos h,decide_eq_true h]; rfl
   ·rw[if_neg h,decide_eq_false h]; rfl
  by_cases hin:zC n∈seen
  ·rw[decide_eq_true hin];rw[if_pos (.inl hin)] at hacc;refine yp (Ze rfl) (zf (za (zw rfl (zq (zT (za (z8 (yp (Za rfl rfl (by omega)) (yp (pI rfl) (zf (za ?_)))))))))));have hcg:=uZ (L:=L) (l:=(Zb s).drop (i+1)) (s:=zC n::seen) (s':=seen) fun m=>by
    rw[List.mem_cons];exact⟨fun h=>by rcases h with rfl | h<;>assumption,.inr⟩
   exact⟨i+1,⟨seen,acc,m,HM,⟨rfl,rfl,rfl,rfl,rfl,rfl,trivial⟩,by omega,by rw[hcg] at hacc; omega,hM,.of⟩,by omega⟩
  ·rw[decide_eq_false hin];refine yp (Ze rfl) (zf (za (zI rfl (ze (z8 (yp (pM rfl) (yp (pT rfl) ?_)))))));refine zh (rG hM (⟨(zC n).toArray⟩:ByteArray) true dZ xS rfl rfl rfl fun HM2 hM2=>?_);rw[bC] at hM2;refine zf (za (z8 (yp (pI rfl) (yp (pP rfl) (yp (pT rfl) ?_)))));refine zh (zk (Au hT (zC n) (by rw[wM]; omega)) rfl rfl fun r' S' h=>?_);obtain⟨rfl,rfl⟩:=h;rw[X6,VN,hvl,wM];have hcc:cost (8+(n.length:Int))=(zZ (8+n.length):Nat):=by
    unfold cost; rw[if_neg (by omega)]; congr 1
   have hval:(if(Vn L (zC n)).isSome=true∨true=false then(0:Int) else cost (8+(n.length:Int)))=((if zC n∈seen∨(Vn L (zC n)).isSome=true then 0 else zZ (8+n.length):Nat):Int):=by
    by_cases hb:(Vn L (zC n)).isSome=true
    ·rw[if_pos (.inl hb),if_pos (.inr hb)]; rfl
    ·rw[if_neg (by simp[hb]),if_neg (by simp[hb,hin]),hcc]
   rw[hval];generalize (if zC n∈seen∨(Vn L (zC n)).isSome=true then 0 else zZ (8+n.length):Nat)=q at hacc;refine yp (Vo rfl rfl (by omega)) (yp (pI rfl) (zf (zT (za (z8 (yp (Za rfl rfl (by omega)) (yp (pI rfl) (zf (za ?_)))))))));exact⟨i+1,⟨zC n::seen,acc+q,_,HM2,⟨rfl,by show Value.int _ _=_; congr 1; omega,rfl,rfl,rfl,rfl,trivial⟩,by omega,by omega,hM2,.of⟩,by omega⟩
 ·have hd0:(Zb s).drop i=[]:=List.drop_eq_nil_of_le (by omega);rw[hd0,wL] at hacc;refine zV (zy (zy (zW (za (ze (z8 (yp (pI rfl) (yp (pI rfl) (zf (za (zL ?_)))))))))));exact zK (rI rfl) ⟨_,.of,by rw[hC, ←hacc]; rfl,rfl⟩
theorem BH{E:Env}{x:Operand}{j:Nat}(h:ev E x= .int .i64 (j:Int)):zu (ev E) (.conv .u8 x)=some (.int .u8 ((UInt8.ofNat (j%256)).toNat:Int)):=by
 simp only[zu,h,XY];have:(UInt8.ofNat (j%256)).toNat=j%256%256:=by simp
 rw[this];congr 2;omega
theorem EK{E:Env}{x:Operand}{j:Nat}(h:ev E x= .int .i64 (j:Int)):zu (ev E) (.bin .shr x (.const (.int .u64 8)))=some (.int .i64 ((j/256:Nat):Int)):=by
 have h2:(j:Int).fdiv 256=((j/256:Nat):Int):=by rw[Int.fdiv_eq_ediv_of_nonneg _ (by decide)]; omega
 rw[←h2];simp only[zu,h];rfl
theorem iD(k n:Nat):Ue (k+1) n=UInt8.ofNat (n%256)::Ue k (n/256):=rfl
theorem Ez{v:Value}{L:Bs}{H:List Chunk}(hL:Zf 5 v L H)(hLl:L.length<2 ^ 40)(n size:Nat)(hs:size≤8):Tri Tryz.prog 111 #[v,.int .i64 (n:Int),.int .i64 (size:Int)] [H] (fun x S=>∃H',Zf 5 x (L++Ue size n) H'∧S=[H']):=by
 refine Tri.forget (zn Tryz.Ic (Nat.le_of_ble_eq_true rfl) ?_);unfold Tryz.Ea;refine ze (z8 (yp pC (zf (za (ze (ze (z8 (yp (pI rfl) (yp pC (zf (za (zo ?_))))))))))));refine Z4 (σ:=Nat) (fun i E S=>∃(v:Value) (L':Bs) (H':List Chunk) (m:Nat),Has E [(1,.int .i64 (m:Int)),(7,.int .i64 (size:Int)),(8,.int .i64 (i:Int))]∧E 0=v∧Zf 5 v L' H'∧i≤size∧m≤n∧L'.length≤L.length+i∧L'++Ue (size-i) m=L++Ue size n∧zG S [H']) (fun i=>size-i) 0
  ⟨v,L,H,n,⟨rfl,rfl,rfl,trivial⟩,rfl,hL,Nat.zero_le _,Nat.le_refl _,Nat.le_refl _,rfl,.of⟩ fun i E S ⟨v',L',H',m,hE,hE0,hL',hi,hm,hll,heq,hJ⟩=>?_
 obtain⟨la,lc,rfl⟩:=hL'.isSlice;have hE2:Has E [(0,.slice la L'.length lc),(1,.int .i64 (m:Int)),(7,.int .i64 (size:Int)),(8,.int .i64 (i:Int))]:=⟨hE0,hE⟩
 clear hE hE0;obtain⟨E0,e0⟩:=zl hE2; subst e0; clear hE2;refine zm hJ (ze (z8 (yp (ZL rfl rfl) (zf (za (ze ?_))))));refine zO rfl (fun h=>?_) (fun h=>?_)
 ·obtain⟨j,hj⟩:∃j,size-i=j+1:=⟨size-i-1,by omega⟩
  rw[hj,iD] at heq;refine zq (za (ze (zo (ze (z8 (yp (pS rfl) (yp (pI rfl) (yp (BH rfl) ?_))))))));generalize UInt8.ofNat (m%256)=b at heq;refine zh (Ve b rfl rfl (by decide) (by decide) rfl fun p13=>?_);refine zh (VL (Y:=[b]) rfl rfl hL' (.lit (by repeat (first | exact List.mem_cons_self | apply List.mem_cons_of_mem)) rfl) rfl (0:UInt8) rfl (by rw[List.length_singleton]; omega) (by rw[List.length_singleton]; omega) fun v2 H2 hL2=>?_);obtain⟨la2,lc2,rfl⟩:=hL2.isSlice;refine yp (pS rfl) (zf (za (z8 (yp (pI rfl) (yp (EK rfl) (yp (pI rfl) (zf (zT (za (z8 (yp (Za rfl rfl (by omega)) (yp (pI rfl) (zf (za ?_))))))))))))));refine⟨i+1,⟨.slice la2 (L'++[b]).length lc2,L'++[b],H2,m/256,⟨rfl,rfl,rfl,trivial⟩,rfl,hL2,by omega,by omega,by rw[List.length_append,List.length_singleton]; omega,?_,.of⟩,by omega⟩;rw[show size-(i+1)=j from by omega,List.append_assoc]; exact heq
 ·rw[show size-i=0 from by omega] at heq;have heq2:L'=L++Ue size n:=by rw[←heq]; show L'=L'++[]; rw[List.append_nil]
  refine zV (zy (zy (zW (za (ze (z8 (yp (pS rfl) (yp (pS rfl) (zf (za (zL ?_)))))))))));exact zK (rS rfl) ⟨_,.of,H',by rw[←heq2]; exact hL',rfl⟩
theorem Uw{v:Value}{L:Bs}{H:List Chunk}(hL:Zf 5 v L H)(hLl:L.length<2 ^ 40)(n:Int)(size:Nat)(hn:0≤n)(hs:size≤8):Tri Tryz.prog 111 #[v,.int .i64 n,.int .i64 (size:Int)] [H] (fun x S=>∃H',Zf 5 x (L++Ue size n.toNat) H'∧S=[H']):=by
 have:=Ez hL hLl n.toNat size hs
 rwa [show((n.toNat:Nat):Int)=n from by omega] at this
/-- an element of a list that is read -/
theorem jE{α:Type}[Enc α]{S:zB}{a:Option Addr}{c:Nat}{L:List α}(h:Src S (.slice a L.length c) L){i:Nat}(hi:i<L.length):∃(b o:Nat) (ca:Array Value) (ty:TypeId) (fz:Nat × Nat),a=some ⟨b,o,none⟩∧[(b,Obj.cells ca ty fz)]∈S∧(ca.toList.drop (o+i*Enc.k α)).take (Enc.k α)=enc L[i]∧∀j,j<Enc.k α→ca.toList[o+i*Enc.k α+j]?=(enc L[i])[j]?:=by
 obtain⟨b,o,ca,ty,fz,rfl,_,hmem,h1,h2⟩:=h.get (by intro h; simp[h] at hi);exact⟨b,o,ca,ty,fz,rfl,hmem,h2 i hi,fun j hj=>h1 i j hi hj⟩
set_option maxRecDepth 10000 in
theorem og{S:zB}{s:St}{v iv:Value}{ids:List Int}(hs:kK s)(hv:Src S v s.rrs)(hi:Src S iv ids)(hE:wh s=0)(hlen:ids.length=(Zb s).length)(hnn:∀i∈ids,0≤i):
 Tri Tryz.prog 65 #[.agg (Jw s v),iv] S (fun x S'=>∃H,Zf 5 x (Wu s ids) H∧S'=H::S):=by
 refine Tri.forget (zn Tryz.MV (Nat.le_of_ble_eq_true rfl) ?_);unfold Tryz.O5;obtain⟨a,c,rfl⟩:=hv.isSlice;obtain⟨ia,ic,rfl⟩:=hi.isSlice;have hrr:=hs.rrs;have hl2:2≤ids.length:=by rw[hlen]; unfold Zb; simp
 have hidb:ids.length≤2 ^ 22:=by
  have:=VT s;omega
 obtain⟨b0,o0,ca0,ty0,fz0,rfl,hm0,_,hg0⟩:=jE hi (i:=0) (by omega);obtain⟨b1,o1,ca1,ty1,fz1,hb1,hm1,_,hg1⟩:=jE hi (i:=1) (by omega);have hg0:=hg0 0 (by decide);have hg1:=hg1 0 (by decide);have hn0:=hnn ids[0] (List.getElem_mem _);have hn1:=hnn ids[1] (List.getElem_mem _);have hi0:ids.getD 0 0=ids[0]:=by rw[List.getD_eq_getElem?_getD,List.getElem?_eq_getElem (by omega)]; rfl
 have hi1:ids.getD 1 0=ids[1]:=by rw[List.getD_eq_getElem?_getD,List.getElem?_eq_getElem (by omega)]; rfl
 have hld0:ca0.toList[o0+0*1+0]?=some (.int .i64 ids[0]):=hg0;have hld1:ca1.toList[o1+1*1+0]?=some (.int .i64 ids[1]):=hg1;have hm:WK s=true:=by
  cases hm:WK s with
  | true=>rfl
  | false=>unfold wh at hE; rw[if_pos hm] at hE; cases hE
 have hnum:=VY hm;have hhead:Wu s ids=[]++Ue 4 ids[0].toNat++Ue 2 s.typ.toNat++Ue 2 s.kind.toNat++Ue 4 ids[1].toNat++Ue 4 1585123525++Ut s.rrs (ids.drop 2):=by
  unfold Wu Uf;rw[hi0,hi1]; rfl
 generalize ids[0]=z0 at hld0 hn0 hhead;generalize ids[1]=z1 at hld1 hn1 hhead;refine ze (z8 ?_);refine zh (Zv rfl fun p2=>?_);refine zh (mO (Ke rfl) fun p3=>?_);refine yp pC (zf (za (ze (z8 ?_))));refine zh (zF rfl rfl ?_);refine yp (zN (k:=0) rfl rfl (by omega)) ?_;refine zh (XR (by repeat (first | exact hm0 | apply List.mem_cons_of_mem)) rfl hld0 ?_);refine zh (zk (Uw (v:= .slice none 0 0) (L:=[]) (H:=[]) .nil (by decide) z0 4 hn0 (by decide)) rfl rfl fun x S' h=>?_);obtain⟨H1,hL1,rfl⟩:=h;obtain⟨la1,lc1,rfl⟩:=hL1.isSlice;refine yp (pS rfl) (zf (za (ze (z8 (yp (pS rfl) (yp (zx rfl) (yp (zx rfl) ?_)))))));refine zh (zF rfl rfl ?_);refine zh (zk (Uw hL1 (by simp[ZC]) s.typ 2 (by omega) (by decide)) rfl rfl fun x S' h=>?_);obtain⟨H2,hL2,rfl⟩:=h;obtain⟨la2,lc2,rfl⟩:=hL2.isSlice;refine yp (pS rfl) (zf (za (ze (z8 (yp (pS rfl) (yp (zx rfl) ?_))))));refine zh (zF rfl rfl ?_);refine zh (zk (Uw hL2 (by simp[ZC]) s.kind 2 (by omega) (by decide)) rfl rfl fun x S' h=>?_);obtain⟨H3,hL3,rfl⟩:=h;obtain⟨la3,lc3,rfl⟩:=hL3.isSlice;refine yp (pS rfl) (zf (za (ze (z8 (yp (pS rfl) ?_)))));refine zh (zF rfl rfl ?_);obtain⟨rfl,rfl⟩:b0=b1∧o0=o1:=by cases hb1; exact⟨rfl,rfl⟩
 refine yp (zN (k:=1) rfl rfl (by omega)) ?_;refine zh (XR (by repeat (first | exact hm1 | apply List.mem_cons_of_mem)) rfl hld1 ?_);refine zh (zk (Uw hL3 (by simp[ZC]) z1 4 hn1 (by decide)) rfl rfl fun x S' h=>?_);obtain⟨H4,hL4,rfl⟩:=h;obtain⟨la4,lc4,rfl⟩:=hL4.isSlice;refine yp (pS rfl) (zf (za (ze (z8 (yp (pS rfl) ?_)))));refine zh (zk (Uw hL4 (by simp[ZC]) 1585123525 4 (by decide) (by decide)) rfl rfl fun x S' h=>?_);obtain⟨H5,hL5,rfl⟩:=h;obtain⟨la5,lc5,rfl⟩:=hL5.isSlice;refine yp (pS rfl) (zf (za (ze (z8 ?_))));refine zh (Z8 fun p6=>?_);refine zh (ZO rfl rfl (uM rfl) ?_);refine zf (za (ze (ze (z8 (yp (zx rfl) ?_)))));refine zh (zF rfl rfl ?_);refine yp (Zz rfl) (yp pC (zf (za (zo ?_))));have hblk:(Wu s ids).length≤4096:=by
  have h1:=xI (fun r hr=>(WC hm r hr).1) hlen;unfold wh at hE;rw[if_neg (by rw[hm]; decide)] at hE;split at hE
  ·cases hE
  ·omega
 refine Z4 (σ:=Nat) (fun i E S'=>∃(v:Value) (Lb:Bs) (Hb:List Chunk),Has E [(3,.pointer (some ⟨p3,0,none⟩)),(6,.pointer (some ⟨p6,0,none⟩)),(34,.slice a s.rrs.length c),(35,.int .i64 (s.rrs.length:Int)),(36,.int .i64 (i:Int))]∧E 5=v∧Zf 5 v Lb Hb∧i≤s.rrs.length∧Lb++Ut (s.rrs.drop i) (ids.drop (2+((s.rrs.take i).map Zw).flatten.length))=Wu s ids∧
  zG S' (Hb::[(p6,.cells #[.int .i64 ((2+((s.rrs.take i).map Zw).flatten.length:Nat):Int)] 3)]::[(p3,.cells #[.slice (some ⟨b0,o0,none⟩) ids.length ic] 23)]::S)) (fun i=>s.rrs.length-i) 0
  ⟨.slice la5 _ lc5,_,H5,⟨rfl,rfl,rfl,rfl,rfl,trivial⟩,rfl,hL5,Nat.zero_le _,hhead.symm,by
   show zG _ (H5::[(p6,.cells #[.int .i64 2] 3)]::[(p3,.cells #[.slice (some ⟨b0,o0,none⟩) ids.length ic] 23)]::S);exact .of⟩ fun i E S' ⟨vb,Lb,Hb,hE2,hE5,hLb,hile,heq,hJ⟩=>?_
 clear hL1 hL2 hL3 hL4 hL5 hhead;obtain⟨la,lc,rfl⟩:=hLb.isSlice;have hE3:Has E [(3,.pointer (some ⟨p3,0,none⟩)),(5,.slice la Lb.length lc),(6,.pointer (some ⟨p6,0,none⟩)),(34,.slice a s.rrs.length c),(35,.int .i64 (s.rrs.length:Int)),(36,.int .i64 (i:Int))]:=⟨hE2.1,hE5,hE2.2⟩
 clear hE2 hE5;obtain⟨E0,e0⟩:=zl hE3; subst e0; clear hE3;refine zm hJ (ze (z8 (yp (ZL rfl rfl) (zf (za (ze ?_))))));refine zO rfl (fun h=>?_) (fun h=>?_)
 ·have hlt:i<s.rrs.length:=by omega
  obtain⟨rb,ro,rca,rty,rfz,rfl,rmem,hge,_⟩:=jE hv hlt;have hr:=List.getElem_mem hlt;have hts:=yx hlt;have hdr:s.rrs.drop i=s.rrs[i]::s.rrs.drop (i+1):=List.drop_eq_getElem_cons hlt;rw[hdr] at heq;have hnt:((s.rrs.take (i+1)).map Zw).flatten.length≤((s.rrs.map Zw).flatten).length:=by
   have e:s.rrs.map Zw=(s.rrs.take (i+1)).map Zw++(s.rrs.drop (i+1)).map Zw:=by rw[←List.map_append,List.take_append_drop]
   rw[e,List.flatten_append,List.length_append]; omega
  have hidl:ids.length=2+((s.rrs.map Zw).flatten).length:=by rw[hlen]; unfold Zb; simp; omega
  rw[hts,List.length_append] at hnt;have hts2:((s.rrs.take (i+1)).map Zw).flatten.length=((s.rrs.take i).map Zw).flatten.length+(prt s.rrs[i].t s.rrs[i].d).length:=by rw[hts,List.length_append]; unfold Zw; rw[List.length_map]
  have hnr:(Zw s.rrs[i]).length=(prt s.rrs[i].t s.rrs[i].d).length:=by unfold Zw; rw[List.length_map]
  rw[hnr] at hnt;clear hts hnr hdr;generalize hnk:((s.rrs.take (i+1)).map Zw).flatten.length=nk' at hts2;generalize s.rrs[i]=r at hge hr hts2 hnt heq;generalize ((s.rrs.take i).map Zw).flatten.length=nk at hts2 hnt heq;obtain⟨hn,hd⟩:=hs.each r hr;obtain⟨hok,_⟩:=WC hm r hr;have hd1000:=wX hok;have hrow:∃a0,Row r.d a0 (prt r.t r.d):=by
   rcases Qu r.t r.d with h | ⟨a0,k,b,e,_,ha,hc,_⟩
   ·exact⟨0,by rw[h]; exact Nat.zero_le _⟩
   ·exact⟨a0,Km hc ha⟩
  obtain⟨a0,hrow⟩:=hrow;rw[Ut] at heq;refine zq (za (ze (zo (ze (z8 (yp (zN rfl rfl (by omega)) ?_))))));refine zh (UG (l:=enc r) (by repeat (first | exact rmem | apply List.mem_cons_of_mem)) rfl hge rfl ?_);refine zh (Z8 fun p8=>?_);refine zh (vQ (c':=[sv r.n,.int .i64 r.t,.int .i64 r.c,.int .i64 r.ttl,sv r.d]) rfl rfl rfl rfl rfl ?_);refine zf (za (ze (z8 ?_)));refine zh (Z8 fun p9=>?_);refine zf (za (ze (z8 ?_)));refine zh (Z8 fun p10=>?_);refine zh (ZO rfl rfl (uM rfl) ?_);refine zf (za (ze (ze (z8 (yp (zx rfl) ?_)))));refine zh (zF rfl rfl ?_);refine yp (zx rfl) ?_;refine zh (zF rfl rfl ?_);refine zh (zk (Kj r.t r.d) rfl rfl fun r' S' h=>?_);obtain⟨bt,bd,rfl,rfl⟩:=h;refine zf (za (zo ?_));have hrle:∀{a0:Nat} {l:List Pl},Row r.d a0 l→a0≤r.d.length:=fun {a0 l} h=>by
   cases l with
   | nil=>exact h
   | cons p l=>
    have:=(vK h.2.1).2.2;have h0:=(vK h.2.1).1;rw[List.length_drop] at this; omega
  refine kR (t:=r.t) (d:=r.d) (S:=[(p8,.cells (nY r) 89)]::[]::[(p9,.cells #[.slice none 0 0] 80)]::[(p10,.cells #[.int .i64 0] 3)]::Hb::[(p6,.cells #[.int .i64 ((2+nk:Nat):Int)] 3)]::[(p3,.cells #[.slice (some ⟨b0,o0,none⟩) ids.length ic] 23)]::S)
   (fun q T=>∃(vd:Value) (Ld:Bs) (Hd:List Chunk) (fr a0:Nat),Zf 5 vd Ld Hd∧fr≤a0∧Row r.d a0 ((prt r.t r.d).drop q)∧Ld++splice r.d fr ((prt r.t r.d).drop q) ((ids.drop (2+nk+q)).map Uf)=vg r (ids.drop (2+nk))∧
    zG T ([(p8,.cells (nY r) 89)]::Hd::[(p9,.cells #[vd] 80)]::[(p10,.cells #[.int .i64 (fr:Int)] 3)]::Hb::[(p6,.cells #[.int .i64 ((2+nk+q:Nat):Int)] 3)]::[(p3,.cells #[.slice (some ⟨b0,o0,none⟩) ids.length ic] 23)]::S)) rfl rfl hd ⟨_,[],[],0,a0,.nil,Nat.zero_le _,hrow,rfl,.self⟩ ?_ ?_
  ·rintro l q x T hx ⟨vd,Ld,Hd,fr,a1,hLd,hfr,hrw,hsp,hJ⟩;have hql:=(List.getElem?_eq_some_iff.1 hx).1;have hdq:(prt r.t r.d).drop q=x::(prt r.t r.d).drop (q+1):=by
    rw[List.drop_eq_getElem_cons hql,(List.getElem?_eq_some_iff.1 hx).2]
   rw[hdq] at hrw hsp;obtain⟨hxa,hxl,hrw2⟩:=hrw;obtain⟨hx1,hx2,hx3⟩:=vK hxl;rw[List.length_drop] at hx3;have hidq:2+nk+q<ids.length:=by omega
   have hid:ids.drop (2+nk+q)=ids[2+nk+q]::ids.drop (2+nk+(q+1)):=List.drop_eq_getElem_cons hidq;have hz:=hnn _ (List.getElem_mem hidq);obtain⟨b2,o2,ca2,ty2,fz2,hb2,hm2,_,hg2⟩:=jE hi hidq;have hg2:=hg2 0 (by decide);obtain⟨rfl,rfl⟩:b0=b2∧o0=o2:=by cases hb2; exact⟨rfl,rfl⟩
   have hld2:ca2.toList[o0+(2+nk+q)*1+0]?=some (.int .i64 ids[2+nk+q]):=hg2;rw[hid,List.map_cons,splice] at hsp;generalize ids[2+nk+q]=z at hz hld2 hsp;obtain⟨lda,ldc,rfl⟩:=hLd.isSlice;have hdl:(vg r (ids.drop (2+nk))).length≤4096:=by
    rw[←heq] at hblk;simp only[List.length_append] at hblk; omega
   have hLdl:Ld.length+(x.at_-fr)≤4096:=by
    rw[←hsp] at hdl;simp only[List.length_append,List.length_take,List.length_drop] at hdl; omega
   refine zm hJ ?_
   skip
   refine ze (z8 (yp (pI rfl) (zf (za (z8 (yp (pI rfl) (zf (za (zo (ze ?_))))))))));have hR:∀(S':zB) (x9:List Chunk),(∀s∈[[(p8,Obj.cells (nY r) 89)],x9,[(p10,Obj.cells #[.int .i64 (fr:Int)] 3)],[(p6,Obj.cells #[.int .i64 ((2+nk+q:Nat):Int)] 3)],[(p3,Obj.cells #[.slice (some ⟨b0,o0,none⟩) ids.length ic] 23)]],s∈S')→[(b0,Obj.cells ca2 ty2 fz2)]∈S'→
    ∀s∈[[(p8,Obj.cells (nY r) 89)],x9,[(p10,Obj.cells #[.int .i64 (fr:Int)] 3)],[(p6,Obj.cells #[.int .i64 ((2+nk+q:Nat):Int)] 3)],[(p3,Obj.cells #[.slice (some ⟨b0,o0,none⟩) ids.length ic] 23)],[(b0,Obj.cells ca2 ty2 fz2)]],s∈S':=fun S' x9 h1 h2 s hs=>by
    simp only[List.mem_cons,List.not_mem_nil,or_false] at hs;rcases hs with rfl | rfl | rfl | rfl | rfl | rfl
    ·exact h1 _ (by simp)
    ·exact h1 _ (by simp)
    ·exact h1 _ (by simp)
    ·exact h1 _ (by simp)
    ·exact h1 _ (by simp)
    ·exact h2
   refine Wn (R:=[[(p8,Obj.cells (nY r) 89)],[(p9,Obj.cells #[.slice lda Ld.length ldc] 80)],[(p10,Obj.cells #[.int .i64 (fr:Int)] 3)],[(p6,Obj.cells #[.int .i64 ((2+nk+q:Nat):Int)] 3)],[(p3,Obj.cells #[.slice (some ⟨b0,o0,none⟩) ids.length ic] 23)],[(b0,Obj.cells ca2 ty2 fz2)]]) (hR _ _ (by simp) (by repeat (first | exact hm2 | apply List.mem_cons_of_mem))) (Zd rfl rfl (zi (zx rfl) (Zd rfl rfl (Zd rfl rfl (zi (pI rfl) (zi (sG (Y:=r.d) (j:=fr) (k:=x.at_) rfl rfl rfl ⟨by omega,by omega⟩) (Zd rfl rfl (Zd rfl rfl (zi (zN rfl rfl (by omega)) (dw (b:=b0) (c:=ca2) (ty:=ty2) (fz:=fz2) (by repeat (first | exact List.mem_cons_self | apply List.mem_cons_of_mem)) rfl hld2 ?_))))))))));refine Zm (rR (L:=Ld) (H:=Hd) rfl rfl hLd rfl (by rw[List.length_take,List.length_drop]; omega) (by rw[List.length_take,List.length_drop]; omega) fun v3 H3 hL3=>⟨hR _ _ (by simp) (by repeat (first | exact hm2 | apply List.mem_cons_of_mem)),?_⟩) zM;obtain⟨l3a,l3c,rfl⟩:=hL3.isSlice;refine zH (zk (Uw hL3 (by rw[List.length_append,List.length_take,List.length_drop]; omega) z 4 hz (by decide)) rfl rfl fun x3 S3 h=>?_) zM;obtain⟨H4,hL4,rfl⟩:=h;obtain⟨l4a,l4c,rfl⟩:=hL4.isSlice;refine zH (ZO rfl rfl (Ke rfl) ?_) zM;refine zD (za (ze (z8 (yp (pI rfl) (yp (pI rfl) (yp (Zi rfl rfl (by omega)) ?_))))));refine zh (ZO rfl rfl (uM rfl) ?_);refine zf (za (z8 ?_));refine zh (zF rfl rfl ?_);refine yp (Za rfl rfl (by omega)) ?_;refine zh (ZO rfl rfl (uM rfl) ?_);refine zf (zT ?_);refine⟨.slice l4a (Ld++(r.d.drop fr).take (x.at_-fr)++Ue 4 z.toNat).length l4c,_,H4,x.at_+x.n,a1+x.n,hL4,by omega,hrw2,?_,.of⟩;rw[←hsp];simp only[List.append_assoc];rfl
  ·rintro T ⟨vd,Ld,Hd,fr,a1,hLd,hfr,hrw,hsp,hJ⟩;refine zT (za ?_);refine zm hJ ?_;rw[List.drop_length] at hrw hsp;have hfl:fr≤r.d.length:=Nat.le_trans hfr hrw;obtain⟨lda,ldc,rfl⟩:=hLd.isSlice;have hdat:Ld++r.d.drop fr=vg r (ids.drop (2+nk)):=by
    rw[←hsp];cases(ids.drop (2+nk+(prt r.t r.d).length)).map Uf<;>rfl
   have hdl:(vg r (ids.drop (2+nk))).length≤4096:=by
    rw[←heq] at hblk;simp only[List.length_append] at hblk; omega
   have hLdl:Ld.length+(r.d.length-fr)≤4096:=by
    rw[←hdat] at hdl;simp only[List.length_append,List.length_drop] at hdl; omega
   refine ze (zY (Zd rfl rfl (zi (zx rfl) (Zd rfl rfl (Zd rfl rfl (zi (Kt (Y:=r.d) (j:=fr) rfl rfl hfl) ?_))))));refine zH (rR (L:=Ld) (H:=Hd) rfl rfl hLd rfl (by rw[List.length_drop]; omega) (by rw[List.length_drop]; omega) fun v3 H3 hL3=>?_) zM;obtain⟨l3a,l3c,rfl⟩:=hL3.isSlice;rw[hdat] at hL3 ⊢;refine zH (ZO rfl rfl (Ke rfl) ?_) zM;refine zD (za ?_);refine Wn (R:=[[(p9,Obj.cells #[.slice l3a (vg r (ids.drop (2+nk))).length l3c] 80)]]) (by simp) (zi (pS rfl) (Zd rfl rfl (zi (Zz rfl) (Zd rfl rfl ?_))));refine Zm (zk (Uw hLb (by rw[←heq,List.length_append] at hblk; omega) ((vg r (ids.drop (2+nk))).length:Nat) 2 (by omega) (by decide)) rfl rfl fun x3 S3 h=>?_) zM;obtain⟨H4,hL4,rfl⟩:=h;refine⟨by simp,?_⟩;obtain⟨l4a,l4c,rfl⟩:=hL4.isSlice;have hbl4:(Lb++Ue 2 (vg r (ids.drop (2+nk))).length).length+(vg r (ids.drop (2+nk))).length≤4096:=by
    rw[←heq] at hblk;simp only[List.length_append] at hblk ⊢; omega
   refine zH (VL (Y:=vg r (ids.drop (2+nk))) rfl rfl hL4 (hL3.src (by simp)) rfl (0:UInt8) rfl (by simp only[Int.toNat_natCast]; omega) (by simp only[Int.toNat_natCast]; omega) fun v5 H5 hL5=>?_) zM;obtain⟨l5a,l5c,rfl⟩:=hL5.isSlice;refine zi (pS rfl) (zD (zT (za (z8 (yp (Za rfl rfl (by omega)) (yp (pI rfl) (zf (za ?_))))))));refine⟨i+1,⟨.slice l5a _ l5c,_,H5,⟨rfl,rfl,rfl,rfl,rfl,trivial⟩,rfl,hL5,by omega,?_,?_⟩,by omega⟩
   ·rw[hnk,hts2, ←heq,List.drop_drop, ←Nat.add_assoc,Int.toNat_natCast];simp only[List.append_assoc]
   ·rw[hnk,hts2, ←Nat.add_assoc];exact .of
 ·have hni:s.rrs.drop i=[]:=List.drop_eq_nil_of_le (by omega);rw[hni,Ut,List.append_nil] at heq;refine zV (zy (zy (zW (za (ze (z8 (yp (pS rfl) (yp (pS rfl) (zf (za (zL ?_)))))))))));exact zK (rS rfl) ⟨_,.of,Hb,by rw[←heq]; exact hLb,rfl⟩
end Go.Proofs.YtekgciopamkjlaaGreat
