/- The document's own answer (freshetref1): names in data. The document's own answer (freshetref6): sets alike, sets folded. freshetalike: a name of a number, an address's set. The set of an address may be: what it takes. The laws of chapter 8: what they begin with, what the document fixes. -/
import Derived.Test.YtekgciopamkjlaaGreatP1
import Derived.Test.YtekgciopamkjlaaGreatP3
import Derived.Test.YtekgciopamkjlaaGreatFRefS
import Derived.Test.YtekgciopamkjlaaGreatAlk
import Derived.Test.YtekgciopamkjlaaGreatFLawP
namespace Go.Proofs.YtekgciopamkjlaaGreat
open Go.Xs
open Enc (enc)
def qH(d:Bs)(a:Nat):Value:=if(lead (d.drop a)).2=true then .tuple #[.int .i64 ((a+(lead (d.drop a)).1:Nat):Int),.bool true] else .tuple #[.int .i64 0,.bool false]
theorem nA(d:Bs)(a:Nat)(hd:d.length<2 ^ 40)(_ha:a<2 ^ 41):Tri Tryz.prog 98 #[sv d,.int .i64 (a:Int)] [] (fun r S=>r=qH d a∧S=[]):=by
 refine Tri.forget (zB Tryz.Aw (Nat.le_of_ble_eq_true rfl) ?_);unfold Tryz.x98;refine ze (z8 (yp pC (yp pC (zf (za (ze (ze (z8 (yp (pI rfl) (yp (pI rfl) (zf (za (zw ?_)))))))))))));refine Z7 (σ:=Nat) (fun j E S=>Has E [(0,sv d),(1,.int .i64 (a:Int)),(6,.int .i64 ((a+j:Nat):Int))]∧(j≤300∧∀m,1≤m→m≤j→wO ((d.drop a).take m)=false)∧(j=0∨a+j≤d.length)∧zM S []) (fun j=>400-j) 0 ⟨⟨rfl,rfl,rfl,trivial⟩,⟨Nat.zero_le _,fun m h1 h2=>by omega⟩,.inl rfl,.of⟩ fun j E S ⟨hE,⟨hj,hall⟩,hjl,hJ⟩=>?_
 have hno:∀k,(∀m,1≤m→m≤k→wO ((d.drop a).take m)=false)→(255≤k∨d.length≤a+k)→qH d a= .tuple #[.int .i64 0,.bool false]:=fun k h1 h2=>by
  unfold qH;split
  ·next h3=>
   have hl:lead (d.drop a)=((lead (d.drop a)).1,true):=by rw[←h3]
   obtain⟨h4,h5,h6⟩:=W9 hl;have h7:=(uL.1 hl).2;rw[List.length_drop] at h6;rw[h1 _ h4 (by omega)] at h7; cases h7
  ·rfl
 obtain⟨E0,e0⟩:=zu hE; subst e0; clear hE;refine zy hJ (ze (ze (z8 (yp (pI rfl) (yp (pT rfl) (yp (ZV rfl) (yp (w9 rfl rfl) (zf (za ?_)))))))));rw[uH];refine zU rfl (fun h1=>?_) (fun h1=>?_)
 ·have hlt:a+j<d.length:=by omega
  refine zx (za (ze (zw (ze (ze (z8 (yp (pT rfl) (yp (pI rfl) (yp (pI rfl) (yp (Z9 rfl rfl (by omega)) (yp (KD (Y:=d) (j:=a) (k:=a+j+1) rfl rfl rfl ⟨by omega,by omega⟩) ?_)))))))))));rw[show a+j+1-a=j+1 from by omega];have htl:((d.drop a).take (j+1)).length=j+1:=by rw[List.length_take,List.length_drop]; omega
  refine zh (zm (vG ((d.drop a).take (j+1)) (by rw[htl]; omega)) rfl rfl fun r' S' h=>?_);obtain⟨rfl,rfl⟩:=h;cases hv:wO ((d.drop a).take (j+1)) with
  | true=>
   have hl:lead (d.drop a)=(j+1,true):=uL.2 ⟨by rw[List.length_drop]; omega,hv⟩;have he:qH d a= .tuple #[.int .i64 ((a+j+1:Nat):Int),.bool true]:=by unfold qH; rw[hl,if_pos rfl]; rfl
   refine zf (za (zC rfl (ze (z8 (yp (pI rfl) (yp (Z9 rfl rfl (by omega)) (yp (pI rfl) (yp pC (zf (za (zH (zP (bret (zP (zP (bret (zP ?_)))))))))))))))));exact zG (jJ rfl rfl) ⟨_,.of,by rw[he],rfl⟩
  | false=>
   have hall2:∀m,1≤m→m≤j+1→wO ((d.drop a).take m)=false:=fun m h2 h3=>by
    rcases Nat.lt_or_ge j m with h4 | h4
    ·obtain rfl:m=j+1:=by omega
     exact hv
    ·exact hall m h2 h4
   refine zf (za (zA rfl (zx (za (ze (z8 (yp (pI rfl) (yp (pI rfl) (yp (wU rfl rfl (by omega)) (yp (Va rfl rfl) (zf (za ?_))))))))))));by_cases h2:255<((a+j:Nat):Int)-(a:Int)
   ·rw[decide_eq_true h2];refine zC rfl (ze (z8 (yp pC (yp pC (zf (za (zH (bret (zP (zP (bret (zP ?_))))))))))));exact zG (jJ rfl rfl) ⟨_,.of,by rw[hno (j+1) hall2 (.inl (by omega))],rfl⟩
   ·rw[decide_eq_false h2];refine zA rfl (zx (zY (za (z8 (yp (pI rfl) (yp (Z9 rfl rfl (by omega)) (yp (pI rfl) (zf (za ?_)))))))));exact⟨j+1,⟨⟨rfl,rfl,rfl,trivial⟩,⟨by omega,hall2⟩,.inr (by omega),.of⟩,by omega⟩
 ·refine Z0 (zF (zF (Z4 (za (ze (z8 (yp pC (yp pC (zf (za (zH ?_)))))))))));exact zG (jJ rfl rfl) ⟨_,.of,by rw[hno j hall (.inr (by omega))],rfl⟩
theorem bR(d:Bs):txt d=(decide (0<d.length) && Q5 (d.length+1) d 0):=by
 unfold txt;cases d with
 | nil=>rfl
 | cons b l=>rw[decide_eq_true (show 0<(b::l).length from by simp)]; rfl
theorem gX{d:Bs}:∀{k a:Nat} {l:List Pl} {e:Nat},Un d k a=some (l,e)→1≤k→a≤d.length
 | 0,_,_,_,_,h=>by omega
 | k+1,a,l,e,h,_=>by
  unfold Un at h;split at h
  ·next h2=>
   have hl:lead (d.drop a)=((lead (d.drop a)).1,true):=by rw[←h2]
   have hp:=W9 hl;rw[List.length_drop] at hp;omega
  ·cases h
theorem Xe(t:Int)(d:Bs)(hd:d.length<2 ^ 40):Tri Tryz.prog 52 #[.int .i64 t,sv d] [] (fun r S=>∃v L H,r= .tuple #[v,.bool (Zo t d)]∧Zf 106 v (L:List Pl) H∧(Zo t d=true→L=prt t d)∧S=[H]):=by
 refine Tri.forget (zB Tryz.Bv (Nat.le_of_ble_eq_true rfl) ?_);unfold Tryz.D8;have hnil:∀{v:Value} {b:Bool},Zo t d=b→(b=true→prt t d=[])→v= .tuple #[.slice none 0 0,.bool b]→∀S,∃S'',zM S S''∧∃w L H,v= .tuple #[w,.bool (Zo t d)]∧Zf 106 w (L:List Pl) H∧(Zo t d=true→L=prt t d)∧S''=[H]:=fun h h2 hv S=>⟨[[]],⟨S.flatten,by simp⟩,_,[],[],by rw[h]; exact hv,.nil,fun hl=>(h2 (h.symm.trans hl)).symm,rfl⟩
 have hok:Zo t d=(if 1000<d.length then false else if t=1 then d.length==4 else if t=28 then d.length==16 else if t=16 then txt d else(U5 t d).isSome):=rfl;refine ze (z8 (yp pC (yp pC (zf (za (ze (ze (z8 (yp (pT rfl) (yp (ZV rfl) (yp (Va rfl rfl) (zf (za ?_)))))))))))));rw[uH];by_cases h0:1000<d.length
 ·rw[decide_eq_true (show(1000:Int)<(d.length:Int) from by omega)];refine zC rfl (ze (z8 (yp pC (yp pC (zf (za (zH (zP ?_))))))));exact zG (kg rfl rfl) (hnil (b:=false) (by rw[hok,if_pos h0]) (fun h=>by cases h) rfl _)
 rw[decide_eq_false (show ¬(1000:Int)<(d.length:Int) from by omega)];rw[if_neg h0] at hok;refine zA rfl (zx (za (ze (z8 (yp pC (yp pC (yp pC (zf (za ?_)))))))));refine xR (fun E S=>∃a k b,ZN t=some (a,k,b)∧Has E [(1,sv d),(6,.int .i64 (a:Int)),(7,.int .i64 (k:Int)),(8,.int .i64 (b:Int))]∧zM S []) ?_ ?_
 ·refine ze (z8 (yp (pI rfl) (zf (za (zw (ze (z8 (yp (WA rfl rfl) (yp (pB rfl) (zf (za ?_)))))))))));by_cases h1:t=1
  ·rw[decide_eq_true h1];rw[if_pos h1] at hok;refine zC rfl (ze (z8 (yp (pT rfl) (yp (ZV rfl) (yp (WA rfl rfl) (yp pC (yp (pB rfl) (zf (za (zH (bret (zP ?_))))))))))));rw[uH]
   skip
   rw[fJ];exact zG (kg rfl rfl) (hnil hok (fun _=>by rw[h1]; exact Wt rfl) rfl _)
  rw[decide_eq_false h1];rw[if_neg h1] at hok;refine zA rfl (ze (z8 (yp (WA rfl rfl) (yp (pB rfl) (zf (za ?_))))));by_cases h2:t=28
  ·rw[decide_eq_true h2];rw[if_pos h2] at hok;refine zC rfl (ze (z8 (yp (pT rfl) (yp (ZV rfl) (yp (WA rfl rfl) (yp pC (yp (pB rfl) (zf (za (zH (bret (zP ?_))))))))))));rw[uH]
   skip
   rw[aW];exact zG (kg rfl rfl) (hnil hok (fun _=>by rw[h2]; exact Wt rfl) rfl _)
  rw[decide_eq_false h2];rw[if_neg h2] at hok;refine zA rfl (ze (z8 (yp (WA rfl rfl) (yp (pB rfl) (zf (za ?_))))));by_cases h3:t=16
  ·rw[decide_eq_true h3];rw[if_pos h3,bR] at hok;have hpn:prt t d=[]:=by rw[h3]; exact Wt rfl
   refine zC rfl (ze (z8 (yp pC (zf (za (ze (zw ?_)))))));refine Z7 (σ:=Nat) (fun a E S=>Has E [(1,sv d),(9,.int .i64 (a:Int))]∧a≤d.length+256∧(∃f,Q5 (d.length+1) d 0=Q5 f d a∧d.length+1≤f+a∧1≤f)∧zM S []) (fun a=>d.length+300-a) 0 ⟨⟨rfl,rfl,trivial⟩,Nat.zero_le _,⟨_,rfl,Nat.le_refl _,by omega⟩,.of⟩ fun a E S ⟨hE,ha,⟨f,hf,hfl,hf1⟩,hJ⟩=>?_
   obtain⟨f,rfl⟩:∃g,f=g+1:=⟨f-1,by omega⟩
   obtain⟨E0,e0⟩:=zu hE; subst e0; clear hE;refine zy hJ (ze (ze (z8 (yp (pI rfl) (yp (pT rfl) (yp (ZV rfl) (yp (w9 rfl rfl) (zf (za ?_)))))))));rw[uH];refine zU rfl (fun h4=>?_) (fun h4=>?_)
   ·have hlt:a<d.length:=by omega
    have hy:d[a]?=some d[a]:=List.getElem?_eq_getElem hlt;generalize d[a]=b at hy;have hb:=b.toNat_lt;rw[Km hy] at hf;refine zx (za (zw (z8 (yp (pI rfl) (yp (Z9 rfl rfl (by omega)) (yp (pT rfl) (yp (pI rfl) (yp (dJ rfl rfl hy) (yp (ql rfl) (yp (Zy rfl rfl (by omega)) (yp (pI rfl) (zf (zY (za ?_))))))))))))));exact⟨a+1+b.toNat,⟨⟨rfl,rfl,trivial⟩,by omega,⟨f,hf,by omega,by omega⟩,.of⟩,by omega⟩
   ·rw[YM (f:=f) (a:=a) (by omega)] at hf;rw[hf] at hok;refine Z0 (zF (zF (Z4 (za (ze (z8 (yp (pT rfl) (yp (ZV rfl) (yp (Va rfl rfl) (yp (pB rfl) ?_))))))))));rw[uH];by_cases h5:0<d.length
    ·rw[decide_eq_true (show(0:Int)<(d.length:Int) from by omega)];rw[decide_eq_true h5] at hok;refine zV rfl (zZ (pI rfl) (zV rfl (zZ (pT rfl) (zV rfl (zZ (ZV rfl) (zV rfl (zZ (WA rfl rfl) (yp (zD rfl rfl) (yp pC (yp (pB rfl) (zf (za (zH (bret (zP ?_)))))))))))))));rw[uH]
     skip
     have h6:decide ((a:Int)=(d.length:Int))=(a==d.length):=by
      by_cases h:a=d.length
      ·rw[decide_eq_true (by omega),beq_iff_eq.2 h]
      ·rw[decide_eq_false (by omega),beq_eq_false_iff_ne.2 h]
     rw[h6];exact zG (kg rfl rfl) (hnil hok (fun _=>hpn) rfl _)
    ·rw[decide_eq_false (show ¬(0:Int)<(d.length:Int) from by omega)];rw[decide_eq_false h5] at hok;refine zJ rfl (zJ rfl (zJ rfl (zJ rfl (yp (zL rfl rfl) (yp pC (yp (pB rfl) (zf (za (zH (bret (zP ?_)))))))))));exact zG (kg rfl rfl) (hnil hok (fun _=>hpn) rfl _)
  rw[decide_eq_false h3];rw[if_neg h3] at hok;refine zA rfl (ze (z8 (yp (WA rfl rfl) (yp (pB rfl) (zf (za ?_))))));by_cases h4:t=15
  ·rw[decide_eq_true h4];refine zC rfl (z8 (yp pC (zf (zY (za ?_)))));exact⟨2,1,0,by rw[h4]; rfl,⟨rfl,rfl,rfl,rfl,trivial⟩,.of⟩
  rw[decide_eq_false h4];refine zA rfl (ze (z8 (yp (WA rfl rfl) (yp (pB rfl) (zf (za ?_))))));by_cases h5:t=33
  ·rw[decide_eq_true h5];refine zC rfl (z8 (yp pC (zf (zY (za ?_)))));exact⟨6,1,0,by rw[h5]; rfl,⟨rfl,rfl,rfl,rfl,trivial⟩,.of⟩
  rw[decide_eq_false h5];refine zA rfl (ze (z8 (yp (WA rfl rfl) (yp (pB rfl) (zf (za ?_))))));by_cases h6:t=6
  ·rw[decide_eq_true h6];refine zC rfl (z8 (yp pC (yp pC (zf (zY (za ?_))))));exact⟨0,2,20,by rw[h6]; rfl,⟨rfl,rfl,rfl,rfl,trivial⟩,.of⟩
  rw[decide_eq_false h6];refine zA rfl (ze (ze (z8 (yp (WA rfl rfl) (yp (pB rfl) (zf (za ?_)))))));by_cases h7:t=2
  ·rw[decide_eq_true h7];refine zC rfl (zx (za (zC rfl (zx (zY (za ?_))))));exact⟨0,1,0,by rw[h7]; rfl,⟨rfl,rfl,rfl,rfl,trivial⟩,.of⟩
  rw[decide_eq_false h7];refine zA rfl (ze (z8 (yp (WA rfl rfl) (yp (pB rfl) (zf (za ?_))))));by_cases h8:t=5
  ·rw[decide_eq_true h8];refine zC rfl (zx (za (zC rfl (zx (zY (za ?_))))));exact⟨0,1,0,by rw[h8]; rfl,⟨rfl,rfl,rfl,rfl,trivial⟩,.of⟩
  rw[decide_eq_false h8];refine zA rfl (z8 (yp (WA rfl rfl) (yp (pB rfl) (zf (za ?_)))));by_cases h9:t=12
  ·rw[decide_eq_true h9];refine zC rfl (zx (zY (za ?_)));exact⟨0,1,0,by rw[h9]; rfl,⟨rfl,rfl,rfl,rfl,trivial⟩,.of⟩
  rw[decide_eq_false h9];have hsn:ZN t=none:=by
   unfold ZN;rw[if_neg (by omega),if_neg (by omega),if_neg (by omega),if_neg (by omega)]
  refine zA rfl (ze (z8 (yp pC (yp pC (zf (za (zH (bret (zP ?_)))))))));exact zG (kg rfl rfl) (hnil (b:=true) (by rw[hok]; unfold U5; rw[hsn]; rfl) (fun _=>Wt hsn) rfl _)
 intro E S ⟨a,k,b,hsh,hE,hJ⟩;obtain⟨hs1,hs2,hs3⟩:=VH hsh;obtain⟨hn1,hn2,hn3⟩:=xV hsh;rw[if_neg hn1,if_neg hn2,if_neg hn3] at hok;have hp:U5 t d=if d.length<a then none else match Un d k a with
  | some (l,e)=>if d.length=e+b then some l else none
  | none=>none:=by unfold U5; rw[hsh]; rfl
 simp only at hs1 hs2 hs3;obtain⟨E0,e0⟩:=zu hE; subst e0; clear hE;refine zy hJ (ze (z8 (yp pC (zf (za (ze (z8 (yp (pI rfl) (yp (pI rfl) (zf (za (ze (ze (z8 (yp pC (zf (za (zw ?_))))))))))))))))));refine Z7 (σ:=Nat) (fun i E S=>∃(v:Value) (L:List Pl) (H:List Chunk) (e:Nat),Has E [(1,sv d),(7,.int .i64 (k:Int)),(8,.int .i64 (b:Int)),(11,.int .i64 (e:Int)),(12,.int .i64 (i:Int))]∧E 10=v∧Zf 106 v L H∧L.length=i∧i≤k∧(e≤d.length∨e=a∧i=0)∧(a≤d.length→e≤d.length)∧Un d k a=(Un d (k-i) e).map (fun x=>(L++x.1,x.2))∧zM S [H]) (fun i=>k-i) 0
  ⟨_,[],[],a,⟨rfl,rfl,rfl,rfl,rfl,trivial⟩,rfl,.nil,rfl,Nat.zero_le _,.inr ⟨rfl,rfl⟩,id,by cases Un d (k-0) a<;>rfl,.of⟩ fun i E S ⟨v,L,H,e,hE,hE4,hL,hLl,hi,he,hae,hx,hJ⟩=>?_
 obtain⟨la,lc,rfl⟩:=hL.isSlice;have hE2:Has E [(1,sv d),(7,.int .i64 (k:Int)),(8,.int .i64 (b:Int)),(10,.slice la L.length lc),(11,.int .i64 (e:Int)),(12,.int .i64 (i:Int))]:=⟨hE.1,hE.2.1,hE.2.2.1,hE4,hE.2.2.2⟩
 clear hE hE4;obtain⟨E0,e0⟩:=zu hE2; subst e0; clear hE2;refine zy hJ (ze (ze (z8 (yp (pI rfl) (yp (pI rfl) (yp (w9 rfl rfl) (zf (za ?_))))))));refine zU rfl (fun h2=>?_) (fun h2=>?_)
 ·obtain⟨m,hm⟩:∃m,k-i=m+1:=⟨k-i-1,by omega⟩
  rw[hm,Un] at hx;refine zx (za (ze (zw (ze (z8 (yp (pT rfl) (yp (pI rfl) ?_)))))));refine zh (zm (nA d e hd (by omega)) rfl rfl fun r' S' h=>?_);obtain⟨rfl,rfl⟩:=h;unfold qH;cases hb:(lead (d.drop e)).2 with
  | false=>
   rw[hb,if_neg (by decide)] at hx;rw[hx] at hp;have hpn:U5 t d=none:=by rw[hp]; split<;>rfl
   rw[hpn] at hok;rw[if_neg (by decide)];refine yp (pU rfl) (yp (pExt rfl rfl) (yp (pExt rfl rfl) (yp (pI rfl) (yp (pB rfl) (zf (za (ze (ze (z8 (yp (pB rfl) (yp (Ze rfl) (zf (za (zC rfl (ze (z8 (yp pC (yp pC (zf (za (zH (zP (bret (zP (zP (bret (zP ?_)))))))))))))))))))))))))));exact zG (kg rfl rfl) (hnil (b:=false) hok (fun h=>by cases h) rfl _)
  | true=>
   rw[hb,if_pos rfl] at hx;rw[if_pos rfl];have hl:=W9 (show lead (d.drop e)=((lead (d.drop e)).1,true) from by rw[←hb]);rw[List.length_drop] at hl;generalize (lead (d.drop e)).1=n at hx hl;refine yp (pU rfl) (yp (pExt rfl rfl) (yp (pExt rfl rfl) (yp (pI rfl) (yp (pB rfl) (zf (za (ze (ze (z8 (yp (pB rfl) (yp (Ze rfl) (zf (za (zA rfl (zx (za (ze (z8 (yp (pS rfl) (yp (pI rfl) (yp (pI rfl) (yp (pI rfl) (yp (wU rfl rfl (by omega)) (yp (UD (U4 rfl) (U4 rfl)) ?_))))))))))))))))))))))));rw[show((e+n:Nat):Int)-(e:Int)=(n:Int) from by omega]
   skip
   refine zh (Zu (⟨e,n⟩:Pl) rfl rfl (by decide) (by decide) rfl fun p43=>?_);refine zh (Zj (Y:=[(⟨e,n⟩:Pl)]) rfl rfl hL (.lit (by repeat (first | exact List.mem_cons_self | apply List.mem_cons_of_mem)) rfl) rfl (⟨0,0⟩:Pl) rfl (by simp; omega) (by simp; omega) fun v2 H2 hL2=>?_);obtain⟨la2,lc2,rfl⟩:=hL2.isSlice;refine yp (pS rfl) (zf (za (z8 (yp (pI rfl) (yp (pI rfl) (zf (zY (za (z8 (yp (pI rfl) (yp (Z9 rfl rfl (by omega)) (yp (pI rfl) (zf (za ?_))))))))))))));refine⟨i+1,⟨.slice la2 (L++[(⟨e,n⟩:Pl)]).length lc2,L++[⟨e,n⟩],H2,e+n,⟨rfl,rfl,rfl,rfl,rfl,trivial⟩,rfl,hL2,by simp[hLl],by omega,.inl (by omega),fun _=>by omega,?_,.of⟩,by omega⟩;rw[hx,Option.map_map,show k-(i+1)=m from by omega];congr 1;funext x;simp
 ·obtain rfl:i=k:=by omega
  rw[Nat.sub_self,Un] at hx;rw[hx] at hp;simp only[Option.map_some,List.append_nil] at hp;have hk1:=(VX hsh).2.2.2;simp only at hk1;have had:¬d.length<a:=by
   rcases he with he | ⟨_,he⟩
   ·intro h;have:=gX hx (by omega);omega
   ·omega
  rw[if_neg had] at hp;refine Z0 (zF (zF (Z4 (za (ze (ze (z8 (yp (pI rfl) (yp (pI rfl) (yp (Zy rfl rfl (by omega)) (yp (pT rfl) (yp (ZV rfl) (yp (uW rfl rfl) (zf (za ?_)))))))))))))));rw[uH];by_cases h3:d.length=e+b
  ·rw[if_pos h3] at hp;rw[hp] at hok
   replace hok:Zo t d=true:=hok
   rw[decide_eq_true (show((e+b:Nat):Int)=(d.length:Int) from by omega)];refine zA rfl (zx (za (ze (z8 (yp (pS rfl) (yp (pS rfl) (yp pC (zf (za (zH ?_))))))))));have hpr:prt t d=L:=by unfold prt; rw[if_pos hok,hp]; rfl
   exact zG (kg rfl rfl) ⟨_,.of,_,L,H,by rw[hok],hL,fun _=>hpr.symm,rfl⟩
  ·rw[if_neg h3] at hp;rw[hp] at hok;rw[decide_eq_false (show ¬((e+b:Nat):Int)=(d.length:Int) from by omega)];refine zC rfl (ze (z8 (yp pC (yp pC (zf (za (zH (zP ?_))))))));exact zG (kg rfl rfl) (hnil (b:=false) hok (fun h=>by cases h) rfl _)
theorem aF:∀(a:Nat) (xs:List Bs) (i:Nat) (h:i<xs.length),(UR a xs)[i]?=some ⟨a+(xs.take i).flatten.length,xs[i].length⟩
 | _,[],_,h=>by simp at h
 | a,x::xs,0,_=>rfl
 | a,x::xs,i+1,h=>by
  have:=aF (a+x.length) xs i (by simpa using h);show(UR (a+x.length) xs)[i]?=_;rw[this];simp[Nat.add_assoc]
theorem jF(t:Int)(d:Bs)(hd:d.length<2 ^ 40):Tri Tryz.prog 74 #[.int .i64 t,sv d] [] (fun r S=>r=sv (wK t d)∧S=[]):=by
 refine Tri.forget (zB Tryz.AQ (Nat.le_of_ble_eq_true rfl) ?_);unfold Tryz.Cu;refine ze (z8 (yp pC (zf (za (ze (z8 (yp (pI rfl) (yp (pT rfl) ?_))))))));refine zh (zm (Xe t d hd) rfl rfl fun r' S' h=>?_);obtain⟨v,L,H,rfl,hL,hLp,rfl⟩:=h;obtain⟨la,lc,rfl⟩:=hL.isSlice;cases hok:Zo t d with
 | false=>
  have hf:wK t d=d:=by
   have:prt t d=[]:=by unfold prt; rw[if_neg (by rw[hok]; decide)]
   unfold wK; rw[this]; rfl
  refine yp (pU rfl) (yp (pExt rfl rfl) (yp (pExt rfl rfl) (yp (pS rfl) (yp (pB rfl) (zf (za (ze (ze (z8 (yp (pB rfl) (yp (Ze rfl) (zf (za (zC rfl (ze (z8 (yp (pT rfl) (yp (pT rfl) (zf (za (zH (zP ?_))))))))))))))))))))));exact zG (v:=sv d) (res1 rfl) ⟨[],⟨H,by simp⟩,by rw[hf],rfl⟩
 | true=>
 have hLe:=hLp hok;have hd1000:=wh hok;cases hsh:ZN t with
 | none=>
  have hLn:L=[]:=by rw[hLe]; exact Wt hsh
  subst hLn;refine yp (pU rfl) (yp (pExt rfl rfl) (yp (pExt rfl rfl) (yp (pS rfl) (yp (pB rfl) (zf (za (ze (ze (z8 (yp (pB rfl) (yp (Ze rfl) (zf (za (zA rfl (zx (za (ze (ze (z8 (yp pC (zf (za (zw ?_)))))))))))))))))))))));refine Z7 (σ:=Nat) (fun i E S=>Has E [(1,sv d),(5,.slice la 0 lc),(7,.int .i64 (i:Int))]∧zM S []) (fun i=>0) 0 ⟨⟨rfl,rfl,rfl,trivial⟩,⟨H,by simp⟩⟩ fun i E S ⟨hE,hJ⟩=>?_
  obtain⟨E0,e0⟩:=zu hE; subst e0; clear hE;refine zy hJ (ze (ze (z8 (yp (pI rfl) (yp (pS rfl) (yp (Zq rfl) (yp (w9 rfl rfl) (zf (za (zA rfl (Z0 (zF (zF (Z4 (za (ze (z8 (yp (pT rfl) (yp (pT rfl) (zf (za (zH ?_))))))))))))))))))))));rw[decide_eq_false (show ¬(i:Int)<((0:Nat):Int) from by omega)]
  skip
  exact zG (v:=sv d) (res1 rfl) ⟨[],.of,by rw[Ue hsh],rfl⟩
 | some x=>
  obtain⟨P,xs,Z,hf,hcut⟩:=Xl hok hsh;have hpr:=(hf.ok hd1000).2;rw[hpr] at hLe;have hLl:L.length=xs.length:=by rw[hLe,kH]
  have hxl:xs.length≤2:=by
   have:=VH hf.shape;exact this.2.1
  have hfd:=Uf hf hd1000;have hdl:∀i,(P++((xs.take i).map zk).flatten++((xs.drop i).flatten++Z)).length=d.length:=fun i=>by
   have h1:((xs.take i).map zk).flatten.length=(xs.take i).flatten.length:=y8 _ _ (uZ _);have h2:xs.flatten.length=(xs.take i).flatten.length+(xs.drop i).flatten.length:=by rw[←List.length_append, ←List.flatten_append,List.take_append_drop]
   rw[hf.eq];simp only[List.length_append];omega
  refine yp (pU rfl) (yp (pExt rfl rfl) (yp (pExt rfl rfl) (yp (pS rfl) (yp (pB rfl) (zf (za (ze (ze (z8 (yp (pB rfl) (yp (Ze rfl) (zf (za (zA rfl (zx (za (ze (ze (z8 (yp pC (zf (za (zw ?_)))))))))))))))))))))));refine Z7 (σ:=Nat) (fun i E S=>Has E [(1,sv (P++((xs.take i).map zk).flatten++((xs.drop i).flatten++Z))),(5,.slice la L.length lc),(7,.int .i64 (i:Int))]∧i≤xs.length∧zM S [H]) (fun i=>xs.length-i) 0 ⟨⟨by rw[List.take_zero,List.drop_zero,List.map_nil]; show sv d=sv (P++[]++(xs.flatten++Z)); rw[List.append_nil, ←List.append_assoc, ←hf.eq],rfl,rfl,trivial⟩,Nat.zero_le _,.of⟩ fun i E S ⟨hE,hi,hJ⟩=>?_
  have hdi:=hdl i;obtain⟨E0,e0⟩:=zu hE; subst e0; clear hE;refine zy hJ (ze (ze (z8 (yp (pI rfl) (yp (pS rfl) (yp (Zq rfl) (yp (w9 rfl rfl) (zf (za ?_)))))))));rw[hLl];refine zU rfl (fun hlt=>?_) (fun hlt=>?_)
  ·have hix:i<xs.length:=by omega
   have hiL:i<L.length:=by omega
   have hat:L[i]=(⟨P.length+(xs.take i).flatten.length,xs[i].length⟩:Pl):=by
    have h1:=aF P.length xs i hix;rw[←hLe,List.getElem?_eq_getElem hiL] at h1;exact Option.some.inj h1
   have hxd:xs.drop i=xs[i]::xs.drop (i+1):=List.drop_eq_getElem_cons hix;have hxt:xs.take (i+1)=xs.take i++[xs[i]]:=List.take_succ_eq_append_getElem hix;have hvx:=hf.wO _ (List.getElem_mem hix);have h255:=ZQ hvx;have hfl:=wE xs[i];have h1:(P++((xs.take i).map zk).flatten).length=P.length+(xs.take i).flatten.length:=by rw[List.length_append,y8 _ _ (uZ _)]
   obtain⟨b2,sp,fz,hz,rfl,_,hc',rfl⟩:=hL.at' (by intro h; simp[h] at hiL);rw[hxd,List.flatten_cons] at hdi ⊢;generalize hA:P++((xs.take i).map zk).flatten=A at h1 hdi ⊢;rw[←h1] at hat;have hdA:(A++(xs[i]++(xs.drop (i+1)).flatten++Z)).drop A.length=xs[i]++(xs.drop (i+1)).flatten++Z:=List.drop_left;have htA:(A++(xs[i]++(xs.drop (i+1)).flatten++Z)).take A.length=A:=List.take_left;have hdB:(A++(xs[i]++(xs.drop (i+1)).flatten++Z)).drop (A.length+xs[i].length)=(xs.drop (i+1)).flatten++Z:=by rw[←List.drop_drop,hdA,List.append_assoc,List.drop_left]
   have hlA:A.length+xs[i].length≤(A++(xs[i]++(xs.drop (i+1)).flatten++Z)).length:=by simp only[List.length_append]; omega
   generalize hW:A++(xs[i]++(xs.drop (i+1)).flatten++Z)=W at hdA htA hdB hlA hdi ⊢;have hen:enc L[i]=[.int .i64 (A.length:Int),.int .i64 (xs[i].length:Int)]:=by rw[hat]; rfl
   refine zx (za (ze (zw (ze (z8 (yp (pS rfl) (yp (pI rfl) (yp (zT rfl rfl (by omega)) ?_))))))));refine zh (wC (l:=[.int .i64 (A.length:Int),.int .i64 (xs[i].length:Int)]) rfl ((Ux hiL rfl).trans hen) rfl ?_);refine zh (Zt fun p8=>?_);refine zh (ZX (c':=[.int .i64 (A.length:Int),.int .i64 (xs[i].length:Int)]) rfl rfl rfl rfl rfl ?_);refine zf (za (Za (zi (pT rfl) (zi (zl rfl) (Zd rfl rfl (zi (nJ (Y:=W) (j:=A.length) rfl rfl (by omega)) ?_))))));rw[htA];refine zi (pT rfl) (zi (zl rfl) (Zd rfl rfl (zi (zl rfl) (Zd rfl rfl (zi (zl rfl) (Zd rfl rfl (zi (Zy rfl rfl (by omega)) (zi (KD (Y:=W) (j:=A.length) (k:=A.length+xs[i].length) rfl rfl rfl ⟨by omega,by omega⟩) ?_))))))));rw[hdA,show A.length+xs[i].length-A.length=xs[i].length from by omega,List.append_assoc,List.take_left];refine zi (pT rfl) (zi (zl rfl) (Zd rfl rfl (zi (zl rfl) (Zd rfl rfl (zi (Zy rfl rfl (by omega)) (zi (Xg (Y:=W) (j:=A.length+xs[i].length) rfl rfl (by omega)) ?_))))));rw[hdB];refine zX (zm (VZ xs[i] (by omega)) rfl rfl fun r' S' h=>?_) zK;obtain⟨rfl,rfl⟩:=h;refine⟨fun _ hs=>hs,?_⟩;refine zi (dL (Y:=A) (Z:=zk xs[i]) rfl rfl (by omega)) (zi (dL (Y:=A++zk xs[i]) (Z:=(xs.drop (i+1)).flatten++Z) rfl rfl (by rw[←hW] at hdi; simp only[List.length_append] at hdi ⊢; omega)) (zi (pT rfl) (zN (zY (za (z8 (yp (pI rfl) (yp (Z9 rfl rfl (by omega)) (yp (pI rfl) (zf (za ?_)))))))))));refine⟨i+1,⟨⟨?_,rfl,rfl,trivial⟩,by omega,.of⟩,by omega⟩;show sv _=sv _;rw[hxt,List.map_append,List.flatten_append, ←hA];simp
  ·have hxi:xs.take i=xs:=List.take_of_length_le (by omega);have hxd:xs.drop i=[]:=List.drop_eq_nil_of_le (by omega);rw[hxi,hxd];refine Z0 (zF (zF (Z4 (za (ze (z8 (yp (pT rfl) (yp (pT rfl) (zf (za (zH ?_)))))))))));exact zG (v:=sv (P++(xs.map zk).flatten++([].flatten++Z))) (res1 rfl) ⟨[],⟨H,by simp⟩,by rw[hfd]; rfl,rfl⟩
theorem nV{E:Env}{x y:Operand}{n:Bs}{t:Int}(h1:ev E x= .agg #[sv n,.int .i64 t])(h2:ev E y= .agg #[sv n,.int .i64 t]):zn (ev E) (.eqs true [(0,1),(1,0)] x y)=some (.bool false):=by
 simp[zn,h1,h2,Ki,Ql]
theorem nU{E:Env}{x y:Operand}{r:RR}(h1:ev E x= .agg (enc r).toArray)(h2:ev E y= .agg (enc r).toArray):zn (ev E) (.eqs true [(0,1),(1,0),(2,0),(3,0),(4,1)] x y)=some (.bool false):=by
 have e:(enc r).toArray= #[sv r.n,.int .i64 r.t,.int .i64 r.c,.int .i64 r.ttl,sv r.d]:=rfl;rw[e] at h1 h2;simp[zn,h1,h2,Ki,Ql]
set_option maxRecDepth 10000 in
theorem Qw{S:zq}{s:St}{v v':Value}(hs:s.rrs.length<2 ^ 40)(hv:Src S v s.rrs)(hv':Src S v' s.rrs):Tri Tryz.prog 28 #[.agg (Y9 s v),.agg (Y9 s v')] S (fun x S'=>x= .bool true∧S'=S):=by
 refine Tri.forget (zB Tryz.BJ (Nat.le_of_ble_eq_true rfl) ?_);unfold Tryz.x28;obtain⟨a,c,rfl⟩:=hv.isSlice;obtain⟨a',c',rfl⟩:=hv'.isSlice;refine ze (z8 ?_);refine zh (Wp rfl fun p2=>?_);refine zh (Wp rfl fun p3=>?_);refine yp pC (zf (za (ze (ze (z8 (yp (zl rfl) ?_))))));refine zh (wC (l:=[sv s.name,.int .i64 s.typ]) rfl rfl rfl ?_);refine yp (zl rfl) ?_;refine zh (wC (l:=[sv s.name,.int .i64 s.typ]) rfl rfl rfl ?_);refine yp (nV (n:=s.name) (t:=s.typ) rfl rfl) (yp (pB rfl) (zV rfl (zZ (zl rfl) (zV rfl ?_))));refine(zo rfl rfl ?_);refine zV rfl (zZ (zl rfl) (zV rfl ?_));refine(zo rfl rfl ?_);refine zV rfl (zZ (uW rfl rfl) (yp (zL rfl rfl) (yp (pB rfl) ?_)));rw[decide_eq_true (show s.kind=s.kind from rfl)];refine zV rfl (zZ (zl rfl) (zV rfl ?_));refine(zo rfl rfl ?_);refine zV rfl (zZ (zl rfl) (zV rfl ?_));refine(zo rfl rfl ?_);refine zV rfl (zZ (nT rfl rfl) (yp (zL rfl rfl) (yp (pB rfl) ?_)));rw[decide_eq_true (show(⟨s.zone.toArray⟩:ByteArray)=⟨s.zone.toArray⟩ from rfl)];refine zV rfl (zZ (zl rfl) (zV rfl ?_));refine(zo rfl rfl ?_);refine zV rfl (zZ (Zq rfl) (zV rfl (zZ (zl rfl) (zV rfl ?_))));refine(zo rfl rfl ?_);refine zV rfl (zZ (Zq rfl) (zV rfl (zZ (uW rfl rfl) (yp (zL rfl rfl) (zf (za ?_))))));rw[decide_eq_true (show(s.rrs.length:Int)=s.rrs.length from rfl)];refine zA rfl (zx (za (ze (ze (z8 (yp pC (zf (za (zw ?_)))))))));refine Z7 (σ:=Nat) (fun i E S'=>Has E [(2,.pointer (some ⟨p2,0,none⟩)),(3,.pointer (some ⟨p3,0,none⟩)),(5,.int .i64 (i:Int))]∧i≤s.rrs.length∧zM S' (VI p2 s (.slice a s.rrs.length c)::VI p3 s (.slice a' s.rrs.length c')::S)) (fun i=>s.rrs.length-i) 0
  ⟨⟨rfl,rfl,rfl,trivial⟩,Nat.zero_le _,.of⟩ fun i E S' ⟨hE,hi,hJ⟩=>?_
 obtain⟨E0,e0⟩:=zu hE; subst e0; clear hE;refine zy hJ (ze (ze (z8 (yp (pI rfl) (yp (zl rfl) ?_)))));refine zh (zo rfl rfl ?_);refine yp (Zq rfl) (yp (w9 rfl rfl) (zf (za ?_)));refine zU rfl (fun hlt=>?_) (fun hlt=>?_)
 ·have hii:i<s.rrs.length:=by omega
  obtain⟨b1,o1,ca1,ty1,fz1,rfl,hm1,hg1,_⟩:=wR hv hii;obtain⟨b2,o2,ca2,ty2,fz2,rfl,hm2,hg2,_⟩:=wR hv' hii;generalize s.rrs[i]=r at hg1 hg2;refine zx (za (ze (zw (ze (Za (zi (zl rfl) (Zd rfl rfl (zi (pI rfl) (zi (zT rfl rfl (by omega)) (Ka (l:=enc r) (by repeat (first | exact hm1 | apply List.mem_cons_of_mem)) rfl hg1 rfl (zi (zl rfl) (Zd rfl rfl (zi (pI rfl) (zi (zT rfl rfl (by omega)) (Ka (l:=enc r) (by repeat (first | exact hm2 | apply List.mem_cons_of_mem)) rfl hg2 rfl (zi (nU (r:=r) rfl rfl) (zN (za (zA rfl (zx (zY (za (z8 (yp (pI rfl) (yp (Z9 rfl rfl (by omega)) (yp (pI rfl) (zf (za ?_))))))))))))))))))))))))))));exact⟨i+1,⟨⟨rfl,rfl,rfl,trivial⟩,by omega,.of⟩,by omega⟩
 ·refine Z0 (zF (zF (Z4 (za (ze (z8 (yp pC (zf (za (zH ?_))))))))));exact zG (rB rfl) ⟨_,.of,rfl,rfl⟩
set_option maxRecDepth 10000 in
theorem Ky{S:zq}{s:St}{v:Value}(hs:yP s)(hv:Src S v s.rrs):Tri Tryz.prog 29 #[.agg (Y9 s v)] S (fun x S'=>∃v' H',x= .agg (Y9 (Zr s) v')∧Zf 89 v' (Zr s).rrs H'∧S'=H'::S):=by
 refine Tri.forget (zB Tryz.BI (Nat.le_of_ble_eq_true rfl) ?_);unfold Tryz.x29;obtain⟨a,c,rfl⟩:=hv.isSlice;have hrr:=hs.rrs;have hfr:(Zr s).rrs=s.rrs.map fun r=>(⟨zk s.name,r.t,1,0,wK r.t r.d⟩:RR):=rfl
 generalize hfg:(fun r:RR=>(⟨zk s.name,r.t,1,0,wK r.t r.d⟩:RR))=fr at hfr;refine ze (z8 ?_);refine zh (Wp rfl fun p1=>?_);refine zh (Zt fun p2=>?_);refine zf (za (ze (z8 ?_)));refine zh (wC (l:=[sv s.name,.int .i64 s.typ,.slice a s.rrs.length c,.int .i64 s.kind,sv s.zone]) rfl rfl rfl ?_);refine zh (Zt fun p3=>?_);refine zh (ZX (c':=[sv s.name,.int .i64 s.typ,.slice a s.rrs.length c,.int .i64 s.kind,sv s.zone]) rfl rfl rfl rfl rfl ?_);refine zf (za (ze (z8 (yp (zl rfl) (yp (zl rfl) ?_)))));refine zh (zo rfl rfl ?_);refine zh (zm (VZ s.name (by have:=hs.name; omega)) rfl rfl fun r' S' h=>?_);obtain⟨rfl,rfl⟩:=h;refine yp (zl rfl) (yp (zl rfl) ?_);refine zh (Q8 rfl rfl (gH rfl) ?_);refine zf (za (ze (z8 (yp (zl rfl) ?_))));refine zh (zo rfl rfl ?_);refine zh (zm (VZ s.zone (by have:=hs.zone; omega)) rfl rfl fun r' S' h=>?_);obtain⟨rfl,rfl⟩:=h;refine yp (zl rfl) ?_;refine zh (Q7 rfl rfl (gH rfl) ?_);refine zf (za (ze (z8 (yp (zl rfl) ?_))));refine zh (jk rfl rfl (yN rfl) ?_);refine zf (za (ze (ze (z8 (yp pC (zf (za (zw ?_))))))));refine Z7 (σ:=Nat) (fun i E S'=>∃(rv:Value) (HR:List Chunk),Has E [(1,.pointer (some ⟨p1,0,none⟩)),(2,.pointer (some ⟨p2,0,none⟩)),(3,.pointer (some ⟨p3,0,none⟩)),(4,.int .i64 (i:Int))]∧i≤s.rrs.length∧Zf 89 rv ((s.rrs.take i).map fr) HR∧zM S' (HR::VI p1 s (.slice a s.rrs.length c)::[(p2,.cells #[.string ⟨#[]⟩,.int .i64 0,.slice none 0 0,.int .i64 0,.string ⟨#[]⟩] 46)]::[(p3,.cells #[sv (zk s.name),.int .i64 s.typ,rv,.int .i64 s.kind,sv (zk s.zone)] 46)]::S)) (fun i=>s.rrs.length-i) 0
  ⟨.slice none 0 0,[],⟨rfl,rfl,rfl,rfl,trivial⟩,Nat.zero_le _,.nil,.of⟩ fun i E S' ⟨rv,HR,hE,hi,hR,hJ⟩=>?_
 obtain⟨ra,rc,rfl⟩:=hR.isSlice;obtain⟨E0,e0⟩:=zu hE; subst e0; clear hE;refine zy hJ (ze (ze (z8 (yp (pI rfl) (yp (zl rfl) ?_)))));refine zh (zo rfl rfl ?_);refine yp (Zq rfl) (yp (w9 rfl rfl) (zf (za ?_)));refine zU rfl (fun hlt=>?_) (fun hlt=>?_)
 ·have hii:i<s.rrs.length:=by omega
  obtain⟨b1,o1,ca1,ty1,fz1,rfl,hm1,hg1,_⟩:=wR hv hii;have hr:=List.getElem_mem hii;have htk:s.rrs.take (i+1)=s.rrs.take i++[s.rrs[i]]:=List.take_succ_eq_append_getElem hii;generalize s.rrs[i]=r at hg1 hr htk;obtain⟨hn,hd⟩:=hs.each r hr;have hfrr:fr r=⟨zk s.name,r.t,1,0,wK r.t r.d⟩:=by rw[←hfg]
  have hRl:((s.rrs.take i).map fr).length≤2 ^ 20:=by rw[List.length_map,List.length_take]; omega
  refine zx (za (ze (zw (ze (z8 (yp (zl rfl) ?_))))));refine zh (zo rfl rfl ?_);refine yp (pI rfl) (yp (zT rfl rfl (by omega)) ?_);refine zh (vD (l:=enc r) (by repeat (first | exact hm1 | apply List.mem_cons_of_mem)) rfl hg1 rfl ?_);refine zh (Zt fun p5=>?_);refine zh (ZX (c':=[sv r.n,.int .i64 r.t,.int .i64 r.c,.int .i64 r.ttl,sv r.d]) rfl rfl rfl rfl rfl ?_);refine zf (za (vR (R:=[[(p3,.cells #[sv (zk s.name),.int .i64 s.typ,.slice ra ((s.rrs.take i).map fr).length rc,.int .i64 s.kind,sv (zk s.zone)] 46)],[(p5,.cells (dA r) 89)]]) (by simp) (zi (zl rfl) (Zd rfl rfl (zi (zl rfl) (zi (zl rfl) (Zd rfl rfl (zi (zl rfl) (Zd rfl rfl (zi (zl rfl) (Zd rfl rfl (zi (zl rfl) (Zd rfl rfl ?_)))))))))))));refine zX (zm (jF r.t r.d hd) rfl rfl fun r' S' h=>?_) zK;obtain⟨rfl,rfl⟩:=h;refine⟨by simp,?_⟩;refine zi (v:= .agg #[sv (zk s.name),.int .i64 r.t,.int .i64 1,.int .i64 0,sv (wK r.t r.d)]) rfl ?_;refine zX (Zu (⟨zk s.name,r.t,1,0,wK r.t r.d⟩:RR) rfl rfl (by decide) (by decide) rfl fun p96=>⟨by simp,?_⟩) zK;refine zO (Zj (Y:=[(⟨zk s.name,r.t,1,0,wK r.t r.d⟩:RR)]) rfl rfl hR (.lit (by repeat (first | exact List.mem_cons_self | apply List.mem_cons_of_mem)) rfl) rfl (⟨[],0,0,0,[]⟩:RR) rfl (by rw[List.length_singleton]; omega) (by rw[List.length_singleton]; omega) fun v7 H7 hL7=>?_) zK;obtain⟨l7a,l7c,rfl⟩:=hL7.isSlice;refine zi (zl rfl) ?_;refine zO (jk rfl rfl (yN rfl) ?_) zK;refine zN (zY (za (z8 (yp (pI rfl) (yp (Z9 rfl rfl (by omega)) (yp (pI rfl) (zf (za ?_))))))));refine⟨i+1,⟨.slice l7a ((s.rrs.take i).map fr++[(⟨zk s.name,r.t,1,0,wK r.t r.d⟩:RR)]).length l7c,H7,⟨rfl,rfl,rfl,rfl,trivial⟩,by omega,?_,.of⟩,by omega⟩;rw[htk,List.map_append,List.map_singleton,hfrr]; exact hL7
 ·have hni:s.rrs.take i=s.rrs:=List.take_of_length_le (by omega);rw[hni, ←hfr] at hR ⊢;refine Z0 (zF (zF (Z4 (za (ze (z8 ?_))))));refine zh (wC (l:=[sv (zk s.name),.int .i64 s.typ,.slice ra (Zr s).rrs.length rc,.int .i64 s.kind,sv (zk s.zone)]) rfl rfl rfl ?_);refine zh (ZX (c:=[.string ⟨#[]⟩,.int .i64 0,.slice none 0 0,.int .i64 0,.string ⟨#[]⟩]) (c':=[sv (zk s.name),.int .i64 s.typ,.slice ra (Zr s).rrs.length rc,.int .i64 s.kind,sv (zk s.zone)]) rfl rfl rfl rfl rfl ?_);refine zf (za (zH ?_));exact zG (eZ (l9 (b:=p2) (l:=[sv (zk s.name),.int .i64 s.typ,.slice ra (Zr s).rrs.length rc,.int .i64 s.kind,sv (zk s.zone)]) YA Y4 rfl rfl)) ⟨_,.of,_,HR,rfl,hR,rfl⟩
def iY(z:Int):UInt8:=UInt8.ofNat (z%256).toNat
theorem Jz{E:Env}{x:Operand}{z:Int}(h:ev E x= .int .i64 z):zn (ev E) (.conv .u8 x)=some (.int .u8 ((iY z).toNat:Int)):=by
 simp only[zn,h,XA];have:(iY z).toNat=(z%256).toNat%256:=by simp[iY]
 rw[this];congr 2;omega
def bX(z:Int)(k:Nat):Int:=z.fdiv (2 ^ (Nat.min k 64))
theorem aj{E:Env}{x:Operand}{z:Int}(k:Nat)(h:ev E x= .int .i64 z):zn (ev E) (.bin .shr x (.const (.int .u64 (k:Int))))=some (.int .i64 (bX z k)):=by
 have:zn (ev E) (.bin .shr x (.const (.int .u64 (k:Int))))=WK .shr (ev E x) (.int .u64 (k:Int)):=rfl;rw[this,h];show(if IntKind.i64=IntKind.u64∨BinOp.shr= .shl∨BinOp.shr= .shr then vI .shr .i64 z (k:Int) else none)=_;rw[if_pos (.inr (.inr rfl))];show(if(k:Int)<0 then none else some (Value.int .i64 (z.fdiv (2 ^ (Nat.min (k:Int).toNat 64)))))=_;rw[if_neg (by omega)]; rfl
/-- an address's set -/
def Uv(n d:Bs):St:=⟨n,1,0,[0],[⟨n,1,1,0,d⟩]⟩
theorem Ch(n:Bs)(z:Int):Tri Tryz.prog 32 #[sv n,.int .i64 z] [] (fun r S=>∃d v H,d.length=4∧r= .agg (Y9 (Uv n d) v)∧Zf 89 v (Uv n d).rrs H∧S=[H]):=by
 refine Tri.forget (zB Tryz.BH (Nat.le_of_ble_eq_true rfl) ?_);unfold Tryz.x32;refine ze (z8 ?_);refine zh (Zt fun p4=>?_);refine zf (za (ze (z8 (yp (pT rfl) (yp (UD (gH rfl) (U4 rfl)) (yp (pT rfl) (yp (pI rfl) (yp (aj 24 rfl) (yp (Jz rfl) (yp (pI rfl) (yp (aj 16 rfl) (yp (Jz rfl) (yp (pI rfl) (yp (aj 8 rfl) (yp (Jz rfl) (yp (pI rfl) (yp (Jz rfl) ?_)))))))))))))))));generalize iY (bX z 24)=b0;generalize iY (bX z 16)=b1;generalize iY (bX z 8)=b2;generalize iY z=b3;refine zh (bN (l:=cells [b0,b1,b2,b3]) rfl (by decide) (by decide) (by decide) rfl fun p19=>?_);refine zh (jq (Y:=[b0,b1,b2,b3]) rfl (.lit (by repeat (first | exact List.mem_cons_self | apply List.mem_cons_of_mem)) rfl) ?_);refine yp (v:= .agg #[sv n,.int .i64 1,.int .i64 1,.int .i64 0,sv [b0,b1,b2,b3]]) rfl ?_;refine zh (Zu (⟨n,1,1,0,[b0,b1,b2,b3]⟩:RR) rfl rfl (by decide) (by decide) rfl fun p22=>?_);refine yp (v:= .agg #[sv n,.int .i64 1,.slice (some ⟨p22,0,none⟩) 1 1,.int .i64 0,sv [0]]) rfl ?_;refine zh (ZX (c':=[sv n,.int .i64 1,.slice (some ⟨p22,0,none⟩) 1 1,.int .i64 0,sv [0]]) rfl rfl rfl rfl rfl ?_);refine zf (za (zH ?_));exact zG (eZ (l9 (b:=p4) (l:=[sv n,.int .i64 1,.slice (some ⟨p22,0,none⟩) 1 1,.int .i64 0,sv [0]]) YA Y4 rfl rfl)) ⟨[[(p22,.cells (cells [(⟨n,1,1,0,[b0,b1,b2,b3]⟩:RR)]).toArray 89)]],.of,[b0,b1,b2,b3],_,_,rfl,rfl,.full (L:=[(⟨n,1,1,0,[b0,b1,b2,b3]⟩:RR)]) rfl,rfl⟩
theorem bZ{n d:Bs}(hn:wO n=true)(hd:d.length=4):ZL (Uv n d)=0∧Zg (Uv n d)=22∧zS (Uv n d)=[n,[0]]∧yP (Uv n d):=by
 have hv0:wO [0]=true:=by decide+kernel
 have hp:prt 1 d=[]:=Wt rfl;have hdo:Zo 1 d=true:=by unfold Zo; rw[if_neg (by omega),if_pos rfl,hd]; rfl
 have hsz:Zg (Uv n d)=22:=by
  unfold Zg Uv Wj;simp only[List.map_cons,List.map_nil,hp,hd];decide
 have hm:WC (Uv n d)=true:=by
  unfold WC Uv vT Uw;simp[hn,hv0,hdo]
 have hnl:=ZQ hn;refine⟨?_,hsz,?_,⟨by show n.length<_; omega,by show 1<_; omega,by show 1<_; omega,fun r hr=>?_⟩⟩
 ·unfold ZL;rw[if_neg (by rw[hm]; decide),hsz,if_neg (by decide)]
 ·unfold zS Uv Zk;simp only[List.map_cons,List.map_nil,hp]; rfl
 ·rw[List.mem_singleton.1 hr];exact⟨by show n.length<_; omega,by show d.length<_; omega⟩
theorem JC{n:Nat}(hn:1024≤n∧n≤1048576){z:Int}(hz:z=n):Tri Tryz.prog 14 #[.int .i64 z] [] (fun r S=>∃ab tb T H,r= .tuple #[.pointer (some ⟨ab,0,none⟩),.pointer (some ⟨tb,0,none⟩),.bool true]∧Tb tb ab [] T∧Ar ab n [] H∧S=[T,H]):=by
 refine Tri.forget (zB Tryz.C8 (Nat.le_of_ble_eq_true rfl) ?_);unfold Tryz.Dq;refine ze (z8 (yp pC (yp pC (yp pC (zf (za (ze (z8 (yp (pI rfl) ?_)))))))));refine zh (zm (iZ hn hz) rfl rfl fun r S' h=>?_);obtain⟨ab,H,rfl,hA,rfl⟩:=h;refine yp (pU rfl) (yp (pExt rfl rfl) (yp (pExt rfl rfl) (yp (pP rfl) (yp (pI rfl) (zf (za (ze (z8 (yp (pP rfl) ?_)))))))));refine zh (zm (mZ (ab:=ab)) rfl rfl fun r S' h=>?_);obtain⟨tb,T,rfl,hT,rfl⟩:=h;refine yp (pP rfl) (zf (za (ze (z8 (yp (pP rfl) (yp (pP rfl) (yp (pI rfl) (yp (WA rfl rfl) (yp (pB rfl) (zV rfl (zZ (pP rfl) (zV rfl (zZ (jM rfl rfl) (yp (zD rfl rfl) (yp (pB rfl) (zV rfl (zZ (pP rfl) (zV rfl (zZ (jM rfl rfl) (yp (zD rfl rfl) (yp (pP rfl) (yp (pP rfl) (yp (pB rfl) (zf (za (zH ?_))))))))))))))))))))))))));exact zG (nC rfl rfl rfl) ⟨[T,H],.of,ab,tb,T,H,rfl,hT,hA,rfl⟩
/-- what is used when a set was put -/
theorem QK{N:Nat}{D D':List (Option Bt)}{L:List Nm}{s:St}(hE:ZL s=0)(hN:Z8 D≤N)(hf:fits N D L s)(hs:VA D' (Zc (ZI N D L (zS s)).D (Zg s).toNat)):(Z8 D':Int)=Z8 D+Wd L s:=by
 obtain⟨hm,h4096⟩:=uN hE;have h16:=Xc hm;have hC:Wd L s=cost (Zg s)+(wG L [] (zS s):Nat):=by unfold Wd; rw[if_pos hE]
 have hc:cost (Zg s)=(Z6 (Zg s).toNat:Nat):=by unfold cost; rw[if_neg (by omega)]
 obtain⟨h1,_⟩:=UQ (N:=N) (l:=zS s) (D:=D) (L:=L) (vM hm) hN;unfold fits at hf;rw[hC,hc] at hf;obtain⟨_,h2⟩:=h1 (by omega);rw[XD hs,Um,h2,hC,hc];omega
def sS:St:=⟨[],0,0,[],[]⟩
set_option maxRecDepth 10000 in
set_option maxHeartbeats 1000000 in
theorem yI:Tri Tryz.prog 13 #[] [] (fun r S=>r= .bool true∧S=[]):=by
 refine Tri.forget (zB Tryz.C9 (Nat.le_of_ble_eq_true rfl) ?_);unfold Tryz.Dr;refine ze (z8 (yp pC (zf (za (ze (z8 ?_))))));refine zh (zm (JC (n:=1024) (by decide) rfl) rfl rfl fun r S' h=>?_);obtain⟨ab,tb,T,H,rfl,hT,hA,rfl⟩:=h;refine yp (pU rfl) (yp (pExt rfl rfl) (yp (pExt rfl rfl) (yp (pExt rfl rfl) (yp (pP rfl) (yp (pP rfl) (yp (pB rfl) (zf (za (ze (ze (z8 (yp (pB rfl) (yp (Ze rfl) (zf (za (zA rfl (zx (za (ze (z8 ?_))))))))))))))))))));refine zh (zm (Ch [1,65,0] 5) rfl rfl fun r S' h=>?_);obtain⟨d,v,HS,hd,rfl,hR,rfl⟩:=h;obtain⟨hE,hsz,hnm,hok⟩:=bZ (n:=[1,65,0]) (d:=d) (by decide+kernel) hd;have hZ:WL (Uv [1,65,0] d)=22:=by unfold WL; rw[if_pos hE,hsz]
 have hcost:Wd [] (Uv [1,65,0] d)=96:=by unfold Wd; rw[if_pos hE,hsz,hnm]; decide+kernel
 have hsrc:=hR.src (S:=[HS]) (by simp);have hin:Wo [] [] []:=Wo.nil;generalize Uv [1,65,0] d=s at*
 obtain⟨va,vc,rfl⟩:=hR.isSlice;refine zh (Zt fun p4=>?_);refine zh (ZX (c':=[sv s.name,.int .i64 s.typ,.slice va s.rrs.length vc,.int .i64 s.kind,sv s.zone]) rfl rfl rfl rfl rfl ?_);refine zf (za (ze (z8 ?_)));refine zh (wC (l:=[sv s.name,.int .i64 s.typ,.slice va s.rrs.length vc,.int .i64 s.kind,sv s.zone]) rfl rfl rfl ?_);refine zh (zm (xq (S:=[HS]) hok hsrc) rfl rfl fun r S' h=>?_);obtain⟨rfl,rfl⟩:=h;rw[hZ,hE];refine yp (pU rfl) (yp (pExt rfl rfl) (yp (pExt rfl rfl) (yp (pI rfl) (yp (pI rfl) (zf (za (ze (z8 (yp (pP rfl) ?_)))))))));refine zh (wC (l:=[sv s.name,.int .i64 s.typ,.slice va s.rrs.length vc,.int .i64 s.kind,sv s.zone]) rfl rfl rfl ?_);refine zh (zm (QU (S:=[HS]) hT hok hsrc) rfl rfl fun r S' h=>?_);obtain⟨rfl,rfl⟩:=h;rw[hcost];refine yp (pI rfl) (zf (za (ze (z8 (yp (pP rfl) (yp (pP rfl) ?_))))));refine zh (wC (l:=[sv s.name,.int .i64 s.typ,.slice va s.rrs.length vc,.int .i64 s.kind,sv s.zone]) rfl rfl rfl ?_);have hf:fits 1024 [] [] s:=by unfold fits; rw[hcost]; decide
 have hLd:= @YB 1024 (zS s) [] [] Wo.nil.dis .nil Wo.nil.stand;have hLa:= @K4 1024 (zS s) [] [];have he:=(UJ hE (Nat.zero_le _) ⟨by omega,by omega⟩ (vM (uN hE).1)).1 hf;refine zh (zm (QS (S:=[HS]) hT hA hin .nil (List.nodup_nil) (fun e he=>by simp at he) hok hsrc) rfl rfl fun r S' h=>?_);rcases h with⟨h,_⟩ | ⟨_,h,_⟩ | ⟨_,_,T2,H2,D2,rfl,hT2,hA2,hI2,hB2,hs2,rfl⟩
 ·exact absurd hE h
 ·exact absurd hf h
 have hu2:=QK hE (Nat.zero_le _) hf hs2;rw[hcost] at hu2;have hal:=hLa he.1;have hPP:Pos (ZI 1024 [] [] (zS s)).L:=(YC.nil.adds (fun e he=>by simp at he)).pos;generalize ZI 1024 [] [] (zS s)=P at*
 refine yp (pU rfl) (yp (pExt rfl rfl) (yp (pExt rfl rfl) (yp (pI rfl) (yp (pI rfl) (zf (za (ze (z8 (yp (pP rfl) (yp (pP rfl) (yp (pI rfl) ?_)))))))))));refine zh (zm (fu hT2 hA2 hI2 (h:=((hnd P.D:Nat):Int)) (s:=s) (ids:=P.ids) List.mem_cons_self hE hal) rfl rfl fun r S' h=>?_);obtain⟨v3,HR,rfl,hR3,rfl⟩:=h;obtain⟨v3a,v3c,rfl⟩:=hR3.isSlice;refine yp (pU rfl) (yp (pExt rfl rfl) (yp (pExt rfl rfl) ?_));refine zh (Zt fun p10=>?_);refine zh (ZX (c':=[sv (Zr s).name,.int .i64 (Zr s).typ,.slice v3a (Zr s).rrs.length v3c,.int .i64 (Zr s).kind,sv (Zr s).zone]) rfl rfl rfl rfl rfl ?_);refine yp (pI rfl) (zf (za (ze (z8 (yp (pP rfl) ?_)))));refine zh (zm (Xm hA2) rfl rfl fun r S' h=>?_);obtain⟨rfl,rfl⟩:=h;rw[show((Z8 D2:Nat):Int)=96 from by rw[hu2]; rfl];refine yp (pI rfl) (zf (za (ze (z8 (yp (pP rfl) (yp (pP rfl) (yp (pI rfl) ?_)))))));refine zh (zm (QT hT2 hA2 hI2 hPP (h:=((hnd P.D:Nat):Int)) (s:=s) (ids:=P.ids) List.mem_cons_self hE hal hok) rfl rfl fun r S' h=>?_);obtain⟨rfl,T4,H4,D4,hT4,hA4,hI4,hs4,rfl⟩:=h;have hout:yT [(((hnd P.D:Nat):Int),Wn s P.ids)] ((hnd P.D:Nat):Int)=[]:=by unfold yT; simp
 rw[hLd] at hT4 hI4;rw[hout] at hI4;have hu4:=hI4.empty;have hno:Zb D4 ((hnd P.D:Nat):Int)=none:=by
  cases hb:Zb D4 ((hnd P.D:Nat):Int) with
  | none=>rfl
  | some b=>
   rcases hI4.all _ b hb with⟨e,he,_⟩ | ⟨x,hx,_⟩
   ·simp at he
   ·simp at hx
 have hzE:ZL sS=1:=by decide+kernel
 have hzZ:WL sS=0:=by unfold WL; rw[hzE]; rfl
 refine yp (pI rfl) (zf (za (ze (z8 (yp Xh ?_)))));refine zh (zm (xq (S:=[]) (s:=sS) (v:= .slice none 0 0) ⟨by decide,by decide,by decide,fun r hr=>by simp[sS] at hr⟩ .nil) rfl rfl fun r S' h=>?_);obtain⟨rfl,rfl⟩:=h;rw[hzZ,hzE];refine yp (pU rfl) (yp (pExt rfl rfl) (yp (pExt rfl rfl) (yp (pI rfl) (yp (pI rfl) (zf (za (ze (z8 (yp (pP rfl) (yp (pP rfl) (yp (pI rfl) ?_)))))))))));refine zh (zm (dF hT4 hA4 hI4 hno) rfl rfl fun r S' h=>?_);obtain⟨rfl,rfl⟩:=h;refine yp (pU rfl) (yp (pExt rfl rfl) (yp (pExt rfl rfl) ?_));refine zh (Zt fun p16=>?_);refine zh (ZX (c':=lq) rfl rfl rfl rfl rfl ?_);refine yp (pI rfl) (zf (za (ze (vR (R:=[[(p10,.cells [sv (Zr s).name,.int .i64 (Zr s).typ,.slice v3a (Zr s).rrs.length v3c,.int .i64 (Zr s).kind,sv (Zr s).zone].toArray 46)],[(p4,.cells [sv s.name,.int .i64 s.typ,.slice va s.rrs.length vc,.int .i64 s.kind,sv s.zone].toArray 46)]]) (by simp) (zi (pI rfl) (zi (WA rfl rfl) (zi (pB rfl) (zR rfl (zi (pI rfl) (zR rfl (zi (WA rfl rfl) (zi (zD rfl rfl) (zi (pB rfl) (zR rfl (zi (pI rfl) (zR rfl (zi (WA rfl rfl) (zi (zD rfl rfl) (zi (pB rfl) (zR rfl (zi (pI rfl) (zR rfl (zi (WA rfl rfl) (zi (zD rfl rfl) (zi (pB rfl) (zR rfl (zi (pI rfl) (zR rfl (zi (WA rfl rfl) (zi (zD rfl rfl) (zi (pB rfl) (zR rfl (ji (l:=[sv (Zr s).name,.int .i64 (Zr s).typ,.slice v3a (Zr s).rrs.length v3c,.int .i64 (Zr s).kind,sv (Zr s).zone]) rfl rfl rfl ?_)))))))))))))))))))))))))))))))));refine zR rfl (ji (l:=[sv s.name,.int .i64 s.typ,.slice va s.rrs.length vc,.int .i64 s.kind,sv s.zone]) rfl rfl rfl ?_);refine ZP rfl (zX (zm (Ky (S:=[HS]) hok hsrc) rfl rfl fun r S' h=>?_) zK) zK;obtain⟨v5,HF,rfl,hF,rfl⟩:=h;refine⟨by simp,?_⟩;have hfl:(Zr s).rrs.length<2 ^ 40:=by
  show(s.rrs.map _).length<_;rw[List.length_map];have:=hok.rrs;omega
 refine ZP rfl (zO (zm (Qw (S:=[HR,HF]) hfl (hR3.src (by simp)) (hF.src (by simp))) rfl rfl fun r S' h=>?_) zK) zK;obtain⟨rfl,rfl⟩:=h;refine zi (zD rfl rfl) (zi (pB rfl) (zR rfl (zi (pI rfl) (zR rfl (zi (pI rfl) (zR rfl (zi (WA rfl rfl) (zi (zD rfl rfl) (zi (pB rfl) (zR rfl (zi (pI rfl) (zR rfl (zi (WA rfl rfl) (zi (zD rfl rfl) (zi (pB rfl) (zR rfl (zi (pP rfl) ?_)))))))))))))))));refine ZP rfl ?_ zK;refine zO (zm (Xm hA4) rfl rfl fun r S' h=>?_) zK;obtain⟨rfl,rfl⟩:=h;rw[hu4];refine zR rfl (zi (WA rfl rfl) (zi (zD rfl rfl) (zi (pB rfl) (zR rfl (zi (pP rfl) ?_)))));refine ZP rfl ?_ zK;refine zO (zm (YP hT4) rfl rfl fun r S' h=>?_) zK;obtain⟨rfl,rfl⟩:=h;refine zR rfl (zi (WA rfl rfl) (zi (zD rfl rfl) (zi (pB rfl) (zR rfl (zi (pI rfl) (zR rfl (zi (WA rfl rfl) (zi (zD rfl rfl) (zi (pB rfl) (zR rfl (zi (pI rfl) (zR rfl (zi (WA rfl rfl) (zi (zD rfl rfl) (zi (pB rfl) (zN (za (zH ?_))))))))))))))))));exact zG (rB rfl) ⟨[],⟨_,List.Perm.refl _⟩,rfl,rfl⟩
end Go.Proofs.YtekgciopamkjlaaGreat
