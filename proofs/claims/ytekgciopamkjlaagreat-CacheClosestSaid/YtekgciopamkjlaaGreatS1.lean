/- The document's own answer (freshetref1): names in data. The document's own answer (freshetref6): sets alike, sets folded. freshetalike: a name of a number, an address's set. The set of an address may be: what it takes. -/
import Derived.Test.YtekgciopamkjlaaGreatP1
import Derived.Test.YtekgciopamkjlaaGreatP3
import Derived.Test.YtekgciopamkjlaaGreatFRefS
import Derived.Test.YtekgciopamkjlaaGreatAlk
namespace Go.Proofs.YtekgciopamkjlaaGreat
open Go.Xs
open Enc (enc)
def l8(d:Bs)(a:Nat):Value:=if(lead (d.drop a)).2=true then .tuple #[.int .i64 ((a+(lead (d.drop a)).1:Nat):Int),.bool true] else .tuple #[.int .i64 0,.bool false]
theorem Lv(d:Bs)(a:Nat)(hd:d.length<2 ^ 40)(_ha:a<2 ^ 41):Tri Tryz.prog 98 #[sv d,.int .i64 (a:Int)] [] (fun r S=>r=l8 d a∧S=[]):=by
 refine Tri.forget (zq Tryz.RA (Nat.le_of_ble_eq_true rfl) ?_);unfold Tryz.x98;refine ze (z8 (yp pC (yp pC (zf (za (ze (ze (z8 (yp (pI rfl) (yp (pI rfl) (zf (za (zu ?_)))))))))))));refine Z7 (σ:=Nat) (fun j E S=>Has E [(0,sv d),(1,.int .i64 (a:Int)),(6,.int .i64 ((a+j:Nat):Int))]∧(j≤300∧∀m,1≤m→m≤j→wm ((d.drop a).take m)=false)∧(j=0∨a+j≤d.length)∧zG S []) (fun j=>400-j) 0 ⟨⟨rfl,rfl,rfl,trivial⟩,⟨Nat.zero_le _,fun m h1 h2=>by omega⟩,.inl rfl,.of⟩ fun j E S ⟨hE,⟨hj,hall⟩,hjl,hJ⟩=>?_
 have hno:∀k,(∀m,1≤m→m≤k→wm ((d.drop a).take m)=false)→(255≤k∨d.length≤a+k)→l8 d a= .tuple #[.int .i64 0,.bool false]:=fun k h1 h2=>by
  unfold l8;split
  ·next h3=>
   have hl:lead (d.drop a)=((lead (d.drop a)).1,true):=by rw[←h3]
   obtain⟨h4,h5,h6⟩:=WC hl;have h7:=(UL.1 hl).2;rw[List.length_drop] at h6;rw[h1 _ h4 (by omega)] at h7; cases h7
  ·rfl
 obtain⟨E0,e0⟩:=zm hE; subst e0; clear hE;refine zn hJ (ze (ze (z8 (yp (pI rfl) (yp (pT rfl) (yp (Wm rfl) (yp (ZE rfl rfl) (zf (za ?_)))))))));rw[Xt];refine zR rfl (fun h1=>?_) (fun h1=>?_)
 ·have hlt:a+j<d.length:=by omega
  refine zl (za (ze (zu (ze (ze (z8 (yp (pT rfl) (yp (pI rfl) (yp (pI rfl) (yp (Z8 rfl rfl (by omega)) (yp (pG (Y:=d) (j:=a) (k:=a+j+1) rfl rfl rfl ⟨by omega,by omega⟩) ?_)))))))))));rw[show a+j+1-a=j+1 from by omega];have htl:((d.drop a).take (j+1)).length=j+1:=by rw[List.length_take,List.length_drop]; omega
  refine zh (zk (xE ((d.drop a).take (j+1)) (by rw[htl]; omega)) rfl rfl fun r' S' h=>?_);obtain⟨rfl,rfl⟩:=h;cases hv:wm ((d.drop a).take (j+1)) with
  | true=>
   have hl:lead (d.drop a)=(j+1,true):=UL.2 ⟨by rw[List.length_drop]; omega,hv⟩;have he:l8 d a= .tuple #[.int .i64 ((a+j+1:Nat):Int),.bool true]:=by unfold l8; rw[hl,if_pos rfl]; rfl
   refine zf (za (zC rfl (ze (z8 (yp (pI rfl) (yp (Z8 rfl rfl (by omega)) (yp (pI rfl) (yp pC (zf (za (zJ (zV (bret (zV (zV (bret (zV ?_)))))))))))))))));exact zI (dZ rfl rfl) ⟨_,.of,by rw[he],rfl⟩
  | false=>
   have hall2:∀m,1≤m→m≤j+1→wm ((d.drop a).take m)=false:=fun m h2 h3=>by
    rcases Nat.lt_or_ge j m with h4 | h4
    ·obtain rfl:m=j+1:=by omega
     exact hv
    ·exact hall m h2 h4
   refine zf (za (zo rfl (zl (za (ze (z8 (yp (pI rfl) (yp (pI rfl) (yp (Zy rfl rfl (by omega)) (yp (WS rfl rfl) (zf (za ?_))))))))))));by_cases h2:255<((a+j:Nat):Int)-(a:Int)
   ·rw[decide_eq_true h2];refine zC rfl (ze (z8 (yp pC (yp pC (zf (za (zJ (bret (zV (zV (bret (zV ?_))))))))))));exact zI (dZ rfl rfl) ⟨_,.of,by rw[hno (j+1) hall2 (.inl (by omega))],rfl⟩
   ·rw[decide_eq_false h2];refine zo rfl (zl (zW (za (z8 (yp (pI rfl) (yp (Z8 rfl rfl (by omega)) (yp (pI rfl) (zf (za ?_)))))))));exact⟨j+1,⟨⟨rfl,rfl,rfl,trivial⟩,⟨by omega,hall2⟩,.inr (by omega),.of⟩,by omega⟩
 ·refine zZ (zA (zA (Z0 (za (ze (z8 (yp pC (yp pC (zf (za (zJ ?_)))))))))));exact zI (dZ rfl rfl) ⟨_,.of,by rw[hno j hall (.inr (by omega))],rfl⟩
theorem Bc(d:Bs):txt d=(decide (0<d.length) && mg (d.length+1) d 0):=by
 unfold txt;cases d with
 | nil=>rfl
 | cons b l=>rw[decide_eq_true (show 0<(b::l).length from by simp)]; rfl
theorem FH{d:Bs}:∀{k a:Nat} {l:List Pl} {e:Nat},Xm d k a=some (l,e)→1≤k→a≤d.length
 | 0,_,_,_,_,h=>by omega
 | k+1,a,l,e,h,_=>by
  unfold Xm at h;split at h
  ·next h2=>
   have hl:lead (d.drop a)=((lead (d.drop a)).1,true):=by rw[←h2]
   have hp:=WC hl;rw[List.length_drop] at hp;omega
  ·cases h
theorem BH(t:Int)(d:Bs)(hd:d.length<2 ^ 40):Tri Tryz.prog 52 #[.int .i64 t,sv d] [] (fun r S=>∃v L H,r= .tuple #[v,.bool (Zk t d)]∧Zg 106 v (L:List Pl) H∧(Zk t d=true→L=prt t d)∧S=[H]):=by
 refine Tri.forget (zq Tryz.SC (Nat.le_of_ble_eq_true rfl) ?_);unfold Tryz.x52;have hnil:∀{v:Value} {b:Bool},Zk t d=b→(b=true→prt t d=[])→v= .tuple #[.slice none 0 0,.bool b]→∀S,∃S'',zG S S''∧∃w L H,v= .tuple #[w,.bool (Zk t d)]∧Zg 106 w (L:List Pl) H∧(Zk t d=true→L=prt t d)∧S''=[H]:=fun h h2 hv S=>⟨[[]],⟨S.flatten,by simp⟩,_,[],[],by rw[h]; exact hv,.nil,fun hl=>(h2 (h.symm.trans hl)).symm,rfl⟩
 have hok:Zk t d=(if 1000<d.length then false else if t=1 then d.length==4 else if t=28 then d.length==16 else if t=16 then txt d else(xX t d).isSome):=rfl;refine ze (z8 (yp pC (yp pC (zf (za (ze (ze (z8 (yp (pT rfl) (yp (Wm rfl) (yp (WS rfl rfl) (zf (za ?_)))))))))))));rw[Xt];by_cases h0:1000<d.length
 ·rw[decide_eq_true (show(1000:Int)<(d.length:Int) from by omega)];refine zC rfl (ze (z8 (yp pC (yp pC (zf (za (zJ (zV ?_))))))));exact zI (KG rfl rfl) (hnil (b:=false) (by rw[hok,if_pos h0]) (fun h=>by cases h) rfl _)
 rw[decide_eq_false (show ¬(1000:Int)<(d.length:Int) from by omega)];rw[if_neg h0] at hok;refine zo rfl (zl (za (ze (z8 (yp pC (yp pC (yp pC (zf (za ?_)))))))));refine uy (fun E S=>∃a k b,wE t=some (a,k,b)∧Has E [(1,sv d),(6,.int .i64 (a:Int)),(7,.int .i64 (k:Int)),(8,.int .i64 (b:Int))]∧zG S []) ?_ ?_
 ·refine ze (z8 (yp (pI rfl) (zf (za (zu (ze (z8 (yp (wB rfl rfl) (yp (pB rfl) (zf (za ?_)))))))))));by_cases h1:t=1
  ·rw[decide_eq_true h1];rw[if_pos h1] at hok;refine zC rfl (ze (z8 (yp (pT rfl) (yp (Wm rfl) (yp (wB rfl rfl) (yp pC (yp (pB rfl) (zf (za (zJ (bret (zV ?_))))))))))));rw[Xt]
   skip
   rw[Ee];exact zI (KG rfl rfl) (hnil hok (fun _=>by rw[h1]; exact WB rfl) rfl _)
  rw[decide_eq_false h1];rw[if_neg h1] at hok;refine zo rfl (ze (z8 (yp (wB rfl rfl) (yp (pB rfl) (zf (za ?_))))));by_cases h2:t=28
  ·rw[decide_eq_true h2];rw[if_pos h2] at hok;refine zC rfl (ze (z8 (yp (pT rfl) (yp (Wm rfl) (yp (wB rfl rfl) (yp pC (yp (pB rfl) (zf (za (zJ (bret (zV ?_))))))))))));rw[Xt]
   skip
   rw[sZ];exact zI (KG rfl rfl) (hnil hok (fun _=>by rw[h2]; exact WB rfl) rfl _)
  rw[decide_eq_false h2];rw[if_neg h2] at hok;refine zo rfl (ze (z8 (yp (wB rfl rfl) (yp (pB rfl) (zf (za ?_))))));by_cases h3:t=16
  ·rw[decide_eq_true h3];rw[if_pos h3,Bc] at hok;have hpn:prt t d=[]:=by rw[h3]; exact WB rfl
   refine zC rfl (ze (z8 (yp pC (zf (za (ze (zu ?_)))))));refine Z7 (σ:=Nat) (fun a E S=>Has E [(1,sv d),(9,.int .i64 (a:Int))]∧a≤d.length+256∧(∃f,mg (d.length+1) d 0=mg f d a∧d.length+1≤f+a∧1≤f)∧zG S []) (fun a=>d.length+300-a) 0 ⟨⟨rfl,rfl,trivial⟩,Nat.zero_le _,⟨_,rfl,Nat.le_refl _,by omega⟩,.of⟩ fun a E S ⟨hE,ha,⟨f,hf,hfl,hf1⟩,hJ⟩=>?_
   obtain⟨f,rfl⟩:∃g,f=g+1:=⟨f-1,by omega⟩
   obtain⟨E0,e0⟩:=zm hE; subst e0; clear hE;refine zn hJ (ze (ze (z8 (yp (pI rfl) (yp (pT rfl) (yp (Wm rfl) (yp (ZE rfl rfl) (zf (za ?_)))))))));rw[Xt];refine zR rfl (fun h4=>?_) (fun h4=>?_)
   ·have hlt:a<d.length:=by omega
    have hy:d[a]?=some d[a]:=List.getElem?_eq_getElem hlt;generalize d[a]=b at hy;have hb:=b.toNat_lt;rw[qX hy] at hf;refine zl (za (zu (z8 (yp (pI rfl) (yp (Z8 rfl rfl (by omega)) (yp (pT rfl) (yp (pI rfl) (yp (Jv rfl rfl hy) (yp (kG rfl) (yp (Zj rfl rfl (by omega)) (yp (pI rfl) (zf (zW (za ?_))))))))))))));exact⟨a+1+b.toNat,⟨⟨rfl,rfl,trivial⟩,by omega,⟨f,hf,by omega,by omega⟩,.of⟩,by omega⟩
   ·rw[J8 (f:=f) (a:=a) (by omega)] at hf;rw[hf] at hok;refine zZ (zA (zA (Z0 (za (ze (z8 (yp (pT rfl) (yp (Wm rfl) (yp (WS rfl rfl) (yp (pB rfl) ?_))))))))));rw[Xt];by_cases h5:0<d.length
    ·rw[decide_eq_true (show(0:Int)<(d.length:Int) from by omega)];rw[decide_eq_true h5] at hok;refine zK rfl (zQ (pI rfl) (zK rfl (zQ (pT rfl) (zK rfl (zQ (Wm rfl) (zK rfl (zQ (wB rfl rfl) (yp (zw rfl rfl) (yp pC (yp (pB rfl) (zf (za (zJ (bret (zV ?_)))))))))))))));rw[Xt]
     skip
     have h6:decide ((a:Int)=(d.length:Int))=(a==d.length):=by
      by_cases h:a=d.length
      ·rw[decide_eq_true (by omega),beq_iff_eq.2 h]
      ·rw[decide_eq_false (by omega),beq_eq_false_iff_ne.2 h]
     rw[h6];exact zI (KG rfl rfl) (hnil hok (fun _=>hpn) rfl _)
    ·rw[decide_eq_false (show ¬(0:Int)<(d.length:Int) from by omega)];rw[decide_eq_false h5] at hok;refine zP rfl (zP rfl (zP rfl (zP rfl (yp (zD rfl rfl) (yp pC (yp (pB rfl) (zf (za (zJ (bret (zV ?_)))))))))));exact zI (KG rfl rfl) (hnil hok (fun _=>hpn) rfl _)
  rw[decide_eq_false h3];rw[if_neg h3] at hok;refine zo rfl (ze (z8 (yp (wB rfl rfl) (yp (pB rfl) (zf (za ?_))))));by_cases h4:t=15
  ·rw[decide_eq_true h4];refine zC rfl (z8 (yp pC (zf (zW (za ?_)))));exact⟨2,1,0,by rw[h4]; rfl,⟨rfl,rfl,rfl,rfl,trivial⟩,.of⟩
  rw[decide_eq_false h4];refine zo rfl (ze (z8 (yp (wB rfl rfl) (yp (pB rfl) (zf (za ?_))))));by_cases h5:t=33
  ·rw[decide_eq_true h5];refine zC rfl (z8 (yp pC (zf (zW (za ?_)))));exact⟨6,1,0,by rw[h5]; rfl,⟨rfl,rfl,rfl,rfl,trivial⟩,.of⟩
  rw[decide_eq_false h5];refine zo rfl (ze (z8 (yp (wB rfl rfl) (yp (pB rfl) (zf (za ?_))))));by_cases h6:t=6
  ·rw[decide_eq_true h6];refine zC rfl (z8 (yp pC (yp pC (zf (zW (za ?_))))));exact⟨0,2,20,by rw[h6]; rfl,⟨rfl,rfl,rfl,rfl,trivial⟩,.of⟩
  rw[decide_eq_false h6];refine zo rfl (ze (ze (z8 (yp (wB rfl rfl) (yp (pB rfl) (zf (za ?_)))))));by_cases h7:t=2
  ·rw[decide_eq_true h7];refine zC rfl (zl (za (zC rfl (zl (zW (za ?_))))));exact⟨0,1,0,by rw[h7]; rfl,⟨rfl,rfl,rfl,rfl,trivial⟩,.of⟩
  rw[decide_eq_false h7];refine zo rfl (ze (z8 (yp (wB rfl rfl) (yp (pB rfl) (zf (za ?_))))));by_cases h8:t=5
  ·rw[decide_eq_true h8];refine zC rfl (zl (za (zC rfl (zl (zW (za ?_))))));exact⟨0,1,0,by rw[h8]; rfl,⟨rfl,rfl,rfl,rfl,trivial⟩,.of⟩
  rw[decide_eq_false h8];refine zo rfl (z8 (yp (wB rfl rfl) (yp (pB rfl) (zf (za ?_)))));by_cases h9:t=12
  ·rw[decide_eq_true h9];refine zC rfl (zl (zW (za ?_)));exact⟨0,1,0,by rw[h9]; rfl,⟨rfl,rfl,rfl,rfl,trivial⟩,.of⟩
  rw[decide_eq_false h9];have hsn:wE t=none:=by
   unfold wE;rw[if_neg (by omega),if_neg (by omega),if_neg (by omega),if_neg (by omega)]
  refine zo rfl (ze (z8 (yp pC (yp pC (zf (za (zJ (bret (zV ?_)))))))));exact zI (KG rfl rfl) (hnil (b:=true) (by rw[hok]; unfold xX; rw[hsn]; rfl) (fun _=>WB hsn) rfl _)
 intro E S ⟨a,k,b,hsh,hE,hJ⟩;obtain⟨hs1,hs2,hs3⟩:=xC hsh;obtain⟨hn1,hn2,hn3⟩:=yV hsh;rw[if_neg hn1,if_neg hn2,if_neg hn3] at hok;have hp:xX t d=if d.length<a then none else match Xm d k a with
  | some (l,e)=>if d.length=e+b then some l else none
  | none=>none:=by unfold xX; rw[hsh]; rfl
 simp only at hs1 hs2 hs3;obtain⟨E0,e0⟩:=zm hE; subst e0; clear hE;refine zn hJ (ze (z8 (yp pC (zf (za (ze (z8 (yp (pI rfl) (yp (pI rfl) (zf (za (ze (ze (z8 (yp pC (zf (za (zu ?_))))))))))))))))));refine Z7 (σ:=Nat) (fun i E S=>∃(v:Value) (L:List Pl) (H:List Chunk) (e:Nat),Has E [(1,sv d),(7,.int .i64 (k:Int)),(8,.int .i64 (b:Int)),(11,.int .i64 (e:Int)),(12,.int .i64 (i:Int))]∧E 10=v∧Zg 106 v L H∧L.length=i∧i≤k∧(e≤d.length∨e=a∧i=0)∧(a≤d.length→e≤d.length)∧Xm d k a=(Xm d (k-i) e).map (fun x=>(L++x.1,x.2))∧zG S [H]) (fun i=>k-i) 0
  ⟨_,[],[],a,⟨rfl,rfl,rfl,rfl,rfl,trivial⟩,rfl,.nil,rfl,Nat.zero_le _,.inr ⟨rfl,rfl⟩,id,by cases Xm d (k-0) a<;>rfl,.of⟩ fun i E S ⟨v,L,H,e,hE,hE4,hL,hLl,hi,he,hae,hx,hJ⟩=>?_
 obtain⟨la,lc,rfl⟩:=hL.isSlice;have hE2:Has E [(1,sv d),(7,.int .i64 (k:Int)),(8,.int .i64 (b:Int)),(10,.slice la L.length lc),(11,.int .i64 (e:Int)),(12,.int .i64 (i:Int))]:=⟨hE.1,hE.2.1,hE.2.2.1,hE4,hE.2.2.2⟩
 clear hE hE4;obtain⟨E0,e0⟩:=zm hE2; subst e0; clear hE2;refine zn hJ (ze (ze (z8 (yp (pI rfl) (yp (pI rfl) (yp (ZE rfl rfl) (zf (za ?_))))))));refine zR rfl (fun h2=>?_) (fun h2=>?_)
 ·obtain⟨m,hm⟩:∃m,k-i=m+1:=⟨k-i-1,by omega⟩
  rw[hm,Xm] at hx;refine zl (za (ze (zu (ze (z8 (yp (pT rfl) (yp (pI rfl) ?_)))))));refine zh (zk (Lv d e hd (by omega)) rfl rfl fun r' S' h=>?_);obtain⟨rfl,rfl⟩:=h;unfold l8;cases hb:(lead (d.drop e)).2 with
  | false=>
   rw[hb,if_neg (by decide)] at hx;rw[hx] at hp;have hpn:xX t d=none:=by rw[hp]; split<;>rfl
   rw[hpn] at hok;rw[if_neg (by decide)];refine yp (pU rfl) (yp (pExt rfl rfl) (yp (pExt rfl rfl) (yp (pI rfl) (yp (pB rfl) (zf (za (ze (ze (z8 (yp (pB rfl) (yp (Za rfl) (zf (za (zC rfl (ze (z8 (yp pC (yp pC (zf (za (zJ (zV (bret (zV (zV (bret (zV ?_)))))))))))))))))))))))))));exact zI (KG rfl rfl) (hnil (b:=false) hok (fun h=>by cases h) rfl _)
  | true=>
   rw[hb,if_pos rfl] at hx;rw[if_pos rfl];have hl:=WC (show lead (d.drop e)=((lead (d.drop e)).1,true) from by rw[←hb]);rw[List.length_drop] at hl;generalize (lead (d.drop e)).1=n at hx hl;refine yp (pU rfl) (yp (pExt rfl rfl) (yp (pExt rfl rfl) (yp (pI rfl) (yp (pB rfl) (zf (za (ze (ze (z8 (yp (pB rfl) (yp (Za rfl) (zf (za (zo rfl (zl (za (ze (z8 (yp (pS rfl) (yp (pI rfl) (yp (pI rfl) (yp (pI rfl) (yp (Zy rfl rfl (by omega)) (yp (Zr (vH rfl) (vH rfl)) ?_))))))))))))))))))))))));rw[show((e+n:Nat):Int)-(e:Int)=(n:Int) from by omega]
   skip
   refine zh (wJ (⟨e,n⟩:Pl) rfl rfl (by decide) (by decide) rfl fun p43=>?_);refine zh (V6 (Y:=[(⟨e,n⟩:Pl)]) rfl rfl hL (.lit (by repeat (first | exact List.mem_cons_self | apply List.mem_cons_of_mem)) rfl) rfl (⟨0,0⟩:Pl) rfl (by simp; omega) (by simp; omega) fun v2 H2 hL2=>?_);obtain⟨la2,lc2,rfl⟩:=hL2.isSlice;refine yp (pS rfl) (zf (za (z8 (yp (pI rfl) (yp (pI rfl) (zf (zW (za (z8 (yp (pI rfl) (yp (Z8 rfl rfl (by omega)) (yp (pI rfl) (zf (za ?_))))))))))))));refine⟨i+1,⟨.slice la2 (L++[(⟨e,n⟩:Pl)]).length lc2,L++[⟨e,n⟩],H2,e+n,⟨rfl,rfl,rfl,rfl,rfl,trivial⟩,rfl,hL2,by simp[hLl],by omega,.inl (by omega),fun _=>by omega,?_,.of⟩,by omega⟩;rw[hx,Option.map_map,show k-(i+1)=m from by omega];congr 1;funext x;simp
 ·obtain rfl:i=k:=by omega
  rw[Nat.sub_self,Xm] at hx;rw[hx] at hp;simp only[Option.map_some,List.append_nil] at hp;have hk1:=(Uc hsh).2.2.2;simp only at hk1;have had:¬d.length<a:=by
   rcases he with he | ⟨_,he⟩
   ·intro h;have:=FH hx (by omega);omega
   ·omega
  rw[if_neg had] at hp;refine zZ (zA (zA (Z0 (za (ze (ze (z8 (yp (pI rfl) (yp (pI rfl) (yp (Zj rfl rfl (by omega)) (yp (pT rfl) (yp (Wm rfl) (yp (WU rfl rfl) (zf (za ?_)))))))))))))));rw[Xt];by_cases h3:d.length=e+b
  ·rw[if_pos h3] at hp;rw[hp] at hok
   replace hok:Zk t d=true:=hok
   rw[decide_eq_true (show((e+b:Nat):Int)=(d.length:Int) from by omega)];refine zo rfl (zl (za (ze (z8 (yp (pS rfl) (yp (pS rfl) (yp pC (zf (za (zJ ?_))))))))));have hpr:prt t d=L:=by unfold prt; rw[if_pos hok,hp]; rfl
   exact zI (KG rfl rfl) ⟨_,.of,_,L,H,by rw[hok],hL,fun _=>hpr.symm,rfl⟩
  ·rw[if_neg h3] at hp;rw[hp] at hok;rw[decide_eq_false (show ¬((e+b:Nat):Int)=(d.length:Int) from by omega)];refine zC rfl (ze (z8 (yp pC (yp pC (zf (za (zJ (zV ?_))))))));exact zI (KG rfl rfl) (hnil (b:=false) hok (fun h=>by cases h) rfl _)
def xM(z:Int):UInt8:=UInt8.ofNat (z%256).toNat
theorem XC{E:Env}{x:Operand}{z:Int}(h:ev E x= .int .i64 z):zB (ev E) (.conv .u8 x)=some (.int .u8 ((xM z).toNat:Int)):=by
 simp only[zB,h,YS];have:(xM z).toNat=(z%256).toNat%256:=by simp[xM]
 rw[this];congr 2;omega
def aT(z:Int)(k:Nat):Int:=z.fdiv (2 ^ (Nat.min k 64))
theorem pO{E:Env}{x:Operand}{z:Int}(k:Nat)(h:ev E x= .int .i64 z):zB (ev E) (.bin .shr x (.const (.int .u64 (k:Int))))=some (.int .i64 (aT z k)):=by
 have:zB (ev E) (.bin .shr x (.const (.int .u64 (k:Int))))=vE .shr (ev E x) (.int .u64 (k:Int)):=rfl;rw[this,h];show(if IntKind.i64=IntKind.u64∨BinOp.shr= .shl∨BinOp.shr= .shr then V7 .shr .i64 z (k:Int) else none)=_;rw[if_pos (.inr (.inr rfl))];show(if(k:Int)<0 then none else some (Value.int .i64 (z.fdiv (2 ^ (Nat.min (k:Int).toNat 64)))))=_;rw[if_neg (by omega)]; rfl
/-- an address's set -/
def ZG(n d:Bs):St:=⟨n,1,0,[0],[⟨n,1,1,0,d⟩]⟩
theorem Yk{n d:Bs}(hn:wm n=true)(hd:d.length=4):w9 (ZG n d)=0∧Zx (ZG n d)=22∧Ze (ZG n d)=[n,[0]]∧YF (ZG n d):=by
 have hv0:wm [0]=true:=by decide+kernel
 have hp:prt 1 d=[]:=WB rfl;have hdo:Zk 1 d=true:=by unfold Zk; rw[if_neg (by omega),if_pos rfl,hd]; rfl
 have hsz:Zx (ZG n d)=22:=by
  unfold Zx ZG vF;simp only[List.map_cons,List.map_nil,hp,hd];decide
 have hm:Wh (ZG n d)=true:=by
  unfold Wh ZG vY UG;simp[hn,hv0,hdo]
 have hnl:=Wt hn;refine⟨?_,hsz,?_,⟨by show n.length<_; omega,by show 1<_; omega,by show 1<_; omega,fun r hr=>?_⟩⟩
 ·unfold w9;rw[if_neg (by rw[hm]; decide),hsz,if_neg (by decide)]
 ·unfold Ze ZG ZF;simp only[List.map_cons,List.map_nil,hp]; rfl
 ·rw[List.mem_singleton.1 hr];exact⟨by show n.length<_; omega,by show d.length<_; omega⟩
end Go.Proofs.YtekgciopamkjlaaGreat
