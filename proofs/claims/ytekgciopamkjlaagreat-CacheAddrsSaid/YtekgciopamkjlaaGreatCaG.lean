/- Caches (chapter 13): Numbers, Addrs. -/
import Derived.Test.YtekgciopamkjlaaGreatCaE
import Derived.Test.YtekgciopamkjlaaGreatCaF
namespace Go.Proofs.YtekgciopamkjlaaGreat
open Go.Xs
open Enc (enc)
/-- each once, where alike stand together -/
def Xt:Int→List Int→List Int
 | _,[]=>[]
 | a,b::l=>if b=a then Xt a l else b::Xt b l
def bP:List Int→List Int
 | []=>[]
 | a::l=>a::Xt a l
def je(m:Nat):Prop:=∀{v:Value} {L:List Int} {H:List Chunk},Zf 3 v L H→L.length≤m→Tri Tryz.prog 137 #[v] [H] (fun r S=>∃H',Zf 3 r (bP L) H'∧S=[H'])
theorem ay:je 1:=fun {v L H} hL hl=>by
 refine Tri.forget (zn Tryz.tC (Nat.le_of_ble_eq_true rfl) ?_);unfold Tryz.Am;obtain⟨a,c,rfl⟩:=hL.isSlice;have e:bP L=L:=by
  match L,hl with
  | [],_=>rfl
  | [x],_=>rfl
 refine ze (z8 (yp pC (zf (za (ze (ze (z8 (yp (pS rfl) (yp (Zz rfl) (yp (ZL rfl rfl) (zf (za ?_))))))))))));rw[decide_eq_true (show(L.length:Int)<2 from by omega)];refine zI rfl (ze (z8 (yp (pS rfl) (yp (pS rfl) (zf (za (zL (zX ?_))))))));exact zK (res1 rfl) ⟨_,.of,H,by rw[e]; exact hL,rfl⟩
theorem kJ(L:List RR)(r:RR):Uh (L++[r])=Uh L++if r.t=1∧Zo 1 r.d=true then [Kw r.d] else []:=by
 unfold Uh;rw[List.filter_append,List.map_append];congr 1;by_cases h:r.t=1∧Zo 1 r.d=true
 ·rw[if_pos h,List.filter_cons,if_pos (by simp[h.1,h.2])]; rfl
 ·rw[if_neg h,List.filter_cons,if_neg (by simpa using h)]; rfl
theorem Js(L:List RR):(Uh L).length≤L.length:=by
 unfold Uh;rw[List.length_map];exact List.length_filter_le _ _
/-- addresses in order, each once -/
def kM(L:List RR)(M:List Int):Prop:=∃L1,L1.Perm (Uh L)∧L1.Pairwise (· ≤ ·)∧M=bP L1
set_option maxRecDepth 10000 in
theorem bQ{m:Nat}(hsort:j5 m)(hcomp:je m){S0:zB}{s:St}{v:Value}(hv:Src S0 v s.rrs)(hl:s.rrs.length≤m)(hm:m<2 ^ 20)(hd:∀r∈s.rrs,r.d.length<2 ^ 40):
 Tri Tryz.prog 86 #[.agg (Jw s v)] S0 (fun r S=>∃M H,kM s.rrs M∧Zf 3 r M H∧S=H::S0):=by
 refine Tri.forget (zn Tryz.MI (Nat.le_of_ble_eq_true rfl) ?_);unfold Tryz.NR;obtain⟨va,vc,rfl⟩:=hv.isSlice;refine ze (z8 ?_);refine zh (Zv rfl fun p1=>?_);refine yp pC (zf (za (ze (ze (z8 (yp (zx rfl) ?_))))));refine zh (zF rfl rfl ?_);refine yp (Zz rfl) (yp pC (zf (za (zo ?_))));refine Z4 (σ:=Nat) (fun i E S'=>i≤s.rrs.length∧∃vk HK,Has E [(8,.slice va s.rrs.length vc),(9,.int .i64 (s.rrs.length:Int)),(10,.int .i64 (i:Int)),(2,vk)]∧Zf 3 vk (Uh (s.rrs.take i)) HK∧zG S' (HK::S0)) (fun i=>s.rrs.length-i) 0 ⟨Nat.zero_le _,_,[],⟨rfl,rfl,rfl,rfl,trivial⟩,.nil,.of⟩ fun i E S' ⟨hi,vk,HK,hE,hK,hJ⟩=>?_
 obtain⟨ka,kc,rfl⟩:=hK.isSlice;have hal:(Uh (s.rrs.take i)).length≤i:=Nat.le_trans (Js _) (by rw[List.length_take]; omega);obtain⟨E0,e0⟩:=zl hE; subst e0; clear hE;refine zm hJ (ze (z8 (yp (ZL rfl rfl) (zf (za (ze ?_))))));refine zO rfl (fun h=>?_) (fun h=>?_)
 ·have hlt:i<s.rrs.length:=by omega
  have hts:s.rrs.take (i+1)=s.rrs.take i++[s.rrs[i]]:=List.take_succ_eq_append_getElem hlt;obtain⟨b,o,ca,ty,fz,rfl,hm1,hmem,hg⟩:=hv.get (by intro h; simp[h] at hlt);have hgE:=hg.2 i hlt;have hrd:=hd s.rrs[i] (List.getElem_mem hlt);generalize s.rrs[i]=q at hts hgE hrd;refine zq (za (ze (zo (ze (z8 (yp (zN rfl rfl (by omega)) ?_))))));refine zh (UG (l:=enc q) (show _∈_ from by repeat (first | exact hmem | apply List.mem_cons_of_mem)) rfl hgE rfl ?_);refine zh (Z8 fun p4=>?_);refine zh (wz rfl rfl rfl rfl rfl ?_);refine zf (za (ze (z8 ?_)));refine zh (wC rfl rfl ?_);refine zh (zk (AY q hrd) rfl rfl fun r S' h=>?_);obtain⟨rfl,rfl⟩:=h;by_cases c:q.t=1∧Zo 1 q.d=true
  ·have e:Uh (s.rrs.take (i+1))=Uh (s.rrs.take i)++[Kw q.d]:=by rw[hts,kJ,if_pos c]
   rw[if_pos c,c.1,c.2,decide_eq_true rfl];refine yp (pU rfl) (yp (pExt rfl rfl) (yp (pExt rfl rfl) (yp (pI rfl) (yp (pB rfl) (zf (za (ze (z8 (yp (pB rfl) (zf (za (zI rfl (z8 (yp (pS rfl) (yp (pI rfl) ?_)))))))))))))));refine zh (Ve (Kw q.d) rfl rfl (by decide) (by decide) rfl fun p22=>?_);refine zh (VL (Y:=[Kw q.d]) rfl rfl hK (.lit (by repeat (first | exact List.mem_cons_self | apply List.mem_cons_of_mem)) rfl) rfl (0:Int) rfl (by rw[List.length_singleton]; omega) (by rw[List.length_singleton]; omega) fun v2 H4 hK2=>?_);rw[←e] at hK2;obtain⟨a2,c2,rfl⟩:=hK2.isSlice;refine yp (pS rfl) (zf (zT (za (z8 (yp (Za rfl rfl (by omega)) (yp (pI rfl) (zf (za ?_))))))));exact⟨i+1,⟨by omega,_,H4,⟨rfl,rfl,rfl,rfl,trivial⟩,hK2,.of⟩,by omega⟩
  ·have e:Uh (s.rrs.take (i+1))=Uh (s.rrs.take i):=by rw[hts,kJ,if_neg c,List.append_nil]
   rw[if_neg c,show(decide (q.t=1) && Zo 1 q.d)=false from by simpa using c];refine yp (pU rfl) (yp (pExt rfl rfl) (yp (pExt rfl rfl) (yp (pI rfl) (yp (pB rfl) (zf (za (ze (z8 (yp (pB rfl) (zf (za (zw rfl (zq (zT (za (z8 (yp (Za rfl rfl (by omega)) (yp (pI rfl) (zf (za ?_))))))))))))))))))));exact⟨i+1,⟨by omega,_,HK,⟨rfl,rfl,rfl,rfl,trivial⟩,by rw[e]; exact hK,.of⟩,by omega⟩
 rw[List.take_of_length_le (by omega)] at hK hal ⊢;have hal2:=Js s.rrs;refine zV (zy (zy (zW (za (ze (z8 (yp (pS rfl) ?_)))))));refine zh (zk (hsort hK (by omega)) rfl rfl fun r S' h=>?_);obtain⟨rfl,L1,H1,hp,ho,hK1,rfl⟩:=h;have e1:=hp.length_eq;refine zf (za (ze (z8 (yp (pS rfl) ?_))));refine zh (zk (hcomp hK1 (by omega)) rfl rfl fun r S' h=>?_);obtain⟨H2,hK2,rfl⟩:=h;obtain⟨a2,c2,rfl⟩:=hK2.isSlice;refine yp (pS rfl) (zf (za (zL ?_)));exact zK (res1 rfl) ⟨_,.of,_,H2,⟨L1,hp,ho,rfl⟩,hK2,rfl⟩
end Go.Proofs.YtekgciopamkjlaaGreat