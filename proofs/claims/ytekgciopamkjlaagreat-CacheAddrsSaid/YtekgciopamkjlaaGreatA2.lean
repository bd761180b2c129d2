/- The arena (chapter 6): Compact and Alloc. The arena (chapter 6): Compact, walked. The arena (chapter 6): Alloc. The arena (chapter 6): its functions as the laws call them; awake; ArenaCosts. The arena (chapter 6): more of its plain law. -/
import Derived.Test.YtekgciopamkjlaaGreatA1
namespace Go.Proofs.YtekgciopamkjlaaGreat
open Go.Xs
open Enc (enc)
/-- while blocks are moved: those of U still stand where they stood, in order, all others lie ahead of t -/
structure jf(N:Nat)(D:List (Option Bt))(T:Tab)(B:Bt)(t:Nat)(U:List Int):Prop where
 len:B.length=N
 big:1024≤N∧N≤1048576
 few:T.length*16≤N
 dofe:ZX T=D
 sum:t+(U.map fun h=>Y9 (Zl D h)).sum=Zh D
 fit:Zh D≤N
 inn:∀(i p:Nat) (b:Bt),T[i]?=some (some (p,b))→b.length≤4096∧p+zZ b.length≤N∧∀x,x<b.length→B[p+8+x]?=b[x]?
 apart:∀(i j p:Nat) (b:Bt) (q:Nat) (c:Bt),i≠j→T[i]?=some (some (p,b))→T[j]?=some (some (q,c))→p+zZ b.length≤q∨q+zZ c.length≤p
 done:∀(i p:Nat) (b:Bt),T[i]?=some (some (p,b))→((i:Int)+1) ∉ U→p+zZ b.length≤t
 todo:∀(i p:Nat) (b:Bt),T[i]?=some (some (p,b))→((i:Int)+1)∈U→t≤p
 isHe:∀h∈U,CS T h
 ord:U.Pairwise (fun x y=>pos T x<pos T y)
theorem ZH(D:List (Option Bt))(i:Nat):Zl D ((i:Int)+1)=(D[i]?).join:=by
 unfold Zl;rw[if_pos (by omega),show((i:Int)+1-1).toNat=i from by omega]
theorem Qw{T:Tab}{i:Nat}{x:Option (Nat × Bt)}{h:Int}(hh:1≤h)(hne:h≠(i:Int)+1):pos (T.set i x) h=pos T h:=by
 unfold pos;rw[List.getElem?_set_ne (by omega)]
theorem oW{T:Tab}{i:Nat}{x:Option (Nat × Bt)}{h:Int}(hh:CS T h)(hne:h≠(i:Int)+1):CS (T.set i x) h:=by
 obtain⟨j,p,b,rfl,hj⟩:=hh;exact⟨j,p,b,rfl,by rw[List.getElem?_set_ne (by omega)]; exact hj⟩
theorem jf.step{N:Nat}{D:List (Option Bt)}{T:Tab}{B B':Bt}{t i p:Nat}{b:Bt}{U:List Int}(h:jf N D T B t (((i:Int)+1)::U))(hi:T[i]?=some (some (p,b)))
 (hB:B'.length=N) (hout:∀x,(x<t∨t+8+b.length≤x)→B'[x]?=B[x]?) (hin:∀x,x<b.length→B'[t+8+x]?=b[x]?):
 jf N D (T.set i (some (t,b))) B' (t+zZ b.length) U:=by
 have htp:t≤p:=h.todo i p b hi (by simp);obtain⟨h4,hpN,_⟩:=h.inn i p b hi;have hc:=(wK b.length h4).2.1;obtain⟨hord1,hord2⟩:=List.pairwise_cons.1 h.ord;have hiU:((i:Int)+1) ∉ U:=fun hm=>by have:=hord1 _ hm; omega
 -- those behind
 have htodo:∀(j q:Nat) (c:Bt),j≠i→T[j]?=some (some (q,c))→((j:Int)+1)∈U→t+zZ b.length≤q:=by
  intro j q c hne hj hm;have h1:=hord1 _ hm;rw[pos_at hi,pos_at hj] at h1;rcases h.apart i j p b q c (fun e=>hne e.symm) hi hj with h2 | h2<;>omega
 have hdone:∀(j q:Nat) (c:Bt),j≠i→T[j]?=some (some (q,c))→((j:Int)+1) ∉ U→q+zZ c.length≤t:=by
  intro j q c hne hj hm;exact h.done j q c hj (by simp; exact⟨by omega,hm⟩)
 refine⟨hB,h.big,by rw[List.length_set]; exact h.few,?_,?_,h.fit,fun j q c hj=>?_,fun j k q c q' c' hne hj hk=>?_,fun j q c hj hm=>?_,fun j q c hj hm=>?_,fun x hx=>?_,?_⟩
 ·rw[Vw, ←h.dofe];refine List.ext_getElem? fun j=>?_
  rw[List.getElem?_set];split
  ·next hij=>
   subst hij;split
   ·rw[V6 hi]; rfl
   ·next hh=>rw[V5] at hh; exact absurd (List.getElem?_eq_some_iff.1 hi).1 hh
  ·rfl
 ·have h1:=h.sum;have h2:Y9 (Zl D ((i:Int)+1))=zZ b.length:=by rw[←h.dofe,ZH,V6 hi]; rfl
  rw[List.map_cons,List.sum_cons,h2] at h1;omega
 ·rcases wQ hj with⟨_,h1⟩ | ⟨hne,h1⟩
  ·obtain⟨rfl,rfl⟩:q=t∧c=b:=by simpa using h1
   exact⟨h4,by omega,hin⟩
  ·obtain⟨h5,h6,h7⟩:=h.inn j q c h1;have hc2:=(wK c.length h5).2.1;refine⟨h5,h6,fun x hx=>?_⟩;rw[hout _ ?_]
   ·exact h7 x hx
   ·by_cases hm:((j:Int)+1)∈U
    ·have:=htodo j q c hne h1 hm; omega
    ·have:=hdone j q c hne h1 hm; omega
 ·rcases wQ hj with⟨hji,h1⟩ | ⟨hji,h1⟩<;>rcases wQ hk with⟨hki,h2⟩ | ⟨hki,h2⟩
  ·omega
  ·obtain⟨rfl,rfl⟩:q=t∧c=b:=by simpa using h1
   by_cases hm:((k:Int)+1)∈U
   ·exact .inl (htodo k q' c' hki h2 hm)
   ·exact .inr (hdone k q' c' hki h2 hm)
  ·obtain⟨rfl,rfl⟩:q'=t∧c'=b:=by simpa using h2
   by_cases hm:((j:Int)+1)∈U
   ·exact .inr (htodo j q c hji h1 hm)
   ·exact .inl (hdone j q c hji h1 hm)
  ·exact h.apart j k q c q' c' hne h1 h2
 ·rcases wQ hj with⟨_,h1⟩ | ⟨hne,h1⟩
  ·obtain⟨rfl,rfl⟩:q=t∧c=b:=by simpa using h1
   omega
  ·have:=hdone j q c hne h1 hm; omega
 ·rcases wQ hj with⟨hji,h1⟩ | ⟨hne,h1⟩
  ·rw[hji] at hm; exact absurd hm hiU
  ·exact htodo j q c hne h1 hm
 ·exact oW (h.isHe x (by simp[hx])) (fun e=>hiU (e▸hx))
 ·refine hord2.imp_of_mem fun {x y} hx hy hxy=>?_
  obtain⟨j,_,_,rfl,_⟩:=h.isHe x (by simp[hx]);obtain⟨k,_,_,rfl,_⟩:=h.isHe y (by simp[hy]);rw[Qw (by omega) (fun e=>hiU (e▸hx)),Qw (by omega) (fun e=>hiU (e▸hy))];exact hxy
theorem Yx:∀(D:List (Option Bt)) (i:Nat) (E:List (Option Bt)),(∀j,E[i+j]?=D[j]?)→(((hlist i D).map (·.1)).map fun h=>Y9 (Zl E h)).sum=Zh D
 | [],i,E,h=>rfl
 | o::D,i,E,h=>by
  have h0:=h 0;have h1:∀j,E[i+1+j]?=D[j]?:=fun j=>by have:=h (j+1); rw[show i+1+j=i+(j+1) from by omega]; simpa using this
  have ih:=Yx D (i+1) E h1;cases o with
  | none=>
   rw[wU,show Y9 none=0 from rfl,Nat.zero_add];exact ih
  | some b=>
   have h2:Y9 (Zl E ((i:Int)+1))=Y9 (some b):=by
    rw[ZH];simp at h0;rw[h0]; rfl
   rw[wU,hlist,List.map_cons,List.map_cons,List.sum_cons,ih,h2]
/-- at the start -/
theorem jf.start{N:Nat}{T:Tab}{B:Bt}{used top:Nat}{U:List Int}(h:Inv N T B used top)(hU:U.Perm ((hlist 0 (ZX T)).map (·.1)))(ho:U.Pairwise fun x y=>¬pos T y<pos T x):jf N (ZX T) T B 0 U:=by
 have hm:∀(i p:Nat) (b:Bt),T[i]?=some (some (p,b))→((i:Int)+1)∈U:=fun i p b hi=>by
  rw[hU.mem_iff,List.mem_map];exact⟨_,(VZ _ _ _).2 ⟨i,b,V6 hi,rfl⟩,by simp⟩
 have hH:∀x∈U,CS T x:=fun x hx=>by
  rw[hU.mem_iff,List.mem_map] at hx;obtain⟨e,he,rfl⟩:=hx;obtain⟨j,b,hj,rfl⟩:=(VZ _ _ _).1 he;obtain⟨i,p,e1,e2⟩:=Vb (T:=T) (h:=(j:Int)+1) (b:=b) (by rw[KI,hj]; rfl);exact⟨i,p,b,by simp only[Nat.zero_add]; exact e1,e2⟩
 have hnd:U.Nodup:=by
  refine hU.nodup_iff.2 ?_;have:∀(D:List (Option Bt)) (i:Nat),((hlist i D).map (·.1)).Nodup∧∀x∈(hlist i D).map (·.1),(i:Int)<x:=by
   intro D
   induction D with
   | nil=>intro i; exact⟨.nil,by simp[hlist]⟩
   | cons o D ih=>
    intro i;obtain⟨h1,h2⟩:=ih (i+1);have h3:∀x∈(hlist (i+1) D).map (·.1),(i:Int)+1<x:=fun x hx=>by have:=h2 x hx; omega
    cases o with
    | none=>exact⟨h1,fun x hx=>by have:=h3 x hx; omega⟩
    | some b=>
     refine⟨List.nodup_cons.2 ⟨fun hm=>by have:=h3 _ hm; simp at this,h1⟩,fun x hx=>?_⟩;rcases List.mem_cons.1 hx with rfl | hx
     ·show(i:Int)<(i:Int)+1; omega
     ·have:=h3 x hx; omega
  exact(this _ _).1
 refine⟨h.len,h.big,h.few,rfl,?_,by have:=h.sum; have:=h.ut; have:=h.tn; omega,fun i p b hi=>?_,h.apart,fun i p b hi hn=>absurd (hm i p b hi) hn,fun _ _ _ _ _=>Nat.zero_le _,hH,?_⟩
 ·have h1:(U.map fun h=>Y9 (Zl (ZX T) h)).sum=(((hlist 0 (ZX T)).map (·.1)).map fun h=>Y9 (Zl (ZX T) h)).sum:=(hU.map _).sum_nat;rw[h1,Yx (ZX T) 0 (ZX T) (fun j=>by rw[Nat.zero_add])];omega
 ·obtain⟨h1,h2,h3⟩:=h.inn i p b hi;have:=h.tn;exact⟨h1,by omega,h3⟩
 ·refine(List.Pairwise.and ho hnd).imp_of_mem fun {x y} hx hy ⟨h1,h2⟩=>?_
  obtain⟨i,p,b,rfl,hi⟩:=hH x hx;obtain⟨j,q,c,rfl,hj⟩:=hH y hy;rw[pos_at hi,pos_at hj] at h1 ⊢;have h4:=(wK b.length (h.inn i p b hi).1).2.1;have h5:=(wK c.length (h.inn j q c hj).1).2.1;rcases h.apart i j p b q c (fun e=>h2 (by rw[e])) hi hj with h3 | h3<;>omega
theorem jf.fin{N:Nat}{D:List (Option Bt)}{T:Tab}{B:Bt}{t:Nat}(h:jf N D T B t []):Inv N T B t t∧t=Zh D:=by
 have hs:=h.sum;simp at hs;have hf:=h.fit;refine⟨⟨h.len,h.big,h.few,Nat.le_refl _,by omega,by rw[h.dofe]; exact hs,fun i p b hi=>?_,h.apart⟩,hs⟩;obtain⟨h1,h2,h3⟩:=h.inn i p b hi;exact⟨h1,h.done i p b hi (by simp),h3⟩
def hkey(x:Array Value):Int:=match x.toList with | .int _ a::_=>a | _=>0
theorem Ar.mk{ab bb N:Nat}{kv:Value}{used top:Nat}{T:Tab}{HK:List Chunk}{B:Bt}(hI:Inv N T B used top)(hK:Zf 163 kv (Vj T) HK):
 Ar ab N (ZX T) (ZM ab (.slice (some ⟨bb,0,none⟩) N N) kv (used:Int) (top:Int)++VK bb B++HK):=⟨bb,kv,HK,T,B,used,top,hI,rfl,hK,rfl⟩
set_option maxHeartbeats 1000000 in
theorem qY{ab bb N:Nat}{kv:Value}{used top:Nat}{T:Tab}{HK:List Chunk}{B:Bt}(hI:Inv N T B used top)(hK:Zf 163 kv (Vj T) HK):
 Tri Tryz.prog 105 #[.pointer (some ⟨ab,0,none⟩)] [ZM ab (.slice (some ⟨bb,0,none⟩) N N) kv (used:Int) (top:Int),VK bb B,HK]
  (fun r S=>r= .int .i64 ((N-Zh (ZX T):Nat):Int)∧∃(kv':Value) (HK':List Chunk) (T':Tab) (B':Bt) (t:Nat),t=Zh (ZX T)∧Inv N T' B' t t∧ZX T'=ZX T∧Zf 163 kv' (Vj T') HK'∧
   S=[ZM ab (.slice (some ⟨bb,0,none⟩) N N) kv' (t:Int) (t:Int),VK bb B',HK']):=by
 refine Tri.forget (zn Tryz.Ik (Nat.le_of_ble_eq_true rfl) ?_);unfold Tryz.Eh;have hl:=hI.jy;have hbig:=hI.big;have hut:=hI.ut;have htn:=hI.tn;have hDl:(hlist 0 (ZX T)).length<2 ^ 30:=by have:=X3 (ZX T) 0; rw[V5] at this; have:=hI.few; omega
 refine ze (z8 ?_);refine zh (mO (jI rfl) fun p1=>?_);refine yp pC (zf (za (ze (ze (z8 ?_)))));refine zh (zF rfl rfl ?_);refine yp (wJ rfl rfl) (zf (za (zw rfl (zq (za (ze (z8 ?_)))))));refine zh (Z8 fun p3=>?_);refine zf (za (ze (ze (z8 ?_))));refine zh (zF rfl rfl ?_);refine zh (zk bV rfl rfl fun r S' h=>?_);obtain⟨bx,rfl,rfl⟩:=h;refine zf (za (zo ?_));refine zm (zG.re (S1:=[[(bx,.cells #[.pointer (some ⟨ab,0,none⟩)] 26)],ZM ab (.slice (some ⟨bb,0,none⟩) N N) kv (used:Int) (top:Int),VK bb B,HK,[(p1,.cells #[.pointer (some ⟨ab,0,none⟩)] 26)],[(p3,.cells #[.slice none 0 0] 23)]])
  (S2:=[[(bx,.cells #[.pointer (some ⟨ab,0,none⟩)] 26)],ZM ab (.slice (some ⟨bb,0,none⟩) N N) kv (used:Int) (top:Int)++VK bb B++HK,[(p1,.cells #[.pointer (some ⟨ab,0,none⟩)] 26)],[(p3,.cells #[.slice none 0 0] 23)]]) (by simp)) ?_
 refine kQ (fun pre S=>pre<+:(hlist 0 (ZX T)).map hv∧∃vo Ho,Zf 3 vo (pre.map hkey) Ho∧zG S [ZM ab (.slice (some ⟨bb,0,none⟩) N N) kv (used:Int) (top:Int)++VK bb B++HK,[(p1,.cells #[.pointer (some ⟨ab,0,none⟩)] 26)],[(p3,.cells #[vo] 23)],Ho])
  (fun e pre S=>False) rfl rfl (bG (bx:=bx) (S0:=[[(p1,.cells #[.pointer (some ⟨ab,0,none⟩)] 26)],[(p3,.cells #[.slice none 0 0] 23)]]) (Ar.mk (ab:=ab) (bb:=bb) hI hK)) ⟨List.nil_prefix,_,[],.nil,.of⟩ ?_ ?_ ?_ ?_
 ·intro pre x hx;have:x∈(hlist 0 (ZX T)).map hv:=hx.subset (by simp);obtain⟨e,_,rfl⟩:=List.mem_map.1 this;rfl
 ·rintro l pre x S hx ⟨_,vo,Ho,hLo,hJ⟩;have:x∈(hlist 0 (ZX T)).map hv:=hx.subset (by simp);obtain⟨e,_,rfl⟩:=List.mem_map.1 this;have hpl:=hx.length_le;simp only[List.length_append,List.length_map,List.length_singleton] at hpl;refine zm hJ ?_;obtain⟨a,c,rfl⟩:=hLo.isSlice;refine z8 (yp (pI rfl) (zf (za (zo (z8 ?_)))));refine zh (zF rfl rfl ?_);refine yp (pI rfl) ?_;refine zh (Ve (e.1) rfl rfl (by decide) (by decide) rfl fun p16=>?_);refine zh (VL (Y:=[e.1]) rfl rfl hLo (.lit (by repeat (first | exact List.mem_cons_self | apply List.mem_cons_of_mem)) rfl) rfl 0 rfl (by simp; omega) (by simp; omega) fun v2 H2 hL2=>?_);obtain⟨a2,c2,rfl⟩:=hL2.isSlice;refine zh (ZO rfl rfl (Ke rfl) ?_);refine zf (zT ?_);refine⟨hx,.slice a2 (List.map hkey pre++[e.1]).length c2,H2,?_,.of⟩;rw[List.map_append]; exact hL2
 ·rintro xs S' hd ⟨_,vo,Ho,hLo,hJ⟩;have hm:xs.map hkey=(hlist 0 (ZX T)).map (·.1):=by rw[hd,List.map_map]; rfl
  rw[hm] at hLo;refine zT (za ?_);refine zm (hJ.trans (zG.re (S1:=[[(p1,.cells #[.pointer (some ⟨ab,0,none⟩)] 26)],ZM ab (.slice (some ⟨bb,0,none⟩) N N) kv (used:Int) (top:Int)++VK bb B++HK,[(p3,.cells #[vo] 23)],Ho])
   (S2:=[[(p1,.cells #[.pointer (some ⟨ab,0,none⟩)] 26)],ZM ab (.slice (some ⟨bb,0,none⟩) N N) kv (used:Int) (top:Int),VK bb B,HK,[(p3,.cells #[vo] 23)],Ho]) (by simp))) ?_
  refine zm (zG.re (S1:=[[(p1,.cells #[.pointer (some ⟨ab,0,none⟩)] 26)],ZM ab (.slice (some ⟨bb,0,none⟩) N N) kv (used:Int) (top:Int),HK,VK bb B,[(p3,.cells #[vo] 23)],Ho])
   (S2:=[[(p1,.cells #[.pointer (some ⟨ab,0,none⟩)] 26)]++ZM ab (.slice (some ⟨bb,0,none⟩) N N) kv (used:Int) (top:Int)++HK,VK bb B,[(p3,.cells #[vo] 23)],Ho]) (by simp)) ?_
  have hHs:∀x∈(hlist 0 (ZX T)).map (·.1),CS T x:=fun x hx=>by
   obtain⟨e,he,rfl⟩:=List.mem_map.1 hx;obtain⟨j,b,hj,rfl⟩:=(VZ _ _ _).1 he;obtain⟨i,p,e1,e2⟩:=Vb (T:=T) (h:=(j:Int)+1) (b:=b) (by rw[ZH,hj]; rfl);exact⟨i,p,b,by simp only[Nat.zero_add]; exact e1,e2⟩
  have hsort:=aV (ty:=3) Tryz.GU Tryz.YU Tryz.YS EF Fp rfl (IK (p1:=p1) (ab:=ab) (bv:= .slice (some ⟨bb,0,none⟩) N N) (used:=(used:Int)) (top:=(top:Int)) hK hl) hLo (by rw[List.length_map]; omega) hHs;obtain⟨a,c,hvo⟩:=hLo.isSlice;subst hvo;refine ze (z8 ?_);refine zh (zF rfl rfl ?_);refine yp (gQ (jI rfl)) ?_;refine zh (zk hsort rfl rfl fun r S' h=>?_);obtain⟨rfl,L,HL,hpm,hord,hL,rfl⟩:=h;refine zf (za (zm (zG.re (S1:=[HL,[(p1,.cells #[.pointer (some ⟨ab,0,none⟩)] 26)]++ZM ab (.slice (some ⟨bb,0,none⟩) N N) kv (used:Int) (top:Int)++HK,VK bb B,[(p3,.cells #[.slice a ((hlist 0 (ZX T)).map (·.1)).length c] 23)]]) (S2:=[HL,[(p1,.cells #[.pointer (some ⟨ab,0,none⟩)] 26)],ZM ab (.slice (some ⟨bb,0,none⟩) N N) kv (used:Int) (top:Int),HK,VK bb B,[(p3,.cells #[.slice a ((hlist 0 (ZX T)).map (·.1)).length c] 23)]]) (by simp)) (ze (Wn (R:=[[(p1,.cells #[.pointer (some ⟨ab,0,none⟩)] 26)]]) (by simp) (Zd rfl rfl (Zd rfl rfl (zi (zS rfl) (zi (zx rfl) ?_))))))));refine Zm (XP rfl rfl (uM rfl) ⟨by simp,?_⟩) zM;refine zi (zS rfl) (zi (zx rfl) ?_);refine zH (XQ rfl rfl (uM rfl) ?_) zM;refine zD (za (ze (ze (z8 ?_))));refine zh (zF rfl rfl ?_);refine yp (Zz rfl) (yp pC (zf (za (zo ?_))));have hLl:=hpm.length_eq;have hC0:=jf.start hI hpm hord;generalize hLen:((hlist 0 (ZX T)).map (·.1)).length=ln at hL hLl ⊢;have hln:ln<2 ^ 30:=by rw[←hLen,List.length_map]; exact hDl
  rw[←hLl] at hL ⊢;refine Z4 (σ:=Nat) (fun q E S=>Has E [(1,.pointer (some ⟨p1,0,none⟩)),(27,.slice a L.length c),(28,.int .i64 (L.length:Int)),(29,.int .i64 (q:Int))]∧q≤L.length∧∃(T':Tab) (B':Bt) (t:Nat) (kv:Value) (HK:List Chunk),jf N (ZX T) T' B' t (L.drop q)∧Zf 163 kv (Vj T') HK∧
   zG S [[(p1,.cells #[.pointer (some ⟨ab,0,none⟩)] 26)],HL,ZM ab (.slice (some ⟨bb,0,none⟩) N N) kv (t:Int) (t:Int),VK bb B',HK]) (fun q=>L.length-q) 0 ⟨⟨rfl,rfl,rfl,rfl,trivial⟩,Nat.zero_le _,T,B,0,kv,HK,hC0,hK,.of⟩ fun q E S ⟨hE,hq,T',B',t,kv,HK,hC,hK,hJ⟩=>?_
  have hkl:(Vj T').length<2 ^ 40:=by rw[V3]; have:=hC.few; omega
  have hBl:=hC.len;obtain⟨E0,e0⟩:=zl hE; subst e0; clear hE;refine zm hJ (ze (z8 (yp (ZL rfl rfl) (zf (za (ze ?_))))));refine zO rfl (fun h=>?_) (fun h=>?_)
  ·have hlt:q<L.length:=by omega
   have hd2:L.drop q=L[q]::L.drop (q+1):=List.drop_eq_getElem_cons hlt;have hload:∀sp:List Int,((cells (L++sp)).toArray.toList)[0+q*1+0]?=some (.int .i64 L[q]):=fun sp=>(wH (kk:=1) (j:=0) hlt rfl (by omega)).trans rfl
   rw[hd2] at hC;generalize L[q]=x at hd2 hload hC;obtain⟨i,p,b,rfl,hi⟩:=hC.isHe x (by simp);obtain⟨h4,hpN,hin⟩:=hC.inn i p b hi;have htp:=hC.todo i p b hi (by simp);have hcn:=(wK b.length h4).2.1;have hlti:i<(Vj T').length:=by rw[V3]; exact(List.getElem?_eq_some_iff.1 hi).1
   obtain⟨b2,sp2,fz2,hz2,hae,_,hce,rfl⟩:=hL.at' (by intro h; simp[h] at hlt);subst hae;refine zq (za (ze (zo (ze (z8 (yp (zN rfl rfl (by omega)) ?_))))));refine zh (zF (v:= .int .i64 ((i:Int)+1)) rfl (hload sp2) ?_);refine yp (pI rfl) (zf (za (ze (z8 ?_))));refine zh (zF rfl rfl ?_);refine yp (pI rfl) ?_;refine zh (zk (KY (ab:=ab) (bb:=bb) (N:=N) (used:=(t:Int)) (top:=(t:Int)) hK (h:=(i:Int)+1) (i:=i) (q:=p+8) (n:=b.length) rfl ((uD hi).trans (by simp)) (by omega) (by omega) hkl) rfl rfl fun r S' h=>?_);obtain⟨rfl,rfl⟩:=h;refine zh (zk (yS (L:=b) (S:=[VK bb B']) (jD (bb:=bb) (o:=if b.length=0 then 0 else p+8) (B:=B') (ty:=5) (by simp) rfl fun k hk=>?_) (.inr ⟨_,_,rfl⟩) (by omega)) rfl rfl fun r S' h=>?_)
   ·rw[if_neg (by omega)]; exact hin k hk
   obtain⟨Hb,hLb,rfl⟩:=h;obtain⟨ab2,cb2,rfl⟩:=hLb.isSlice;refine yp (pS rfl) (zf (za (ze (z8 ?_))));refine zh (zF rfl rfl ?_);refine yp (pI rfl) (yp (pS rfl) (yp (Zz rfl) ?_));refine zh (zk (tT (ab:=ab) (bb:=bb) (N:=N) (used:=t) (top:=t) (B:=B') hK (h:=(i:Int)+1) (i:=i) (n:=b.length) rfl hlti h4 (by omega) (Nat.le_refl _) hBl (by omega) hkl) rfl rfl fun r S' h=>?_);obtain⟨rfl,B2,HK2,hB2,hx2,hK2,rfl⟩:=h;refine zf (za (z8 ?_));refine zh (zF rfl rfl ?_);refine yp (pI rfl) ?_;refine zh (zk (KY (ab:=ab) (bb:=bb) (N:=N) (used:=((t+zZ b.length:Nat):Int)) (top:=((t+zZ b.length:Nat):Int)) hK2 (h:=(i:Int)+1) (i:=i) (q:=t+8) (n:=b.length) rfl (by rw[List.getElem?_set_self hlti]; simp) (by omega) (by omega) (by rw[List.length_set]; exact hkl)) rfl rfl fun r S' h=>?_);obtain⟨rfl,rfl⟩:=h;obtain⟨o,ho⟩:∃o,o=(if b.length=0 then 0 else t+8):=⟨_,rfl⟩
   rw[←ho];have hoN:o+b.length≤N:=by rw[ho]; split<;>omega
   refine yp (pS rfl) ?_;refine zh (rM (b:=bb) (o:=o) (fz:=(0,0)) rfl rfl (hLb.src (by repeat (first | exact List.mem_cons_self | apply List.mem_cons_of_mem))) rfl (by simp[zJ,show Enc.k UInt8=1 from rfl]; omega) (.inl rfl) ?_);rw[YB (by omega)];have hsp:=Xz (b:=B2) (Y:=b) (x:=o) (by omega);have hC2:=hC.step (B':=spl B2 o b) hi (by rw[UN (by omega)]; exact hB2) (fun z hz=>?_) (fun z hz=>?_)
   rotate_left
   ·rw[hsp];rcases Nat.eq_zero_or_pos b.length with h0 | h0
    ·split
     ·exact hx2 z (by omega)
     ·rw[if_neg (by omega)]; exact hx2 z (by omega)
    ·rw[if_neg (by omega)] at ho;split
     ·exact hx2 z (by omega)
     ·rw[if_neg (by omega)]; exact hx2 z (by omega)
   ·rw[hsp];rw[if_neg (by omega)] at ho;rw[if_neg (by omega),if_pos (by omega)];congr 1; omega
   refine zf (zT (za (z8 (yp (Za rfl rfl (by omega)) (yp (pI rfl) (zf (za ?_)))))));exact⟨q+1,⟨⟨rfl,rfl,rfl,rfl,trivial⟩,by omega,T'.set i (some (t,b)),spl B2 o b,t+zZ b.length,kv,HK2,hC2,by rw[XF]; exact hK2,.of⟩,by omega⟩
  ·have hdn:L.drop q=[]:=List.drop_eq_nil_of_le (by omega);rw[hdn] at hC;obtain⟨hI2,ht⟩:=hC.fin;have htN:=hI2.tn;refine zV (zy (zy (zW (za (ze (z8 ?_))))));refine zh (zF rfl rfl ?_);refine zh (zk (mh (ab:=ab) (kv:=kv) (used:=(t:Int)) (top:=(t:Int)) (B:=B') (H:=VK bb B') (bv:= .slice (some ⟨bb,0,none⟩) N N) (by rw[←hBl]; exact Zf.full rfl) (by omega) (by omega)) rfl rfl fun r S' h=>?_);obtain⟨rfl,rfl⟩:=h;refine yp (pI rfl) (zf (za (zL ?_)));exact zK (rI rfl) ⟨[ZM ab (.slice (some ⟨bb,0,none⟩) N N) kv (t:Int) (t:Int),VK bb B',HK],.of,by rw[hBl, ←ht]; exact congrArg (Value.int .i64) (by omega),kv,HK,T',B',t,ht,hI2,hC.dofe,hK,rfl⟩
 ·rintro e pre S' _ h;exact h.elim
def zeros(n:Nat):Bt:=List.replicate n 0
def ZI(N:Nat)(D:List (Option Bt))(n:Int):Int:=if cost n=0 then 3 else if(N:Int)-Zh D<cost n then 4 else 0
def ZJ(D:List (Option Bt))(n:Nat):List (Option Bt):=if hnd D≤D.length then D.set (hnd D-1) (some (zeros n)) else D++[some (zeros n)]
theorem l9{n:Int}(h:cost n≠0):∃m:Nat,n=m∧m≤4096∧cost n=(zZ m:Nat):=by
 unfold cost at h ⊢;by_cases hc:n<0∨4096<n
 ·rw[if_pos hc] at h; exact absurd rfl h
 ·rw[if_neg hc]; exact⟨n.toNat,by omega,by omega,rfl⟩
theorem Jp:∀(D:List (Option Bt)),(∀i,i<D.length→∃b,D[i]?=some (some b))→16*D.length≤Zh D
 | [],_=>by simp[Zh]
 | o::D,h=>by
  have ih:=Jp D fun i hi=>by
   obtain⟨b,hb⟩:=h (i+1) (by simp; omega);exact⟨b,by simpa using hb⟩
  obtain⟨b,hb⟩:=h 0 (by simp);simp at hb; subst hb;rw[wU,List.length_cons];have:16≤Y9 (some b):=by
   unfold Y9 zZ;simp only
   repeat' split
   all_goals omega
  omega
theorem Inv.grow{N:Nat}{T:Tab}{B:Bt}{used top:Nat}(h:Inv N T B used top)(hf:(T.length+1)*16≤N):Inv N (T++[none]) B used top:=by
 have hg:∀(i p:Nat) (b:Bt),(T++[none])[i]?=some (some (p,b))→T[i]?=some (some (p,b)):=fun i p b hi=>by
  by_cases hlt:i<T.length
  ·rwa [List.getElem?_append_left hlt] at hi
  ·rw[List.getElem?_append_right (by omega)] at hi;cases hk:i-T.length with
   | zero=>rw[hk] at hi; simp at hi
   | succ k=>rw[hk] at hi; simp at hi
 refine⟨h.len,h.big,by simpa using hf,h.ut,h.tn,?_,fun i p b hi=>h.inn i p b (hg i p b hi),fun i j p b q c hne hi hj=>h.apart i j p b q c hne (hg i p b hi) (hg j q c hj)⟩;rw[h.sum];unfold ZX;rw[List.map_append,UL];rfl
theorem Inv.alloc{N:Nat}{T:Tab}{B B':Bt}{used top i n:Nat}(h:Inv N T B used top)(hi:T[i]?=some none)(hn:n≤4096)(ht:top+zZ n≤N)(hB:B'.length=N)
 (hout:∀x,(x<top∨top+8+n≤x)→B'[x]?=B[x]?) (hin:∀x,x<n→B'[top+8+x]?=some 0):Inv N (T.set i (some (top,zeros n))) B' (used+zZ n) (top+zZ n):=by
 have hc:=(wK n hn).2.1;have hz:(zeros n).length=n:=by simp[zeros]
 have hd:(ZX T)[i]?=some none:=by unfold ZX; rw[List.getElem?_map,hi]; rfl
 have hu:=V8 (y:=some (zeros n)) hd;simp only[Y9,hz] at hu;have hs:=h.sum;have hut:=h.ut;refine⟨hB,h.big,by rw[List.length_set]; exact h.few,by omega,ht,?_,fun j q c hj=>?_,fun j k q c q' c' hne hj hk=>?_⟩
 ·rw[Vw]; simp only[Option.map_some]; omega
 ·rcases wQ hj with⟨_,h1⟩ | ⟨hne,h1⟩
  ·obtain⟨rfl,rfl⟩:q=top∧c=zeros n:=by simpa using h1
   rw[hz];exact⟨hn,Nat.le_refl _,fun x hx=>by rw[hin x hx]; simp[zeros,hx]⟩
  ·obtain⟨h5,h6,h7⟩:=h.inn j q c h1;have hc2:=(wK c.length h5).2.1;exact⟨h5,by omega,fun x hx=>by rw[hout _ (by omega)]; exact h7 x hx⟩
 ·rcases wQ hj with⟨hji,h1⟩ | ⟨hji,h1⟩<;>rcases wQ hk with⟨hki,h2⟩ | ⟨hki,h2⟩
  ·omega
  ·obtain⟨rfl,rfl⟩:q=top∧c=zeros n:=by simpa using h1
   exact .inr (h.inn k q' c' h2).2.1
  ·obtain⟨rfl,rfl⟩:q'=top∧c'=zeros n:=by simpa using h2
   exact .inl (h.inn j q c h1).2.1
  ·exact h.apart j k q c q' c' hne h1 h2
set_option maxHeartbeats 1000000 in
theorem KZ{ab N:Nat}{D:List (Option Bt)}{H:List Chunk}(hA:Ar ab N D H)(n:Int):
 Tri Tryz.prog 62 #[.pointer (some ⟨ab,0,none⟩),.int .i64 n] [H]
  (fun r S=>(ZI N D n≠0∧r= .tuple #[.int .i64 0,.int .i64 (ZI N D n)]∧S=[H])∨(ZI N D n=0∧∃(m:Nat) (H':List Chunk),n=m∧r= .tuple #[.int .i64 (hnd D:Nat),.int .i64 0]∧Ar ab N (ZJ D m) H'∧S=[H'])):=by
 obtain⟨bb,kv,HK,T,B,used,top,hI,rfl,hK,rfl⟩:=hA;refine Tri.Vg (Tri.forget (zn Tryz.MZ (Nat.le_of_ble_eq_true rfl) ?_));unfold Tryz.O8;have hbig:=hI.big;have hsum:=hI.sum;have hut:=hI.ut;have htn:=hI.tn;have hBl:=hI.len;refine ze (z8 (yp pC (yp pC (zf (za (ze (z8 (yp (pI rfl) ?_))))))));refine zh (zk (Xc n) rfl rfl fun r S' h=>?_);obtain⟨rfl,rfl⟩:=h;refine yp (pI rfl) (zf (za ?_));have hend:∀e:Int,ZI N (ZX T) n=e→e≠0→(fun(v:Value) (S':zB)=>∃S'',zG S' S''∧((ZI N (ZX T) n≠0∧v= .tuple #[.int .i64 0,.int .i64 (ZI N (ZX T) n)]∧S''=[ZM ab (.slice (some ⟨bb,0,none⟩) N N) kv (used:Int) (top:Int)++VK bb B++HK])∨
  (ZI N (ZX T) n=0∧∃(m:Nat) (H':List Chunk),n=m∧v= .tuple #[.int .i64 (hnd (ZX T):Nat),.int .i64 0]∧Ar ab N (ZJ (ZX T) m) H'∧S''=[H']))) (.tuple #[.int .i64 0,.int .i64 e]) [ZM ab (.slice (some ⟨bb,0,none⟩) N N) kv (used:Int) (top:Int),VK bb B,HK]:=
  fun e he hne=>⟨_,zG.vX,.inl ⟨by rw[he]; exact hne,by rw[he],rfl⟩⟩
 by_cases hc0:cost n=0
 ·refine ze (zo (ze (z8 (yp (pI rfl) (yp (WB rfl rfl) (yp (pB rfl) (zf (za ?_))))))));rw[decide_eq_true hc0];refine zI rfl (ze (z8 (yp pC (yp pC (zf (za (zL (bret (zX ?_)))))))));exact zK (Ya rfl rfl) (hend 3 (by unfold ZI; rw[if_pos hc0]) (by decide))
 obtain⟨m,rfl,hm,hcm⟩:=l9 hc0;have hcn:=wK m hm;refine UH (fun E S=>∃(T':Tab) (B:Bt) (kv:Value) (HK:List Chunk) (used top:Nat),Has E [(0,.pointer (some ⟨ab,0,none⟩)),(1,.int .i64 (m:Int))]∧ZI N (ZX T) m=0∧Inv N T' B used top∧ZX T'=ZX T∧Zf 163 kv (Vj T') HK∧top+zZ m≤N∧zG S [ZM ab (.slice (some ⟨bb,0,none⟩) N N) kv (used:Int) (top:Int),VK bb B,HK]) ?_ ?_
 ·refine zo (ze (z8 (yp (pI rfl) (yp (WB rfl rfl) (yp (pB rfl) (zf (za ?_)))))));rw[decide_eq_false hc0];refine zw rfl (ze (z8 (yp (pI rfl) (yp (pP rfl) ?_))));refine zh (zk (mh (ab:=ab) (kv:=kv) (used:=(used:Int)) (top:=(top:Int)) (B:=B) (H:=VK bb B) (bv:= .slice (some ⟨bb,0,none⟩) N N) (by rw[←hBl]; exact Zf.full rfl) (by omega) (by omega)) rfl rfl fun r S' h=>?_);obtain⟨rfl,rfl⟩:=h;refine yp (VE rfl rfl) (yp (pB rfl) (zf (za ?_)));rw[hcm,hBl];refine zO rfl (fun h1=>?_) (fun h1=>?_)
  ·refine ze (z8 (yp pC (yp pC (zf (za (zL (bret (zX ?_))))))));exact zK (Ya rfl rfl) (hend 4 (by unfold ZI; rw[if_neg hc0,if_pos (by rw[hcm, ←hsum]; exact h1)]) (by decide))
  have hE0:ZI N (ZX T) (m:Int)=0:=by unfold ZI; rw[if_neg hc0,if_neg (by rw[hcm, ←hsum]; exact h1)]
  refine ze (zY (zi (pP rfl) (zi (zS rfl) (zi (zx rfl) (Zd rfl rfl (zi (pI rfl) (zi (Zi rfl rfl (by omega)) (zi (pP rfl) (zi (zS rfl) (zi (zx rfl) (Zd rfl rfl (zi (Zz rfl) (zi (VE rfl rfl) (zi (pB rfl) (zD (za ?_))))))))))))))));refine zO rfl (fun h2=>?_) (fun h2=>?_)
  ·refine z8 (yp (pP rfl) ?_);refine zh (zk (qY (ab:=ab) (bb:=bb) hI hK) rfl rfl fun r S' h=>?_);obtain⟨rfl,kv2,HK2,T2,B2,t,ht,hI2,hd2,hK2,rfl⟩:=h;refine zf (zT (za ?_));exact⟨T2,B2,kv2,HK2,t,t,⟨rfl,rfl,trivial⟩,hE0,hI2,hd2,hK2,by omega,.of⟩
  ·refine zq (zT (za ?_));exact⟨T,B,kv,HK,used,top,⟨rfl,rfl,trivial⟩,hE0,hI,rfl,hK,by omega,.of⟩
 clear hend;intro E S ⟨T',B',kv',HK',used',top',hE,hE0,hI',hd,hK',ht,hJ⟩;rw[←hd] at hE0 ⊢;clear hd hI hK hsum hut htn hBl;have hsum:=hI'.sum;have hut:=hI'.ut;have htn:=hI'.tn;have hBl:=hI'.len;have hkl:=hI'.jy;obtain⟨E0,e0⟩:=zl hE; subst e0; clear hE;refine zm hJ (ze (z8 (yp (pP rfl) ?_)));refine zh (zk (mo (ab:=ab) (bv:= .slice (some ⟨bb,0,none⟩) N N) (used:=(used':Int)) (top:=(top':Int)) hK' hkl) rfl rfl fun r S' h=>?_);obtain⟨rfl,rfl⟩:=h;have hh1:=wR (ZX T');have hh2:=KH (ZX T');have hh3:=vL (ZX T');rw[V5] at hh2;refine yp (pI rfl) (zf (za ?_));refine w9 (fun E S=>∃(T2:Tab) (kv:Value) (HK:List Chunk),Has E [(0,.pointer (some ⟨ab,0,none⟩)),(1,.int .i64 (m:Int)),(7,.int .i64 ((hnd (ZX T'):Nat):Int))]∧Inv N T2 B' used' top'∧T2[hnd (ZX T')-1]?=some none∧ZX (T2.set (hnd (ZX T')-1) (some (top',zeros m)))=ZJ (ZX T') m∧Zf 163 kv (Vj T2) HK∧zG S [ZM ab (.slice (some ⟨bb,0,none⟩) N N) kv (used':Int) (top':Int),VK bb B',HK]) ?_ fun E S ⟨T2,kv,HK,hE,hI2,hi2,hd2,hK2,hJ⟩=>?_
 ·obtain⟨a,c,rfl⟩:=hK'.isSlice;refine ze (z8 (yp (pI rfl) (yp (pP rfl) (yp (zS rfl) (yp (zx rfl) ?_)))));refine zh (zF rfl rfl ?_);refine yp (Zz rfl) (yp (VE rfl rfl) (zf (za ?_)));have hkk:=V3 T';refine zO rfl (fun h1=>?_) (fun h1=>?_)
  ·have hlen:hnd (ZX T')=T'.length+1:=by omega
   have hall:=Jp (ZX T') fun i hi=>xw _ _ (by rw[V5] at hi; omega)
   rw[V5] at hall;have h16:16≤zZ m:=by have:=hcn.1; unfold Pow at this; omega
   have hroom:Zh (ZX T')+zZ m≤N:=by
    unfold ZI at hE0;rw[if_neg hc0,hcm] at hE0;split at hE0
    ·cases hE0
    ·omega
   have hI2:=hI'.grow (by omega);refine z8 (yp (pP rfl) (yp (pP rfl) (yp (zS rfl) (yp (zx rfl) ?_))));refine zh (zF rfl rfl ?_);refine yp vF ?_;refine zh (Ve ((0:Int),(0:Int)) rfl rfl (by decide) (by decide) rfl fun p48=>?_);refine zh (VL (Y:=[((0:Int),(0:Int))]) rfl rfl hK' (.lit (by repeat (first | exact List.mem_cons_self | apply List.mem_cons_of_mem)) rfl) rfl ((0:Int),(0:Int)) rfl (by simp; omega) (by simp; omega) fun v2 H2 hL2=>?_);obtain⟨a2,c2,rfl⟩:=hL2.isSlice;refine yp (zS rfl) (yp (zx rfl) ?_);refine zh (dx rfl rfl (Ke rfl) ?_);refine zf (za ?_);refine⟨T'++[none],.slice a2 (Vj T'++[((0:Int),(0:Int))]).length c2,H2,⟨rfl,rfl,rfl,trivial⟩,hI2,?_,?_,?_,.of⟩
   ·rw[hlen,Nat.add_sub_cancel,List.getElem?_append_right (Nat.le_refl _)]; simp
   ·rw[hlen,Nat.add_sub_cancel,Vw,ZJ,if_neg (by rw[V5]; omega)];unfold ZX;rw[List.map_append,List.set_append_right _ _ (by simp)];simp
   ·have:Vj (T'++[none])=Vj T'++[((0:Int),(0:Int))]:=by unfold Vj; rw[List.map_append]; rfl
    rw[this]; exact hL2
  ·refine zq (za ?_);have hlt:hnd (ZX T')-1<T'.length:=by omega
   refine⟨T',_,HK',⟨rfl,rfl,rfl,trivial⟩,hI',?_,?_,hK',.of⟩
   ·generalize hnd (ZX T')-1=j at hh3 hlt ⊢;unfold ZX at hh3;rw[List.getElem?_map,List.getElem?_eq_getElem hlt] at hh3;rw[List.getElem?_eq_getElem hlt];cases hT:T'[j] with
    | none=>rfl
    | some x=>rw[hT] at hh3; cases hh3
   ·rw[Vw,ZJ,if_pos (by rw[V5]; omega)]; rfl
 clear hh2 hh3 hkl hK' hI';have hkl:=hI2.jy;have hlt2:hnd (ZX T')-1<(Vj T2).length:=by rw[V3]; exact(List.getElem?_eq_some_iff.1 hi2).1
 obtain⟨E0,e0⟩:=zl hE; subst e0; clear hE;refine zm hJ (ze (z8 (yp (pP rfl) (yp (pI rfl) (yp (pI rfl) ?_)))));refine zh (zk (tT (ab:=ab) (bb:=bb) (N:=N) (used:=used') (top:=top') (B:=B') hK2 (h:=((hnd (ZX T'):Nat):Int)) (i:=hnd (ZX T')-1) (n:=m) (by omega) hlt2 hm ht hut hBl (by omega) hkl) rfl rfl fun r S' h=>?_);obtain⟨rfl,B2,HK2,hB2,hx2,hK3,rfl⟩:=h;refine zf (za (ze (z8 (yp (pP rfl) (yp (pI rfl) ?_)))));refine zh (zk (KY (ab:=ab) (bb:=bb) (N:=N) (used:=((used'+zZ m:Nat):Int)) (top:=((top'+zZ m:Nat):Int)) hK3 (h:=((hnd (ZX T'):Nat):Int)) (i:=hnd (ZX T')-1) (q:=top'+8) (n:=m) (by omega) (by rw[List.getElem?_set_self hlt2]; simp) (by omega) (by omega) (by rw[List.length_set]; exact hkl)) rfl rfl fun r S' h=>?_);obtain⟨rfl,rfl⟩:=h;obtain⟨o,ho⟩:∃o,o=(if m=0 then 0 else top'+8):=⟨_,rfl⟩
 rw[←ho];have hoN:o+m≤N:=by rw[ho]; split<;>omega
 refine zh (Af (α:=UInt8) (b:=bb) (o:=o) (m:=m) (cap:=m) (fz:=(0,0)) rfl 0 rfl (by simp[zJ,show Enc.k UInt8=1 from rfl]; omega) (.inl rfl) ?_);have hset:Zr (cells B2).toArray.toList o (cells (List.replicate m (0:UInt8)))=cells (spl B2 o (zeros m)):=by
  have:=Wh B2 o (zeros m) (by simp[zeros]; omega);rw[show Enc.k UInt8=1 from rfl,Nat.mul_one] at this;exact this
 rw[hset];have hzl:(zeros m).length=m:=by simp[zeros]
 have hsp:=Xz (b:=B2) (Y:=zeros m) (x:=o) (by omega);have hI3:=hI2.alloc (B':=spl B2 o (zeros m)) hi2 hm ht (by rw[UN (by omega)]; exact hB2) (fun z hz=>?_) (fun z hz=>?_)
 rotate_left
 ·rw[hsp,hzl];rcases Nat.eq_zero_or_pos m with h0 | h0
  ·split
   ·exact hx2 z (by omega)
   ·rw[if_neg (by omega)]; exact hx2 z (by omega)
  ·rw[if_neg (by omega)] at ho;split
   ·exact hx2 z (by omega)
   ·rw[if_neg (by omega)]; exact hx2 z (by omega)
 ·rw[hsp,hzl];rw[if_neg (by omega)] at ho;rw[if_neg (by omega),if_pos (by omega)];have:top'+8+z-o<m:=by omega
  simp[zeros,this]
 refine zf (za (ze (z8 (yp (pI rfl) (yp (pI rfl) (yp pC (zf (za (zL ?_)))))))));exact zK (Ya rfl rfl) ⟨[ZM ab (.slice (some ⟨bb,0,none⟩) N N) kv ((used'+zZ m:Nat):Int) ((top'+zZ m:Nat):Int)++VK bb (spl B2 o (zeros m))++HK2],zG.vX,.inr ⟨hE0,m,_,rfl,rfl,hd2▸Ar.mk hI3 (by rw[XF]; simpa[ent,hzl] using hK3),rfl⟩⟩
theorem bX{ab N:Nat}{D:List (Option Bt)}{H:List Chunk}(hA:Ar ab N D H){n:Int}{m:Nat}(hn:n=m)(he:ZI N D m=0):
 Tri Tryz.prog 62 #[.pointer (some ⟨ab,0,none⟩),.int .i64 n] [H] (fun r S=>r= .tuple #[.int .i64 (hnd D:Nat),.int .i64 0]∧∃H',Ar ab N (ZJ D m) H'∧S=[H']):=by
 subst hn;refine(KZ hA m).mono fun r S h=>?_
 rcases h with⟨h1,_⟩ | ⟨_,m',H',h1,h2,h3,h4⟩
 ·exact absurd he h1
 ·obtain rfl:m=m':=by omega
  exact⟨h2,H',h3,h4⟩
theorem bY{ab N:Nat}{D:List (Option Bt)}{H:List Chunk}(hA:Ar ab N D H){n e:Int}(he:ZI N D n=e)(hne:e≠0):
 Tri Tryz.prog 62 #[.pointer (some ⟨ab,0,none⟩),.int .i64 n] [H] (fun r S=>r= .tuple #[.int .i64 0,.int .i64 e]∧S=[H]):=by
 refine(KZ hA n).mono fun r S h=>?_
 rcases h with⟨_,h2,h3⟩ | ⟨h1,_⟩
 ·exact⟨by rw[h2,he],h3⟩
 ·rw[he] at h1; exact absurd h1 hne
theorem dh(n:Nat):(zeros n).length=n:=by simp[zeros]
theorem alloc_at(D:List (Option Bt))(m:Nat):(ZJ D m)[hnd D-1]?=some (some (zeros m)):=by
 have hp:=wR D;have hl:=KH D;unfold ZJ;split
 ·next hc=>rw[List.getElem?_set_self (by omega)]
 ·next hc=>rw[List.getElem?_append_right (by omega),show hnd D-1-D.length=0 from by omega]; rfl
theorem W9(D:List (Option Bt))(m:Nat):Zl (ZJ D m) ((hnd D:Nat):Int)=some (zeros m):=by
 have hp:=wR D;rw[show((hnd D:Nat):Int)=((hnd D-1:Nat):Int)+1 from by omega,ZH,alloc_at]; rfl
theorem Q0(D:List (Option Bt))(m:Nat):Zh (ZJ D m)=Zh D+zZ m:=by
 have hp:=wR D;have hno:=vL D;unfold ZJ;split
 ·next hc=>
  have hlt:hnd D-1<D.length:=by omega
  have hd:D[hnd D-1]?=some none:=by
   rw[List.getElem?_eq_getElem hlt] at hno ⊢;cases hx:D[hnd D-1] with
   | none=>rfl
   | some x=>rw[hx] at hno; cases hno
  have:=V8 (y:=some (zeros m)) hd;simp only[Y9,dh] at this; omega
 ·rw[UL,wU];simp[Y9,dh,Zh]
theorem ZB{D:List (Option Bt)}{m:Nat}{h:Int}(hne:h≠((hnd D:Nat):Int)):Zl (ZJ D m) h=Zl D h:=by
 have hp:=wR D;have hl:=KH D;by_cases h1:1≤h
 ·obtain⟨j,rfl⟩:∃j:Nat,h=(j:Int)+1:=⟨(h-1).toNat,by omega⟩
  rw[ZH,ZH];unfold ZJ;split
  ·rw[List.getElem?_set_ne (by omega)]
  ·by_cases hlt:j<D.length
   ·rw[List.getElem?_append_left hlt]
   ·rw[List.getElem?_eq_none (by simp; omega),List.getElem?_eq_none (by omega)]
 ·unfold Zl; rw[if_neg h1,if_neg h1]
theorem u6{D:List (Option Bt)}{h:Int}{b:Bt}(hg:Zl D h=some b):∃j:Nat,h=(j:Int)+1∧D[j]?=some (some b):=by
 by_cases h1:1≤h
 ·obtain⟨j,rfl⟩:∃j:Nat,h=(j:Int)+1:=⟨(h-1).toNat,by omega⟩
  rw[ZH] at hg;refine⟨j,rfl,?_⟩;cases hd:D[j]? with
  | none=>rw[hd] at hg; cases hg
  | some x=>rw[hd] at hg; exact congrArg some hg
 ·unfold Zl at hg; rw[if_neg h1] at hg; cases hg
theorem wm{D:List (Option Bt)}{h k:Int}(hne:k≠h):Zl (WT D h) k=Zl D k:=by
 unfold WT;split
 ·next hs=>
  obtain⟨c,hc⟩:=Option.isSome_iff_exists.1 hs;obtain⟨i,rfl,hi⟩:=u6 hc;by_cases h1:1≤k
  ·obtain⟨j,rfl⟩:∃j:Nat,k=(j:Int)+1:=⟨(k-1).toNat,by omega⟩
   rw[ZH,ZH,show((i:Int)+1-1).toNat=i from by omega,List.getElem?_set_ne (by omega)]
  ·unfold Zl; rw[if_neg h1,if_neg h1]
 ·rfl
/-- a whole block is written, and read -/
theorem aO{D:List (Option Bt)}{h:Int}{b Y:Bt}(hg:Zl D h=some b)(hl:Y.length=b.length):ZV D h 0 (Y.length:Int)=0∧um D h 0 Y=D.set (h-1).toNat (some Y):=by
 have hp:ZV D h 0 (Y.length:Int)=0:=by unfold ZV; rw[hg]; exact if_neg (by omega)
 refine⟨hp,?_⟩;unfold um;rw[if_pos hp,hg];congr 2;unfold spl;simp[hl]
theorem fM{D:List (Option Bt)}{h:Int}{b:Bt}(hg:Zl D h=some b):ZV D h 0 (b.length:Int)=0∧UU D h 0 (b.length:Int)=b:=by
 have hp:ZV D h 0 (b.length:Int)=0:=by unfold ZV; rw[hg]; exact if_neg (by omega)
 refine⟨hp,?_⟩;unfold UU;rw[if_pos hp,hg];simp
theorem WJ{D:List (Option Bt)}{h:Int}{b Y:Bt}(hg:Zl D h=some b)(k:Int):Zl (D.set (h-1).toNat (some Y)) k=if k=h then some Y else Zl D k:=by
 obtain⟨j,rfl,hj⟩:=u6 hg;have hlt:=(List.getElem?_eq_some_iff.1 hj).1;rw[show((j:Int)+1-1).toNat=j from by omega];by_cases h1:1≤k
 ·obtain⟨i,rfl⟩:∃i:Nat,k=(i:Int)+1:=⟨(k-1).toNat,by omega⟩
  rw[ZH,ZH];by_cases hij:i=j
  ·subst hij;rw[if_pos rfl,List.getElem?_set_self hlt]; rfl
  ·rw[if_neg (by omega),List.getElem?_set_ne (by omega)]
 ·unfold Zl; rw[if_neg h1,if_neg h1,if_neg (by omega)]
/-- what one knows of an arena's blocks -/
structure OJ(N:Nat)(D:List (Option Bt)):Prop where
 used:Zh D≤N
 big:1024≤N∧N≤1048576
 len:D.length*16≤N
 each:∀(i:Nat) (b:Bt),D[i]?=some (some b)→b.length≤4096
theorem Ar.ok{ab N:Nat}{D:List (Option Bt)}{H:List Chunk}(h:Ar ab N D H):OJ N D:=by
 obtain⟨h1,h2,h3,h4⟩:=h.kW;obtain⟨bb,kv,HK,T,B,used,top,hI,rfl,hK,rfl⟩:=h;refine⟨h1,⟨h2,h3⟩,h4,fun i b hb=>?_⟩;unfold ZX at hb;rw[List.getElem?_map] at hb;cases ht:T[i]? with
 | none=>rw[ht] at hb; cases hb
 | some x=>
  cases x with
  | none=>rw[ht] at hb; cases hb
  | some x=>
   rw[ht] at hb;obtain rfl:x.2=b:=Option.some.inj (Option.some.inj hb);exact(hI.inn i x.1 x.2 ht).1
theorem nM{α:Type}[Enc α]{ty:TypeId}{v:Value}{L:List α}{H:List Chunk}(h:Zf ty v L H):∀a n c,v= .slice a n c→n≤c:=by
 intro a n c e;cases h with
 | nil=>cases e; exact Nat.le_refl _
 | row _=>cases e; omega
end Go.Proofs.YtekgciopamkjlaaGreat
