/- Lists changed by swaps alone: what sorting in place comes to. The codes of slices.SortFunc and what it calls, for any type of element; printed by a program. slices.SortFunc, once for every type of its elements: the parts that sort small ranges, and heaps. -/
import Derived.Test.YtekgciopamkjlaaGreatB3
namespace Go.Xs
/-- the order that a comparison speaks of -/
structure Wk{α:Type}(lt:α→α→Prop):Prop where
 irr:∀a,¬lt a a
 asymm:∀a b,lt a b→¬lt b a
 tr:∀a b c,¬lt a b→¬lt b c→¬lt a c
section
variable {α:Type} [Inhabited α]
abbrev gt(L:List α)(i:Nat):α:=L.getD i default
theorem Uk{L:List α}{i:Nat}(h:i<L.length):gt L i=L[i]:=by
 unfold gt;rw[List.getD_eq_getElem?_getD,List.getElem?_eq_getElem h]; rfl
theorem Cb{L:List α}{i:Nat}(h:i<L.length):gt L i∈L:=by
 rw[Uk h]; exact List.getElem_mem h
theorem iN{L:List α}{i k:Nat}{x:α}(h:i<L.length):gt (L.set i x) k=if k=i then x else gt L k:=by
 unfold gt;rw[List.getD_eq_getElem?_getD,List.getD_eq_getElem?_getD];by_cases hk:k=i
 ·subst hk; rw[if_pos rfl,List.getElem?_set_self h]; rfl
 ·rw[if_neg hk,List.getElem?_set_ne (fun e=>hk e.symm)]
abbrev swp(L:List α)(i j:Nat):List α:=(L.set i (gt L j)).set j (gt L i)
theorem nE(L:List α)(i j:Nat):(swp L i j).length=L.length:=by simp[swp]
theorem ZQ{L:List α}{i j k:Nat}(hi:i<L.length)(hj:j<L.length):gt (swp L i j) k=if k=j then gt L i else if k=i then gt L j else gt L k:=by
 unfold swp;rw[iN (by simpa using hj),iN hi]
theorem jA{L:List α}{i j:Nat}(hi:i<L.length)(hj:j<L.length):(swp L i j).Perm L:=by
 unfold swp;rw[Uk hi,Uk hj];exact List.set_set_perm hi hj
/-- swaps within a range alone -/
inductive Sw (a b:Nat) (L:List α):List α→Prop
 | refl:Sw a b L L
 | step {M:List α} {i j:Nat}:Sw a b L M→a≤i→i<b→a≤j→j<b→b≤L.length→Sw a b L (swp M i j)
theorem Sw.len{a b:Nat}{L M:List α}(h:Sw a b L M):M.length=L.length:=by
 induction h with
 | refl=>rfl
 | step _ _ _ _ _ _ ih=>rw[nE,ih]
theorem Sw.perm{a b:Nat}{L M:List α}(h:Sw a b L M):M.Perm L:=by
 induction h with
 | refl=>exact .refl _
 | step h _ _ _ _ _ ih=>exact(jA (by rw[h.len]; omega) (by rw[h.len]; omega)).trans ih
theorem Sw.out{a b:Nat}{L M:List α}(h:Sw a b L M){k:Nat}(hk:k<a∨b≤k):gt M k=gt L k:=by
 induction h with
 | refl=>rfl
 | step h _ _ _ _ _ ih=>rw[ZQ (by rw[h.len]; omega) (by rw[h.len]; omega),if_neg (by omega),if_neg (by omega),ih]
theorem Sw.all{a b:Nat}{L M:List α}(h:Sw a b L M){p:α→Prop}(hp:∀k,a≤k→k<b→p (gt L k)):∀k,a≤k→k<b→p (gt M k):=by
 induction h with
 | refl=>exact hp
 | step h hi hi' hj hj' _ ih=>
  intro k hk hk';rw[ZQ (by rw[h.len]; omega) (by rw[h.len]; omega)];split
  ·exact ih _ hi hi'
  ·split
   ·exact ih _ hj hj'
   ·exact ih _ hk hk'
theorem Sw.mono{a b a' b':Nat}{L M:List α}(h:Sw a' b' L M)(ha:a≤a')(hb:b'≤b)(hl:b≤L.length):Sw a b L M:=by
 induction h with
 | refl=>exact .refl
 | step h _ _ _ _ _ ih=>exact .step ih (by omega) (by omega) (by omega) (by omega) hl
theorem Sw.trans{a b:Nat}{L M N:List α}(h:Sw a b L M)(k:Sw a b M N):Sw a b L N:=by
 induction k with
 | refl=>exact h
 | step _ h1 h2 h3 h4 h5 ih=>exact .step ih h1 h2 h3 h4 (by rw[←h.len]; exact h5)
/-- in order between a and b -/
def So(lt:α→α→Prop)(a b:Nat)(L:List α):Prop:=∀i j,a≤i→i<j→j<b→¬lt (gt L j) (gt L i)
theorem So.congr{lt:α→α→Prop}{a b:Nat}{L M:List α}(h:So lt a b L)(he:∀k,a≤k→k<b→gt M k=gt L k):So lt a b M:=by
 intro i j ha hij hj;rw[he i (by omega) (by omega),he j (by omega) hj];exact h i j ha hij hj
/-- in order but for one, which is not above those behind it -/
structure Q6(lt:α→α→Prop)(a b j:Nat)(L:List α):Prop where
 rest:∀k l,a≤k→k<l→l<b→k≠j→l≠j→¬lt (gt L l) (gt L k)
 fore:∀l,j<l→l<b→¬lt (gt L l) (gt L j)
theorem Q6.start{lt:α→α→Prop}{a i:Nat}{L:List α}(h:So lt a i L):Q6 lt a (i+1) i L:=
 ⟨fun k l hk hkl hl h1 h2=>h k l hk hkl (by omega),fun l h1 h2=>by omega⟩
theorem Q6.step{lt:α→α→Prop}(w:Wk lt){a b j:Nat}{L:List α}(h:Q6 lt a b j L)(hj:a<j)(hjb:j<b)(hb:b≤L.length)(hlt:lt (gt L j) (gt L (j-1))):Q6 lt a b (j-1) (swp L j (j-1)):=by
 have e:∀k,gt (swp L j (j-1)) k=if k=j-1 then gt L j else if k=j then gt L (j-1) else gt L k:=fun k=>ZQ (by omega) (by omega)
 refine⟨fun k l hk hkl hl h1 h2=>?_,fun l h1 h2=>?_⟩
 ·rw[e k,e l,if_neg h1,if_neg h2];by_cases hkj:k=j
  ·rw[if_pos hkj,if_neg (by omega)]; exact h.rest (j-1) l (by omega) (by omega) hl (by omega) (by omega)
  ·rw[if_neg hkj];by_cases hlj:l=j
   ·rw[if_pos hlj]; exact h.rest k (j-1) hk (by omega) (by omega) hkj (by omega)
   ·rw[if_neg hlj]; exact h.rest k l hk hkl hl hkj hlj
 ·rw[e l,e (j-1),if_pos rfl,if_neg (by omega)];by_cases hlj:l=j
  ·rw[if_pos hlj]; exact w.asymm _ _ hlt
  ·rw[if_neg hlj]; exact h.fore l (by omega) h2
theorem Q6.stop{lt:α→α→Prop}(w:Wk lt){a b j:Nat}{L:List α}(h:Q6 lt a b j L)(_hj:a≤j)(hs:j=a∨¬lt (gt L j) (gt L (j-1))):So lt a b L:=by
 intro k l hk hkl hl;by_cases hkj:k=j
 ·rw[hkj]; exact h.fore l (by omega) hl
 by_cases hlj:l=j
 ·rw[hlj];rcases hs with hs | hs
  ·omega
  ·by_cases h1:k=j-1
   ·rw[h1]; exact hs
   ·exact w.tr _ _ _ hs (h.rest k (j-1) hk (by omega) (by omega) hkj (by omega))
 ·exact h.rest k l hk hkl hl hkj hlj
theorem So.snoc{lt:α→α→Prop}(w:Wk lt){a i:Nat}{L:List α}(h:So lt a i L)(ha:a<i)(hs:¬lt (gt L i) (gt L (i-1))):So lt a (i+1) L:=by
 intro x y h1 h2 h3;by_cases hy:y=i
 ·rw[hy];by_cases hx:x=i-1
  ·rw[hx]; exact hs
  ·exact w.tr _ _ _ hs (h x (i-1) h1 (by omega) (by omega))
 ·exact h x y h1 h2 (by omega)
theorem So.swapped{lt:α→α→Prop}{a i:Nat}{L:List α}(h:So lt a i L)(ha:a<i)(hi:i<L.length):Q6 lt a i (i-1) (swp L i (i-1)):=by
 have:=Q6.start (lt:=lt) (a:=a) (i:=i-1) (L:=swp L i (i-1)) (fun x y h1 h2 h3=>by
  rw[ZQ (by omega) (by omega),ZQ (by omega) (by omega),if_neg (by omega),if_neg (by omega),if_neg (by omega),if_neg (by omega)];exact h x y h1 h2 (by omega))
 rwa [show i-1+1=i from by omega] at this
/-! heaps -/
def Hp(lt:α→α→Prop)(first lo hi:Nat)(L:List α):Prop:=∀q c,lo≤q→(c=2*q+1∨c=2*q+2)→c<hi→¬lt (gt L (first+q)) (gt L (first+c))
/-- a heap but for r -/
structure mK(lt:α→α→Prop)(first lo hi r:Nat)(L:List α):Prop where
 rest:∀q c,lo≤q→q≠r→(c=2*q+1∨c=2*q+2)→c<hi→¬lt (gt L (first+q)) (gt L (first+c))
 fore:∀q c,lo≤q→(r=2*q+1∨r=2*q+2)→(c=2*r+1∨c=2*r+2)→c<hi→¬lt (gt L (first+q)) (gt L (first+c))
theorem mK.start{lt:α→α→Prop}{first lo hi:Nat}{L:List α}(h:Hp lt first (lo+1) hi L):mK lt first lo hi lo L:=
 ⟨fun q c h1 h2 h3 h4=>h q c (by omega) h3 h4,fun q c h1 h2 _ _=>by omega⟩
theorem mK.step{lt:α→α→Prop}(w:Wk lt){first lo hi r c:Nat}{L:List α}(h:mK lt first lo hi r L)(_hr:lo≤r)(hc:c=2*r+1∨c=2*r+2)(hch:c<hi)(hb:first+hi≤L.length)
 (hmax:∀c',(c'=2*r+1∨c'=2*r+2)→c'<hi→¬lt (gt L (first+c)) (gt L (first+c'))) (hlt:lt (gt L (first+r)) (gt L (first+c))):mK lt first lo hi c (swp L (first+r) (first+c)):=by
 have e:∀k,gt (swp L (first+r) (first+c)) (first+k)=if k=c then gt L (first+r) else if k=r then gt L (first+c) else gt L (first+k):=by
  intro k;rw[ZQ (by omega) (by omega)];by_cases h1:k=c
  ·rw[if_pos (by omega),if_pos h1]
  ·rw[if_neg (by omega),if_neg h1];by_cases h2:k=r
   ·rw[if_pos (by omega),if_pos h2]
   ·rw[if_neg (by omega),if_neg h2]
 refine⟨fun q d h1 h2 h3 h4=>?_,fun q d h1 h2 h3 h4=>?_⟩
 ·rw[e q,e d,if_neg h2];by_cases hq:q=r
  ·rw[if_pos hq];by_cases hd:d=c
   ·rw[if_pos hd]; exact w.asymm _ _ hlt
   ·rw[if_neg hd,if_neg (by omega)]; exact hmax d (by omega) h4
  ·rw[if_neg hq];by_cases hd:d=c
   ·omega
   ·rw[if_neg hd];by_cases hd2:d=r
    ·rw[if_pos hd2]; exact h.fore q c h1 (by omega) hc hch
    ·rw[if_neg hd2]; exact h.rest q d h1 hq h3 h4
 ·have hq:q=r:=by omega
  rw[e q,e d,if_neg (by omega),if_pos hq,if_neg (by omega),if_neg (by omega)];exact h.rest c d (by omega) (by omega) h3 h4
theorem mK.stop{lt:α→α→Prop}{first lo hi r:Nat}{L:List α}(h:mK lt first lo hi r L)(hs:∀c,(c=2*r+1∨c=2*r+2)→c<hi→¬lt (gt L (first+r)) (gt L (first+c))):Hp lt first lo hi L:=by
 intro q c h1 h2 h3;by_cases hq:q=r
 ·subst hq; exact hs c h2 h3
 ·exact h.rest q c h1 hq h2 h3
theorem Hp.top{lt:α→α→Prop}(w:Wk lt){first hi:Nat}{L:List α}(h:Hp lt first 0 hi L):∀k,k<hi→¬lt (gt L first) (gt L (first+k)):=by
 intro k
 induction k using Nat.strongRecOn with
 | _ k ih=>
  intro hk;by_cases h0:k=0
  ·subst h0; exact w.irr _
  ·obtain⟨q,hq⟩:∃q,k=2*q+1∨k=2*q+2:=⟨(k-1)/2,by omega⟩
   exact w.tr _ _ _ (ih q (by omega) (by omega)) (h q k (by omega) hq hk)
/-- what is popped off a heap -/
structure Pops(lt:α→α→Prop)(first hi i:Nat)(L:List α):Prop where
 heap:Hp lt first 0 i L
 up:∀k l,k<l→i≤l→l<hi→¬lt (gt L (first+l)) (gt L (first+k))
theorem Pops.step{lt:α→α→Prop}(w:Wk lt){first hi i:Nat}{L M:List α}(h:Pops lt first hi (i+1) L)(hi':i<hi)(hb:first+hi≤L.length)(hs:Sw first (first+i) (swp L first (first+i)) M)(hm:Hp lt first 0 i M):Pops lt first hi i M:=by
 have e:∀k,gt (swp L first (first+i)) k=if k=first+i then gt L first else if k=first then gt L (first+i) else gt L k:=fun k=>ZQ (by omega) (by omega)
 refine⟨hm,fun k l hkl hil hl=>?_⟩;rw[hs.out (k:=first+l) (by omega),e,if_neg (show ¬first+l=first from by omega)];by_cases hc:l=i
 ·subst hc;rw[if_pos rfl]
  -- everything below is not above the old top
  refine hs.all (p:=fun x=>¬lt (gt L first) x) (fun q h1 h2=>?_) (first+k) (by omega) (by omega);rw[e];split
  ·exact w.irr _
  ·split
   ·exact h.heap.top w l (by omega)
   ·obtain⟨t,rfl⟩:∃t,q=first+t:=⟨q-first,by omega⟩
    exact h.heap.top w t (by omega)
 ·rw[if_neg (by omega)];by_cases hki:i≤k
  ·rw[hs.out (k:=first+k) (by omega),e];split
   ·exact h.up 0 l (by omega) (by omega) hl
   ·rw[if_neg (by omega)]; exact h.up k l hkl (by omega) hl
  ·refine hs.all (p:=fun x=>¬lt (gt L (first+l)) x) (fun q h1 h2=>?_) (first+k) (by omega) (by omega);rw[e];split
   ·exact h.up 0 l (by omega) (by omega) hl
   ·split
    ·exact h.up i l (by omega) (by omega) hl
    ·obtain⟨t,rfl⟩:∃t,q=first+t:=⟨q-first,by omega⟩
     exact h.up t l (by omega) (by omega) hl
theorem Pops.done{lt:α→α→Prop}{first hi:Nat}{L:List α}(h:Pops lt first hi 0 L):So lt first (first+hi) L:=by
 intro i j h1 h2 h3;have:=h.up (i-first) (j-first) (by omega) (by omega) (by omega)
 rwa [show first+(i-first)=i from by omega,show first+(j-first)=j from by omega] at this
/-- in order as far as what is outside of a' .. b' is concerned -/
def Ou(lt:α→α→Prop)(a b a' b':Nat)(L:List α):Prop:=∀i j,a≤i→i<j→j<b→(i<a'∨b'≤j)→¬lt (gt L j) (gt L i)
theorem Ou.keep{lt:α→α→Prop}{a b a' b':Nat}{L M:List α}(h:Ou lt a b a' b' L)(ha:a≤a')(hb:b'≤b)(hs:Sw a' b' L M):Ou lt a b a' b' M:=by
 intro i j h1 h2 h3 h4;by_cases hi:a'≤i∧i<b'
 ·have hj:b'≤j:=by omega
  rw[hs.out (k:=j) (.inr hj)];exact hs.all (p:=fun x=>¬lt (gt L j) x) (fun k hk hk'=>h k j (by omega) (by omega) h3 (.inr hj)) i hi.1 hi.2
 ·rw[hs.out (k:=i) (by omega)];by_cases hj:a'≤j∧j<b'
  ·exact hs.all (p:=fun x=>¬lt x (gt L i)) (fun k hk hk'=>h i k h1 (by omega) (by omega) (.inl (by omega))) j hj.1 hj.2
  ·rw[hs.out (k:=j) (by omega)]; exact h i j h1 h2 h3 h4
theorem Ou.done{lt:α→α→Prop}{a b a' b':Nat}{L:List α}(h:Ou lt a b a' b' L)(hs:So lt a' b' L):So lt a b L:=by
 intro i j h1 h2 h3;by_cases hc:i<a'∨b'≤j
 ·exact h i j h1 h2 h3 hc
 ·exact hs i j (by omega) h2 (by omega)
/-! partitions -/
structure PI(lt:α→α→Prop)(a b i j:Nat)(N:List α):Prop where
 lo:∀k,a<k→k<i→lt (gt N k) (gt N a)
 hi:∀k,j<k→k<b→¬lt (gt N k) (gt N a)
 ai:a+1≤i
 ij:i≤j+1
 jb:j<b
theorem PI.start{lt:α→α→Prop}{a b:Nat}{N:List α}(h:a<b):PI lt a b (a+1) (b-1) N:=
 ⟨fun k h1 h2=>by omega,fun k h1 h2=>by omega,by omega,by omega,by omega⟩
theorem PI.up{lt:α→α→Prop}{a b i j:Nat}{N:List α}(h:PI lt a b i j N)(hij:i≤j)(hl:lt (gt N i) (gt N a)):PI lt a b (i+1) j N:=by
 refine⟨fun k h1 h2=>?_,h.hi,by have:=h.ai; omega,by omega,h.jb⟩;by_cases hk:k=i
 ·rw[hk]; exact hl
 ·exact h.lo k h1 (by omega)
theorem PI.dn{lt:α→α→Prop}{a b i j:Nat}{N:List α}(h:PI lt a b i j N)(hij:i≤j)(hl:¬lt (gt N j) (gt N a)):PI lt a b i (j-1) N:=by
 refine⟨h.lo,fun k h1 h2=>?_,h.ai,by omega,by have:=h.jb; omega⟩;by_cases hk:k=j
 ·rw[hk]; exact hl
 ·exact h.hi k (by omega) h2
theorem PI.swap{lt:α→α→Prop}{a b i j:Nat}{N:List α}(h:PI lt a b i j N)(hij:i≤j)(hb:b≤N.length)(h1:¬lt (gt N i) (gt N a))(h2:lt (gt N j) (gt N a)):i<j∧PI lt a b (i+1) (j-1) (swp N i j):=by
 have hne:i≠j:=fun e=>by rw[e] at h1; exact h1 h2
 have hai:=h.ai;have hjb:=h.jb;refine⟨by omega,fun k h3 h4=>?_,fun k h3 h4=>?_,by omega,by omega,by omega⟩
 ·rw[ZQ (by omega) (by omega),ZQ (by omega) (by omega),if_neg (by omega),if_neg (show ¬a=j from by omega),if_neg (show ¬a=i from by omega)];split
  ·exact h2
  ·exact h.lo k h3 (by omega)
 ·rw[ZQ (by omega) (by omega),ZQ (by omega) (by omega),if_neg (show ¬a=j from by omega),if_neg (show ¬a=i from by omega)];split
  ·exact h1
  ·rw[if_neg (by omega)]; exact h.hi k (by omega) h4
/-- data[mid] parts the range -/
structure vB(lt:α→α→Prop)(a b mid:Nat)(M:List α):Prop where
 am:a≤mid
 mb:mid<b
 lo:∀k,a≤k→k<mid→lt (gt M k) (gt M mid)
 hi:∀k,mid<k→k<b→¬lt (gt M k) (gt M mid)
theorem PI.done{lt:α→α→Prop}{a b i j:Nat}{N:List α}(h:PI lt a b i j N)(hij:¬i≤j)(hb:b≤N.length):vB lt a b j (swp N j a):=by
 have hai:=h.ai;have hjb:=h.jb;have hh:=h.ij;have e:gt (swp N j a) j=gt N a:=by
  rw[ZQ (by omega) (by omega)];split
  ·next hc=>rw[hc]
  ·rw[if_pos rfl]
 refine⟨by omega,hjb,fun k h3 h4=>?_,fun k h3 h4=>?_⟩
 ·rw[e,ZQ (by omega) (by omega)];split
  ·exact h.lo j (by omega) (by omega)
  ·rw[if_neg (by omega)]; exact h.lo k (by omega) (by omega)
 ·rw[e,ZQ (by omega) (by omega),if_neg (by omega),if_neg (by omega)];exact h.hi k h3 h4
structure PE(lt:α→α→Prop)(a b i j:Nat)(N:List α):Prop where
 lo:∀k,a<k→k<i→¬lt (gt N a) (gt N k)
 hi:∀k,j<k→k<b→lt (gt N a) (gt N k)
 least:∀k,a≤k→k<b→¬lt (gt N k) (gt N a)
 ai:a+1≤i
 ij:i≤j+1
 jb:j<b
theorem PE.start{lt:α→α→Prop}{a b p:Nat}{N:List α}(hp:a≤p)(hpb:p<b)(hb:b≤N.length)(hl:∀k,a≤k→k<b→¬lt (gt N k) (gt N p)):PE lt a b (a+1) (b-1) (swp N a p):=by
 refine⟨fun k h1 h2=>by omega,fun k h1 h2=>by omega,fun k h1 h2=>?_,by omega,by omega,by omega⟩;have e:gt (swp N a p) a=gt N p:=by
  rw[ZQ (by omega) (by omega)];split
  ·next hc=>rw[←hc]
  ·rw[if_pos rfl]
 rw[e,ZQ (by omega) (by omega)];split
 ·exact hl a (by omega) (by omega)
 ·split
  ·exact hl p hp hpb
  ·exact hl k h1 h2
theorem PE.up{lt:α→α→Prop}{a b i j:Nat}{N:List α}(h:PE lt a b i j N)(hij:i≤j)(hl:¬lt (gt N a) (gt N i)):PE lt a b (i+1) j N:=by
 refine⟨fun k h1 h2=>?_,h.hi,h.least,by have:=h.ai; omega,by omega,h.jb⟩;by_cases hk:k=i
 ·rw[hk]; exact hl
 ·exact h.lo k h1 (by omega)
theorem PE.dn{lt:α→α→Prop}{a b i j:Nat}{N:List α}(h:PE lt a b i j N)(hij:i≤j)(hl:lt (gt N a) (gt N j)):PE lt a b i (j-1) N:=by
 refine⟨h.lo,fun k h1 h2=>?_,h.least,h.ai,by omega,by have:=h.jb; omega⟩;by_cases hk:k=j
 ·rw[hk]; exact hl
 ·exact h.hi k (by omega) h2
theorem PE.swap{lt:α→α→Prop}{a b i j:Nat}{N:List α}(h:PE lt a b i j N)(hij:i≤j)(hb:b≤N.length)(h1:lt (gt N a) (gt N i))(h2:¬lt (gt N a) (gt N j)):i<j∧PE lt a b (i+1) (j-1) (swp N i j):=by
 have hne:i≠j:=fun e=>by rw[e] at h1; exact h2 h1
 have hai:=h.ai;have hjb:=h.jb;have ea:gt (swp N i j) a=gt N a:=by rw[ZQ (by omega) (by omega),if_neg (by omega),if_neg (by omega)]
 refine⟨by omega,fun k h3 h4=>?_,fun k h3 h4=>?_,fun k h3 h4=>?_,by omega,by omega,by omega⟩
 ·rw[ea,ZQ (by omega) (by omega),if_neg (by omega)];split
  ·exact h2
  ·exact h.lo k h3 (by omega)
 ·rw[ea,ZQ (by omega) (by omega)];split
  ·exact h1
  ·rw[if_neg (by omega)]; exact h.hi k (by omega) h4
 ·rw[ea];exact(Sw.refl.step (M:=N) (i:=i) (j:=j) (by omega) (by omega) (by omega) (by omega) hb:Sw a b N _).all (p:=fun x=>¬lt x (gt N a)) h.least k h3 h4
/-- the equal ones ahead of those above -/
structure Lc(lt:α→α→Prop)(a b mid:Nat)(M:List α):Prop where
 am:a<mid
 mb:mid≤b
 ord:∀i j,a≤i→i<j→j<b→i<mid→¬lt (gt M j) (gt M i)
theorem PE.done{lt:α→α→Prop}(w:Wk lt){a b i j:Nat}{N:List α}(h:PE lt a b i j N)(hij:¬i≤j):Lc lt a b i N:=by
 have hai:=h.ai;have hjb:=h.jb;have hh:=h.ij;have lo:∀k,a≤k→k<i→¬lt (gt N a) (gt N k):=fun k h1 h2=>by
  by_cases hk:k=a
  ·rw[hk]; exact w.irr _
  ·exact h.lo k (by omega) h2
 exact⟨by omega,by omega,fun x y h1 h2 h3 h4=>w.tr _ _ _ (h.least y (by omega) h3) (lo x h1 h4)⟩
/-! the whole -/
structure kL(lt:α→α→Prop)(a b:Nat)(M:List α)(a' b':Nat)(N:List α):Prop where
 sw:Sw a b M N
 ou:Ou lt a b a' b' N
 aa:a≤a'
 ab:a'≤b'
 bb:b'≤b
 pre:0<a'→∀i,a'≤i→i<b'→¬lt (gt N i) (gt N (a'-1))
theorem kL.keep{lt:α→α→Prop}{a b a' b':Nat}{M N N':List α}(h:kL lt a b M a' b' N)(hs:Sw a' b' N N')(hb:b≤N.length):kL lt a b M a' b' N':=by
 refine⟨h.sw.trans (hs.mono h.aa h.bb hb),h.ou.keep h.aa h.bb hs,h.aa,h.ab,h.bb,fun h0=>?_⟩;rw[hs.out (k:=a'-1) (by omega)];exact hs.all (p:=fun x=>¬lt x (gt N (a'-1))) (h.pre h0)
theorem kL.eqd{lt:α→α→Prop}{a b a' b' mid:Nat}{M N:List α}(h:kL lt a b M a' b' N)(e:Lc lt a' b' mid N):kL lt a b M mid b' N:=by
 have h1:=e.am;have h2:=e.mb;refine⟨h.sw,fun i j hi hij hj hc=>?_,by have:=h.aa; omega,h2,h.bb,fun h0 i hi hi2=>e.ord (mid-1) i (by omega) (by omega) hi2 (by omega)⟩;by_cases hn:i<a'∨b'≤j
 ·exact h.ou i j hi hij hj hn
 ·exact e.ord i j (by omega) hij (by omega) (by omega)
theorem vB.Fw{lt:α→α→Prop}{a b mid:Nat}{N N2:List α}(h:vB lt a b mid N)(hs:Sw a mid N N2):vB lt a b mid N2:=by
 refine⟨h.am,h.mb,?_,fun k h1 h2=>?_⟩
 ·rw[hs.out (k:=mid) (by omega)];exact hs.all (p:=fun x=>lt x (gt N mid)) h.lo
 ·rw[hs.out (k:=mid) (by omega),hs.out (k:=k) (by omega)]; exact h.hi k h1 h2
theorem vB.keepR{lt:α→α→Prop}{a b mid:Nat}{N N2:List α}(h:vB lt a b mid N)(hs:Sw (mid+1) b N N2):vB lt a b mid N2:=by
 refine⟨h.am,h.mb,fun k h1 h2=>?_,?_⟩
 ·rw[hs.out (k:=mid) (by omega),hs.out (k:=k) (by omega)]; exact h.lo k h1 h2
 ·rw[hs.out (k:=mid) (by omega)];intro k h1 h2;exact hs.all (p:=fun x=>¬lt x (gt N mid)) (fun k h1 h2=>h.hi k (by omega) h2) k (by omega) h2
theorem vB.across{lt:α→α→Prop}(w:Wk lt){a b mid:Nat}{N:List α}(h:vB lt a b mid N){i j:Nat}(h1:a≤i)(h2:i≤mid)(h3:mid≤j)(h4:j<b)(hij:i<j):¬lt (gt N j) (gt N i):=by
 by_cases hi:i=mid
 ·rw[hi]; exact h.hi j (by omega) h4
 ·have hl:=w.asymm _ _ (h.lo i h1 (by omega));by_cases hj:j=mid
  ·rw[hj]; exact hl
  ·exact w.tr _ _ _ (h.hi j (by omega) h4) hl
theorem kL.left{lt:α→α→Prop}(w:Wk lt){a b a' b' mid:Nat}{M N N2:List α}(h:kL lt a b M a' b' N)(hp:vB lt a' b' mid N)(hs:Sw a' mid N N2)(ho:So lt a' mid N2)(hb:b≤N.length):kL lt a b M (mid+1) b' N2:=by
 have h1:=hp.am;have h2:=hp.mb;have hbb:=h.bb;have k2:=h.keep (hs.mono (Nat.le_refl _) (by omega) (by omega)) hb;have hp2:=hp.Fw hs;refine⟨k2.sw,fun i j hi hij hj hc=>?_,by have:=h.aa; omega,by omega,h.bb,fun _ i h3 h4=>hp2.hi i (by omega) h4⟩;by_cases hn:i<a'∨b'≤j
 ·exact k2.ou i j hi hij hj hn
 ·by_cases hj2:j<mid
  ·exact ho i j (by omega) hij hj2
  ·exact hp2.across w (by omega) (by omega) (by omega) (by omega) hij
theorem kL.right{lt:α→α→Prop}(w:Wk lt){a b a' b' mid:Nat}{M N N2:List α}(h:kL lt a b M a' b' N)(hp:vB lt a' b' mid N)(hs:Sw (mid+1) b' N N2)(ho:So lt (mid+1) b' N2)(hb:b≤N.length):kL lt a b M a' mid N2:=by
 have h1:=hp.am;have h2:=hp.mb;have hbb:=h.bb;have k2:=h.keep (hs.mono (by omega) (Nat.le_refl _) (by omega)) hb;have hp2:=hp.keepR hs;refine⟨k2.sw,fun i j hi hij hj hc=>?_,h.aa,h1,by omega,fun h0 i h3 h4=>k2.pre h0 i h3 (by omega)⟩;by_cases hn:i<a'∨b'≤j
 ·exact k2.ou i j hi hij hj hn
 ·by_cases hi2:mid<i
  ·exact ho i j (by omega) hij (by omega)
  ·exact hp2.across w (by omega) (by omega) (by omega) (by omega) hij
end
end Go.Xs
namespace Go.Xs
def uz:ByteArray:=⟨#[0,1,2,2,3,3,3,3,4,4,4,4,4,4,4,4,5,5,5,5,5,5,5,5,5,5,5,5,5,5,5,5,6,6,6,6,6,6,6,6,6,6,6,6,6,6,6,6,6,6,6,6,6,6,6,6,6,6,6,6,6,6,6,6,7,7,7,7,7,7,7,7,7,7,7,7,7,7,7,7,7,7,7,7,7,7,7,7,7,7,7,7,7,7,7,7,7,7,7,7,7,7,7,7,7,7,7,7,7,7,7,7,7,7,7,7,7,7,7,7,7,7,7,7,7,7,7,7,8,8,8,8,8,8,8,8,8,8,8,8,8,8,8,8,8,8,8,8,8,8,8,8,8,8,8,8,8,8,8,8,8,8,8,8,8,8,8,8,8,8,8,8,8,8,8,8,8,8,8,8,8,8,8,8,8,8,8,8,8,8,8,8,8,8,8,8,8,8,8,8,8,8,8,8,8,8,8,8,8,8,8,8,8,8,8,8,8,8,8,8,8,8,8,8,8,8,8,8,8,8,8,8,8,8,8,8,8,8,8,8,8,8,8,8,8,8,8,8,8,8,8,8,8,8,8,8]⟩
/-- math/bits.Len64 -/
def vZ:zA:=
 .seq (.region [⟨some 2,.mov (.const (.int .i64 0)),none⟩]) (
 .seq (.seq (.region [⟨some 3,.mov (.tmp 0),none⟩,
  ⟨some 4,.bin .geq (.tmp 3) (.const (.int .u64 4294967296)),none⟩]) (
  .cond (.tmp 4) (
   .seq (.region [⟨some 5,.mov (.tmp 0),none⟩,
    ⟨some 6,.bin .shr (.tmp 5) (.const (.int .u64 32)),none⟩,
    ⟨some 0,.mov (.tmp 6),none⟩]) (
   .region [⟨some 2,.mov (.const (.int .i64 32)),none⟩])) (
   .skip))) (
 .seq (.seq (.region [⟨some 7,.mov (.tmp 0),none⟩,
  ⟨some 8,.bin .geq (.tmp 7) (.const (.int .u64 65536)),none⟩]) (
  .cond (.tmp 8) (
   .seq (.region [⟨some 9,.mov (.tmp 0),none⟩,
    ⟨some 10,.bin .shr (.tmp 9) (.const (.int .u64 16)),none⟩,
    ⟨some 0,.mov (.tmp 10),none⟩]) (
   .region [⟨some 11,.mov (.tmp 2),none⟩,
    ⟨some 12,.bin .add (.tmp 11) (.const (.int .i64 16)),none⟩,
    ⟨some 2,.mov (.tmp 12),none⟩])) (
   .skip))) (
 .seq (.seq (.region [⟨some 13,.mov (.tmp 0),none⟩,
  ⟨some 14,.bin .geq (.tmp 13) (.const (.int .u64 256)),none⟩]) (
  .cond (.tmp 14) (
   .seq (.region [⟨some 15,.mov (.tmp 0),none⟩,
    ⟨some 16,.bin .shr (.tmp 15) (.const (.int .u64 8)),none⟩,
    ⟨some 0,.mov (.tmp 16),none⟩]) (
   .region [⟨some 17,.mov (.tmp 2),none⟩,
    ⟨some 18,.bin .add (.tmp 17) (.const (.int .i64 8)),none⟩,
    ⟨some 2,.mov (.tmp 18),none⟩])) (
   .skip))) (
 .seq (.region [⟨some 19,.mov (.tmp 2),none⟩,
  ⟨some 20,.mov (.tmp 0),none⟩,
  ⟨some 21,.conv .u8 (.tmp 20),none⟩,
  ⟨some 22,.sidx (.const (.string uz)) (.tmp 21),none⟩,
  ⟨some 23,.conv .i64 (.tmp 22),none⟩,
  ⟨some 24,.bin .add (.tmp 19) (.tmp 23),none⟩,
  ⟨some 2,.mov (.tmp 24),none⟩]) (
 .ret)))))
/-- math/bits.Len -/
def Xe(fO fLen64:Nat):zA:=
 .seq (.region [⟨some 2,.mov (.const (.int .i64 0)),none⟩]) (
 .seq (.cond (.const (.bool false)) (
  .seq (.region [⟨some 3,.mov (.tmp 0),none⟩,
   ⟨some 4,.conv .u32 (.tmp 3),none⟩,
   ⟨some 5,.call (.func fO) [(.tmp 4)],none⟩,
   ⟨some 2,.mov (.tmp 5),none⟩]) (
  .ret)) (
  .skip)) (
 .seq (.region [⟨some 6,.mov (.tmp 0),none⟩,
  ⟨some 7,.call (.func fLen64) [(.tmp 6)],none⟩,
  ⟨some 2,.mov (.tmp 7),none⟩]) (
 .ret)))
/-- slices.nextPowerOfTwo -/
def Yn(fLen:Nat):zA:=
 .seq (.region [⟨some 2,.mov (.const (.int .u64 0)),none⟩]) (
 .seq (.region [⟨some 3,.mov (.tmp 0),none⟩,
  ⟨some 4,.conv .u64 (.tmp 3),none⟩,
  ⟨some 5,.call (.func fLen) [(.tmp 4)],none⟩,
  ⟨some 6,.bin .shl (.const (.int .u64 1)) (.tmp 5),none⟩,
  ⟨some 2,.mov (.tmp 6),none⟩]) (
 .ret))
/-- (*slices.xorshift).Next -/
def Ym:zA:=
 .seq (.region [⟨some 2,.mov (.const (.int .u64 0)),none⟩]) (
 .seq (.draw (
  .q ⟨some 3,.mov (.tmp 0),none⟩ (
  .q ⟨some 4,.nilc (.tmp 3),none⟩ (
  .q ⟨some 5,.load1 (.tmp 4),none⟩ (
  .q ⟨some 6,.mov (.tmp 0),none⟩ (
  .q ⟨some 7,.nilc (.tmp 6),none⟩ (
  .q ⟨some 8,.load1 (.tmp 7),none⟩ (
  .q ⟨some 9,.bin .shl (.tmp 8) (.const (.int .u64 13)),none⟩ (
  .q ⟨some 10,.bin .xor (.tmp 5) (.tmp 9),none⟩ (
  .q ⟨some 11,.nilc (.tmp 3),none⟩ (
  .alt ⟨none,.store 1 (.tmp 11) (.tmp 10),none⟩ false (
   .done) (.noalt)))))))))))) (
 .seq (.draw (
  .q ⟨some 12,.mov (.tmp 0),none⟩ (
  .q ⟨some 13,.nilc (.tmp 12),none⟩ (
  .q ⟨some 14,.load1 (.tmp 13),none⟩ (
  .q ⟨some 15,.mov (.tmp 0),none⟩ (
  .q ⟨some 16,.nilc (.tmp 15),none⟩ (
  .q ⟨some 17,.load1 (.tmp 16),none⟩ (
  .q ⟨some 18,.bin .shr (.tmp 17) (.const (.int .u64 7)),none⟩ (
  .q ⟨some 19,.bin .xor (.tmp 14) (.tmp 18),none⟩ (
  .q ⟨some 20,.nilc (.tmp 12),none⟩ (
  .alt ⟨none,.store 1 (.tmp 20) (.tmp 19),none⟩ false (
   .done) (.noalt)))))))))))) (
 .seq (.draw (
  .q ⟨some 21,.mov (.tmp 0),none⟩ (
  .q ⟨some 22,.nilc (.tmp 21),none⟩ (
  .q ⟨some 23,.load1 (.tmp 22),none⟩ (
  .q ⟨some 24,.mov (.tmp 0),none⟩ (
  .q ⟨some 25,.nilc (.tmp 24),none⟩ (
  .q ⟨some 26,.load1 (.tmp 25),none⟩ (
  .q ⟨some 27,.bin .shl (.tmp 26) (.const (.int .u64 17)),none⟩ (
  .q ⟨some 28,.bin .xor (.tmp 23) (.tmp 27),none⟩ (
  .q ⟨some 29,.nilc (.tmp 21),none⟩ (
  .alt ⟨none,.store 1 (.tmp 29) (.tmp 28),none⟩ false (
   .done) (.noalt)))))))))))) (
 .seq (.region [⟨some 30,.mov (.tmp 0),none⟩,
  ⟨some 31,.nilc (.tmp 30),none⟩,
  ⟨some 32,.load1 (.tmp 31),none⟩,
  ⟨some 2,.mov (.tmp 32),none⟩]) (
 .ret)))))
/-- slices.insertionSortCmpFunc -/
def Qc(ld:Operand→Wv)(k:Nat):zA:=
 .seq (.region [⟨some 10,.mov (.tmp 1),none⟩,
  ⟨some 11,.bin .add (.tmp 10) (.const (.int .i64 1)),none⟩,
  ⟨some 8,.mov (.tmp 11),none⟩]) (
 .block 0 (
  .loop (
   .seq (.seq (.region [⟨some 12,.mov (.tmp 8),none⟩,
    ⟨some 13,.mov (.tmp 2),none⟩,
    ⟨some 14,.bin .lss (.tmp 12) (.tmp 13),none⟩]) (
    .cond (.tmp 14) (
     .skip) (
     .exit 0))) (
   .seq (.block 1 (
    .seq (.region [⟨some 17,.mov (.tmp 8),none⟩,
     ⟨some 9,.mov (.tmp 17),none⟩]) (
    .block 2 (
     .loop (
      .seq (.seq (.draw (
       .q ⟨some 18,.mov (.tmp 9),none⟩ (
       .q ⟨some 19,.mov (.tmp 1),none⟩ (
       .q ⟨some 20,.bin .gtr (.tmp 18) (.tmp 19),none⟩ (
       .q ⟨some 21,.mov (.tmp 20),none⟩ (
       .q ⟨some 22,.mov (.tmp 3),some (21,true)⟩ (
       .q ⟨some 23,.mov (.tmp 0),some (21,true)⟩ (
       .q ⟨some 24,.mov (.tmp 9),some (21,true)⟩ (
       .q ⟨some 25,.iadr (.tmp 23) (.tmp 24) k,some (21,true)⟩ (
       .q ⟨some 26,ld (.tmp 25),some (21,true)⟩ (
       .q ⟨some 27,.mov (.tmp 0),some (21,true)⟩ (
       .q ⟨some 28,.mov (.tmp 9),some (21,true)⟩ (
       .q ⟨some 29,.bin .sub (.tmp 28) (.const (.int .i64 1)),some (21,true)⟩ (
       .q ⟨some 30,.iadr (.tmp 27) (.tmp 29) k,some (21,true)⟩ (
       .q ⟨some 31,ld (.tmp 30),some (21,true)⟩ (
       .alt ⟨some 32,.call (.tmp 22) [(.tmp 26),(.tmp 31)],some (21,true)⟩ false (
        .q ⟨some 33,.bin .lss (.tmp 32) (.const (.int .i64 0)),some (21,true)⟩ (
        .q ⟨some 34,.pick (.tmp 21) (.tmp 33) (.const (.bool false)),none⟩ (
        .done))) (.noalt))))))))))))))))) (
       .cond (.tmp 34) (
        .skip) (
        .exit 2))) (
      .seq (.block 3 (
       .draw (
        .q ⟨some 37,.mov (.tmp 0),none⟩ (
        .q ⟨some 38,.mov (.tmp 9),none⟩ (
        .q ⟨some 39,.mov (.tmp 0),none⟩ (
        .q ⟨some 40,.mov (.tmp 9),none⟩ (
        .q ⟨some 41,.bin .sub (.tmp 40) (.const (.int .i64 1)),none⟩ (
        .q ⟨some 42,.mov (.tmp 0),none⟩ (
        .q ⟨some 43,.mov (.tmp 9),none⟩ (
        .q ⟨some 44,.bin .sub (.tmp 43) (.const (.int .i64 1)),none⟩ (
        .q ⟨some 45,.iadr (.tmp 42) (.tmp 44) k,none⟩ (
        .q ⟨some 46,ld (.tmp 45),none⟩ (
        .q ⟨some 47,.mov (.tmp 0),none⟩ (
        .q ⟨some 48,.mov (.tmp 9),none⟩ (
        .q ⟨some 49,.iadr (.tmp 47) (.tmp 48) k,none⟩ (
        .q ⟨some 50,ld (.tmp 49),none⟩ (
        .q ⟨some 51,.iadr (.tmp 37) (.tmp 38) k,none⟩ (
        .alt ⟨none,.store k (.tmp 51) (.tmp 46),none⟩ false (
         .q ⟨some 52,.iadr (.tmp 39) (.tmp 41) k,none⟩ (
         .alt ⟨none,.store k (.tmp 52) (.tmp 50),none⟩ false (
          .done) (.noalt))) (.noalt))))))))))))))))))) (
      .region [⟨some 35,.mov (.tmp 9),none⟩,
       ⟨some 36,.bin .sub (.tmp 35) (.const (.int .i64 1)),none⟩,
       ⟨some 9,.mov (.tmp 36),none⟩]))))))) (
   .region [⟨some 15,.mov (.tmp 8),none⟩,
    ⟨some 16,.bin .add (.tmp 15) (.const (.int .i64 1)),none⟩,
    ⟨some 8,.mov (.tmp 16),none⟩])))))
/-- slices.siftDownCmpFunc -/
def kT(ld:Operand→Wv)(k:Nat):zA:=
 .seq (.region [⟨some 12,.mov (.tmp 1),none⟩,
  ⟨some 10,.mov (.tmp 12),none⟩]) (
 .block 0 (
  .loop (
   .block 1 (
    .seq (.region [⟨some 13,.mov (.tmp 10),none⟩,
     ⟨some 14,.bin .mul (.const (.int .i64 2)) (.tmp 13),none⟩,
     ⟨some 15,.bin .add (.tmp 14) (.const (.int .i64 1)),none⟩,
     ⟨some 11,.mov (.tmp 15),none⟩]) (
    .seq (.seq (.region [⟨some 16,.mov (.tmp 11),none⟩,
     ⟨some 17,.mov (.tmp 2),none⟩,
     ⟨some 18,.bin .geq (.tmp 16) (.tmp 17),none⟩]) (
     .cond (.tmp 18) (
      .exit 0) (
      .skip))) (
    .seq (.seq (.draw (
     .q ⟨some 19,.mov (.tmp 11),none⟩ (
     .q ⟨some 20,.bin .add (.tmp 19) (.const (.int .i64 1)),none⟩ (
     .q ⟨some 21,.mov (.tmp 2),none⟩ (
     .q ⟨some 22,.bin .lss (.tmp 20) (.tmp 21),none⟩ (
     .q ⟨some 23,.mov (.tmp 22),none⟩ (
     .q ⟨some 24,.mov (.tmp 4),some (23,true)⟩ (
     .q ⟨some 25,.mov (.tmp 0),some (23,true)⟩ (
     .q ⟨some 26,.mov (.tmp 3),some (23,true)⟩ (
     .q ⟨some 27,.mov (.tmp 11),some (23,true)⟩ (
     .q ⟨some 28,.bin .add (.tmp 26) (.tmp 27),some (23,true)⟩ (
     .q ⟨some 29,.iadr (.tmp 25) (.tmp 28) k,some (23,true)⟩ (
     .q ⟨some 30,ld (.tmp 29),some (23,true)⟩ (
     .q ⟨some 31,.mov (.tmp 0),some (23,true)⟩ (
     .q ⟨some 32,.mov (.tmp 3),some (23,true)⟩ (
     .q ⟨some 33,.mov (.tmp 11),some (23,true)⟩ (
     .q ⟨some 34,.bin .add (.tmp 32) (.tmp 33),some (23,true)⟩ (
     .q ⟨some 35,.bin .add (.tmp 34) (.const (.int .i64 1)),some (23,true)⟩ (
     .q ⟨some 36,.iadr (.tmp 31) (.tmp 35) k,some (23,true)⟩ (
     .q ⟨some 37,ld (.tmp 36),some (23,true)⟩ (
     .alt ⟨some 38,.call (.tmp 24) [(.tmp 30),(.tmp 37)],some (23,true)⟩ false (
      .q ⟨some 39,.bin .lss (.tmp 38) (.const (.int .i64 0)),some (23,true)⟩ (
      .q ⟨some 40,.pick (.tmp 23) (.tmp 39) (.const (.bool false)),none⟩ (
      .done))) (.noalt)))))))))))))))))))))) (
     .cond (.tmp 40) (
      .region [⟨some 41,.mov (.tmp 11),none⟩,
       ⟨some 42,.bin .add (.tmp 41) (.const (.int .i64 1)),none⟩,
       ⟨some 11,.mov (.tmp 42),none⟩]) (
      .skip))) (
    .seq (.seq (.draw (
     .q ⟨some 43,.mov (.tmp 4),none⟩ (
     .q ⟨some 44,.mov (.tmp 0),none⟩ (
     .q ⟨some 45,.mov (.tmp 3),none⟩ (
     .q ⟨some 46,.mov (.tmp 10),none⟩ (
     .q ⟨some 47,.bin .add (.tmp 45) (.tmp 46),none⟩ (
     .q ⟨some 48,.iadr (.tmp 44) (.tmp 47) k,none⟩ (
     .q ⟨some 49,ld (.tmp 48),none⟩ (
     .q ⟨some 50,.mov (.tmp 0),none⟩ (
     .q ⟨some 51,.mov (.tmp 3),none⟩ (
     .q ⟨some 52,.mov (.tmp 11),none⟩ (
     .q ⟨some 53,.bin .add (.tmp 51) (.tmp 52),none⟩ (
     .q ⟨some 54,.iadr (.tmp 50) (.tmp 53) k,none⟩ (
     .q ⟨some 55,ld (.tmp 54),none⟩ (
     .alt ⟨some 56,.call (.tmp 43) [(.tmp 49),(.tmp 55)],none⟩ false (
      .q ⟨some 57,.bin .lss (.tmp 56) (.const (.int .i64 0)),none⟩ (
      .q ⟨some 58,.un .not (.tmp 57),none⟩ (
      .done))) (.noalt)))))))))))))))) (
     .cond (.tmp 58) (
      .ret) (
      .skip))) (
    .seq (.draw (
     .q ⟨some 59,.mov (.tmp 0),none⟩ (
     .q ⟨some 60,.mov (.tmp 3),none⟩ (
     .q ⟨some 61,.mov (.tmp 10),none⟩ (
     .q ⟨some 62,.bin .add (.tmp 60) (.tmp 61),none⟩ (
     .q ⟨some 63,.mov (.tmp 0),none⟩ (
     .q ⟨some 64,.mov (.tmp 3),none⟩ (
     .q ⟨some 65,.mov (.tmp 11),none⟩ (
     .q ⟨some 66,.bin .add (.tmp 64) (.tmp 65),none⟩ (
     .q ⟨some 67,.mov (.tmp 0),none⟩ (
     .q ⟨some 68,.mov (.tmp 3),none⟩ (
     .q ⟨some 69,.mov (.tmp 11),none⟩ (
     .q ⟨some 70,.bin .add (.tmp 68) (.tmp 69),none⟩ (
     .q ⟨some 71,.iadr (.tmp 67) (.tmp 70) k,none⟩ (
     .q ⟨some 72,ld (.tmp 71),none⟩ (
     .q ⟨some 73,.mov (.tmp 0),none⟩ (
     .q ⟨some 74,.mov (.tmp 3),none⟩ (
     .q ⟨some 75,.mov (.tmp 10),none⟩ (
     .q ⟨some 76,.bin .add (.tmp 74) (.tmp 75),none⟩ (
     .q ⟨some 77,.iadr (.tmp 73) (.tmp 76) k,none⟩ (
     .q ⟨some 78,ld (.tmp 77),none⟩ (
     .q ⟨some 79,.iadr (.tmp 59) (.tmp 62) k,none⟩ (
     .alt ⟨none,.store k (.tmp 79) (.tmp 72),none⟩ false (
      .q ⟨some 80,.iadr (.tmp 63) (.tmp 66) k,none⟩ (
      .alt ⟨none,.store k (.tmp 80) (.tmp 78),none⟩ false (
       .done) (.noalt))) (.noalt)))))))))))))))))))))))) (
    .region [⟨some 81,.mov (.tmp 11),none⟩,
     ⟨some 10,.mov (.tmp 81),none⟩])))))))))
/-- slices.heapSortCmpFunc -/
def JB(ld:Operand→Wv)(k:Nat)(fSift:Nat):zA:=
 .seq (.region [⟨some 13,.mov (.tmp 1),none⟩,
  ⟨some 8,.mov (.tmp 13),none⟩]) (
 .seq (.region [⟨some 9,.mov (.const (.int .i64 0)),none⟩]) (
 .seq (.region [⟨some 14,.mov (.tmp 2),none⟩,
  ⟨some 15,.mov (.tmp 1),none⟩,
  ⟨some 16,.bin .sub (.tmp 14) (.tmp 15),none⟩,
  ⟨some 10,.mov (.tmp 16),none⟩]) (
 .seq (.seq (.region [⟨some 17,.mov (.tmp 10),none⟩,
  ⟨some 18,.bin .sub (.tmp 17) (.const (.int .i64 1)),none⟩,
  ⟨some 19,.bin .quo (.tmp 18) (.const (.int .i64 2)),none⟩,
  ⟨some 11,.mov (.tmp 19),none⟩]) (
  .block 0 (
   .loop (
    .seq (.seq (.region [⟨some 20,.mov (.tmp 11),none⟩,
     ⟨some 21,.bin .geq (.tmp 20) (.const (.int .i64 0)),none⟩]) (
     .cond (.tmp 21) (
      .skip) (
      .exit 0))) (
    .seq (.block 1 (
     .region [⟨some 24,.mov (.tmp 0),none⟩,
      ⟨some 25,.mov (.tmp 11),none⟩,
      ⟨some 26,.mov (.tmp 10),none⟩,
      ⟨some 27,.mov (.tmp 8),none⟩,
      ⟨some 28,.mov (.tmp 3),none⟩,
      ⟨some 29,.call (.func fSift) [(.tmp 24),(.tmp 25),(.tmp 26),(.tmp 27),(.tmp 28)],none⟩])) (
    .region [⟨some 22,.mov (.tmp 11),none⟩,
     ⟨some 23,.bin .sub (.tmp 22) (.const (.int .i64 1)),none⟩,
     ⟨some 11,.mov (.tmp 23),none⟩])))))) (
 .seq (.region [⟨some 30,.mov (.tmp 10),none⟩,
  ⟨some 31,.bin .sub (.tmp 30) (.const (.int .i64 1)),none⟩,
  ⟨some 12,.mov (.tmp 31),none⟩]) (
 .block 2 (
  .loop (
   .seq (.seq (.region [⟨some 32,.mov (.tmp 12),none⟩,
    ⟨some 33,.bin .geq (.tmp 32) (.const (.int .i64 0)),none⟩]) (
    .cond (.tmp 33) (
     .skip) (
     .exit 2))) (
   .seq (.block 3 (
    .seq (.draw (
     .q ⟨some 36,.mov (.tmp 0),none⟩ (
     .q ⟨some 37,.mov (.tmp 8),none⟩ (
     .q ⟨some 38,.mov (.tmp 0),none⟩ (
     .q ⟨some 39,.mov (.tmp 8),none⟩ (
     .q ⟨some 40,.mov (.tmp 12),none⟩ (
     .q ⟨some 41,.bin .add (.tmp 39) (.tmp 40),none⟩ (
     .q ⟨some 42,.mov (.tmp 0),none⟩ (
     .q ⟨some 43,.mov (.tmp 8),none⟩ (
     .q ⟨some 44,.mov (.tmp 12),none⟩ (
     .q ⟨some 45,.bin .add (.tmp 43) (.tmp 44),none⟩ (
     .q ⟨some 46,.iadr (.tmp 42) (.tmp 45) k,none⟩ (
     .q ⟨some 47,ld (.tmp 46),none⟩ (
     .q ⟨some 48,.mov (.tmp 0),none⟩ (
     .q ⟨some 49,.mov (.tmp 8),none⟩ (
     .q ⟨some 50,.iadr (.tmp 48) (.tmp 49) k,none⟩ (
     .q ⟨some 51,ld (.tmp 50),none⟩ (
     .q ⟨some 52,.iadr (.tmp 36) (.tmp 37) k,none⟩ (
     .alt ⟨none,.store k (.tmp 52) (.tmp 47),none⟩ false (
      .q ⟨some 53,.iadr (.tmp 38) (.tmp 41) k,none⟩ (
      .alt ⟨none,.store k (.tmp 53) (.tmp 51),none⟩ false (
       .done) (.noalt))) (.noalt)))))))))))))))))))) (
    .region [⟨some 54,.mov (.tmp 0),none⟩,
     ⟨some 55,.mov (.tmp 9),none⟩,
     ⟨some 56,.mov (.tmp 12),none⟩,
     ⟨some 57,.mov (.tmp 8),none⟩,
     ⟨some 58,.mov (.tmp 3),none⟩,
     ⟨some 59,.call (.func fSift) [(.tmp 54),(.tmp 55),(.tmp 56),(.tmp 57),(.tmp 58)],none⟩]))) (
   .region [⟨some 34,.mov (.tmp 12),none⟩,
    ⟨some 35,.bin .sub (.tmp 34) (.const (.int .i64 1)),none⟩,
    ⟨some 12,.mov (.tmp 35),none⟩])))))))))
/-- slices.breakPatternsCmpFunc -/
def dM(ld:Operand→Wv)(k:Nat)(fNpt fNxt t0:Nat):zA:=
 .seq (.region [⟨some 13,.mov (.tmp 2),none⟩,
  ⟨some 14,.mov (.tmp 1),none⟩,
  ⟨some 15,.bin .sub (.tmp 13) (.tmp 14),none⟩,
  ⟨some 8,.mov (.tmp 15),none⟩]) (
 .seq (.region [⟨some 16,.mov (.tmp 8),none⟩,
  ⟨some 17,.bin .geq (.tmp 16) (.const (.int .i64 8)),none⟩]) (
 .cond (.tmp 17) (
  .seq (.region [⟨some 18,.mov (.tmp 8),none⟩,
   ⟨some 19,.conv .u64 (.tmp 18),none⟩,
   ⟨some 9,.alloc t0 [(.int .u64 0)],none⟩,
   ⟨none,.store 1 (.tmp 9) (.tmp 19),none⟩]) (
  .seq (.region [⟨some 20,.mov (.tmp 8),none⟩,
   ⟨some 21,.call (.func fNpt) [(.tmp 20)],none⟩,
   ⟨some 10,.mov (.tmp 21),none⟩]) (
  .seq (.region [⟨some 22,.mov (.tmp 1),none⟩,
   ⟨some 23,.mov (.tmp 8),none⟩,
   ⟨some 24,.bin .quo (.tmp 23) (.const (.int .i64 4)),none⟩,
   ⟨some 25,.bin .mul (.tmp 24) (.const (.int .i64 2)),none⟩,
   ⟨some 26,.bin .add (.tmp 22) (.tmp 25),none⟩,
   ⟨some 27,.bin .sub (.tmp 26) (.const (.int .i64 1)),none⟩,
   ⟨some 11,.mov (.tmp 27),none⟩]) (
  .block 0 (
   .loop (
    .seq (.seq (.region [⟨some 28,.mov (.tmp 11),none⟩,
     ⟨some 29,.mov (.tmp 1),none⟩,
     ⟨some 30,.mov (.tmp 8),none⟩,
     ⟨some 31,.bin .quo (.tmp 30) (.const (.int .i64 4)),none⟩,
     ⟨some 32,.bin .mul (.tmp 31) (.const (.int .i64 2)),none⟩,
     ⟨some 33,.bin .add (.tmp 29) (.tmp 32),none⟩,
     ⟨some 34,.bin .add (.tmp 33) (.const (.int .i64 1)),none⟩,
     ⟨some 35,.bin .leq (.tmp 28) (.tmp 34),none⟩]) (
     .cond (.tmp 35) (
      .skip) (
      .exit 0))) (
    .seq (.block 1 (
     .seq (.region [⟨some 38,.call (.func fNxt) [(.tmp 9)],none⟩,
      ⟨some 39,.mov (.tmp 10),none⟩,
      ⟨some 40,.bin .sub (.tmp 39) (.const (.int .u64 1)),none⟩,
      ⟨some 41,.bin .and (.tmp 38) (.tmp 40),none⟩,
      ⟨some 42,.conv .i64 (.tmp 41),none⟩,
      ⟨some 12,.mov (.tmp 42),none⟩]) (
     .seq (.seq (.region [⟨some 43,.mov (.tmp 12),none⟩,
      ⟨some 44,.mov (.tmp 8),none⟩,
      ⟨some 45,.bin .geq (.tmp 43) (.tmp 44),none⟩]) (
      .cond (.tmp 45) (
       .region [⟨some 46,.mov (.tmp 12),none⟩,
        ⟨some 47,.mov (.tmp 8),none⟩,
        ⟨some 48,.bin .sub (.tmp 46) (.tmp 47),none⟩,
        ⟨some 12,.mov (.tmp 48),none⟩]) (
       .skip))) (
     .draw (
      .q ⟨some 49,.mov (.tmp 0),none⟩ (
      .q ⟨some 50,.mov (.tmp 11),none⟩ (
      .q ⟨some 51,.mov (.tmp 0),none⟩ (
      .q ⟨some 52,.mov (.tmp 1),none⟩ (
      .q ⟨some 53,.mov (.tmp 12),none⟩ (
      .q ⟨some 54,.bin .add (.tmp 52) (.tmp 53),none⟩ (
      .q ⟨some 55,.mov (.tmp 0),none⟩ (
      .q ⟨some 56,.mov (.tmp 1),none⟩ (
      .q ⟨some 57,.mov (.tmp 12),none⟩ (
      .q ⟨some 58,.bin .add (.tmp 56) (.tmp 57),none⟩ (
      .q ⟨some 59,.iadr (.tmp 55) (.tmp 58) k,none⟩ (
      .q ⟨some 60,ld (.tmp 59),none⟩ (
      .q ⟨some 61,.mov (.tmp 0),none⟩ (
      .q ⟨some 62,.mov (.tmp 11),none⟩ (
      .q ⟨some 63,.iadr (.tmp 61) (.tmp 62) k,none⟩ (
      .q ⟨some 64,ld (.tmp 63),none⟩ (
      .q ⟨some 65,.iadr (.tmp 49) (.tmp 50) k,none⟩ (
      .alt ⟨none,.store k (.tmp 65) (.tmp 60),none⟩ false (
       .q ⟨some 66,.iadr (.tmp 51) (.tmp 54) k,none⟩ (
       .alt ⟨none,.store k (.tmp 66) (.tmp 64),none⟩ false (
        .done) (.noalt))) (.noalt))))))))))))))))))))))) (
    .region [⟨some 36,.mov (.tmp 11),none⟩,
     ⟨some 37,.bin .add (.tmp 36) (.const (.int .i64 1)),none⟩,
     ⟨some 11,.mov (.tmp 37),none⟩])))))))) (
  .skip)))
/-- slices.order2CmpFunc -/
def xM(ld:Operand→Wv)(k:Nat):zA:=
 .seq (.region [⟨some 10,.mov (.const (.int .i64 0)),none⟩,
  ⟨some 11,.mov (.const (.int .i64 0)),none⟩]) (
 .seq (.seq (.draw (
  .q ⟨some 12,.mov (.tmp 4),none⟩ (
  .q ⟨some 13,.mov (.tmp 0),none⟩ (
  .q ⟨some 14,.mov (.tmp 2),none⟩ (
  .q ⟨some 15,.iadr (.tmp 13) (.tmp 14) k,none⟩ (
  .q ⟨some 16,ld (.tmp 15),none⟩ (
  .q ⟨some 17,.mov (.tmp 0),none⟩ (
  .q ⟨some 18,.mov (.tmp 1),none⟩ (
  .q ⟨some 19,.iadr (.tmp 17) (.tmp 18) k,none⟩ (
  .q ⟨some 20,ld (.tmp 19),none⟩ (
  .alt ⟨some 21,.call (.tmp 12) [(.tmp 16),(.tmp 20)],none⟩ false (
   .q ⟨some 22,.bin .lss (.tmp 21) (.const (.int .i64 0)),none⟩ (
   .done)) (.noalt)))))))))))) (
  .cond (.tmp 22) (
   .seq (.region [⟨some 23,.mov (.tmp 3),none⟩,
    ⟨some 24,.nilc (.tmp 23),none⟩,
    ⟨some 25,.load1 (.tmp 24),none⟩,
    ⟨some 26,.bin .add (.tmp 25) (.const (.int .i64 1)),none⟩,
    ⟨some 27,.nilc (.tmp 23),none⟩,
    ⟨none,.store 1 (.tmp 27) (.tmp 26),none⟩]) (
   .seq (.region [⟨some 28,.mov (.tmp 2),none⟩,
    ⟨some 29,.mov (.tmp 1),none⟩,
    ⟨some 10,.mov (.tmp 28),none⟩,
    ⟨some 11,.mov (.tmp 29),none⟩]) (
   .ret))) (
   .skip))) (
 .seq (.region [⟨some 30,.mov (.tmp 1),none⟩,
  ⟨some 31,.mov (.tmp 2),none⟩,
  ⟨some 10,.mov (.tmp 30),none⟩,
  ⟨some 11,.mov (.tmp 31),none⟩]) (
 .ret)))
/-- slices.medianCmpFunc -/
def jl(fOrd2:Nat):zA:=
 .seq (.region [⟨some 12,.mov (.const (.int .i64 0)),none⟩]) (
 .seq (.region [⟨some 14,.mov (.tmp 0),none⟩,
  ⟨some 15,.mov (.tmp 1),none⟩,
  ⟨some 16,.mov (.tmp 2),none⟩,
  ⟨some 17,.mov (.tmp 4),none⟩,
  ⟨some 18,.mov (.tmp 5),none⟩,
  ⟨some 19,.call (.func fOrd2) [(.tmp 14),(.tmp 15),(.tmp 16),(.tmp 17),(.tmp 18)],none⟩,
  ⟨some 13,.mov (.tmp 19),none⟩,
  ⟨some 20,.ext (.tmp 13) 0,none⟩,
  ⟨some 21,.ext (.tmp 13) 1,none⟩,
  ⟨some 1,.mov (.tmp 20),none⟩,
  ⟨some 2,.mov (.tmp 21),none⟩]) (
 .seq (.region [⟨some 23,.mov (.tmp 0),none⟩,
  ⟨some 24,.mov (.tmp 2),none⟩,
  ⟨some 25,.mov (.tmp 3),none⟩,
  ⟨some 26,.mov (.tmp 4),none⟩,
  ⟨some 27,.mov (.tmp 5),none⟩,
  ⟨some 28,.call (.func fOrd2) [(.tmp 23),(.tmp 24),(.tmp 25),(.tmp 26),(.tmp 27)],none⟩,
  ⟨some 22,.mov (.tmp 28),none⟩,
  ⟨some 29,.ext (.tmp 22) 0,none⟩,
  ⟨some 30,.ext (.tmp 22) 1,none⟩,
  ⟨some 2,.mov (.tmp 29),none⟩,
  ⟨some 3,.mov (.tmp 30),none⟩]) (
 .seq (.region [⟨some 32,.mov (.tmp 0),none⟩,
  ⟨some 33,.mov (.tmp 1),none⟩,
  ⟨some 34,.mov (.tmp 2),none⟩,
  ⟨some 35,.mov (.tmp 4),none⟩,
  ⟨some 36,.mov (.tmp 5),none⟩,
  ⟨some 37,.call (.func fOrd2) [(.tmp 32),(.tmp 33),(.tmp 34),(.tmp 35),(.tmp 36)],none⟩,
  ⟨some 31,.mov (.tmp 37),none⟩,
  ⟨some 38,.ext (.tmp 31) 0,none⟩,
  ⟨some 39,.ext (.tmp 31) 1,none⟩,
  ⟨some 1,.mov (.tmp 38),none⟩,
  ⟨some 2,.mov (.tmp 39),none⟩]) (
 .seq (.region [⟨some 40,.mov (.tmp 2),none⟩,
  ⟨some 12,.mov (.tmp 40),none⟩]) (
 .ret)))))
/-- slices.medianAdjacentCmpFunc -/
def Qb(fMed:Nat):zA:=
 .seq (.region [⟨some 8,.mov (.const (.int .i64 0)),none⟩]) (
 .seq (.region [⟨some 9,.mov (.tmp 0),none⟩,
  ⟨some 10,.mov (.tmp 1),none⟩,
  ⟨some 11,.bin .sub (.tmp 10) (.const (.int .i64 1)),none⟩,
  ⟨some 12,.mov (.tmp 1),none⟩,
  ⟨some 13,.mov (.tmp 1),none⟩,
  ⟨some 14,.bin .add (.tmp 13) (.const (.int .i64 1)),none⟩,
  ⟨some 15,.mov (.tmp 2),none⟩,
  ⟨some 16,.mov (.tmp 3),none⟩,
  ⟨some 17,.call (.func fMed) [(.tmp 9),(.tmp 11),(.tmp 12),(.tmp 14),(.tmp 15),(.tmp 16)],none⟩,
  ⟨some 8,.mov (.tmp 17),none⟩]) (
 .ret))
/-- slices.choosePivotCmpFunc -/
def dL(fMad fMed t0:Nat):zA:=
 .seq (.region [⟨some 8,.mov (.const (.int .i64 0)),none⟩,
  ⟨some 9,.mov (.const (.int .i64 0)),none⟩]) (
 .seq (.region [⟨some 15,.mov (.tmp 2),none⟩,
  ⟨some 16,.mov (.tmp 1),none⟩,
  ⟨some 17,.bin .sub (.tmp 15) (.tmp 16),none⟩,
  ⟨some 10,.mov (.tmp 17),none⟩]) (
 .seq (.region [⟨some 11,.alloc t0 [(.int .i64 0)],none⟩]) (
 .seq (.region [⟨some 18,.mov (.tmp 1),none⟩,
  ⟨some 19,.mov (.tmp 10),none⟩,
  ⟨some 20,.bin .quo (.tmp 19) (.const (.int .i64 4)),none⟩,
  ⟨some 21,.bin .mul (.tmp 20) (.const (.int .i64 1)),none⟩,
  ⟨some 22,.bin .add (.tmp 18) (.tmp 21),none⟩,
  ⟨some 12,.mov (.tmp 22),none⟩]) (
 .seq (.region [⟨some 23,.mov (.tmp 1),none⟩,
  ⟨some 24,.mov (.tmp 10),none⟩,
  ⟨some 25,.bin .quo (.tmp 24) (.const (.int .i64 4)),none⟩,
  ⟨some 26,.bin .mul (.tmp 25) (.const (.int .i64 2)),none⟩,
  ⟨some 27,.bin .add (.tmp 23) (.tmp 26),none⟩,
  ⟨some 13,.mov (.tmp 27),none⟩]) (
 .seq (.region [⟨some 28,.mov (.tmp 1),none⟩,
  ⟨some 29,.mov (.tmp 10),none⟩,
  ⟨some 30,.bin .quo (.tmp 29) (.const (.int .i64 4)),none⟩,
  ⟨some 31,.bin .mul (.tmp 30) (.const (.int .i64 3)),none⟩,
  ⟨some 32,.bin .add (.tmp 28) (.tmp 31),none⟩,
  ⟨some 14,.mov (.tmp 32),none⟩]) (
 .seq (.seq (.region [⟨some 33,.mov (.tmp 10),none⟩,
  ⟨some 34,.bin .geq (.tmp 33) (.const (.int .i64 8)),none⟩]) (
  .cond (.tmp 34) (
   .seq (.seq (.region [⟨some 35,.mov (.tmp 10),none⟩,
    ⟨some 36,.bin .geq (.tmp 35) (.const (.int .i64 50)),none⟩]) (
    .cond (.tmp 36) (
     .seq (.region [⟨some 37,.mov (.tmp 0),none⟩,
      ⟨some 38,.mov (.tmp 12),none⟩,
      ⟨some 39,.mov (.tmp 3),none⟩,
      ⟨some 40,.call (.func fMad) [(.tmp 37),(.tmp 38),(.tmp 11),(.tmp 39)],none⟩,
      ⟨some 12,.mov (.tmp 40),none⟩]) (
     .seq (.region [⟨some 41,.mov (.tmp 0),none⟩,
      ⟨some 42,.mov (.tmp 13),none⟩,
      ⟨some 43,.mov (.tmp 3),none⟩,
      ⟨some 44,.call (.func fMad) [(.tmp 41),(.tmp 42),(.tmp 11),(.tmp 43)],none⟩,
      ⟨some 13,.mov (.tmp 44),none⟩]) (
     .region [⟨some 45,.mov (.tmp 0),none⟩,
      ⟨some 46,.mov (.tmp 14),none⟩,
      ⟨some 47,.mov (.tmp 3),none⟩,
      ⟨some 48,.call (.func fMad) [(.tmp 45),(.tmp 46),(.tmp 11),(.tmp 47)],none⟩,
      ⟨some 14,.mov (.tmp 48),none⟩]))) (
     .skip))) (
   .region [⟨some 49,.mov (.tmp 0),none⟩,
    ⟨some 50,.mov (.tmp 12),none⟩,
    ⟨some 51,.mov (.tmp 13),none⟩,
    ⟨some 52,.mov (.tmp 14),none⟩,
    ⟨some 53,.mov (.tmp 3),none⟩,
    ⟨some 54,.call (.func fMed) [(.tmp 49),(.tmp 50),(.tmp 51),(.tmp 52),(.tmp 11),(.tmp 53)],none⟩,
    ⟨some 13,.mov (.tmp 54),none⟩])) (
   .skip))) (
 .seq (.region [⟨some 55,.load1 (.tmp 11),none⟩]) (
 .block 0 (
  .seq (.region [⟨some 58,.bin .eql (.tmp 55) (.const (.int .i64 0)),none⟩,
   ⟨some 57,.mov (.tmp 58),none⟩]) (
  .cond (.tmp 57) (
   .seq (.region [⟨some 59,.mov (.tmp 13),none⟩,
    ⟨some 8,.mov (.tmp 59),none⟩,
    ⟨some 9,.mov (.const (.int .i64 1)),none⟩]) (
   .ret)) (
   .seq (.region [⟨some 61,.bin .eql (.tmp 55) (.const (.int .i64 12)),none⟩,
    ⟨some 60,.mov (.tmp 61),none⟩]) (
   .cond (.tmp 60) (
    .seq (.region [⟨some 62,.mov (.tmp 13),none⟩,
     ⟨some 8,.mov (.tmp 62),none⟩,
     ⟨some 9,.mov (.const (.int .i64 2)),none⟩]) (
    .ret)) (
    .seq (.region [⟨some 56,.mov (.tmp 13),none⟩,
     ⟨some 8,.mov (.tmp 56),none⟩,
     ⟨some 9,.mov (.const (.int .i64 0)),none⟩]) (
    .ret))))))))))))))
/-- slices.reverseRangeCmpFunc -/
def dG(ld:Operand→Wv)(k:Nat):zA:=
 .seq (.region [⟨some 10,.mov (.tmp 1),none⟩,
  ⟨some 8,.mov (.tmp 10),none⟩]) (
 .seq (.region [⟨some 11,.mov (.tmp 2),none⟩,
  ⟨some 12,.bin .sub (.tmp 11) (.const (.int .i64 1)),none⟩,
  ⟨some 9,.mov (.tmp 12),none⟩]) (
 .block 0 (
  .loop (
   .seq (.seq (.region [⟨some 13,.mov (.tmp 8),none⟩,
    ⟨some 14,.mov (.tmp 9),none⟩,
    ⟨some 15,.bin .lss (.tmp 13) (.tmp 14),none⟩]) (
    .cond (.tmp 15) (
     .skip) (
     .exit 0))) (
   .block 1 (
    .seq (.draw (
     .q ⟨some 16,.mov (.tmp 0),none⟩ (
     .q ⟨some 17,.mov (.tmp 8),none⟩ (
     .q ⟨some 18,.mov (.tmp 0),none⟩ (
     .q ⟨some 19,.mov (.tmp 9),none⟩ (
     .q ⟨some 20,.mov (.tmp 0),none⟩ (
     .q ⟨some 21,.mov (.tmp 9),none⟩ (
     .q ⟨some 22,.iadr (.tmp 20) (.tmp 21) k,none⟩ (
     .q ⟨some 23,ld (.tmp 22),none⟩ (
     .q ⟨some 24,.mov (.tmp 0),none⟩ (
     .q ⟨some 25,.mov (.tmp 8),none⟩ (
     .q ⟨some 26,.iadr (.tmp 24) (.tmp 25) k,none⟩ (
     .q ⟨some 27,ld (.tmp 26),none⟩ (
     .q ⟨some 28,.iadr (.tmp 16) (.tmp 17) k,none⟩ (
     .alt ⟨none,.store k (.tmp 28) (.tmp 23),none⟩ false (
      .q ⟨some 29,.iadr (.tmp 18) (.tmp 19) k,none⟩ (
      .alt ⟨none,.store k (.tmp 29) (.tmp 27),none⟩ false (
       .done) (.noalt))) (.noalt)))))))))))))))) (
    .seq (.region [⟨some 30,.mov (.tmp 8),none⟩,
     ⟨some 31,.bin .add (.tmp 30) (.const (.int .i64 1)),none⟩,
     ⟨some 8,.mov (.tmp 31),none⟩]) (
    .region [⟨some 32,.mov (.tmp 9),none⟩,
     ⟨some 33,.bin .sub (.tmp 32) (.const (.int .i64 1)),none⟩,
     ⟨some 9,.mov (.tmp 33),none⟩]))))))))
/-- slices.partialInsertionSortCmpFunc -/
def dK(ld:Operand→Wv)(k:Nat):zA:=
 .seq (.region [⟨some 8,.mov (.const (.bool false)),none⟩]) (
 .seq (.region [⟨some 13,.mov (.tmp 1),none⟩,
  ⟨some 14,.bin .add (.tmp 13) (.const (.int .i64 1)),none⟩,
  ⟨some 9,.mov (.tmp 14),none⟩]) (
 .seq (.seq (.region [⟨some 10,.mov (.const (.int .i64 0)),none⟩]) (
  .block 0 (
   .loop (
    .seq (.seq (.region [⟨some 15,.mov (.tmp 10),none⟩,
     ⟨some 16,.bin .lss (.tmp 15) (.const (.int .i64 5)),none⟩]) (
     .cond (.tmp 16) (
      .skip) (
      .exit 0))) (
    .seq (.block 1 (
     .seq (.block 2 (
      .loop (
       .seq (.seq (.draw (
        .q ⟨some 19,.mov (.tmp 9),none⟩ (
        .q ⟨some 20,.mov (.tmp 2),none⟩ (
        .q ⟨some 21,.bin .lss (.tmp 19) (.tmp 20),none⟩ (
        .q ⟨some 22,.mov (.tmp 21),none⟩ (
        .q ⟨some 23,.mov (.tmp 3),some (22,true)⟩ (
        .q ⟨some 24,.mov (.tmp 0),some (22,true)⟩ (
        .q ⟨some 25,.mov (.tmp 9),some (22,true)⟩ (
        .q ⟨some 26,.iadr (.tmp 24) (.tmp 25) k,some (22,true)⟩ (
        .q ⟨some 27,ld (.tmp 26),some (22,true)⟩ (
        .q ⟨some 28,.mov (.tmp 0),some (22,true)⟩ (
        .q ⟨some 29,.mov (.tmp 9),some (22,true)⟩ (
        .q ⟨some 30,.bin .sub (.tmp 29) (.const (.int .i64 1)),some (22,true)⟩ (
        .q ⟨some 31,.iadr (.tmp 28) (.tmp 30) k,some (22,true)⟩ (
        .q ⟨some 32,ld (.tmp 31),some (22,true)⟩ (
        .alt ⟨some 33,.call (.tmp 23) [(.tmp 27),(.tmp 32)],some (22,true)⟩ false (
         .q ⟨some 34,.bin .lss (.tmp 33) (.const (.int .i64 0)),some (22,true)⟩ (
         .q ⟨some 35,.un .not (.tmp 34),some (22,true)⟩ (
         .q ⟨some 36,.pick (.tmp 22) (.tmp 35) (.const (.bool false)),none⟩ (
         .done)))) (.noalt))))))))))))))))) (
        .cond (.tmp 36) (
         .skip) (
         .exit 2))) (
       .block 3 (
        .region [⟨some 37,.mov (.tmp 9),none⟩,
         ⟨some 38,.bin .add (.tmp 37) (.const (.int .i64 1)),none⟩,
         ⟨some 9,.mov (.tmp 38),none⟩]))))) (
     .seq (.seq (.region [⟨some 39,.mov (.tmp 9),none⟩,
      ⟨some 40,.mov (.tmp 2),none⟩,
      ⟨some 41,.bin .eql (.tmp 39) (.tmp 40),none⟩]) (
      .cond (.tmp 41) (
       .seq (.region [⟨some 8,.mov (.const (.bool true)),none⟩]) (
       .ret)) (
       .skip))) (
     .seq (.seq (.region [⟨some 42,.mov (.tmp 2),none⟩,
      ⟨some 43,.mov (.tmp 1),none⟩,
      ⟨some 44,.bin .sub (.tmp 42) (.tmp 43),none⟩,
      ⟨some 45,.bin .lss (.tmp 44) (.const (.int .i64 50)),none⟩]) (
      .cond (.tmp 45) (
       .seq (.region [⟨some 8,.mov (.const (.bool false)),none⟩]) (
       .ret)) (
       .skip))) (
     .seq (.draw (
      .q ⟨some 46,.mov (.tmp 0),none⟩ (
      .q ⟨some 47,.mov (.tmp 9),none⟩ (
      .q ⟨some 48,.mov (.tmp 0),none⟩ (
      .q ⟨some 49,.mov (.tmp 9),none⟩ (
      .q ⟨some 50,.bin .sub (.tmp 49) (.const (.int .i64 1)),none⟩ (
      .q ⟨some 51,.mov (.tmp 0),none⟩ (
      .q ⟨some 52,.mov (.tmp 9),none⟩ (
      .q ⟨some 53,.bin .sub (.tmp 52) (.const (.int .i64 1)),none⟩ (
      .q ⟨some 54,.iadr (.tmp 51) (.tmp 53) k,none⟩ (
      .q ⟨some 55,ld (.tmp 54),none⟩ (
      .q ⟨some 56,.mov (.tmp 0),none⟩ (
      .q ⟨some 57,.mov (.tmp 9),none⟩ (
      .q ⟨some 58,.iadr (.tmp 56) (.tmp 57) k,none⟩ (
      .q ⟨some 59,ld (.tmp 58),none⟩ (
      .q ⟨some 60,.iadr (.tmp 46) (.tmp 47) k,none⟩ (
      .alt ⟨none,.store k (.tmp 60) (.tmp 55),none⟩ false (
       .q ⟨some 61,.iadr (.tmp 48) (.tmp 50) k,none⟩ (
       .alt ⟨none,.store k (.tmp 61) (.tmp 59),none⟩ false (
        .done) (.noalt))) (.noalt)))))))))))))))))) (
     .seq (.seq (.region [⟨some 62,.mov (.tmp 9),none⟩,
      ⟨some 63,.mov (.tmp 1),none⟩,
      ⟨some 64,.bin .sub (.tmp 62) (.tmp 63),none⟩,
      ⟨some 65,.bin .geq (.tmp 64) (.const (.int .i64 2)),none⟩]) (
      .cond (.tmp 65) (
       .seq (.region [⟨some 66,.mov (.tmp 9),none⟩,
        ⟨some 67,.bin .sub (.tmp 66) (.const (.int .i64 1)),none⟩,
        ⟨some 11,.mov (.tmp 67),none⟩]) (
       .block 4 (
        .loop (
         .seq (.seq (.region [⟨some 68,.mov (.tmp 11),none⟩,
          ⟨some 69,.bin .geq (.tmp 68) (.const (.int .i64 1)),none⟩]) (
          .cond (.tmp 69) (
           .skip) (
           .exit 4))) (
         .seq (.block 5 (
          .seq (.seq (.draw (
           .q ⟨some 72,.mov (.tmp 3),none⟩ (
           .q ⟨some 73,.mov (.tmp 0),none⟩ (
           .q ⟨some 74,.mov (.tmp 11),none⟩ (
           .q ⟨some 75,.iadr (.tmp 73) (.tmp 74) k,none⟩ (
           .q ⟨some 76,ld (.tmp 75),none⟩ (
           .q ⟨some 77,.mov (.tmp 0),none⟩ (
           .q ⟨some 78,.mov (.tmp 11),none⟩ (
           .q ⟨some 79,.bin .sub (.tmp 78) (.const (.int .i64 1)),none⟩ (
           .q ⟨some 80,.iadr (.tmp 77) (.tmp 79) k,none⟩ (
           .q ⟨some 81,ld (.tmp 80),none⟩ (
           .alt ⟨some 82,.call (.tmp 72) [(.tmp 76),(.tmp 81)],none⟩ false (
            .q ⟨some 83,.bin .lss (.tmp 82) (.const (.int .i64 0)),none⟩ (
            .q ⟨some 84,.un .not (.tmp 83),none⟩ (
            .done))) (.noalt))))))))))))) (
           .cond (.tmp 84) (
            .exit 4) (
            .skip))) (
          .draw (
           .q ⟨some 85,.mov (.tmp 0),none⟩ (
           .q ⟨some 86,.mov (.tmp 11),none⟩ (
           .q ⟨some 87,.mov (.tmp 0),none⟩ (
           .q ⟨some 88,.mov (.tmp 11),none⟩ (
           .q ⟨some 89,.bin .sub (.tmp 88) (.const (.int .i64 1)),none⟩ (
           .q ⟨some 90,.mov (.tmp 0),none⟩ (
           .q ⟨some 91,.mov (.tmp 11),none⟩ (
           .q ⟨some 92,.bin .sub (.tmp 91) (.const (.int .i64 1)),none⟩ (
           .q ⟨some 93,.iadr (.tmp 90) (.tmp 92) k,none⟩ (
           .q ⟨some 94,ld (.tmp 93),none⟩ (
           .q ⟨some 95,.mov (.tmp 0),none⟩ (
           .q ⟨some 96,.mov (.tmp 11),none⟩ (
           .q ⟨some 97,.iadr (.tmp 95) (.tmp 96) k,none⟩ (
           .q ⟨some 98,ld (.tmp 97),none⟩ (
           .q ⟨some 99,.iadr (.tmp 85) (.tmp 86) k,none⟩ (
           .alt ⟨none,.store k (.tmp 99) (.tmp 94),none⟩ false (
            .q ⟨some 100,.iadr (.tmp 87) (.tmp 89) k,none⟩ (
            .alt ⟨none,.store k (.tmp 100) (.tmp 98),none⟩ false (
             .done) (.noalt))) (.noalt)))))))))))))))))))) (
         .region [⟨some 70,.mov (.tmp 11),none⟩,
          ⟨some 71,.bin .sub (.tmp 70) (.const (.int .i64 1)),none⟩,
          ⟨some 11,.mov (.tmp 71),none⟩])))))) (
       .skip))) (
     .seq (.region [⟨some 101,.mov (.tmp 2),none⟩,
      ⟨some 102,.mov (.tmp 9),none⟩,
      ⟨some 103,.bin .sub (.tmp 101) (.tmp 102),none⟩,
      ⟨some 104,.bin .geq (.tmp 103) (.const (.int .i64 2)),none⟩]) (
     .cond (.tmp 104) (
      .seq (.region [⟨some 105,.mov (.tmp 9),none⟩,
       ⟨some 106,.bin .add (.tmp 105) (.const (.int .i64 1)),none⟩,
       ⟨some 12,.mov (.tmp 106),none⟩]) (
      .block 6 (
       .loop (
        .seq (.seq (.region [⟨some 107,.mov (.tmp 12),none⟩,
         ⟨some 108,.mov (.tmp 2),none⟩,
         ⟨some 109,.bin .lss (.tmp 107) (.tmp 108),none⟩]) (
         .cond (.tmp 109) (
          .skip) (
          .exit 6))) (
        .seq (.block 7 (
         .seq (.seq (.draw (
          .q ⟨some 112,.mov (.tmp 3),none⟩ (
          .q ⟨some 113,.mov (.tmp 0),none⟩ (
          .q ⟨some 114,.mov (.tmp 12),none⟩ (
          .q ⟨some 115,.iadr (.tmp 113) (.tmp 114) k,none⟩ (
          .q ⟨some 116,ld (.tmp 115),none⟩ (
          .q ⟨some 117,.mov (.tmp 0),none⟩ (
          .q ⟨some 118,.mov (.tmp 12),none⟩ (
          .q ⟨some 119,.bin .sub (.tmp 118) (.const (.int .i64 1)),none⟩ (
          .q ⟨some 120,.iadr (.tmp 117) (.tmp 119) k,none⟩ (
          .q ⟨some 121,ld (.tmp 120),none⟩ (
          .alt ⟨some 122,.call (.tmp 112) [(.tmp 116),(.tmp 121)],none⟩ false (
           .q ⟨some 123,.bin .lss (.tmp 122) (.const (.int .i64 0)),none⟩ (
           .q ⟨some 124,.un .not (.tmp 123),none⟩ (
           .done))) (.noalt))))))))))))) (
          .cond (.tmp 124) (
           .exit 6) (
           .skip))) (
         .draw (
          .q ⟨some 125,.mov (.tmp 0),none⟩ (
          .q ⟨some 126,.mov (.tmp 12),none⟩ (
          .q ⟨some 127,.mov (.tmp 0),none⟩ (
          .q ⟨some 128,.mov (.tmp 12),none⟩ (
          .q ⟨some 129,.bin .sub (.tmp 128) (.const (.int .i64 1)),none⟩ (
          .q ⟨some 130,.mov (.tmp 0),none⟩ (
          .q ⟨some 131,.mov (.tmp 12),none⟩ (
          .q ⟨some 132,.bin .sub (.tmp 131) (.const (.int .i64 1)),none⟩ (
          .q ⟨some 133,.iadr (.tmp 130) (.tmp 132) k,none⟩ (
          .q ⟨some 134,ld (.tmp 133),none⟩ (
          .q ⟨some 135,.mov (.tmp 0),none⟩ (
          .q ⟨some 136,.mov (.tmp 12),none⟩ (
          .q ⟨some 137,.iadr (.tmp 135) (.tmp 136) k,none⟩ (
          .q ⟨some 138,ld (.tmp 137),none⟩ (
          .q ⟨some 139,.iadr (.tmp 125) (.tmp 126) k,none⟩ (
          .alt ⟨none,.store k (.tmp 139) (.tmp 134),none⟩ false (
           .q ⟨some 140,.iadr (.tmp 127) (.tmp 129) k,none⟩ (
           .alt ⟨none,.store k (.tmp 140) (.tmp 138),none⟩ false (
            .done) (.noalt))) (.noalt)))))))))))))))))))) (
        .region [⟨some 110,.mov (.tmp 12),none⟩,
         ⟨some 111,.bin .add (.tmp 110) (.const (.int .i64 1)),none⟩,
         ⟨some 12,.mov (.tmp 111),none⟩])))))) (
      .skip))))))))) (
    .region [⟨some 17,.mov (.tmp 10),none⟩,
     ⟨some 18,.bin .add (.tmp 17) (.const (.int .i64 1)),none⟩,
     ⟨some 10,.mov (.tmp 18),none⟩])))))) (
 .seq (.region [⟨some 8,.mov (.const (.bool false)),none⟩]) (
 .ret))))
/-- slices.partitionEqualCmpFunc -/
def dI(ld:Operand→Wv)(k:Nat):zA:=
 .seq (.region [⟨some 10,.mov (.const (.int .i64 0)),none⟩]) (
 .seq (.draw (
  .q ⟨some 13,.mov (.tmp 0),none⟩ (
  .q ⟨some 14,.mov (.tmp 1),none⟩ (
  .q ⟨some 15,.mov (.tmp 0),none⟩ (
  .q ⟨some 16,.mov (.tmp 3),none⟩ (
  .q ⟨some 17,.mov (.tmp 0),none⟩ (
  .q ⟨some 18,.mov (.tmp 3),none⟩ (
  .q ⟨some 19,.iadr (.tmp 17) (.tmp 18) k,none⟩ (
  .q ⟨some 20,ld (.tmp 19),none⟩ (
  .q ⟨some 21,.mov (.tmp 0),none⟩ (
  .q ⟨some 22,.mov (.tmp 1),none⟩ (
  .q ⟨some 23,.iadr (.tmp 21) (.tmp 22) k,none⟩ (
  .q ⟨some 24,ld (.tmp 23),none⟩ (
  .q ⟨some 25,.iadr (.tmp 13) (.tmp 14) k,none⟩ (
  .alt ⟨none,.store k (.tmp 25) (.tmp 20),none⟩ false (
   .q ⟨some 26,.iadr (.tmp 15) (.tmp 16) k,none⟩ (
   .alt ⟨none,.store k (.tmp 26) (.tmp 24),none⟩ false (
    .done) (.noalt))) (.noalt)))))))))))))))) (
 .seq (.region [⟨some 27,.mov (.tmp 1),none⟩,
  ⟨some 28,.bin .add (.tmp 27) (.const (.int .i64 1)),none⟩,
  ⟨some 29,.mov (.tmp 2),none⟩,
  ⟨some 30,.bin .sub (.tmp 29) (.const (.int .i64 1)),none⟩,
  ⟨some 11,.mov (.tmp 28),none⟩,
  ⟨some 12,.mov (.tmp 30),none⟩]) (
 .seq (.block 0 (
  .loop (
   .block 1 (
    .seq (.block 2 (
     .loop (
      .seq (.seq (.draw (
       .q ⟨some 31,.mov (.tmp 11),none⟩ (
       .q ⟨some 32,.mov (.tmp 12),none⟩ (
       .q ⟨some 33,.bin .leq (.tmp 31) (.tmp 32),none⟩ (
       .q ⟨some 34,.mov (.tmp 33),none⟩ (
       .q ⟨some 35,.mov (.tmp 4),some (34,true)⟩ (
       .q ⟨some 36,.mov (.tmp 0),some (34,true)⟩ (
       .q ⟨some 37,.mov (.tmp 1),some (34,true)⟩ (
       .q ⟨some 38,.iadr (.tmp 36) (.tmp 37) k,some (34,true)⟩ (
       .q ⟨some 39,ld (.tmp 38),some (34,true)⟩ (
       .q ⟨some 40,.mov (.tmp 0),some (34,true)⟩ (
       .q ⟨some 41,.mov (.tmp 11),some (34,true)⟩ (
       .q ⟨some 42,.iadr (.tmp 40) (.tmp 41) k,some (34,true)⟩ (
       .q ⟨some 43,ld (.tmp 42),some (34,true)⟩ (
       .alt ⟨some 44,.call (.tmp 35) [(.tmp 39),(.tmp 43)],some (34,true)⟩ false (
        .q ⟨some 45,.bin .lss (.tmp 44) (.const (.int .i64 0)),some (34,true)⟩ (
        .q ⟨some 46,.un .not (.tmp 45),some (34,true)⟩ (
        .q ⟨some 47,.pick (.tmp 34) (.tmp 46) (.const (.bool false)),none⟩ (
        .done)))) (.noalt)))))))))))))))) (
       .cond (.tmp 47) (
        .skip) (
        .exit 2))) (
      .block 3 (
       .region [⟨some 48,.mov (.tmp 11),none⟩,
        ⟨some 49,.bin .add (.tmp 48) (.const (.int .i64 1)),none⟩,
        ⟨some 11,.mov (.tmp 49),none⟩]))))) (
    .seq (.block 4 (
     .loop (
      .seq (.seq (.draw (
       .q ⟨some 50,.mov (.tmp 11),none⟩ (
       .q ⟨some 51,.mov (.tmp 12),none⟩ (
       .q ⟨some 52,.bin .leq (.tmp 50) (.tmp 51),none⟩ (
       .q ⟨some 53,.mov (.tmp 52),none⟩ (
       .q ⟨some 54,.mov (.tmp 4),some (53,true)⟩ (
       .q ⟨some 55,.mov (.tmp 0),some (53,true)⟩ (
       .q ⟨some 56,.mov (.tmp 1),some (53,true)⟩ (
       .q ⟨some 57,.iadr (.tmp 55) (.tmp 56) k,some (53,true)⟩ (
       .q ⟨some 58,ld (.tmp 57),some (53,true)⟩ (
       .q ⟨some 59,.mov (.tmp 0),some (53,true)⟩ (
       .q ⟨some 60,.mov (.tmp 12),some (53,true)⟩ (
       .q ⟨some 61,.iadr (.tmp 59) (.tmp 60) k,some (53,true)⟩ (
       .q ⟨some 62,ld (.tmp 61),some (53,true)⟩ (
       .alt ⟨some 63,.call (.tmp 54) [(.tmp 58),(.tmp 62)],some (53,true)⟩ false (
        .q ⟨some 64,.bin .lss (.tmp 63) (.const (.int .i64 0)),some (53,true)⟩ (
        .q ⟨some 65,.pick (.tmp 53) (.tmp 64) (.const (.bool false)),none⟩ (
        .done))) (.noalt)))))))))))))))) (
       .cond (.tmp 65) (
        .skip) (
        .exit 4))) (
      .block 5 (
       .region [⟨some 66,.mov (.tmp 12),none⟩,
        ⟨some 67,.bin .sub (.tmp 66) (.const (.int .i64 1)),none⟩,
        ⟨some 12,.mov (.tmp 67),none⟩]))))) (
    .seq (.seq (.region [⟨some 68,.mov (.tmp 11),none⟩,
     ⟨some 69,.mov (.tmp 12),none⟩,
     ⟨some 70,.bin .gtr (.tmp 68) (.tmp 69),none⟩]) (
     .cond (.tmp 70) (
      .exit 0) (
      .skip))) (
    .seq (.draw (
     .q ⟨some 71,.mov (.tmp 0),none⟩ (
     .q ⟨some 72,.mov (.tmp 11),none⟩ (
     .q ⟨some 73,.mov (.tmp 0),none⟩ (
     .q ⟨some 74,.mov (.tmp 12),none⟩ (
     .q ⟨some 75,.mov (.tmp 0),none⟩ (
     .q ⟨some 76,.mov (.tmp 12),none⟩ (
     .q ⟨some 77,.iadr (.tmp 75) (.tmp 76) k,none⟩ (
     .q ⟨some 78,ld (.tmp 77),none⟩ (
     .q ⟨some 79,.mov (.tmp 0),none⟩ (
     .q ⟨some 80,.mov (.tmp 11),none⟩ (
     .q ⟨some 81,.iadr (.tmp 79) (.tmp 80) k,none⟩ (
     .q ⟨some 82,ld (.tmp 81),none⟩ (
     .q ⟨some 83,.iadr (.tmp 71) (.tmp 72) k,none⟩ (
     .alt ⟨none,.store k (.tmp 83) (.tmp 78),none⟩ false (
      .q ⟨some 84,.iadr (.tmp 73) (.tmp 74) k,none⟩ (
      .alt ⟨none,.store k (.tmp 84) (.tmp 82),none⟩ false (
       .done) (.noalt))) (.noalt)))))))))))))))) (
    .seq (.region [⟨some 85,.mov (.tmp 11),none⟩,
     ⟨some 86,.bin .add (.tmp 85) (.const (.int .i64 1)),none⟩,
     ⟨some 11,.mov (.tmp 86),none⟩]) (
    .region [⟨some 87,.mov (.tmp 12),none⟩,
     ⟨some 88,.bin .sub (.tmp 87) (.const (.int .i64 1)),none⟩,
     ⟨some 12,.mov (.tmp 88),none⟩]))))))))) (
 .seq (.region [⟨some 89,.mov (.tmp 11),none⟩,
  ⟨some 10,.mov (.tmp 89),none⟩]) (
 .ret)))))
/-- slices.partitionCmpFunc -/
def dH(ld:Operand→Wv)(k:Nat):zA:=
 .seq (.region [⟨some 10,.mov (.const (.int .i64 0)),none⟩,
  ⟨some 11,.mov (.const (.bool false)),none⟩]) (
 .seq (.draw (
  .q ⟨some 14,.mov (.tmp 0),none⟩ (
  .q ⟨some 15,.mov (.tmp 1),none⟩ (
  .q ⟨some 16,.mov (.tmp 0),none⟩ (
  .q ⟨some 17,.mov (.tmp 3),none⟩ (
  .q ⟨some 18,.mov (.tmp 0),none⟩ (
  .q ⟨some 19,.mov (.tmp 3),none⟩ (
  .q ⟨some 20,.iadr (.tmp 18) (.tmp 19) k,none⟩ (
  .q ⟨some 21,ld (.tmp 20),none⟩ (
  .q ⟨some 22,.mov (.tmp 0),none⟩ (
  .q ⟨some 23,.mov (.tmp 1),none⟩ (
  .q ⟨some 24,.iadr (.tmp 22) (.tmp 23) k,none⟩ (
  .q ⟨some 25,ld (.tmp 24),none⟩ (
  .q ⟨some 26,.iadr (.tmp 14) (.tmp 15) k,none⟩ (
  .alt ⟨none,.store k (.tmp 26) (.tmp 21),none⟩ false (
   .q ⟨some 27,.iadr (.tmp 16) (.tmp 17) k,none⟩ (
   .alt ⟨none,.store k (.tmp 27) (.tmp 25),none⟩ false (
    .done) (.noalt))) (.noalt)))))))))))))))) (
 .seq (.region [⟨some 28,.mov (.tmp 1),none⟩,
  ⟨some 29,.bin .add (.tmp 28) (.const (.int .i64 1)),none⟩,
  ⟨some 30,.mov (.tmp 2),none⟩,
  ⟨some 31,.bin .sub (.tmp 30) (.const (.int .i64 1)),none⟩,
  ⟨some 12,.mov (.tmp 29),none⟩,
  ⟨some 13,.mov (.tmp 31),none⟩]) (
 .seq (.block 0 (
  .loop (
   .seq (.seq (.draw (
    .q ⟨some 32,.mov (.tmp 12),none⟩ (
    .q ⟨some 33,.mov (.tmp 13),none⟩ (
    .q ⟨some 34,.bin .leq (.tmp 32) (.tmp 33),none⟩ (
    .q ⟨some 35,.mov (.tmp 34),none⟩ (
    .q ⟨some 36,.mov (.tmp 4),some (35,true)⟩ (
    .q ⟨some 37,.mov (.tmp 0),some (35,true)⟩ (
    .q ⟨some 38,.mov (.tmp 12),some (35,true)⟩ (
    .q ⟨some 39,.iadr (.tmp 37) (.tmp 38) k,some (35,true)⟩ (
    .q ⟨some 40,ld (.tmp 39),some (35,true)⟩ (
    .q ⟨some 41,.mov (.tmp 0),some (35,true)⟩ (
    .q ⟨some 42,.mov (.tmp 1),some (35,true)⟩ (
    .q ⟨some 43,.iadr (.tmp 41) (.tmp 42) k,some (35,true)⟩ (
    .q ⟨some 44,ld (.tmp 43),some (35,true)⟩ (
    .alt ⟨some 45,.call (.tmp 36) [(.tmp 40),(.tmp 44)],some (35,true)⟩ false (
     .q ⟨some 46,.bin .lss (.tmp 45) (.const (.int .i64 0)),some (35,true)⟩ (
     .q ⟨some 47,.pick (.tmp 35) (.tmp 46) (.const (.bool false)),none⟩ (
     .done))) (.noalt)))))))))))))))) (
    .cond (.tmp 47) (
     .skip) (
     .exit 0))) (
   .block 1 (
    .region [⟨some 48,.mov (.tmp 12),none⟩,
     ⟨some 49,.bin .add (.tmp 48) (.const (.int .i64 1)),none⟩,
     ⟨some 12,.mov (.tmp 49),none⟩]))))) (
 .seq (.block 2 (
  .loop (
   .seq (.seq (.draw (
    .q ⟨some 50,.mov (.tmp 12),none⟩ (
    .q ⟨some 51,.mov (.tmp 13),none⟩ (
    .q ⟨some 52,.bin .leq (.tmp 50) (.tmp 51),none⟩ (
    .q ⟨some 53,.mov (.tmp 52),none⟩ (
    .q ⟨some 54,.mov (.tmp 4),some (53,true)⟩ (
    .q ⟨some 55,.mov (.tmp 0),some (53,true)⟩ (
    .q ⟨some 56,.mov (.tmp 13),some (53,true)⟩ (
    .q ⟨some 57,.iadr (.tmp 55) (.tmp 56) k,some (53,true)⟩ (
    .q ⟨some 58,ld (.tmp 57),some (53,true)⟩ (
    .q ⟨some 59,.mov (.tmp 0),some (53,true)⟩ (
    .q ⟨some 60,.mov (.tmp 1),some (53,true)⟩ (
    .q ⟨some 61,.iadr (.tmp 59) (.tmp 60) k,some (53,true)⟩ (
    .q ⟨some 62,ld (.tmp 61),some (53,true)⟩ (
    .alt ⟨some 63,.call (.tmp 54) [(.tmp 58),(.tmp 62)],some (53,true)⟩ false (
     .q ⟨some 64,.bin .lss (.tmp 63) (.const (.int .i64 0)),some (53,true)⟩ (
     .q ⟨some 65,.un .not (.tmp 64),some (53,true)⟩ (
     .q ⟨some 66,.pick (.tmp 53) (.tmp 65) (.const (.bool false)),none⟩ (
     .done)))) (.noalt)))))))))))))))) (
    .cond (.tmp 66) (
     .skip) (
     .exit 2))) (
   .block 3 (
    .region [⟨some 67,.mov (.tmp 13),none⟩,
     ⟨some 68,.bin .sub (.tmp 67) (.const (.int .i64 1)),none⟩,
     ⟨some 13,.mov (.tmp 68),none⟩]))))) (
 .seq (.seq (.region [⟨some 69,.mov (.tmp 12),none⟩,
  ⟨some 70,.mov (.tmp 13),none⟩,
  ⟨some 71,.bin .gtr (.tmp 69) (.tmp 70),none⟩]) (
  .cond (.tmp 71) (
   .seq (.draw (
    .q ⟨some 72,.mov (.tmp 0),none⟩ (
    .q ⟨some 73,.mov (.tmp 13),none⟩ (
    .q ⟨some 74,.mov (.tmp 0),none⟩ (
    .q ⟨some 75,.mov (.tmp 1),none⟩ (
    .q ⟨some 76,.mov (.tmp 0),none⟩ (
    .q ⟨some 77,.mov (.tmp 1),none⟩ (
    .q ⟨some 78,.iadr (.tmp 76) (.tmp 77) k,none⟩ (
    .q ⟨some 79,ld (.tmp 78),none⟩ (
    .q ⟨some 80,.mov (.tmp 0),none⟩ (
    .q ⟨some 81,.mov (.tmp 13),none⟩ (
    .q ⟨some 82,.iadr (.tmp 80) (.tmp 81) k,none⟩ (
    .q ⟨some 83,ld (.tmp 82),none⟩ (
    .q ⟨some 84,.iadr (.tmp 72) (.tmp 73) k,none⟩ (
    .alt ⟨none,.store k (.tmp 84) (.tmp 79),none⟩ false (
     .q ⟨some 85,.iadr (.tmp 74) (.tmp 75) k,none⟩ (
     .alt ⟨none,.store k (.tmp 85) (.tmp 83),none⟩ false (
      .done) (.noalt))) (.noalt)))))))))))))))) (
   .seq (.region [⟨some 86,.mov (.tmp 13),none⟩,
    ⟨some 10,.mov (.tmp 86),none⟩,
    ⟨some 11,.mov (.const (.bool true)),none⟩]) (
   .ret))) (
   .skip))) (
 .seq (.draw (
  .q ⟨some 87,.mov (.tmp 0),none⟩ (
  .q ⟨some 88,.mov (.tmp 12),none⟩ (
  .q ⟨some 89,.mov (.tmp 0),none⟩ (
  .q ⟨some 90,.mov (.tmp 13),none⟩ (
  .q ⟨some 91,.mov (.tmp 0),none⟩ (
  .q ⟨some 92,.mov (.tmp 13),none⟩ (
  .q ⟨some 93,.iadr (.tmp 91) (.tmp 92) k,none⟩ (
  .q ⟨some 94,ld (.tmp 93),none⟩ (
  .q ⟨some 95,.mov (.tmp 0),none⟩ (
  .q ⟨some 96,.mov (.tmp 12),none⟩ (
  .q ⟨some 97,.iadr (.tmp 95) (.tmp 96) k,none⟩ (
  .q ⟨some 98,ld (.tmp 97),none⟩ (
  .q ⟨some 99,.iadr (.tmp 87) (.tmp 88) k,none⟩ (
  .alt ⟨none,.store k (.tmp 99) (.tmp 94),none⟩ false (
   .q ⟨some 100,.iadr (.tmp 89) (.tmp 90) k,none⟩ (
   .alt ⟨none,.store k (.tmp 100) (.tmp 98),none⟩ false (
    .done) (.noalt))) (.noalt)))))))))))))))) (
 .seq (.region [⟨some 101,.mov (.tmp 12),none⟩,
  ⟨some 102,.bin .add (.tmp 101) (.const (.int .i64 1)),none⟩,
  ⟨some 12,.mov (.tmp 102),none⟩]) (
 .seq (.region [⟨some 103,.mov (.tmp 13),none⟩,
  ⟨some 104,.bin .sub (.tmp 103) (.const (.int .i64 1)),none⟩,
  ⟨some 13,.mov (.tmp 104),none⟩]) (
 .seq (.block 4 (
  .loop (
   .block 5 (
    .seq (.block 6 (
     .loop (
      .seq (.seq (.draw (
       .q ⟨some 105,.mov (.tmp 12),none⟩ (
       .q ⟨some 106,.mov (.tmp 13),none⟩ (
       .q ⟨some 107,.bin .leq (.tmp 105) (.tmp 106),none⟩ (
       .q ⟨some 108,.mov (.tmp 107),none⟩ (
       .q ⟨some 109,.mov (.tmp 4),some (108,true)⟩ (
       .q ⟨some 110,.mov (.tmp 0),some (108,true)⟩ (
       .q ⟨some 111,.mov (.tmp 12),some (108,true)⟩ (
       .q ⟨some 112,.iadr (.tmp 110) (.tmp 111) k,some (108,true)⟩ (
       .q ⟨some 113,ld (.tmp 112),some (108,true)⟩ (
       .q ⟨some 114,.mov (.tmp 0),some (108,true)⟩ (
       .q ⟨some 115,.mov (.tmp 1),some (108,true)⟩ (
       .q ⟨some 116,.iadr (.tmp 114) (.tmp 115) k,some (108,true)⟩ (
       .q ⟨some 117,ld (.tmp 116),some (108,true)⟩ (
       .alt ⟨some 118,.call (.tmp 109) [(.tmp 113),(.tmp 117)],some (108,true)⟩ false (
        .q ⟨some 119,.bin .lss (.tmp 118) (.const (.int .i64 0)),some (108,true)⟩ (
        .q ⟨some 120,.pick (.tmp 108) (.tmp 119) (.const (.bool false)),none⟩ (
        .done))) (.noalt)))))))))))))))) (
       .cond (.tmp 120) (
        .skip) (
        .exit 6))) (
      .block 7 (
       .region [⟨some 121,.mov (.tmp 12),none⟩,
        ⟨some 122,.bin .add (.tmp 121) (.const (.int .i64 1)),none⟩,
        ⟨some 12,.mov (.tmp 122),none⟩]))))) (
    .seq (.block 8 (
     .loop (
      .seq (.seq (.draw (
       .q ⟨some 123,.mov (.tmp 12),none⟩ (
       .q ⟨some 124,.mov (.tmp 13),none⟩ (
       .q ⟨some 125,.bin .leq (.tmp 123) (.tmp 124),none⟩ (
       .q ⟨some 126,.mov (.tmp 125),none⟩ (
       .q ⟨some 127,.mov (.tmp 4),some (126,true)⟩ (
       .q ⟨some 128,.mov (.tmp 0),some (126,true)⟩ (
       .q ⟨some 129,.mov (.tmp 13),some (126,true)⟩ (
       .q ⟨some 130,.iadr (.tmp 128) (.tmp 129) k,some (126,true)⟩ (
       .q ⟨some 131,ld (.tmp 130),some (126,true)⟩ (
       .q ⟨some 132,.mov (.tmp 0),some (126,true)⟩ (
       .q ⟨some 133,.mov (.tmp 1),some (126,true)⟩ (
       .q ⟨some 134,.iadr (.tmp 132) (.tmp 133) k,some (126,true)⟩ (
       .q ⟨some 135,ld (.tmp 134),some (126,true)⟩ (
       .alt ⟨some 136,.call (.tmp 127) [(.tmp 131),(.tmp 135)],some (126,true)⟩ false (
        .q ⟨some 137,.bin .lss (.tmp 136) (.const (.int .i64 0)),some (126,true)⟩ (
        .q ⟨some 138,.un .not (.tmp 137),some (126,true)⟩ (
        .q ⟨some 139,.pick (.tmp 126) (.tmp 138) (.const (.bool false)),none⟩ (
        .done)))) (.noalt)))))))))))))))) (
       .cond (.tmp 139) (
        .skip) (
        .exit 8))) (
      .block 9 (
       .region [⟨some 140,.mov (.tmp 13),none⟩,
        ⟨some 141,.bin .sub (.tmp 140) (.const (.int .i64 1)),none⟩,
        ⟨some 13,.mov (.tmp 141),none⟩]))))) (
    .seq (.seq (.region [⟨some 142,.mov (.tmp 12),none⟩,
     ⟨some 143,.mov (.tmp 13),none⟩,
     ⟨some 144,.bin .gtr (.tmp 142) (.tmp 143),none⟩]) (
     .cond (.tmp 144) (
      .exit 4) (
      .skip))) (
    .seq (.draw (
     .q ⟨some 145,.mov (.tmp 0),none⟩ (
     .q ⟨some 146,.mov (.tmp 12),none⟩ (
     .q ⟨some 147,.mov (.tmp 0),none⟩ (
     .q ⟨some 148,.mov (.tmp 13),none⟩ (
     .q ⟨some 149,.mov (.tmp 0),none⟩ (
     .q ⟨some 150,.mov (.tmp 13),none⟩ (
     .q ⟨some 151,.iadr (.tmp 149) (.tmp 150) k,none⟩ (
     .q ⟨some 152,ld (.tmp 151),none⟩ (
     .q ⟨some 153,.mov (.tmp 0),none⟩ (
     .q ⟨some 154,.mov (.tmp 12),none⟩ (
     .q ⟨some 155,.iadr (.tmp 153) (.tmp 154) k,none⟩ (
     .q ⟨some 156,ld (.tmp 155),none⟩ (
     .q ⟨some 157,.iadr (.tmp 145) (.tmp 146) k,none⟩ (
     .alt ⟨none,.store k (.tmp 157) (.tmp 152),none⟩ false (
      .q ⟨some 158,.iadr (.tmp 147) (.tmp 148) k,none⟩ (
      .alt ⟨none,.store k (.tmp 158) (.tmp 156),none⟩ false (
       .done) (.noalt))) (.noalt)))))))))))))))) (
    .seq (.region [⟨some 159,.mov (.tmp 12),none⟩,
     ⟨some 160,.bin .add (.tmp 159) (.const (.int .i64 1)),none⟩,
     ⟨some 12,.mov (.tmp 160),none⟩]) (
    .region [⟨some 161,.mov (.tmp 13),none⟩,
     ⟨some 162,.bin .sub (.tmp 161) (.const (.int .i64 1)),none⟩,
     ⟨some 13,.mov (.tmp 162),none⟩]))))))))) (
 .seq (.draw (
  .q ⟨some 163,.mov (.tmp 0),none⟩ (
  .q ⟨some 164,.mov (.tmp 13),none⟩ (
  .q ⟨some 165,.mov (.tmp 0),none⟩ (
  .q ⟨some 166,.mov (.tmp 1),none⟩ (
  .q ⟨some 167,.mov (.tmp 0),none⟩ (
  .q ⟨some 168,.mov (.tmp 1),none⟩ (
  .q ⟨some 169,.iadr (.tmp 167) (.tmp 168) k,none⟩ (
  .q ⟨some 170,ld (.tmp 169),none⟩ (
  .q ⟨some 171,.mov (.tmp 0),none⟩ (
  .q ⟨some 172,.mov (.tmp 13),none⟩ (
  .q ⟨some 173,.iadr (.tmp 171) (.tmp 172) k,none⟩ (
  .q ⟨some 174,ld (.tmp 173),none⟩ (
  .q ⟨some 175,.iadr (.tmp 163) (.tmp 164) k,none⟩ (
  .alt ⟨none,.store k (.tmp 175) (.tmp 170),none⟩ false (
   .q ⟨some 176,.iadr (.tmp 165) (.tmp 166) k,none⟩ (
   .alt ⟨none,.store k (.tmp 176) (.tmp 174),none⟩ false (
    .done) (.noalt))) (.noalt)))))))))))))))) (
 .seq (.region [⟨some 177,.mov (.tmp 13),none⟩,
  ⟨some 10,.mov (.tmp 177),none⟩,
  ⟨some 11,.mov (.const (.bool false)),none⟩]) (
 .ret))))))))))))
/-- slices.pdqsortCmpFunc -/
def dJ(ld:Operand→Wv)(k:Nat)(fIns fHeap fBrk fChp fRev fPar fPeq fPrt fPdq:Nat):zA:=
 .seq (.region [⟨some 10,.mov (.const (.bool true)),none⟩]) (
 .seq (.region [⟨some 11,.mov (.const (.bool true)),none⟩]) (
 .block 0 (
  .loop (
   .block 1 (
    .seq (.region [⟨some 21,.mov (.tmp 2),none⟩,
     ⟨some 22,.mov (.tmp 1),none⟩,
     ⟨some 23,.bin .sub (.tmp 21) (.tmp 22),none⟩,
     ⟨some 12,.mov (.tmp 23),none⟩]) (
    .seq (.seq (.region [⟨some 24,.mov (.tmp 12),none⟩,
     ⟨some 25,.bin .leq (.tmp 24) (.const (.int .i64 12)),none⟩]) (
     .cond (.tmp 25) (
      .seq (.region [⟨some 26,.mov (.tmp 0),none⟩,
       ⟨some 27,.mov (.tmp 1),none⟩,
       ⟨some 28,.mov (.tmp 2),none⟩,
       ⟨some 29,.mov (.tmp 4),none⟩,
       ⟨some 30,.call (.func fIns) [(.tmp 26),(.tmp 27),(.tmp 28),(.tmp 29)],none⟩]) (
      .ret)) (
      .skip))) (
    .seq (.seq (.region [⟨some 31,.mov (.tmp 3),none⟩,
     ⟨some 32,.bin .eql (.tmp 31) (.const (.int .i64 0)),none⟩]) (
     .cond (.tmp 32) (
      .seq (.region [⟨some 33,.mov (.tmp 0),none⟩,
       ⟨some 34,.mov (.tmp 1),none⟩,
       ⟨some 35,.mov (.tmp 2),none⟩,
       ⟨some 36,.mov (.tmp 4),none⟩,
       ⟨some 37,.call (.func fHeap) [(.tmp 33),(.tmp 34),(.tmp 35),(.tmp 36)],none⟩]) (
      .ret)) (
      .skip))) (
    .seq (.seq (.region [⟨some 38,.mov (.tmp 10),none⟩,
     ⟨some 39,.un .not (.tmp 38),none⟩]) (
     .cond (.tmp 39) (
      .seq (.region [⟨some 40,.mov (.tmp 0),none⟩,
       ⟨some 41,.mov (.tmp 1),none⟩,
       ⟨some 42,.mov (.tmp 2),none⟩,
       ⟨some 43,.mov (.tmp 4),none⟩,
       ⟨some 44,.call (.func fBrk) [(.tmp 40),(.tmp 41),(.tmp 42),(.tmp 43)],none⟩]) (
      .region [⟨some 45,.mov (.tmp 3),none⟩,
       ⟨some 46,.bin .sub (.tmp 45) (.const (.int .i64 1)),none⟩,
       ⟨some 3,.mov (.tmp 46),none⟩])) (
      .skip))) (
    .seq (.region [⟨some 48,.mov (.tmp 0),none⟩,
     ⟨some 49,.mov (.tmp 1),none⟩,
     ⟨some 50,.mov (.tmp 2),none⟩,
     ⟨some 51,.mov (.tmp 4),none⟩,
     ⟨some 52,.call (.func fChp) [(.tmp 48),(.tmp 49),(.tmp 50),(.tmp 51)],none⟩,
     ⟨some 47,.mov (.tmp 52),none⟩,
     ⟨some 53,.ext (.tmp 47) 0,none⟩,
     ⟨some 54,.ext (.tmp 47) 1,none⟩,
     ⟨some 13,.mov (.tmp 53),none⟩,
     ⟨some 14,.mov (.tmp 54),none⟩]) (
    .seq (.seq (.region [⟨some 55,.mov (.tmp 14),none⟩,
     ⟨some 56,.bin .eql (.tmp 55) (.const (.int .i64 2)),none⟩]) (
     .cond (.tmp 56) (
      .seq (.region [⟨some 57,.mov (.tmp 0),none⟩,
       ⟨some 58,.mov (.tmp 1),none⟩,
       ⟨some 59,.mov (.tmp 2),none⟩,
       ⟨some 60,.mov (.tmp 4),none⟩,
       ⟨some 61,.call (.func fRev) [(.tmp 57),(.tmp 58),(.tmp 59),(.tmp 60)],none⟩]) (
      .seq (.region [⟨some 62,.mov (.tmp 2),none⟩,
       ⟨some 63,.bin .sub (.tmp 62) (.const (.int .i64 1)),none⟩,
       ⟨some 64,.mov (.tmp 13),none⟩,
       ⟨some 65,.mov (.tmp 1),none⟩,
       ⟨some 66,.bin .sub (.tmp 64) (.tmp 65),none⟩,
       ⟨some 67,.bin .sub (.tmp 63) (.tmp 66),none⟩,
       ⟨some 13,.mov (.tmp 67),none⟩]) (
      .region [⟨some 14,.mov (.const (.int .i64 1)),none⟩]))) (
      .skip))) (
    .seq (.seq (.region [⟨some 68,.mov (.tmp 10),none⟩,
     ⟨some 69,.mov (.tmp 68),none⟩,
     ⟨some 70,.mov (.tmp 11),some (69,true)⟩,
     ⟨some 71,.pick (.tmp 69) (.tmp 70) (.const (.bool false)),none⟩,
     ⟨some 72,.mov (.tmp 71),none⟩,
     ⟨some 73,.mov (.tmp 14),some (72,true)⟩,
     ⟨some 74,.bin .eql (.tmp 73) (.const (.int .i64 1)),some (72,true)⟩,
     ⟨some 75,.pick (.tmp 72) (.tmp 74) (.const (.bool false)),none⟩]) (
     .cond (.tmp 75) (
      .seq (.region [⟨some 76,.mov (.tmp 0),none⟩,
       ⟨some 77,.mov (.tmp 1),none⟩,
       ⟨some 78,.mov (.tmp 2),none⟩,
       ⟨some 79,.mov (.tmp 4),none⟩,
       ⟨some 80,.call (.func fPar) [(.tmp 76),(.tmp 77),(.tmp 78),(.tmp 79)],none⟩]) (
      .cond (.tmp 80) (
       .ret) (
       .skip))) (
      .skip))) (
    .seq (.seq (.draw (
     .q ⟨some 81,.mov (.tmp 1),none⟩ (
     .q ⟨some 82,.bin .gtr (.tmp 81) (.const (.int .i64 0)),none⟩ (
     .q ⟨some 83,.mov (.tmp 82),none⟩ (
     .q ⟨some 84,.mov (.tmp 4),some (83,true)⟩ (
     .q ⟨some 85,.mov (.tmp 0),some (83,true)⟩ (
     .q ⟨some 86,.mov (.tmp 1),some (83,true)⟩ (
     .q ⟨some 87,.bin .sub (.tmp 86) (.const (.int .i64 1)),some (83,true)⟩ (
     .q ⟨some 88,.iadr (.tmp 85) (.tmp 87) k,some (83,true)⟩ (
     .q ⟨some 89,ld (.tmp 88),some (83,true)⟩ (
     .q ⟨some 90,.mov (.tmp 0),some (83,true)⟩ (
     .q ⟨some 91,.mov (.tmp 13),some (83,true)⟩ (
     .q ⟨some 92,.iadr (.tmp 90) (.tmp 91) k,some (83,true)⟩ (
     .q ⟨some 93,ld (.tmp 92),some (83,true)⟩ (
     .alt ⟨some 94,.call (.tmp 84) [(.tmp 89),(.tmp 93)],some (83,true)⟩ false (
      .q ⟨some 95,.bin .lss (.tmp 94) (.const (.int .i64 0)),some (83,true)⟩ (
      .q ⟨some 96,.un .not (.tmp 95),some (83,true)⟩ (
      .q ⟨some 97,.pick (.tmp 83) (.tmp 96) (.const (.bool false)),none⟩ (
      .done)))) (.noalt)))))))))))))))) (
     .cond (.tmp 97) (
      .seq (.region [⟨some 98,.mov (.tmp 0),none⟩,
       ⟨some 99,.mov (.tmp 1),none⟩,
       ⟨some 100,.mov (.tmp 2),none⟩,
       ⟨some 101,.mov (.tmp 13),none⟩,
       ⟨some 102,.mov (.tmp 4),none⟩,
       ⟨some 103,.call (.func fPeq) [(.tmp 98),(.tmp 99),(.tmp 100),(.tmp 101),(.tmp 102)],none⟩,
       ⟨some 15,.mov (.tmp 103),none⟩]) (
      .seq (.region [⟨some 104,.mov (.tmp 15),none⟩,
       ⟨some 1,.mov (.tmp 104),none⟩]) (
      .exit 1))) (
      .skip))) (
    .seq (.region [⟨some 106,.mov (.tmp 0),none⟩,
     ⟨some 107,.mov (.tmp 1),none⟩,
     ⟨some 108,.mov (.tmp 2),none⟩,
     ⟨some 109,.mov (.tmp 13),none⟩,
     ⟨some 110,.mov (.tmp 4),none⟩,
     ⟨some 111,.call (.func fPrt) [(.tmp 106),(.tmp 107),(.tmp 108),(.tmp 109),(.tmp 110)],none⟩,
     ⟨some 105,.mov (.tmp 111),none⟩,
     ⟨some 112,.ext (.tmp 105) 0,none⟩,
     ⟨some 113,.ext (.tmp 105) 1,none⟩,
     ⟨some 16,.mov (.tmp 112),none⟩,
     ⟨some 17,.mov (.tmp 113),none⟩]) (
    .seq (.region [⟨some 114,.mov (.tmp 17),none⟩,
     ⟨some 11,.mov (.tmp 114),none⟩]) (
    .seq (.region [⟨some 115,.mov (.tmp 16),none⟩,
     ⟨some 116,.mov (.tmp 1),none⟩,
     ⟨some 117,.bin .sub (.tmp 115) (.tmp 116),none⟩,
     ⟨some 118,.mov (.tmp 2),none⟩,
     ⟨some 119,.mov (.tmp 16),none⟩,
     ⟨some 120,.bin .sub (.tmp 118) (.tmp 119),none⟩,
     ⟨some 18,.mov (.tmp 117),none⟩,
     ⟨some 19,.mov (.tmp 120),none⟩]) (
    .seq (.region [⟨some 121,.mov (.tmp 12),none⟩,
     ⟨some 122,.bin .quo (.tmp 121) (.const (.int .i64 8)),none⟩,
     ⟨some 20,.mov (.tmp 122),none⟩]) (
    .seq (.region [⟨some 123,.mov (.tmp 18),none⟩,
     ⟨some 124,.mov (.tmp 19),none⟩,
     ⟨some 125,.bin .lss (.tmp 123) (.tmp 124),none⟩]) (
    .cond (.tmp 125) (
     .seq (.region [⟨some 126,.mov (.tmp 18),none⟩,
      ⟨some 127,.mov (.tmp 20),none⟩,
      ⟨some 128,.bin .geq (.tmp 126) (.tmp 127),none⟩,
      ⟨some 10,.mov (.tmp 128),none⟩]) (
     .seq (.region [⟨some 129,.mov (.tmp 0),none⟩,
      ⟨some 130,.mov (.tmp 1),none⟩,
      ⟨some 131,.mov (.tmp 16),none⟩,
      ⟨some 132,.mov (.tmp 3),none⟩,
      ⟨some 133,.mov (.tmp 4),none⟩,
      ⟨some 134,.call (.func fPdq) [(.tmp 129),(.tmp 130),(.tmp 131),(.tmp 132),(.tmp 133)],none⟩]) (
     .region [⟨some 135,.mov (.tmp 16),none⟩,
      ⟨some 136,.bin .add (.tmp 135) (.const (.int .i64 1)),none⟩,
      ⟨some 1,.mov (.tmp 136),none⟩]))) (
     .seq (.region [⟨some 137,.mov (.tmp 19),none⟩,
      ⟨some 138,.mov (.tmp 20),none⟩,
      ⟨some 139,.bin .geq (.tmp 137) (.tmp 138),none⟩,
      ⟨some 10,.mov (.tmp 139),none⟩]) (
     .seq (.region [⟨some 140,.mov (.tmp 0),none⟩,
      ⟨some 141,.mov (.tmp 16),none⟩,
      ⟨some 142,.bin .add (.tmp 141) (.const (.int .i64 1)),none⟩,
      ⟨some 143,.mov (.tmp 2),none⟩,
      ⟨some 144,.mov (.tmp 3),none⟩,
      ⟨some 145,.mov (.tmp 4),none⟩,
      ⟨some 146,.call (.func fPdq) [(.tmp 140),(.tmp 142),(.tmp 143),(.tmp 144),(.tmp 145)],none⟩]) (
     .region [⟨some 147,.mov (.tmp 16),none⟩,
      ⟨some 2,.mov (.tmp 147),none⟩])))))))))))))))))))))
/-- slices.SortFunc -/
def Qa(fLen fPdq:Nat):zA:=
 .seq (.region [⟨some 5,.mov (.tmp 0),none⟩,
  ⟨some 6,.len (.tmp 5),none⟩,
  ⟨some 4,.mov (.tmp 6),none⟩]) (
 .region [⟨some 7,.mov (.tmp 0),none⟩,
  ⟨some 8,.mov (.tmp 4),none⟩,
  ⟨some 9,.mov (.tmp 4),none⟩,
  ⟨some 10,.conv .u64 (.tmp 9),none⟩,
  ⟨some 11,.call (.func fLen) [(.tmp 10)],none⟩,
  ⟨some 12,.mov (.tmp 1),none⟩,
  ⟨some 13,.call (.func fPdq) [(.tmp 7),(.const (.int .i64 0)),(.tmp 8),(.tmp 11),(.tmp 12)],none⟩])
end Go.Xs
namespace Go.Xs
open Enc (enc)
section
variable {P:Program} {r:Option Nat} {n:Nat} {K:Env→zB→Prop} {E:Env} {S R:zB} {d:Option Tmp} {α:Type} [Enc α] [Inhabited α]
/-- how an element is loaded, and what value it is -/
structure Ld(ld:Operand→Wv)(vl:α→Value):Prop where
 q:∀{R:zB} {E:Env} {a:Operand} {b off:Nat} {c:Array Value} {ty:TypeId} {fz:Nat × Nat} {x:α},ev E a= .pointer (some ⟨b,off,none⟩)→[(b,Obj.cells c ty fz)]∈R→(c.toList.drop off).take (Enc.k α)=enc x→QV R E (ld a) (vl x)
 cells:∀x,(vl x).cells.toList=enc x
theorem Z9{ld:Operand→Wv}{vl:α→Value}(hl:Ld ld vl){a:Operand}{b i kk:Nat}{M:List α}{ty:TypeId}{fz:Nat × Nat}{f:Obj→zB}{t:Zx}[hA:At R b (.cells (cells M).toArray ty fz) f](ha:ev E a= .pointer (some ⟨b,0+i*kk,none⟩))(hi:i<M.length)(hk:Enc.k α=kk)
 (h:YT P r n R K t (Zk d (vl (gt M i)) E) S):YT P r n R K (.q ⟨d,ld a,none⟩ t) E S:=by
 obtain⟨S1,S2,e,_⟩:=hA.ex;refine⟨_,hl.q (c:=(cells M).toArray) (ty:=ty) (fz:=fz) ha (by rw[e]; simp) ?_,h⟩;subst hk;rw[Nat.zero_add,Uk hi];exact Uz M i hi
omit [Inhabited α] in
theorem Zg{b i j kk ty:Nat}{a v:Operand}{M:List α}{x y:α}{fz:Nat × Nat}{f:Obj→zB}[hA:At S b (.cells (cells (M.set j x)).toArray ty fz) f](ha:ev E a= .pointer (some ⟨b,0+i*kk,none⟩))(hi:i<M.length)(hk:Enc.k α=kk)(hv:(ev E v).cells.toList=enc y)(hz:uQ fz (Go.Xs.cells M).length)
 (h:K (Zk d undef E) (f (.cells (cells ((M.set j x).set i y)).toArray ty fz))):YO P r n d (.store kk a v) K E S:=
 Z7 ha (by simpa using hi) hk hv (by rw[zJ] at hz ⊢; simpa using hz) h
/-- what a comparison tells -/
structure Cm(P:Program)(cf:Nat)(caps:Array Value)(Hc:List Chunk)(vl:α→Value)(p:α→Prop)(lt:α→α→Prop):Prop where
 wk:Wk lt
 call:∀x y,p x→p y→Tri P cf (vl x::vl y::caps.toList).toArray [Hc] (fun r S=>(∃z,r= .int .i64 z∧(z<0↔lt x y))∧S=[Hc])
/-- what is known of the array -/
structure xK(fz:Nat × Nat)(ln:Nat)(p:α→Prop)(M:List α):Prop where
 len:ln≤M.length
 big:ln<2 ^ 40
 hz:uQ fz (cells M).length
 all:∀i,0≤i→i<ln→p (gt M i)
theorem xK.sw{fz:Nat × Nat}{ln a b:Nat}{p:α→Prop}{M N:List α}(h:xK fz ln p M)(hs:Sw a b M N)(hb:b≤ln):xK fz ln p N:=
 ⟨by rw[hs.len]; exact h.len,h.big,by have:=h.hz; rw[zJ] at this ⊢; rw[hs.len]; exact this,
  (hs.mono (Nat.zero_le _) hb h.len).all h.all⟩
end
section
variable {P:Program} {α:Type} [Enc α] [Inhabited α] {ld:Operand→Wv} {k:Nat} {vl:α→Value} {cf:Nat} {caps:Array Value} {Hc:List Chunk} {p:α→Prop} {lt:α→α→Prop}
 {blk ty ln cp:Nat} {fz:Nat × Nat}
abbrev sg(blk ty:Nat)(fz:Nat × Nat)(M:List α):List Chunk:=[(blk,.cells (cells M).toArray ty fz)]
theorem Bz{f:Nat}(hf:Z6 P f 53 #[] (Qc ld k))(hl:Ld ld vl)(hk:Enc.k α=k)(hc:Cm P cf caps Hc vl p lt){M:List α}(hM:xK fz ln p M){a b:Nat}(hab:a≤b)(hb:b≤ln):
 Tri P f #[.slice (some ⟨blk,0,none⟩) ln cp,.int .i64 (a:Int),.int .i64 (b:Int),.func (.func cf) #[] caps] [sg blk ty fz M,Hc] (fun r S=>r= .tuple #[]∧∃M',Sw a b M M'∧So lt a b M'∧S=[sg blk ty fz M',Hc]):=by
 refine Tri.forget (zn hf (Nat.le_of_ble_eq_true rfl) ?_);have hlen:=hM.len;have hbig:=hM.big;unfold Qc;refine ze (z8 (yp (pI rfl) (yp (Za rfl rfl (by omega)) (yp (pI rfl) (zf (za (zo ?_)))))));refine Z4 (σ:=Nat) (fun i E S=>Has E [(0,.slice (some ⟨blk,0,none⟩) ln cp),(1,.int .i64 (a:Int)),(2,.int .i64 (b:Int)),(3,.func (.func cf) #[] caps),(8,.int .i64 (i:Int))]∧a+1≤i∧i≤b+1∧∃N,Sw a b M N∧So lt a i N∧zG S [sg blk ty fz N,Hc]) (fun i=>b+1-i) (a+1) ⟨⟨rfl,rfl,rfl,rfl,rfl,trivial⟩,by omega,by omega,M,.refl,fun i j h1 h2 h3=>by omega,.self⟩ fun i E S ⟨hE,hi,hi2,N,hsw,hso,hJ⟩=>?_
 obtain⟨E0,e0⟩:=zl hE; subst e0; clear hE;refine zm hJ (ze (ze (z8 (yp (pI rfl) (yp (pI rfl) (yp (ZL rfl rfl) (zf (za ?_))))))));refine zO rfl (fun h=>?_) (fun h=>?_)
 ·refine zq (za (ze (zo (ze (z8 (yp (pI rfl) (yp (pI rfl) (zf (za (zo ?_))))))))));refine Z4 (σ:=Nat) (fun j E S=>Has E [(0,.slice (some ⟨blk,0,none⟩) ln cp),(1,.int .i64 (a:Int)),(2,.int .i64 (b:Int)),(3,.func (.func cf) #[] caps),(8,.int .i64 (i:Int)),(9,.int .i64 (j:Int))]∧a≤j∧j≤i∧∃N,Sw a b M N∧Q6 lt a (i+1) j N∧zG S [sg blk ty fz N,Hc]) (fun j=>j) i ⟨⟨rfl,rfl,rfl,rfl,rfl,rfl,trivial⟩,by omega,by omega,N,hsw,Q6.start hso,.self⟩ fun j E S ⟨hE,hj,hj2,N,hsw,hso,hJ⟩=>?_
  have hNl:=hsw.len;have hN:=hM.sw hsw hb;have hz:=hN.hz;obtain⟨E0,e0⟩:=zl hE; subst e0; clear hE;refine zm hJ (ze (ze (zY (zi (pI rfl) (zi (pI rfl) (zi (VE rfl rfl) (zi (pB rfl) ?_)))))));by_cases h0:a<j
  ·rw[decide_eq_true (show(a:Int)<(j:Int) from by omega)];refine zQ rfl (zi (pF rfl) (zQ rfl (zi (pS rfl) (zQ rfl (zi (pI rfl) (zQ rfl (zi (zN rfl rfl (by omega)) (zQ rfl (Z9 hl rfl (by omega) hk (zQ rfl (zi (pS rfl) (zQ rfl (zi (pI rfl) (zQ rfl (zi (Zq rfl rfl (by omega)) (zQ rfl (zi (zN rfl rfl (by omega)) (zQ rfl (Z9 hl rfl (by omega) hk ?_)))))))))))))))))));refine ZU rfl ?_ zM;refine zH (zk (hc.call (gt N j) (gt N (j-1)) (hN.all _ (Nat.zero_le _) (by omega)) (hN.all _ (Nat.zero_le _) (by omega))) rfl rfl fun r S' h=>?_) zM;obtain⟨⟨z,rfl,hzz⟩,rfl⟩:=h;refine zQ rfl (zi (ZL rfl rfl) (zi (zP rfl rfl) (zD (za ?_))));refine zO rfl (fun h2=>?_) (fun h2=>?_)
   ·refine zq (za (ze (zo (zY (zi (pS rfl) (zi (pI rfl) (zi (pS rfl) (zi (pI rfl) (zi (Zq rfl rfl (by omega)) (zi (pS rfl) (zi (pI rfl) (zi (Zq rfl rfl (by omega)) (zi (zN rfl rfl (by omega)) (Z9 hl rfl (by omega) hk (zi (pS rfl) (zi (pI rfl) (zi (zN rfl rfl (by omega)) (Z9 hl rfl (by omega) hk (zi (zN rfl rfl (by omega)) ?_)))))))))))))))))));refine zH (Z7 rfl (by omega) hk (hl.cells _) hz ?_) zM;refine zi (zN rfl rfl (by omega)) ?_;refine zH (Zg rfl (by omega) hk (hl.cells _) hz ?_) zM;refine zD (zT (za (z8 (yp (pI rfl) (yp (Zq rfl rfl (by omega)) (yp (pI rfl) (zf (za ?_))))))));exact⟨j-1,⟨⟨rfl,rfl,rfl,rfl,rfl,rfl,trivial⟩,by omega,by omega,_,hsw.step (by omega) (by omega) (by omega) (by omega) (by omega),hso.step hc.wk h0 (by omega) (by omega) (hzz.1 h2),.of⟩,by omega⟩
   ·refine zV (zy (zy (zW (zT (za (z8 (yp (pI rfl) (yp (Za rfl rfl (by omega)) (yp (pI rfl) (zf (za ?_)))))))))));exact⟨i+1,⟨⟨rfl,rfl,rfl,rfl,rfl,trivial⟩,by omega,by omega,N,hsw,hso.stop hc.wk hj (.inr fun h=>h2 (hzz.2 h)),.of⟩,by omega⟩
  ·rw[decide_eq_false (show ¬(a:Int)<(j:Int) from by omega)];refine zR rfl (zR rfl (zR rfl (zR rfl (zR rfl (zR rfl (zR rfl (zR rfl (zR rfl (zR rfl ?_)))))))));refine ZY rfl ?_ zM;refine zR rfl (zi (zU rfl rfl) (zD (za (zw rfl (zV (zy (zy (zW (zT (za (z8 (yp (pI rfl) (yp (Za rfl rfl (by omega)) (yp (pI rfl) (zf (za ?_))))))))))))))));exact⟨i+1,⟨⟨rfl,rfl,rfl,rfl,rfl,trivial⟩,by omega,by omega,N,hsw,hso.stop hc.wk hj (.inl (by omega)),.of⟩,by omega⟩
 ·refine zV (zy (zy (zW ?_)));exact ZF ZG ⟨_,.of,rfl,N,hsw,fun x y h1 h2 h3=>hso x y h1 h2 (by omega),rfl⟩
theorem QA{f:Nat}(hf:Z6 P f 82 #[] (kT ld k))(hl:Ld ld vl)(hk:Enc.k α=k)(hc:Cm P cf caps Hc vl p lt){M:List α}(hM:xK fz ln p M){lo hi first:Nat}(hlo:lo≤hi)(hb:first+hi≤ln)(hH:Hp lt first (lo+1) hi M):
 Tri P f #[.slice (some ⟨blk,0,none⟩) ln cp,.int .i64 (lo:Int),.int .i64 (hi:Int),.int .i64 (first:Int),.func (.func cf) #[] caps] [sg blk ty fz M,Hc] (fun r S=>r= .tuple #[]∧∃M',Sw (first+lo) (first+hi) M M'∧Hp lt first lo hi M'∧S=[sg blk ty fz M',Hc]):=by
 refine Tri.forget (zn hf (Nat.le_of_ble_eq_true rfl) ?_);have hlen:=hM.len;have hbig:=hM.big;unfold kT;refine ze (z8 (yp (pI rfl) (yp (pI rfl) (zf (za (zo ?_))))));refine Z4 (σ:=Nat) (fun q E S=>Has E [(0,.slice (some ⟨blk,0,none⟩) ln cp),(2,.int .i64 (hi:Int)),(3,.int .i64 (first:Int)),(4,.func (.func cf) #[] caps),(10,.int .i64 (q:Int))]∧lo≤q∧q≤hi∧∃N,Sw (first+lo) (first+hi) M N∧mK lt first lo hi q N∧zG S [sg blk ty fz N,Hc]) (fun q=>hi-q) lo ⟨⟨rfl,rfl,rfl,rfl,rfl,trivial⟩,by omega,by omega,M,.refl,mK.start hH,.self⟩ fun q E S ⟨hE,hq,hq2,N,hsw,hhp,hJ⟩=>?_
 have hNl:=hsw.len;have hN:=hM.sw hsw hb;have hz:=hN.hz;obtain⟨E0,e0⟩:=zl hE; subst e0; clear hE;refine zm hJ (zo (ze (z8 (yp (pI rfl) (yp (Vh (j:=2) rfl rfl (by omega)) (yp (Za rfl rfl (by omega)) (yp (pI rfl) (zf (za (ze (ze (z8 (yp (pI rfl) (yp (pI rfl) (yp (U9 rfl rfl) (zf (za ?_)))))))))))))))));refine zO rfl (fun h=>?_) (fun h=>?_)
 ·refine zV (zy (vV rfl (zy (zW ?_))));exact ZF ZG ⟨_,.of,rfl,N,hsw,hhp.stop fun c h1 h2=>by omega,rfl⟩
 refine zq (za ?_);refine w9 (fun E S=>∃c:Nat,Has E [(0,.slice (some ⟨blk,0,none⟩) ln cp),(2,.int .i64 (hi:Int)),(3,.int .i64 (first:Int)),(4,.func (.func cf) #[] caps),(10,.int .i64 (q:Int)),(11,.int .i64 (c:Int))]∧(c=2*q+1∨c=2*q+2)∧c<hi∧(∀c',(c'=2*q+1∨c'=2*q+2)→c'<hi→¬lt (gt N (first+c)) (gt N (first+c')))∧zG S [sg blk ty fz N,Hc]) ?_ fun E S ⟨c,hE,hcc,hch,hmax,hJ⟩=>?_
 ·refine ze (zY (zi (pI rfl) (zi (Za rfl rfl (by omega)) (zi (pI rfl) (zi (ZL rfl rfl) (zi (pB rfl) ?_))))));by_cases h2:2*q+2<hi
  ·rw[decide_eq_true (show((2*q+1+1:Nat):Int)<(hi:Int) from by omega)];refine zQ rfl (zi (pF rfl) (zQ rfl (zi (pS rfl) (zQ rfl (zi (pI rfl) (zQ rfl (zi (pI rfl) (zQ rfl (zi (Zi rfl rfl (by omega)) (zQ rfl (zi (zN rfl rfl (by omega)) (zQ rfl (Z9 hl rfl (by omega) hk (zQ rfl (zi (pS rfl) (zQ rfl (zi (pI rfl) (zQ rfl (zi (pI rfl) (zQ rfl (zi (Zi rfl rfl (by omega)) (zQ rfl (zi (Za rfl rfl (by omega)) (zQ rfl (zi (zN rfl rfl (by omega)) (zQ rfl (Z9 hl rfl (by omega) hk ?_)))))))))))))))))))))))))));refine ZU rfl ?_ zM;refine zH (zk (hc.call _ _ (hN.all (first+(2*q+1)) (Nat.zero_le _) (by omega)) (hN.all (first+(2*q+1)+1) (Nat.zero_le _) (by omega))) rfl rfl fun r S' h=>?_) zM;obtain⟨⟨z,rfl,hzz⟩,rfl⟩:=h;refine zQ rfl (zi (ZL rfl rfl) (zi (zP rfl rfl) (zD (za ?_))));refine zO rfl (fun h3=>?_) (fun h3=>?_)
   ·refine z8 (yp (pI rfl) (yp (Za rfl rfl (by omega)) (yp (pI rfl) (zf (za ?_)))));refine⟨2*q+2,⟨rfl,rfl,rfl,rfl,rfl,rfl,trivial⟩,by omega,by omega,fun c' h4 h5=>?_,.of⟩;rcases h4 with rfl | rfl
    ·exact hc.wk.asymm _ _ (hzz.1 h3)
    ·exact hc.wk.irr _
   ·refine zq (za ?_);refine⟨2*q+1,⟨rfl,rfl,rfl,rfl,rfl,rfl,trivial⟩,by omega,by omega,fun c' h4 h5=>?_,.of⟩;rcases h4 with rfl | rfl
    ·exact hc.wk.irr _
    ·exact fun h=>h3 (hzz.2 h)
  ·rw[decide_eq_false (show ¬((2*q+1+1:Nat):Int)<(hi:Int) from by omega)];refine zR rfl (zR rfl (zR rfl (zR rfl (zR rfl (zR rfl (zR rfl (zR rfl (zR rfl (zR rfl (zR rfl (zR rfl (zR rfl (zR rfl ?_)))))))))))));refine ZY rfl ?_ zM;refine zR rfl (zi (zU rfl rfl) (zD (za (zw rfl (zq (za ?_))))));refine⟨2*q+1,⟨rfl,rfl,rfl,rfl,rfl,rfl,trivial⟩,by omega,by omega,fun c' h4 h5=>?_,.of⟩;have:c'=2*q+1:=by omega
   rw[this];exact hc.wk.irr _
 obtain⟨E0,e0⟩:=zl hE; subst e0; clear hE;refine zm hJ (ze (ze (zY (zi (pF rfl) (zi (pS rfl) (zi (pI rfl) (zi (pI rfl) (zi (Zi rfl rfl (by omega)) (zi (zN rfl rfl (by omega)) (Z9 hl rfl (by omega) hk (zi (pS rfl) (zi (pI rfl) (zi (pI rfl) (zi (Zi rfl rfl (by omega)) (zi (zN rfl rfl (by omega)) (Z9 hl rfl (by omega) hk ?_))))))))))))))));refine zH (zk (hc.call _ _ (hN.all (first+q) (Nat.zero_le _) (by omega)) (hN.all (first+c) (Nat.zero_le _) (by omega))) rfl rfl fun r S' h=>?_) zM;obtain⟨⟨z,rfl,hzz⟩,rfl⟩:=h;refine zi (ZL rfl rfl) (zi (Ze rfl) (zD (za ?_)));refine wE rfl (fun h3=>?_) (fun h3=>?_)
 ·refine zL (zX (bret (zX (bret ?_))));exact zK ZG ⟨_,.of,rfl,N,hsw,hhp.stop fun c' h4 h5=>hc.wk.tr _ _ _ (fun h=>h3 (hzz.2 h)) (hmax c' h4 h5),rfl⟩
 ·refine zq (za (ze (zY (zi (pS rfl) (zi (pI rfl) (zi (pI rfl) (zi (Zi rfl rfl (by omega)) (zi (pS rfl) (zi (pI rfl) (zi (pI rfl) (zi (Zi rfl rfl (by omega)) (zi (pS rfl) (zi (pI rfl) (zi (pI rfl) (zi (Zi rfl rfl (by omega)) (zi (zN rfl rfl (by omega)) (Z9 hl rfl (by omega) hk (zi (pS rfl) (zi (pI rfl) (zi (pI rfl) (zi (Zi rfl rfl (by omega)) (zi (zN rfl rfl (by omega)) (Z9 hl rfl (by omega) hk (zi (zN rfl rfl (by omega)) ?_))))))))))))))))))))))));refine zH (Z7 rfl (by omega) hk (hl.cells _) hz ?_) zM;refine zi (zN rfl rfl (by omega)) ?_;refine zH (Zg rfl (by omega) hk (hl.cells _) hz ?_) zM;refine zD (za (z8 (yp (pI rfl) (yp (pI rfl) (zf (zT (za ?_)))))));exact⟨c,⟨⟨rfl,rfl,rfl,rfl,rfl,trivial⟩,by omega,by omega,_,hsw.step (by omega) (by omega) (by omega) (by omega) (by omega),hhp.step hc.wk hq hcc hch (by omega) hmax (hzz.1 h3),.of⟩,by omega⟩
theorem om{f fs:Nat}(hf:Z6 P f 60 #[] (JB ld k fs))(hs:Z6 P fs 82 #[] (kT ld k))(hl:Ld ld vl)(hk:Enc.k α=k)(hc:Cm P cf caps Hc vl p lt){M:List α}(hM:xK fz ln p M){a b:Nat}(hab:a+2≤b)(hb:b≤ln):
 Tri P f #[.slice (some ⟨blk,0,none⟩) ln cp,.int .i64 (a:Int),.int .i64 (b:Int),.func (.func cf) #[] caps] [sg blk ty fz M,Hc] (fun r S=>r= .tuple #[]∧∃M',Sw a b M M'∧So lt a b M'∧S=[sg blk ty fz M',Hc]):=by
 obtain⟨hi,rfl⟩:∃hi,b=a+hi:=⟨b-a,by omega⟩
 refine Tri.forget (zn hf (Nat.le_of_ble_eq_true rfl) ?_);have hlen:=hM.len;have hbig:=hM.big;unfold JB;refine ze (z8 (yp (pI rfl) (yp (pI rfl) (zf (za (ze (z8 (yp pC (zf (za (ze (z8 (yp (pI rfl) (yp (pI rfl) (yp (Zt rfl rfl (by omega)) (yp (pI rfl) (zf (za (ze (ze (z8 (yp (pI rfl) (yp (Zt rfl rfl (by omega)) ?_)))))))))))))))))))))));rw[show((a+hi:Nat):Int)-(a:Int)=(hi:Int) from by omega,show(hi:Int)-1=((hi-1:Nat):Int) from by omega]
 skip
 refine yp (Vr (j:=hi-1) (k:=2) rfl rfl (by omega) (by omega)) (yp (pI rfl) (zf (za (zo ?_))));refine Z4 (σ:=Nat) (fun i E S=>Has E [(0,.slice (some ⟨blk,0,none⟩) ln cp),(3,.func (.func cf) #[] caps),(8,.int .i64 (a:Int)),(9,.int .i64 0),(10,.int .i64 (hi:Int)),(11,.int .i64 ((i:Int)-1))]∧i≤(hi-1)/2+1∧∃N,Sw a (a+hi) M N∧Hp lt a i hi N∧zG S [sg blk ty fz N,Hc]) (fun i=>i) ((hi-1)/2+1) ⟨⟨rfl,rfl,rfl,rfl,rfl,?_,trivial⟩,by omega,M,.refl,fun q c h1 h2 h3=>by omega,.of⟩ fun i E S ⟨hE,hi2,N,hsw,hhp,hJ⟩=>?_
 ·show Value.int .i64 (((hi-1)/2:Nat):Int)=_;congr 1; omega
 have hNl:=hsw.len;have hN:=hM.sw hsw hb;obtain⟨E0,e0⟩:=zl hE; subst e0; clear hE;refine zm hJ (ze (ze (z8 (yp (pI rfl) (yp (U9 rfl rfl) (zf (za ?_)))))));refine zO rfl (fun h=>?_) (fun h=>?_)
 ·obtain⟨j,rfl⟩:∃j,i=j+1:=⟨i-1,by omega⟩
  rw[show((j+1:Nat):Int)-1=(j:Int) from by omega];refine zq (za (ze (zo (z8 (yp (pS rfl) (yp (pI rfl) (yp (pI rfl) (yp (pI rfl) (yp (pF rfl) ?_)))))))));refine zh (zk (QA (blk:=blk) (ty:=ty) (cp:=cp) hs hl hk hc hN (lo:=j) (hi:=hi) (first:=a) (by omega) hb hhp) rfl rfl fun r S' h=>?_);obtain⟨rfl,N2,hs2,hh2,rfl⟩:=h;refine zf (zT (za (z8 (yp (pI rfl) (yp (Zt rfl rfl (by omega)) (yp (pI rfl) (zf (za ?_))))))));exact⟨j,⟨⟨rfl,rfl,rfl,rfl,rfl,rfl,trivial⟩,by omega,N2,hsw.trans (hs2.mono (by omega) (by omega) (by omega)),hh2,.of⟩,by omega⟩
 have h0:i=0:=by omega
 subst h0;refine zV (zy (zy (zW (za (ze (z8 (yp (pI rfl) (yp (Zq rfl rfl (by omega)) (yp (pI rfl) (zf (za (zo ?_))))))))))));refine Z4 (σ:=Nat) (fun i E S=>Has E [(0,.slice (some ⟨blk,0,none⟩) ln cp),(3,.func (.func cf) #[] caps),(8,.int .i64 (a:Int)),(9,.int .i64 0),(10,.int .i64 (hi:Int)),(12,.int .i64 ((i:Int)-1))]∧i≤hi∧∃N,Sw a (a+hi) M N∧Pops lt a hi i N∧zG S [sg blk ty fz N,Hc]) (fun i=>i) hi ⟨⟨rfl,rfl,rfl,rfl,rfl,?_,trivial⟩,by omega,N,hsw,⟨hhp,fun k l h1 h2 h3=>by omega⟩,.of⟩ fun i E S ⟨hE,hi2,N,hsw,hpo,hJ⟩=>?_
 ·show Value.int .i64 ((hi-1:Nat):Int)=_;congr 1; omega
 have hNl:=hsw.len;have hN:=hM.sw hsw hb;have hz:=hN.hz;obtain⟨E0,e0⟩:=zl hE; subst e0; clear hE;refine zm hJ (ze (ze (z8 (yp (pI rfl) (yp (U9 rfl rfl) (zf (za ?_)))))));refine zO rfl (fun h=>?_) (fun h=>?_)
 ·obtain⟨j,rfl⟩:∃j,i=j+1:=⟨i-1,by omega⟩
  rw[show((j+1:Nat):Int)-1=(j:Int) from by omega];refine zq (za (ze (zo (ze (zY (zi (pS rfl) (zi (pI rfl) (zi (pS rfl) (zi (pI rfl) (zi (pI rfl) (zi (Zi rfl rfl (by omega)) (zi (pS rfl) (zi (pI rfl) (zi (pI rfl) (zi (Zi rfl rfl (by omega)) (zi (zN rfl rfl (by omega)) (Z9 hl rfl (by omega) hk (zi (pS rfl) (zi (pI rfl) (zi (zN rfl rfl (by omega)) (Z9 hl rfl (by omega) hk (zi (zN rfl rfl (by omega)) ?_))))))))))))))))))))));refine zH (Z7 rfl (by omega) hk (hl.cells _) hz ?_) zM;refine zi (zN rfl rfl (by omega)) ?_;refine zH (Zg rfl (by omega) hk (hl.cells _) hz ?_) zM;refine zD (za (z8 (yp (pS rfl) (yp (pI rfl) (yp (pI rfl) (yp (pI rfl) (yp (pF rfl) ?_)))))));have hsw2:Sw a (a+hi) M (swp N a (a+j)):=hsw.step (by omega) (by omega) (by omega) (by omega) (by omega);have hup:Hp lt a 1 j (swp N a (a+j)):=fun q c h1 h2 h3=>by
   rw[ZQ (by omega) (by omega),ZQ (by omega) (by omega),if_neg (by omega),if_neg (by omega),if_neg (by omega),if_neg (by omega)];exact hpo.heap q c (by omega) h2 (by omega)
  refine zh (zk (QA (blk:=blk) (ty:=ty) (cp:=cp) hs hl hk hc (hM.sw hsw2 hb) (lo:=0) (hi:=j) (first:=a) (by omega) (by omega) hup) rfl rfl fun r S' h=>?_);obtain⟨rfl,N2,hs2,hh2,rfl⟩:=h;refine zf (zT (za (z8 (yp (pI rfl) (yp (Zt rfl rfl (by omega)) (yp (pI rfl) (zf (za ?_))))))));exact⟨j,⟨⟨rfl,rfl,rfl,rfl,rfl,rfl,trivial⟩,by omega,N2,hsw2.trans (hs2.mono (by omega) (by omega) (by simp; omega)),hpo.step hc.wk (by omega) (by omega) hs2 hh2,.of⟩,by omega⟩
 ·have h0:i=0:=by omega
  subst h0;refine zV (zy (zy (zW ?_)));exact ZF ZG ⟨_,.of,rfl,N,hsw,hpo.done,rfl⟩
/-! partitions -/
set_option maxHeartbeats 1000000 in
theorem Br{f:Nat}(hf:Z6 P f 178 #[.tmp 10,.tmp 11] (dH ld k))(hl:Ld ld vl)(hk:Enc.k α=k)(hc:Cm P cf caps Hc vl p lt){M:List α}(hM:xK fz ln p M){a b pv:Nat}(hab:a≤pv)(hpb:pv<b)(hb:b≤ln):
 Tri P f #[.slice (some ⟨blk,0,none⟩) ln cp,.int .i64 (a:Int),.int .i64 (b:Int),.int .i64 (pv:Int),.func (.func cf) #[] caps] [sg blk ty fz M,Hc] (fun r S=>∃(mid:Nat) (bl:Bool) (M':List α),r= .tuple #[.int .i64 (mid:Int),.bool bl]∧Sw a b M M'∧vB lt a b mid M'∧S=[sg blk ty fz M',Hc]):=by
 refine Tri.forget (zn hf (Nat.le_of_ble_eq_true rfl) ?_);have hlen:=hM.len;have hbig:=hM.big;have hz:=hM.hz;unfold dH;refine ze (z8 (yp pC (yp pC (zf (za (ze (zY (zi (pS rfl) (zi (pI rfl) (zi (pS rfl) (zi (pI rfl) (zi (pS rfl) (zi (pI rfl) (zi (zN rfl rfl (by omega)) (Z9 hl rfl (by omega) hk (zi (pS rfl) (zi (pI rfl) (zi (zN rfl rfl (by omega)) (Z9 hl rfl (by omega) hk (zi (zN rfl rfl (by omega)) ?_))))))))))))))))))));refine zH (Z7 rfl (by omega) hk (hl.cells _) hz ?_) zM;refine zi (zN rfl rfl (by omega)) ?_;refine zH (Zg rfl (by omega) hk (hl.cells _) hz ?_) zM;refine zD (za (ze (z8 (yp (pI rfl) (yp (Za rfl rfl (by omega)) (yp (pI rfl) (yp (Zq rfl rfl (by omega)) (yp (pI rfl) (yp (pI rfl) (zf (za ?_)))))))))));have hsw:Sw a b M (swp M a pv):=Sw.refl.step (by omega) (by omega) (by omega) (by omega) (by omega);have hN:=hM.sw hsw hb;have hNl:=hsw.len;have hpi:PI lt a b (a+1) (b-1) (swp M a pv):=PI.start (by omega);obtain⟨N,hN1⟩:∃N,N=swp M a pv:=⟨_,rfl⟩
 have eN:(M.set a (gt M pv)).set pv (gt M a)=N:=hN1.symm;rw[←hN1] at hsw hN hNl hpi;rw[eN];clear eN hN1;generalize a+1=i at hpi ⊢;generalize b-1=j at hpi ⊢;have hz:=hN.hz;obtain⟨m,hm⟩:∃m,j+1-i≤m:=⟨_,Nat.le_refl _⟩
 refine w9 (fun E S=>∃i:Nat,Has E [(0,.slice (some ⟨blk,0,none⟩) ln cp),(1,.int .i64 (a:Int)),(4,.func (.func cf) #[] caps),(12,.int .i64 (i:Int)),(13,.int .i64 (j:Int))]∧PI lt a b i j N∧j+1-i≤m∧(i≤j→¬lt (gt N i) (gt N a))∧zG S [sg blk ty fz N,Hc]) ?_ fun E S ⟨i,hE,hpi,hm,h1,hJ⟩=>?_
 ·refine zo ?_;refine Z4 (σ:=Nat) (fun i E S=>Has E [(0,.slice (some ⟨blk,0,none⟩) ln cp),(1,.int .i64 (a:Int)),(4,.func (.func cf) #[] caps),(12,.int .i64 (i:Int)),(13,.int .i64 (j:Int))]∧PI lt a b i j N∧j+1-i≤m∧zG S [sg blk ty fz N,Hc]) (fun i=>j+1-i) i ⟨⟨rfl,rfl,rfl,rfl,rfl,trivial⟩,hpi,hm,.of⟩ fun i E S ⟨hE,hpi,hm,hJ⟩=>?_
  have hjb:=hpi.jb; have hij:=hpi.ij; have hai:=hpi.ai;obtain⟨E0,e0⟩:=zl hE; subst e0; clear hE;refine zm hJ (ze (ze (zY (zi (pI rfl) (zi (pI rfl) (zi (Xl rfl rfl) (zi (pB rfl) ?_)))))));by_cases h0:i≤j
  ·rw[decide_eq_true (show(i:Int)≤(j:Int) from by omega)];refine zQ rfl (zi (pF rfl) (zQ rfl (zi (pS rfl) (zQ rfl (zi (pI rfl) (zQ rfl (zi (zN rfl rfl (by omega)) (zQ rfl (Z9 hl rfl (by omega) hk (zQ rfl (zi (pS rfl) (zQ rfl (zi (pI rfl) (zQ rfl (zi (zN rfl rfl (by omega)) (zQ rfl (Z9 hl rfl (by omega) hk ?_)))))))))))))))));refine ZU rfl ?_ zM;refine zH (zk (hc.call _ _ (hN.all i (Nat.zero_le _) (by omega)) (hN.all a (Nat.zero_le _) (by omega))) rfl rfl fun r S' h=>?_) zM;obtain⟨⟨z,rfl,hzz⟩,rfl⟩:=h;refine zQ rfl (zi (ZL rfl rfl) (zi (zP rfl rfl) (zD (za ?_))));refine zO rfl (fun h2=>?_) (fun h2=>?_)
   ·refine zq (za (zo (z8 (yp (pI rfl) (yp (Za rfl rfl (by omega)) (yp (pI rfl) (zf (zT (za ?_)))))))));exact⟨i+1,⟨⟨rfl,rfl,rfl,rfl,rfl,trivial⟩,hpi.up h0 (hzz.1 h2),by omega,.of⟩,by omega⟩
   ·refine zV (zy (zy (zW (za ?_))));exact⟨i,⟨rfl,rfl,rfl,rfl,rfl,trivial⟩,hpi,hm,fun _=>fun h=>h2 (hzz.2 h),.of⟩
  ·rw[decide_eq_false (show ¬(i:Int)≤(j:Int) from by omega)];refine zR rfl (zR rfl (zR rfl (zR rfl (zR rfl (zR rfl (zR rfl (zR rfl (zR rfl ?_))))))));refine ZY rfl ?_ zM;refine zR rfl (zi (zU rfl rfl) (zD (za (zw rfl (zV (zy (zy (zW (za ?_)))))))));exact⟨i,⟨rfl,rfl,rfl,rfl,rfl,trivial⟩,hpi,hm,fun h=>absurd h h0,.of⟩
 obtain⟨E0,e0⟩:=zl hE; subst e0; clear hE;refine zm hJ ?_;refine w9 (fun E S=>∃j:Nat,Has E [(0,.slice (some ⟨blk,0,none⟩) ln cp),(1,.int .i64 (a:Int)),(4,.func (.func cf) #[] caps),(12,.int .i64 (i:Int)),(13,.int .i64 (j:Int))]∧PI lt a b i j N∧j+1-i≤m∧(i≤j→¬lt (gt N i) (gt N a))∧(i≤j→lt (gt N j) (gt N a))∧zG S [sg blk ty fz N,Hc]) ?_ fun E S ⟨j,hE,hpi,hm,h1,h2,hJ⟩=>?_
 ·refine zo ?_;refine Z4 (σ:=Nat) (fun j E S=>Has E [(0,.slice (some ⟨blk,0,none⟩) ln cp),(1,.int .i64 (a:Int)),(4,.func (.func cf) #[] caps),(12,.int .i64 (i:Int)),(13,.int .i64 (j:Int))]∧PI lt a b i j N∧j+1-i≤m∧(i≤j→¬lt (gt N i) (gt N a))∧zG S [sg blk ty fz N,Hc]) (fun j=>j) j ⟨⟨rfl,rfl,rfl,rfl,rfl,trivial⟩,hpi,hm,h1,.of⟩ fun j E S ⟨hE,hpi,hm,h1,hJ⟩=>?_
  have hjb:=hpi.jb; have hij:=hpi.ij; have hai:=hpi.ai;obtain⟨E0,e0⟩:=zl hE; subst e0; clear hE;refine zm hJ (ze (ze (zY (zi (pI rfl) (zi (pI rfl) (zi (Xl rfl rfl) (zi (pB rfl) ?_)))))));by_cases h0:i≤j
  ·rw[decide_eq_true (show(i:Int)≤(j:Int) from by omega)];refine zQ rfl (zi (pF rfl) (zQ rfl (zi (pS rfl) (zQ rfl (zi (pI rfl) (zQ rfl (zi (zN rfl rfl (by omega)) (zQ rfl (Z9 hl rfl (by omega) hk (zQ rfl (zi (pS rfl) (zQ rfl (zi (pI rfl) (zQ rfl (zi (zN rfl rfl (by omega)) (zQ rfl (Z9 hl rfl (by omega) hk ?_)))))))))))))))));refine ZU rfl ?_ zM;refine zH (zk (hc.call _ _ (hN.all j (Nat.zero_le _) (by omega)) (hN.all a (Nat.zero_le _) (by omega))) rfl rfl fun r S' h=>?_) zM;obtain⟨⟨z,rfl,hzz⟩,rfl⟩:=h;refine zQ rfl (zi (ZL rfl rfl) (zQ rfl (zi (Ze rfl) (zi (zP rfl rfl) (zD (za ?_))))));refine wE rfl (fun h2=>?_) (fun h2=>?_)
   ·refine zq (za (zo (z8 (yp (pI rfl) (yp (Zq rfl rfl (by omega)) (yp (pI rfl) (zf (zT (za ?_)))))))));exact⟨j-1,⟨⟨rfl,rfl,rfl,rfl,rfl,trivial⟩,hpi.dn h0 (fun h=>h2 (hzz.2 h)),by omega,fun _=>h1 h0,.of⟩,by omega⟩
   ·refine zV (zy (zy (zW (za ?_))));exact⟨j,⟨rfl,rfl,rfl,rfl,rfl,trivial⟩,hpi,hm,h1,fun _=>hzz.1 h2,.of⟩
  ·rw[decide_eq_false (show ¬(i:Int)≤(j:Int) from by omega)];refine zR rfl (zR rfl (zR rfl (zR rfl (zR rfl (zR rfl (zR rfl (zR rfl (zR rfl ?_))))))));refine ZY rfl ?_ zM;refine zR rfl (zR rfl (zi (zU rfl rfl) (zD (za (zw rfl (zV (zy (zy (zW (za ?_))))))))));exact⟨j,⟨rfl,rfl,rfl,rfl,rfl,trivial⟩,hpi,hm,h1,fun h=>absurd h h0,.of⟩
 have hjb:=hpi.jb; have hij:=hpi.ij; have hai:=hpi.ai;obtain⟨E0,e0⟩:=zl hE; subst e0; clear hE;refine zm hJ (ze (ze (z8 (yp (pI rfl) (yp (pI rfl) (yp (VE rfl rfl) (zf (za ?_))))))));by_cases hcc:¬i≤j
 ·rw[decide_eq_true (show(j:Int)<(i:Int) from by omega)];refine zI rfl (ze (zY (zi (pS rfl) (zi (pI rfl) (zi (pS rfl) (zi (pI rfl) (zi (pS rfl) (zi (pI rfl) (zi (zN rfl rfl (by omega)) (Z9 hl rfl (by omega) hk (zi (pS rfl) (zi (pI rfl) (zi (zN rfl rfl (by omega)) (Z9 hl rfl (by omega) hk (zi (zN rfl rfl (by omega)) ?_)))))))))))))));refine zH (Z7 rfl (by omega) hk (hl.cells _) hz ?_) zM;refine zi (zN rfl rfl (by omega)) ?_;refine zH (Zg rfl (by omega) hk (hl.cells _) hz ?_) zM;refine zD (za (ze (z8 (yp (pI rfl) (yp (pI rfl) (yp pC (zf (za (zL (zX ?_))))))))));exact zK (fU rfl rfl) ⟨_,.of,j,true,_,rfl,hsw.step (by omega) (by omega) (by omega) (by omega) (by omega),hpi.done hcc (by omega),rfl⟩
 have hcc:=Decidable.of_not_not hcc;rw[decide_eq_false (show ¬(j:Int)<(i:Int) from by omega)];refine zw rfl (zq (za (ze (zY (zi (pS rfl) (zi (pI rfl) (zi (pS rfl) (zi (pI rfl) (zi (pS rfl) (zi (pI rfl) (zi (zN rfl rfl (by omega)) (Z9 hl rfl (by omega) hk (zi (pS rfl) (zi (pI rfl) (zi (zN rfl rfl (by omega)) (Z9 hl rfl (by omega) hk (zi (zN rfl rfl (by omega)) ?_)))))))))))))))));refine zH (Z7 rfl (by omega) hk (hl.cells _) hz ?_) zM;refine zi (zN rfl rfl (by omega)) ?_;refine zH (Zg rfl (by omega) hk (hl.cells _) hz ?_) zM;refine zD (za (ze (z8 (yp (pI rfl) (yp (Za rfl rfl (by omega)) (yp (pI rfl) (zf (za (ze (z8 (yp (pI rfl) (yp (Zq rfl rfl (by omega)) (yp (pI rfl) (zf (za ?_)))))))))))))));obtain⟨hlt,hpi⟩:=hpi.swap hcc (by omega) (h1 hcc) (h2 hcc);have hsw:=hsw.step (i:=i) (j:=j) (by omega) (by omega) (by omega) (by omega) (by omega);clear h1 h2 hjb hij hai hcc hm;have hN:=hM.sw hsw hb;have hNl:=hsw.len;generalize i+1=i1 at hpi ⊢;generalize j-1=j1 at hpi ⊢;obtain⟨N2,hN2⟩:∃N2,N2=swp N i j:=⟨_,rfl⟩
 have eN:(N.set i (gt N j)).set j (gt N i)=N2:=hN2.symm;rw[←hN2] at hsw hpi hN hNl;rw[eN];clear eN hN2;refine w9 (fun E S=>∃(i j:Nat) (N:List α),Has E [(0,.slice (some ⟨blk,0,none⟩) ln cp),(1,.int .i64 (a:Int)),(4,.func (.func cf) #[] caps),(12,.int .i64 (i:Int)),(13,.int .i64 (j:Int))]∧Sw a b M N∧PI lt a b i j N∧¬i≤j∧zG S [sg blk ty fz N,Hc]) ?_ fun E S ⟨i,j,N,hE,hsw,hpi,hcc,hJ⟩=>?_
 ·refine zo ?_;refine Z4 (σ:=Nat × Nat) (fun s E S=>∃N,Sw a b M N∧PI lt a b s.1 s.2 N∧Has E [(0,.slice (some ⟨blk,0,none⟩) ln cp),(1,.int .i64 (a:Int)),(4,.func (.func cf) #[] caps),(12,.int .i64 (s.1:Int)),(13,.int .i64 (s.2:Int))]∧zG S [sg blk ty fz N,Hc]) (fun s=>s.2+1-s.1) (i1,j1) ⟨N2,hsw,hpi,⟨rfl,rfl,rfl,rfl,rfl,trivial⟩,.of⟩ fun s E S ⟨N,hsw,hpi,hE,hJ⟩=>?_
  obtain⟨i,j⟩:=s;have hN:=hM.sw hsw hb;have hNl:=hsw.len;have hz:=hN.hz;dsimp only at hpi hE ⊢;obtain⟨m,hm0⟩:∃m,m=j+1-i:=⟨_,rfl⟩
  rw[←hm0];have hm:j+1-i≤m:=by omega
  clear hm0;obtain⟨E0,e0⟩:=zl hE; subst e0; clear hE;refine zm hJ (zo ?_);refine w9 (fun E S=>∃i:Nat,Has E [(0,.slice (some ⟨blk,0,none⟩) ln cp),(1,.int .i64 (a:Int)),(4,.func (.func cf) #[] caps),(12,.int .i64 (i:Int)),(13,.int .i64 (j:Int))]∧PI lt a b i j N∧j+1-i≤m∧(i≤j→¬lt (gt N i) (gt N a))∧zG S [sg blk ty fz N,Hc]) ?_ fun E S ⟨i,hE,hpi,hm,h1,hJ⟩=>?_
  ·refine zo ?_;refine Z4 (σ:=Nat) (fun i E S=>Has E [(0,.slice (some ⟨blk,0,none⟩) ln cp),(1,.int .i64 (a:Int)),(4,.func (.func cf) #[] caps),(12,.int .i64 (i:Int)),(13,.int .i64 (j:Int))]∧PI lt a b i j N∧j+1-i≤m∧zG S [sg blk ty fz N,Hc]) (fun i=>j+1-i) i ⟨⟨rfl,rfl,rfl,rfl,rfl,trivial⟩,hpi,hm,.of⟩ fun i E S ⟨hE,hpi,hm,hJ⟩=>?_
   have hjb:=hpi.jb; have hij:=hpi.ij; have hai:=hpi.ai;obtain⟨E0,e0⟩:=zl hE; subst e0; clear hE;refine zm hJ (ze (ze (zY (zi (pI rfl) (zi (pI rfl) (zi (Xl rfl rfl) (zi (pB rfl) ?_)))))));by_cases h0:i≤j
   ·rw[decide_eq_true (show(i:Int)≤(j:Int) from by omega)];refine zQ rfl (zi (pF rfl) (zQ rfl (zi (pS rfl) (zQ rfl (zi (pI rfl) (zQ rfl (zi (zN rfl rfl (by omega)) (zQ rfl (Z9 hl rfl (by omega) hk (zQ rfl (zi (pS rfl) (zQ rfl (zi (pI rfl) (zQ rfl (zi (zN rfl rfl (by omega)) (zQ rfl (Z9 hl rfl (by omega) hk ?_)))))))))))))))));refine ZU rfl ?_ zM;refine zH (zk (hc.call _ _ (hN.all i (Nat.zero_le _) (by omega)) (hN.all a (Nat.zero_le _) (by omega))) rfl rfl fun r S' h=>?_) zM;obtain⟨⟨z,rfl,hzz⟩,rfl⟩:=h;refine zQ rfl (zi (ZL rfl rfl) (zi (zP rfl rfl) (zD (za ?_))));refine zO rfl (fun h2=>?_) (fun h2=>?_)
    ·refine zq (za (zo (z8 (yp (pI rfl) (yp (Za rfl rfl (by omega)) (yp (pI rfl) (zf (zT (za ?_)))))))));exact⟨i+1,⟨⟨rfl,rfl,rfl,rfl,rfl,trivial⟩,hpi.up h0 (hzz.1 h2),by omega,.of⟩,by omega⟩
    ·refine zV (zy (zy (zW (za ?_))));exact⟨i,⟨rfl,rfl,rfl,rfl,rfl,trivial⟩,hpi,hm,fun _=>fun h=>h2 (hzz.2 h),.of⟩
   ·rw[decide_eq_false (show ¬(i:Int)≤(j:Int) from by omega)];refine zR rfl (zR rfl (zR rfl (zR rfl (zR rfl (zR rfl (zR rfl (zR rfl (zR rfl ?_))))))));refine ZY rfl ?_ zM;refine zR rfl (zi (zU rfl rfl) (zD (za (zw rfl (zV (zy (zy (zW (za ?_)))))))));exact⟨i,⟨rfl,rfl,rfl,rfl,rfl,trivial⟩,hpi,hm,fun h=>absurd h h0,.of⟩
  obtain⟨E0,e0⟩:=zl hE; subst e0; clear hE;refine zm hJ ?_;refine w9 (fun E S=>∃j:Nat,Has E [(0,.slice (some ⟨blk,0,none⟩) ln cp),(1,.int .i64 (a:Int)),(4,.func (.func cf) #[] caps),(12,.int .i64 (i:Int)),(13,.int .i64 (j:Int))]∧PI lt a b i j N∧j+1-i≤m∧(i≤j→¬lt (gt N i) (gt N a))∧(i≤j→lt (gt N j) (gt N a))∧zG S [sg blk ty fz N,Hc]) ?_ fun E S ⟨j,hE,hpi,hm,h1,h2,hJ⟩=>?_
  ·refine zo ?_;refine Z4 (σ:=Nat) (fun j E S=>Has E [(0,.slice (some ⟨blk,0,none⟩) ln cp),(1,.int .i64 (a:Int)),(4,.func (.func cf) #[] caps),(12,.int .i64 (i:Int)),(13,.int .i64 (j:Int))]∧PI lt a b i j N∧j+1-i≤m∧(i≤j→¬lt (gt N i) (gt N a))∧zG S [sg blk ty fz N,Hc]) (fun j=>j) j ⟨⟨rfl,rfl,rfl,rfl,rfl,trivial⟩,hpi,hm,h1,.of⟩ fun j E S ⟨hE,hpi,hm,h1,hJ⟩=>?_
   have hjb:=hpi.jb; have hij:=hpi.ij; have hai:=hpi.ai;obtain⟨E0,e0⟩:=zl hE; subst e0; clear hE;refine zm hJ (ze (ze (zY (zi (pI rfl) (zi (pI rfl) (zi (Xl rfl rfl) (zi (pB rfl) ?_)))))));by_cases h0:i≤j
   ·rw[decide_eq_true (show(i:Int)≤(j:Int) from by omega)];refine zQ rfl (zi (pF rfl) (zQ rfl (zi (pS rfl) (zQ rfl (zi (pI rfl) (zQ rfl (zi (zN rfl rfl (by omega)) (zQ rfl (Z9 hl rfl (by omega) hk (zQ rfl (zi (pS rfl) (zQ rfl (zi (pI rfl) (zQ rfl (zi (zN rfl rfl (by omega)) (zQ rfl (Z9 hl rfl (by omega) hk ?_)))))))))))))))));refine ZU rfl ?_ zM;refine zH (zk (hc.call _ _ (hN.all j (Nat.zero_le _) (by omega)) (hN.all a (Nat.zero_le _) (by omega))) rfl rfl fun r S' h=>?_) zM;obtain⟨⟨z,rfl,hzz⟩,rfl⟩:=h;refine zQ rfl (zi (ZL rfl rfl) (zQ rfl (zi (Ze rfl) (zi (zP rfl rfl) (zD (za ?_))))));refine wE rfl (fun h2=>?_) (fun h2=>?_)
    ·refine zq (za (zo (z8 (yp (pI rfl) (yp (Zq rfl rfl (by omega)) (yp (pI rfl) (zf (zT (za ?_)))))))));exact⟨j-1,⟨⟨rfl,rfl,rfl,rfl,rfl,trivial⟩,hpi.dn h0 (fun h=>h2 (hzz.2 h)),by omega,fun _=>h1 h0,.of⟩,by omega⟩
    ·refine zV (zy (zy (zW (za ?_))));exact⟨j,⟨rfl,rfl,rfl,rfl,rfl,trivial⟩,hpi,hm,h1,fun _=>hzz.1 h2,.of⟩
   ·rw[decide_eq_false (show ¬(i:Int)≤(j:Int) from by omega)];refine zR rfl (zR rfl (zR rfl (zR rfl (zR rfl (zR rfl (zR rfl (zR rfl (zR rfl ?_))))))));refine ZY rfl ?_ zM;refine zR rfl (zR rfl (zi (zU rfl rfl) (zD (za (zw rfl (zV (zy (zy (zW (za ?_))))))))));exact⟨j,⟨rfl,rfl,rfl,rfl,rfl,trivial⟩,hpi,hm,h1,fun h=>absurd h h0,.of⟩
  have hjb:=hpi.jb; have hij:=hpi.ij; have hai:=hpi.ai;obtain⟨E0,e0⟩:=zl hE; subst e0; clear hE;refine zm hJ (ze (ze (z8 (yp (pI rfl) (yp (pI rfl) (yp (VE rfl rfl) (zf (za ?_))))))));by_cases hcc:i≤j
  ·rw[decide_eq_false (show ¬(j:Int)<(i:Int) from by omega)];refine zw rfl (zq (za (ze (zY (zi (pS rfl) (zi (pI rfl) (zi (pS rfl) (zi (pI rfl) (zi (pS rfl) (zi (pI rfl) (zi (zN rfl rfl (by omega)) (Z9 hl rfl (by omega) hk (zi (pS rfl) (zi (pI rfl) (zi (zN rfl rfl (by omega)) (Z9 hl rfl (by omega) hk (zi (zN rfl rfl (by omega)) ?_)))))))))))))))));refine zH (Z7 rfl (by omega) hk (hl.cells _) hz ?_) zM;refine zi (zN rfl rfl (by omega)) ?_;refine zH (Zg rfl (by omega) hk (hl.cells _) hz ?_) zM;refine zD (za (ze (z8 (yp (pI rfl) (yp (Za rfl rfl (by omega)) (yp (pI rfl) (zf (za (z8 (yp (pI rfl) (yp (Zq rfl rfl (by omega)) (yp (pI rfl) (zf (zT (za ?_)))))))))))))));obtain⟨hlt,hpi⟩:=hpi.swap hcc (by omega) (h1 hcc) (h2 hcc);exact⟨(i+1,j-1),⟨_,hsw.step (i:=i) (j:=j) (by omega) (by omega) (by omega) (by omega) (by omega),hpi,⟨rfl,rfl,rfl,rfl,rfl,trivial⟩,.of⟩,by show j-1+1-(i+1)<m; omega⟩
  ·rw[decide_eq_true (show(j:Int)<(i:Int) from by omega)];refine zI rfl (zV (zy (vV rfl (zy (zW (za ?_))))));exact⟨i,j,N,⟨rfl,rfl,rfl,rfl,rfl,trivial⟩,hsw,hpi,hcc,.of⟩
 have hjb:=hpi.jb; have hij:=hpi.ij; have hai:=hpi.ai;have hN:=hM.sw hsw hb;have hNl:=hsw.len;have hz:=hN.hz;obtain⟨E0,e0⟩:=zl hE; subst e0; clear hE;refine zm hJ (ze (zY (zi (pS rfl) (zi (pI rfl) (zi (pS rfl) (zi (pI rfl) (zi (pS rfl) (zi (pI rfl) (zi (zN rfl rfl (by omega)) (Z9 hl rfl (by omega) hk (zi (pS rfl) (zi (pI rfl) (zi (zN rfl rfl (by omega)) (Z9 hl rfl (by omega) hk (zi (zN rfl rfl (by omega)) ?_)))))))))))))));refine zH (Z7 rfl (by omega) hk (hl.cells _) hz ?_) zM;refine zi (zN rfl rfl (by omega)) ?_;refine zH (Zg rfl (by omega) hk (hl.cells _) hz ?_) zM;refine zD (za (ze (z8 (yp (pI rfl) (yp (pI rfl) (yp pC (zf (za (zL ?_)))))))));exact zK (fU rfl rfl) ⟨_,.of,j,false,_,rfl,hsw.step (by omega) (by omega) (by omega) (by omega) (by omega),hpi.done hcc (by omega),rfl⟩
set_option maxHeartbeats 1000000 in
theorem Bu{f:Nat}(hf:Z6 P f 90 #[.tmp 10] (dI ld k))(hl:Ld ld vl)(hk:Enc.k α=k)(hc:Cm P cf caps Hc vl p lt){M:List α}(hM:xK fz ln p M){a b pv:Nat}(hab:a≤pv)(hpb:pv<b)(hb:b≤ln)(hle:∀q,a≤q→q<b→¬lt (gt M q) (gt M pv)):
 Tri P f #[.slice (some ⟨blk,0,none⟩) ln cp,.int .i64 (a:Int),.int .i64 (b:Int),.int .i64 (pv:Int),.func (.func cf) #[] caps] [sg blk ty fz M,Hc] (fun r S=>∃(mid:Nat) (M':List α),r= .int .i64 (mid:Int)∧Sw a b M M'∧Lc lt a b mid M'∧S=[sg blk ty fz M',Hc]):=by
 refine Tri.forget (zn hf (Nat.le_of_ble_eq_true rfl) ?_);have hlen:=hM.len;have hbig:=hM.big;have hz:=hM.hz;unfold dI;refine ze (z8 (yp pC (zf (za (ze (zY (zi (pS rfl) (zi (pI rfl) (zi (pS rfl) (zi (pI rfl) (zi (pS rfl) (zi (pI rfl) (zi (zN rfl rfl (by omega)) (Z9 hl rfl (by omega) hk (zi (pS rfl) (zi (pI rfl) (zi (zN rfl rfl (by omega)) (Z9 hl rfl (by omega) hk (zi (zN rfl rfl (by omega)) ?_)))))))))))))))))));refine zH (Z7 rfl (by omega) hk (hl.cells _) hz ?_) zM;refine zi (zN rfl rfl (by omega)) ?_;refine zH (Zg rfl (by omega) hk (hl.cells _) hz ?_) zM;refine zD (za (ze (z8 (yp (pI rfl) (yp (Za rfl rfl (by omega)) (yp (pI rfl) (yp (Zq rfl rfl (by omega)) (yp (pI rfl) (yp (pI rfl) (zf (za ?_)))))))))));have hsw:Sw a b M (swp M a pv):=Sw.refl.step (by omega) (by omega) (by omega) (by omega) (by omega);have hN:=hM.sw hsw hb;have hNl:=hsw.len;have hpi:PE lt a b (a+1) (b-1) (swp M a pv):=PE.start hab hpb (by omega) hle;obtain⟨N,hN1⟩:∃N,N=swp M a pv:=⟨_,rfl⟩
 have eN:(M.set a (gt M pv)).set pv (gt M a)=N:=hN1.symm;rw[←hN1] at hsw hN hNl hpi;rw[eN];clear eN hN1;generalize a+1=i at hpi ⊢;generalize b-1=j at hpi ⊢;have hz:=hN.hz;refine w9 (fun E S=>∃(i j:Nat) (N:List α),Has E [(0,.slice (some ⟨blk,0,none⟩) ln cp),(1,.int .i64 (a:Int)),(4,.func (.func cf) #[] caps),(11,.int .i64 (i:Int)),(12,.int .i64 (j:Int))]∧Sw a b M N∧PE lt a b i j N∧¬i≤j∧zG S [sg blk ty fz N,Hc]) ?_ fun E S ⟨i,j,N,hE,hsw,hpi,hcc,hJ⟩=>?_
 ·refine zo ?_;refine Z4 (σ:=Nat × Nat) (fun s E S=>∃N,Sw a b M N∧PE lt a b s.1 s.2 N∧Has E [(0,.slice (some ⟨blk,0,none⟩) ln cp),(1,.int .i64 (a:Int)),(4,.func (.func cf) #[] caps),(11,.int .i64 (s.1:Int)),(12,.int .i64 (s.2:Int))]∧zG S [sg blk ty fz N,Hc]) (fun s=>s.2+1-s.1) (i,j) ⟨N,hsw,hpi,⟨rfl,rfl,rfl,rfl,rfl,trivial⟩,.of⟩ fun s E S ⟨N,hsw,hpi,hE,hJ⟩=>?_
  obtain⟨i,j⟩:=s;have hN:=hM.sw hsw hb;have hNl:=hsw.len;have hz:=hN.hz;dsimp only at hpi hE ⊢;obtain⟨m,hm0⟩:∃m,m=j+1-i:=⟨_,rfl⟩
  rw[←hm0];have hm:j+1-i≤m:=by omega
  clear hm0;obtain⟨E0,e0⟩:=zl hE; subst e0; clear hE;refine zm hJ (zo ?_);refine w9 (fun E S=>∃i:Nat,Has E [(0,.slice (some ⟨blk,0,none⟩) ln cp),(1,.int .i64 (a:Int)),(4,.func (.func cf) #[] caps),(11,.int .i64 (i:Int)),(12,.int .i64 (j:Int))]∧PE lt a b i j N∧j+1-i≤m∧(i≤j→lt (gt N a) (gt N i))∧zG S [sg blk ty fz N,Hc]) ?_ fun E S ⟨i,hE,hpi,hm,h1,hJ⟩=>?_
  ·refine zo ?_;refine Z4 (σ:=Nat) (fun i E S=>Has E [(0,.slice (some ⟨blk,0,none⟩) ln cp),(1,.int .i64 (a:Int)),(4,.func (.func cf) #[] caps),(11,.int .i64 (i:Int)),(12,.int .i64 (j:Int))]∧PE lt a b i j N∧j+1-i≤m∧zG S [sg blk ty fz N,Hc]) (fun i=>j+1-i) i ⟨⟨rfl,rfl,rfl,rfl,rfl,trivial⟩,hpi,hm,.of⟩ fun i E S ⟨hE,hpi,hm,hJ⟩=>?_
   have hjb:=hpi.jb; have hij:=hpi.ij; have hai:=hpi.ai;obtain⟨E0,e0⟩:=zl hE; subst e0; clear hE;refine zm hJ (ze (ze (zY (zi (pI rfl) (zi (pI rfl) (zi (Xl rfl rfl) (zi (pB rfl) ?_)))))));by_cases h0:i≤j
   ·rw[decide_eq_true (show(i:Int)≤(j:Int) from by omega)];refine zQ rfl (zi (pF rfl) (zQ rfl (zi (pS rfl) (zQ rfl (zi (pI rfl) (zQ rfl (zi (zN rfl rfl (by omega)) (zQ rfl (Z9 hl rfl (by omega) hk (zQ rfl (zi (pS rfl) (zQ rfl (zi (pI rfl) (zQ rfl (zi (zN rfl rfl (by omega)) (zQ rfl (Z9 hl rfl (by omega) hk ?_)))))))))))))))));refine ZU rfl ?_ zM;refine zH (zk (hc.call _ _ (hN.all a (Nat.zero_le _) (by omega)) (hN.all i (Nat.zero_le _) (by omega))) rfl rfl fun r S' h=>?_) zM;obtain⟨⟨z,rfl,hzz⟩,rfl⟩:=h;refine zQ rfl (zi (ZL rfl rfl) (zQ rfl (zi (Ze rfl) (zi (zP rfl rfl) (zD (za ?_))))));refine wE rfl (fun h2=>?_) (fun h2=>?_)
    ·refine zq (za (zo (z8 (yp (pI rfl) (yp (Za rfl rfl (by omega)) (yp (pI rfl) (zf (zT (za ?_)))))))));exact⟨i+1,⟨⟨rfl,rfl,rfl,rfl,rfl,trivial⟩,hpi.up h0 (fun h=>h2 (hzz.2 h)),by omega,.of⟩,by omega⟩
    ·refine zV (zy (zy (zW (za ?_))));exact⟨i,⟨rfl,rfl,rfl,rfl,rfl,trivial⟩,hpi,hm,fun _=>hzz.1 h2,.of⟩
   ·rw[decide_eq_false (show ¬(i:Int)≤(j:Int) from by omega)];refine zR rfl (zR rfl (zR rfl (zR rfl (zR rfl (zR rfl (zR rfl (zR rfl (zR rfl ?_))))))));refine ZY rfl ?_ zM;refine zR rfl (zR rfl (zi (zU rfl rfl) (zD (za (zw rfl (zV (zy (zy (zW (za ?_))))))))));exact⟨i,⟨rfl,rfl,rfl,rfl,rfl,trivial⟩,hpi,hm,fun h=>absurd h h0,.of⟩
  obtain⟨E0,e0⟩:=zl hE; subst e0; clear hE;refine zm hJ ?_;refine w9 (fun E S=>∃j:Nat,Has E [(0,.slice (some ⟨blk,0,none⟩) ln cp),(1,.int .i64 (a:Int)),(4,.func (.func cf) #[] caps),(11,.int .i64 (i:Int)),(12,.int .i64 (j:Int))]∧PE lt a b i j N∧j+1-i≤m∧(i≤j→lt (gt N a) (gt N i))∧(i≤j→¬lt (gt N a) (gt N j))∧zG S [sg blk ty fz N,Hc]) ?_ fun E S ⟨j,hE,hpi,hm,h1,h2,hJ⟩=>?_
  ·refine zo ?_;refine Z4 (σ:=Nat) (fun j E S=>Has E [(0,.slice (some ⟨blk,0,none⟩) ln cp),(1,.int .i64 (a:Int)),(4,.func (.func cf) #[] caps),(11,.int .i64 (i:Int)),(12,.int .i64 (j:Int))]∧PE lt a b i j N∧j+1-i≤m∧(i≤j→lt (gt N a) (gt N i))∧zG S [sg blk ty fz N,Hc]) (fun j=>j) j ⟨⟨rfl,rfl,rfl,rfl,rfl,trivial⟩,hpi,hm,h1,.of⟩ fun j E S ⟨hE,hpi,hm,h1,hJ⟩=>?_
   have hjb:=hpi.jb; have hij:=hpi.ij; have hai:=hpi.ai;obtain⟨E0,e0⟩:=zl hE; subst e0; clear hE;refine zm hJ (ze (ze (zY (zi (pI rfl) (zi (pI rfl) (zi (Xl rfl rfl) (zi (pB rfl) ?_)))))));by_cases h0:i≤j
   ·rw[decide_eq_true (show(i:Int)≤(j:Int) from by omega)];refine zQ rfl (zi (pF rfl) (zQ rfl (zi (pS rfl) (zQ rfl (zi (pI rfl) (zQ rfl (zi (zN rfl rfl (by omega)) (zQ rfl (Z9 hl rfl (by omega) hk (zQ rfl (zi (pS rfl) (zQ rfl (zi (pI rfl) (zQ rfl (zi (zN rfl rfl (by omega)) (zQ rfl (Z9 hl rfl (by omega) hk ?_)))))))))))))))));refine ZU rfl ?_ zM;refine zH (zk (hc.call _ _ (hN.all a (Nat.zero_le _) (by omega)) (hN.all j (Nat.zero_le _) (by omega))) rfl rfl fun r S' h=>?_) zM;obtain⟨⟨z,rfl,hzz⟩,rfl⟩:=h;refine zQ rfl (zi (ZL rfl rfl) (zi (zP rfl rfl) (zD (za ?_))));refine zO rfl (fun h2=>?_) (fun h2=>?_)
    ·refine zq (za (zo (z8 (yp (pI rfl) (yp (Zq rfl rfl (by omega)) (yp (pI rfl) (zf (zT (za ?_)))))))));exact⟨j-1,⟨⟨rfl,rfl,rfl,rfl,rfl,trivial⟩,hpi.dn h0 (hzz.1 h2),by omega,fun _=>h1 h0,.of⟩,by omega⟩
    ·refine zV (zy (zy (zW (za ?_))));exact⟨j,⟨rfl,rfl,rfl,rfl,rfl,trivial⟩,hpi,hm,h1,fun _=>fun h=>h2 (hzz.2 h),.of⟩
   ·rw[decide_eq_false (show ¬(i:Int)≤(j:Int) from by omega)];refine zR rfl (zR rfl (zR rfl (zR rfl (zR rfl (zR rfl (zR rfl (zR rfl (zR rfl ?_))))))));refine ZY rfl ?_ zM;refine zR rfl (zi (zU rfl rfl) (zD (za (zw rfl (zV (zy (zy (zW (za ?_)))))))));exact⟨j,⟨rfl,rfl,rfl,rfl,rfl,trivial⟩,hpi,hm,h1,fun h=>absurd h h0,.of⟩
  have hjb:=hpi.jb; have hij:=hpi.ij; have hai:=hpi.ai;obtain⟨E0,e0⟩:=zl hE; subst e0; clear hE;refine zm hJ (ze (ze (z8 (yp (pI rfl) (yp (pI rfl) (yp (VE rfl rfl) (zf (za ?_))))))));by_cases hcc:i≤j
  ·rw[decide_eq_false (show ¬(j:Int)<(i:Int) from by omega)];refine zw rfl (zq (za (ze (zY (zi (pS rfl) (zi (pI rfl) (zi (pS rfl) (zi (pI rfl) (zi (pS rfl) (zi (pI rfl) (zi (zN rfl rfl (by omega)) (Z9 hl rfl (by omega) hk (zi (pS rfl) (zi (pI rfl) (zi (zN rfl rfl (by omega)) (Z9 hl rfl (by omega) hk (zi (zN rfl rfl (by omega)) ?_)))))))))))))))));refine zH (Z7 rfl (by omega) hk (hl.cells _) hz ?_) zM;refine zi (zN rfl rfl (by omega)) ?_;refine zH (Zg rfl (by omega) hk (hl.cells _) hz ?_) zM;refine zD (za (ze (z8 (yp (pI rfl) (yp (Za rfl rfl (by omega)) (yp (pI rfl) (zf (za (z8 (yp (pI rfl) (yp (Zq rfl rfl (by omega)) (yp (pI rfl) (zf (zT (za ?_)))))))))))))));obtain⟨hlt,hpi⟩:=hpi.swap hcc (by omega) (h1 hcc) (h2 hcc);exact⟨(i+1,j-1),⟨_,hsw.step (i:=i) (j:=j) (by omega) (by omega) (by omega) (by omega) (by omega),hpi,⟨rfl,rfl,rfl,rfl,rfl,trivial⟩,.of⟩,by show j-1+1-(i+1)<m; omega⟩
  ·rw[decide_eq_true (show(j:Int)<(i:Int) from by omega)];refine zI rfl (zV (zy (vV rfl (zy (zW (za ?_))))));exact⟨i,j,N,⟨rfl,rfl,rfl,rfl,rfl,trivial⟩,hsw,hpi,hcc,.of⟩
 obtain⟨E0,e0⟩:=zl hE; subst e0; clear hE;refine zm hJ (ze (z8 (yp (pI rfl) (yp (pI rfl) (zf (za (zL ?_)))))));exact zK (rI rfl) ⟨_,.of,i,N,rfl,hsw,hpi.done hc.wk hcc,rfl⟩
end
end Go.Xs
