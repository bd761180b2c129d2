/- Stores (chapter 10): Items. -/
import Derived.Test.YtejmbmenbailmaaGreatC1
import Derived.Test.YtejmbmenbailmaaGreatNml2
import Derived.Test.YtejmbmenbailmaaGreatMapsR
import Derived.Test.YtejmbmenbailmaaGreatRangeX
import Derived.Test.YtejmbmenbailmaaGreatB5
import Derived.Test.YtejmbmenbailmaaGreatFStoreI
import Derived.Test.YtejmbmenbailmaaGreatFSortK
namespace Go.Proofs.YtejmbmenbailmaaGreat
open Go.Xs
open Enc (enc)
instance:Inhabited Ky:=⟨⟨[],0⟩⟩
theorem Le:Ld (α:=Ky) (fun a=> .loadN 2 a) (fun k=> .agg (Wi k)):=⟨fun ha hm hx=> .loadN ha hm hx rfl,fun _=>rfl⟩
theorem IY:Hf Tryz.prog (fun a=> .loadN 2 a) 2 133 154 155 156 157 158 159 160 161:=
 ⟨Tryz.G6,Tryz.FE,⟨_,Tryz.FD,Tryz.EZ⟩,
  ⟨_,_,_,_,_,_,Tryz.FC,Tryz.sG,Tryz.QN,Tryz.QM,Tryz.sF⟩,
  ⟨_,_,_,_,Tryz.FB,Tryz.EY,Tryz.EX,Tryz.EI⟩,
  Tryz.Fz,Tryz.Fy,Tryz.Fx,Tryz.Fw⟩
def Lg(k:Ky):Prop:=wR k.n=true∧k.n.length<2 ^ 62
theorem MO:Cm Tryz.prog 90 #[] [] (fun k:Ky=> .agg (Wi k)) Lg oD:=⟨Ht,fun x y hx hy=>by
 refine(mM x y hx.2 hy.2 hx.1 hy.1).frame [[]] |>.perm (by simp) |>.mono ?_;rintro v S' ⟨S1,rfl,h,rfl⟩;exact⟨h,rfl⟩⟩
/-- the keys in their order -/
structure SP(S:Ss)(L:List Ky):Prop where
 p:L.Perm (keys S.I)
 s:L.Pairwise fun a b=>¬oD b a
theorem oz{v:Value}{L:List Ky}{H:List Chunk}(hL:Za 43 v L H)(hlen:L.length<2 ^ 39)(hp:∀x∈L,Lg x):
 Tri Tryz.prog 89 #[v,.func (.func 90) #[] #[]] [H,[]] (fun r S=>r= .tuple #[]∧∃L' H',L'.Perm L∧L'.Pairwise (fun a b=>¬oD b a)∧Za 43 v L' H'∧S=[H',[]]):=
 YW (ty:=43) Tryz.Lv Tryz.QN Tryz.QM IY Le rfl MO hL hlen hp
theorem Ba{S:Ss}{W:List En}{D:List (Option Bt)}{L:List Nm}(hq:Sq S W D L):∀k∈keys S.I,Lg k:=fun k hk=>by
 obtain⟨i,hi,rfl⟩:=List.mem_map.1 hk;rw[hq.kz i hi];rw[←hq.its] at hi;obtain⟨e,he,rfl⟩:=List.mem_map.1 hi;obtain⟨hE,hs,_⟩:=hq.pk.ok e.z (List.mem_map.2 ⟨e,he,rfl⟩);have hv:wR e.z.s.name=true:=xE (Vo hE).1 _ (List.mem_cons_self);have hv2:wR (zB e.z.s.name)=true:=by rw[iK hv]; unfold wR lead at hv ⊢; rw[KH,List.length_map]; exact hv
 exact⟨hv2,by have:=wM hv2; show(zB e.z.s.name).length<_; omega⟩
theorem mP{p:Option Addr}:Tri Tryz.prog 43 #[.pointer p] [] (fun r S=>∃b,r= .func (.func 88) #[] #[.pointer (some ⟨b,0,none⟩)]∧S=[[(b,.cells #[.pointer p] 63)]]):=by
 refine Tri.forget (zm Tryz.Mj (Nat.le_of_ble_eq_true rfl) ?_);unfold Tryz.ND;refine ze (z8 ?_);refine zh (bS (jf rfl) fun p1=>?_);refine yp pC (zf (za (ze (z8 (yp (aP (jf rfl)) (yp (pF rfl) (zf (za (zJ ?_)))))))));exact zI (rF rfl) ⟨_,.of,_,rfl,rfl⟩
theorem oV{W:List En}{k:Ky}{p:Ptr}(h:UL W k=some p):k∈keys (W.map (·.i)):=by
 unfold UL at h;cases hf:XF W k with
 | none=>rw[hf] at h; cases h
 | some e=>exact List.mem_map.2 ⟨e.i,List.mem_map.2 ⟨e,(xJ hf).1,rfl⟩,(xJ hf).2⟩
theorem o7{W:List En}{k:Ky}(h:k∈keys (W.map (·.i))):∃p,UL W k=some p:=by
 unfold UL;cases hf:XF W k with
 | none=>exact absurd h (iM hf)
 | some e=>exact⟨_,rfl⟩
/-- what is brought -/
def IV(S:Ss)(pre:List (Array Value))(x:Array Value)(X:zu):Prop:=
 ∃L i v HR,SP S L∧∃hl:pre.length<L.length,vE S.I L[pre.length]=some i∧x= #[.agg (bW i v)]∧Za 88 v (Zo i.s).rrs HR∧X=[HR]
theorem zD.O1{x y:List Chunk}{S G S0:zu}{sb ab tb mb lb db:Nat}{ev:Value}{HA HT HM HL HD HV:List Chunk}{W:List En}[h:Sub S (x::y::wm sb ab tb mb lb db ev::HA::HT::HM::HL::HD::HV::(Es W++S0)) G]:zD S (x::y::sH sb ab tb mb lb db ev HA HT HM HL HD HV W::S0):=zD.trans (zD.of (h:=h)) ⟨[],by simp[sH]⟩
theorem mQ{sb N ab tb mb lb db:Nat}{ev:Value}{S:Ss}{W:List En}{D:List (Option Bt)}{L:List Nm}{HA HT HM HL HD HV:List Chunk}(hP:Sp N S W D L ab tb mb lb db ev HA HT HM HL HD HV){e:En}(he:e∈W):
 Tri Tryz.prog 85 #[.pointer (some ⟨sb,0,none⟩),.pointer (some ⟨e.eb,0,none⟩)] [sH sb ab tb mb lb db ev HA HT HM HL HD HV W] (fun r S'=>∃v HR,r= .agg (bW e.i v)∧Za 88 v (Zo e.i.s).rrs HR∧S'=[HR,sH sb ab tb mb lb db ev HA HT HM HL HD HV W]):=by
 have hC:=eu (sb:=sb) (mb:=mb) (lb:=lb) (db:=db) (ev:=ev) hP.q hP.a hP.t he;obtain⟨A,B,rfl,_⟩:=WU hP.q.AZ he;refine Tri.forget (((hC.frame [HM,HL,HD,HV,(Es A).flatten++(Es B).flatten]).perm ?_).mono ?_)
 ·simp only[sH,List.flatten_cons,List.flatten_nil,Yv,List.append_nil,List.cons_append,List.nil_append];refine List.Perm.cons _ (.append_left _ (.append_left _ ?_));have:=(VO [] (HM++(HL++(HD++(HV++(Es A).flatten)))) (KP e) (Es B).flatten)
  simpa only[List.nil_append,List.cons_append,List.append_assoc] using this
 ·rintro v S2 ⟨S1,rfl,v',HR,rfl,hR,rfl⟩;refine⟨[HR,_],?_,v',HR,rfl,hR,rfl⟩;refine⟨[],?_⟩;simp only[sH,List.flatten_cons,List.flatten_nil,Yv,List.append_nil,List.cons_append,List.nil_append];refine List.Perm.append_left _ (.cons _ (.append_left _ (.append_left _ ?_)));have:=(VO [] (HM++(HL++(HD++(HV++(Es A).flatten)))) (KP e) (Es B).flatten).symm;simpa only[List.nil_append,List.cons_append,List.append_assoc] using this
set_option maxHeartbeats 2000000 in
theorem aL{sb N bp:Nat}{S:Ss}{H:List Chunk}{S0:zu}(hS:Sr sb N S H):
 sO Tryz.prog 88 #[] #[.pointer (some ⟨bp,0,none⟩)] [[(bp,.cells #[.pointer (some ⟨sb,0,none⟩)] 63)],H] S0 (IV S)
  (fun xs O=>(∃L,SP S L∧xs.length=L.length)∧∃H',Sr sb N S H'∧O=[H']) (fun _ O=>∃H',Sr sb N S H'∧O=[H']):=by
 have hnb:=hS.nb;have hkn:=hS.kn;obtain⟨W,Da,La,ab,tb,mb,lb,db,ev,HA,HT,HM,HL,HD,HV,hP,rfl⟩:=hS;have hko:=Ba hP.q;have hkW:keys (W.map (·.i))=keys S.I:=by rw[hP.q.its]
 intro l c J Jx hJ0 hround;have e0:(#[]++ #[.func (.yield l) #[] #[]]++ #[.pointer (some ⟨bp,0,none⟩)]:Array Value)= #[.func (.yield l) #[] #[],.pointer (some ⟨bp,0,none⟩)]:=rfl;rw[e0];refine Tri.forget (zm Tryz.Lx (Nat.le_of_ble_eq_true rfl) ?_);unfold Tryz.MW;refine zn (S0:=[(bp,.cells #[.pointer (some ⟨sb,0,none⟩)] 63)]::sH sb ab tb mb lb db ev HA HT HM HL HD HV W::[c]::S0) .of (zn (zD.cons zD.Hr) (ze (ze (z8 ?_))));refine zh (zx rfl rfl ?_);refine yp (ZW rfl rfl) (zf (za (zA rfl (zw (za (ze (z8 (yp pC (zf (za (ze (ze (z8 ?_)))))))))))));refine zh (zx rfl rfl ?_);refine yp (zK rfl) (yp (zo rfl) ?_);refine zh (zx rfl rfl ?_);refine zh (mh hP.m uO rfl fun ib HI hI=>?_);refine zf (za (zq ?_));refine Z6 (σ:=List Ky) (fun D E S'=>∃v HK HI,Has E [(0,.func (.yield l) #[] #[]),(1,.pointer (some ⟨bp,0,none⟩)),(14,.pointer (some ⟨ib,0,none⟩))]∧E 3=v∧D.Nodup∧(∀k∈D,k∈keys S.I)∧Za 43 v D HK∧Go.Xs.Mi mb ib (UL W) W.length D HI∧
  zD S' (HK::HI::[(bp,.cells #[.pointer (some ⟨sb,0,none⟩)] 63)]::wm sb ab tb mb lb db ev::HA::HT::HL::HD::HV::(Es W++([c]::S0)))) (fun D=>S.I.length-D.length) []
  ⟨_,[],HI,⟨rfl,rfl,rfl,trivial⟩,rfl,List.nodup_nil,(fun k hk=>by simp at hk),.nil,hI,.of⟩ fun D E S' ⟨v,HK,HI,hE,hE3,hDn,hDk,hK,hI,hJ⟩=>?_
 obtain⟨ka_,kc,rfl⟩:=hK.isSlice;have hE2:Has E [(0,.func (.yield l) #[] #[]),(1,.pointer (some ⟨bp,0,none⟩)),(14,.pointer (some ⟨ib,0,none⟩)),(3,.slice ka_ D.length kc)]:=⟨hE.1,hE.2.1,hE.2.2.1,hE3,trivial⟩
 clear hE hE3;have hDl:D.length≤S.I.length:=by
  have:=hDn.length_le_of_subset (fun k hk=>hDk k hk:D ⊆ keys S.I);unfold keys at this;rw[List.length_map] at this;exact this
 obtain⟨E0,e0⟩:=zy hE2; subst e0; clear hE2;refine zn hJ (ze (z8 ?_));refine zh (sZ hI rfl (fun hall=>?_) (fun k p HI2 hk hkD hI2=>?_))
 ·have hp:D.Perm (keys S.I):=Vk hDn hkn fun k=>⟨hDk k,fun hm=>by
   obtain⟨p,hp⟩:=o7 (W:=W) (by rw[hkW]; exact hm);exact hall k p hp⟩
  obtain⟨HM2,hM2,hJM⟩:=hI.close;refine UN (hJM _) (yp (pExt rfl rfl) (zf (za (ze (zA rfl (zW (zF (zF (zZ (za (ze (z8 (yp (pS rfl) ?_)))))))))))));refine zh (zk (oz hK (by omega) (fun x hx=>hko x (hDk x hx))) rfl rfl fun r S' h=>?_);obtain⟨rfl,L',HL',hp2,hso,hL',rfl⟩:=h;have hSP:SP S L':=⟨hp2.trans hp,hso⟩
  have hLl:L'.length=D.length:=hp2.length_eq;rw[←hLl] at*
  have hR2:=Sr.mk (sb:=sb) (⟨hP.q,hP.a,hP.t,hM2,hP.l,hP.d,hP.v⟩:Sp N S W Da La ab tb mb lb db ev HA HT HM2 HL HD HV);refine zf (za (ze (z8 (yp (pS rfl) (yp (ZB rfl) (yp pC (zf (za (zq ?_)))))))));refine Z6 (σ:=Nat) (fun i E S'=>Has E [(0,.func (.yield l) #[] #[]),(1,.pointer (some ⟨bp,0,none⟩)),(25,.slice ka_ L'.length kc),(26,.int .i64 (L'.length:Nat)),(27,.int .i64 (i:Int))]∧i≤L'.length∧∃pre T,pre.length=i∧J pre T∧
   zD S' (HL'::[(bp,.cells #[.pointer (some ⟨sb,0,none⟩)] 63)]::sH sb ab tb mb lb db ev HA HT HM2 HL HD HV W::T)) (fun i=>L'.length-i) 0
   ⟨⟨rfl,rfl,rfl,rfl,rfl,trivial⟩,Nat.zero_le _,[],_,rfl,hJ0,zD.O1 (S0:=[c]::S0)⟩ fun i E S' ⟨hE,hi,pre,T,hpl,hJ,hJK⟩=>?_
  obtain⟨E0,e0⟩:=zy hE; subst e0; clear hE;refine zn hJK (ze (z8 (yp (ZO rfl rfl) (zf (za (ze ?_))))));refine zQ rfl (fun h=>?_) (fun h=>?_)
  ·have hlt:i<L'.length:=by omega
   have hlp:pre.length<L'.length:=by omega
   obtain⟨bb,spp,fz,hz,rfl,_,rfl,rfl⟩:=hL'.at' (by intro h; rw[h] at hlt; simp at hlt);have hrow:((cells (L'++spp)).toArray.toList.drop (0+i*2)).take 2=enc L'[pre.length]:=by
    have:L'[pre.length]=L'[i]:=by congr 1
    rw[this];exact wU hlt rfl
   have hkm:=hSP.p.mem_iff.1 (List.getElem_mem hlp);obtain⟨e,hf,he,hb,hfr⟩:=XY hP.q hkm;have hIV:=fun v HR (hv:Za 88 v (Zo e.i.s).rrs HR)=>hround pre #[.agg (bW e.i v)] [HR] T ⟨L',e.i,v,HR,hSP,hlp,hb,rfl,hv,rfl⟩ hJ
   have hC:=mQ (sb:=sb) (⟨hP.q,hP.a,hP.t,hM2,hP.l,hP.d,hP.v⟩:Sp N S W Da La ab tb mb lb db ev HA HT HM2 HL HD HV) he;generalize L'[pre.length]=k at*
   refine zw (za (ze (zq (ze (z8 (yp (zT rfl rfl (by omega)) ?_))))));refine zh (wB (l:=enc k) rfl hrow rfl ?_);refine zh (Z9 fun p6=>?_);refine zh (vR rfl rfl rfl rfl rfl ?_);refine zf (za (zn (S0:=[(p6,.cells (Wi k) 43)]::[(bp,.cells #[.pointer (some ⟨sb,0,none⟩)] 63)]::sH sb ab tb mb lb db ev HA HT HM2 HL HD HV W::([(bb,.cells (cells (L'++spp)).toArray 43 fz)]::T)) .of (zn (zD.cons (zD.cons zD.Hr)) (ze (zX (zV rfl rfl (zi (zK rfl) (zi (zo rfl) (zV rfl rfl (WA rfl rfl ?_))))))))));refine zO (Vf hM2 (by repeat (first | exact List.mem_cons_self | apply List.mem_cons_of_mem)) k uO lV pX rfl rfl (kM hf) ?_) zN;refine zi (pP rfl) (zL (za (zn (S0:=[(p6,.cells (Wi k) 43)]::[(bp,.cells #[.pointer (some ⟨sb,0,none⟩)] 63)]::sH sb ab tb mb lb db ev HA HT HM2 HL HD HV W::([(bb,.cells (cells (L'++spp)).toArray 43 fz)]::T)) zD.O1 (ze (z8 (yp (pP rfl) (yp (yL rfl rfl) (yp (pB rfl) (Z5 rfl (Zd (pF rfl) (Z5 rfl ?_)))))))))));refine(zx rfl rfl ?_);refine Z5 rfl (Zd (pP rfl) (Z5 rfl ?_));refine zk hC rfl rfl fun r S' h=>?_
   obtain⟨v,HR,rfl,hR,rfl⟩:=h;obtain⟨va,vc,rfl⟩:=hR.isSlice;refine Z5 rfl ?_;refine UM (hIV _ HR hR) rfl rfl fun b T' h=>?_
   rcases h with⟨rfl,hJ'⟩ | ⟨rfl,hJx⟩
   ·refine Z5 rfl (Zd (Zi rfl) (yp (zP rfl rfl) (zf (za (zA rfl (zw (zS (za (z8 (yp (Zg rfl rfl (by omega)) (yp (pI rfl) (zf (za ?_)))))))))))));exact⟨i+1,⟨⟨rfl,rfl,rfl,rfl,rfl,trivial⟩,by omega,_,T',by rw[List.length_append,hpl]; rfl,hJ',.of⟩,by omega⟩
   ·refine Z5 rfl (Zd (Zi rfl) (yp (zP rfl rfl) (zf (za (zH rfl (zJ (bret (zU (zU (bret ?_))))))))));exact zI ZX ⟨[sH sb ab tb mb lb db ev HA HT HM2 HL HD HV W]++T',.of,.inr ⟨_,[sH sb ab tb mb lb db ev HA HT HM2 HL HD HV W],T',rfl,⟨_,hR2,rfl⟩,hJx⟩⟩
  ·refine zW (zF (zF (zZ ?_)));refine ZQ ZX ⟨[sH sb ab tb mb lb db ev HA HT HM2 HL HD HV W]++T,.of,.inl ⟨pre,[sH sb ab tb mb lb db ev HA HT HM2 HL HD HV W],T,rfl,⟨⟨L',hSP,by omega⟩,_,hR2,rfl⟩,hJ⟩⟩
 ·have hkm:k∈keys S.I:=by rw[←hkW]; exact oV hk
  refine yp (pExt rfl rfl) (zf (za (ze (zH rfl (zw (za (zq (ze (z8 ?_)))))))));refine zh (mo hI2 (by repeat (first | exact List.mem_cons_self | apply List.mem_cons_of_mem)) hk rfl ?_);refine yp (pExt rfl rfl) ?_;refine zh (Z9 fun p4=>?_);refine zh (vR rfl rfl rfl rfl rfl ?_);refine zf (za (z8 (yp (pS rfl) ?_)));refine zh (Zx rfl rfl ?_);refine zh (wL k rfl rfl (by decide) (by decide) rfl fun p21=>?_);refine zh (Vr (Y:=[k]) rfl rfl hK (.lit (by repeat (first | exact List.mem_cons_self | apply List.mem_cons_of_mem)) rfl) rfl (⟨[],0⟩:Ky) rfl (by rw[List.length_singleton]; omega) (by rw[List.length_singleton]; omega) fun v2 H2 hK2=>?_);obtain⟨a2,c2,rfl⟩:=hK2.isSlice;refine yp (pS rfl) (zf (zS (za ?_)));have hn2:(D++[k]).Nodup:=List.nodup_append.2 ⟨hDn,by simp,fun a ha b hb q=>by simp at hb; exact hkD (by rw[←hb, ←q]; exact ha)⟩;have hk2:∀x∈D++[k],x∈keys S.I:=fun x hx=>by
   rcases List.mem_append.1 hx with hx | hx
   ·exact hDk x hx
   ·rw[List.mem_singleton.1 hx]; exact hkm
  have hl2:=hn2.length_le_of_subset (fun x hx=>hk2 x hx:D++[k] ⊆ keys S.I);unfold keys at hl2;rw[List.length_map,List.length_append,List.length_singleton] at hl2;exact⟨D++[k],⟨_,H2,HI2,⟨rfl,rfl,rfl,trivial⟩,rfl,hn2,hk2,hK2,hI2,.of⟩,by rw[List.length_append,List.length_singleton]; omega⟩
end Go.Proofs.YtejmbmenbailmaaGreat