/- PackActs: what stands where, plainly. -/
import Derived.Test.YtekgciopamkjlaaGreatRefQ
import Derived.Test.YtekgciopamkjlaaGreatFewS
import Derived.Test.YtekgciopamkjlaaGreatP4
namespace Go.Proofs.YtekgciopamkjlaaGreat
open Go.Xs
open Enc (enc)
theorem JU(N:Nat):∀(l:List Bs) (D:List (Option Bt)) (L:List Nm),(ZI N D L l).L.length≤L.length+l.length
 | [],_,_=>Nat.le_refl _
 | n::l,D,L=>by
  by_cases hE:wm N D L n=0
  ·rw[WS hE];have h1:=JU N l (wH D L (zk n)) (Zw D L (zk n));have h2:=j5 (D:=D) (L:=L) (n:=zk n);show(ZI N (wH D L (zk n)) (Zw D L (zk n)) l).L.length≤_;rw[List.length_cons]; omega
  ·rw[uw hE]; exact Nat.le_add_right _ _
theorem Yl:∀(ids:List Int) (L:List Nm),(drops L ids).length≤L.length
 | [],_=>Nat.le_refl _
 | i::ids,L=>by
  have h1:=Yl ids (wN L i);have h2:=Yn (L:=L) (i:=i);exact Nat.le_trans h1 h2
theorem JY{n:Nat}:∀(W:List LS),(∀z∈W,z.ids.length≤n)→(je W).length≤n*W.length
 | [],_=>Nat.zero_le _
 | z::W,h=>by
  have h1:=JY W fun y hy=>h y (List.mem_cons_of_mem _ hy)
  have h2:=h z (by simp);unfold je at h1 ⊢;rw[List.map_cons,List.flatten_cons,List.length_append,List.length_cons,Nat.mul_add]; omega
theorem XJ:∀(W:List LS) (k:Nat) (hk:k<W.length),(W.map (·.h)).Nodup→u7 W W[k].h=W.eraseIdx k
 | z::W,0,_,hn=>by
  rw[List.map_cons,List.nodup_cons] at hn;unfold u7;rw[List.getElem_cons_zero,List.filter_cons_of_neg (by simp),List.eraseIdx_cons_zero];exact List.filter_eq_self.2 fun y hy=>by
   have:y.h≠z.h:=fun e=>hn.1 (e▸List.mem_map.2 ⟨y,hy,rfl⟩)
   simpa using this
 | z::W,k+1,hk,hn=>by
  rw[List.map_cons,List.nodup_cons] at hn;have hk':k<W.length:=by simpa using hk
  have ih:=XJ W k hk' hn.2;have hne:z.h≠W[k].h:=fun e=>hn.1 (e▸List.mem_map.2 ⟨W[k],List.getElem_mem hk',rfl⟩)
  unfold u7 at ih ⊢;rw[List.getElem_cons_succ,List.filter_cons_of_pos (by simpa using hne),List.eraseIdx_cons_succ,ih]
/-- what the lists hold: the headers' blocks, the ids' slices, the sets -/
structure Tw(S2:zq)(W:List LS)(Il:List IH)(Zl:List SH):Prop where
 i:Il.map (·.l)=W.map (·.ids)
 z:Zl.map (·.s)=W.map (·.s)
 si:∀x∈Il,Src S2 x.v x.l
 sz:∀x∈Zl,Src S2 x.v x.s.rrs
 fw:∀x∈Zl,Fw x
 il:∀x∈Il,x.l.length≤82
theorem Fw.Dv{x:SH}(h:Fw x):yP x.s:=⟨by have:=h.n; omega,by have:=h.z; omega,by have:=h.r; omega,fun r hr=>by have:=h.e r hr; omega⟩
theorem Tw.nil{S2:zq}:Tw S2 [] [] []:=⟨rfl,rfl,fun x h=>by simp at h,fun x h=>by simp at h,fun x h=>by simp at h,fun x h=>by simp at h⟩
theorem Tw.lens{S2:zq}{W:List LS}{Il:List IH}{Zl:List SH}(h:Tw S2 W Il Zl):Il.length=W.length∧Zl.length=W.length:=by
 have h1:=congrArg List.length h.i;have h2:=congrArg List.length h.z;simp only[List.length_map] at h1 h2;exact⟨h1,h2⟩
theorem Tw.mono{S2 S3:zq}{W:List LS}{Il:List IH}{Zl:List SH}(h:Tw S2 W Il Zl)(hs:∀s∈S2,s∈S3):Tw S3 W Il Zl:=⟨h.i,h.z,fun x hx=>(h.si x hx).mono hs,fun x hx=>(h.sz x hx).mono hs,h.fw,h.il⟩
theorem Tw.add{S2:zq}{W:List LS}{Il:List IH}{Zl:List SH}(h:Tw S2 W Il Zl){z:LS}{x:IH}{y:SH}(hx:x.l=z.ids)(hy:y.s=z.s)(h1:Src S2 x.v x.l)(h2:Src S2 y.v y.s.rrs)(h3:Fw y)(h4:x.l.length≤82):Tw S2 (W++[z]) (Il++[x]) (Zl++[y]):=by
 refine⟨by rw[List.map_append,List.map_append,h.i,List.map_singleton,List.map_singleton,hx],by rw[List.map_append,List.map_append,h.z,List.map_singleton,List.map_singleton,hy],fun a ha=>?_,fun a ha=>?_,fun a ha=>?_,fun a ha=>?_⟩
 ·rcases List.mem_append.1 ha with ha | ha
  ·exact h.si a ha
  ·rw[List.mem_singleton.1 ha]; exact h1
 ·rcases List.mem_append.1 ha with ha | ha
  ·exact h.sz a ha
  ·rw[List.mem_singleton.1 ha]; exact h2
 ·rcases List.mem_append.1 ha with ha | ha
  ·exact h.fw a ha
  ·rw[List.mem_singleton.1 ha]; exact h3
 ·rcases List.mem_append.1 ha with ha | ha
  ·exact h.il a ha
  ·rw[List.mem_singleton.1 ha]; exact h4
theorem VO{β γ:Type}(f:β→γ)(l:List β)(k:Nat):(l.eraseIdx k).map f=(l.map f).eraseIdx k:=by
 rw[List.eraseIdx_eq_take_drop_succ,List.eraseIdx_eq_take_drop_succ,List.map_append,List.map_take,List.map_drop]
theorem Tw.out{S2:zq}{W:List LS}{Il:List IH}{Zl:List SH}(h:Tw S2 W Il Zl)(k:Nat):Tw S2 (W.eraseIdx k) (Il.eraseIdx k) (Zl.eraseIdx k):=
 ⟨by rw[VO,VO,h.i],by rw[VO,VO,h.z],fun x hx=>h.si x (List.mem_of_mem_eraseIdx hx),fun x hx=>h.sz x (List.mem_of_mem_eraseIdx hx),fun x hx=>h.fw x (List.mem_of_mem_eraseIdx hx),fun x hx=>h.il x (List.mem_of_mem_eraseIdx hx)⟩
theorem Pk.DF{D:List (Option Bt)}{L:List Nm}{Z Z':List LS}(h:Pk D L Z)(p:Z.Perm Z'):Pk D L Z':=by
 have pB:(yQ Z).Perm (yQ Z'):=p.map _;refine⟨⟨h.inn.dis,h.inn.blk,fun x hx=>h.inn.oth x (pB.mem_iff.2 hx),fun i b hb=>(h.inn.all i b hb).imp id fun⟨x,hx,h2⟩=>⟨x,pB.mem_iff.1 hx,h2⟩,h.inn.us,h.inn.fold⟩,⟨h.liv.dis,fun e he=>?_,h.liv.pos,fun i hi=>h.liv.ids i ?_⟩,?_,fun z hz=>h.ok z (p.mem_iff.2 hz)⟩
 ·rw[h.liv.us e he];exact((p.map _).flatten).count_eq _
 ·exact((p.map _).flatten).mem_iff.2 hi
 ·exact(pB.map _).nodup_iff.1 h.hs
/-- both memories, with the same sets -/
structure Gm(tb ab rt rb N:Nat)(W:List LS)(T H TR TM:List Chunk)(D D':List (Option Bt))(L:List Nm)(S1:zq):Prop where
 tb:Tb tb ab L T
 ar:Ar ab N D H
 pk:Pk D L W
 rt:Rt rt rb L TR
 rf:Rf rb N D' S1 TM
 dk:U7 N D'
 sim:VA D D'
theorem Gm.put{tb ab rt rb N:Nat}{W:List LS}{T H TR TM T' H' TR' TM':List Chunk}{D D' D2:List (Option Bt)}{L:List Nm}{S1 S1':zq}(g:Gm tb ab rt rb N W T H TR TM D D' L S1){s:St}(hE:ZL s=0)(hs:yP s)(hf:fits N D L s)
 (h1:Tb tb ab (ZI N D L (zS s)).L T') (h2:Ar ab N D2 H')
 (h3:Wo D2 (ZI N D L (zS s)).L ((((hnd (ZI N D L (zS s)).D:Nat):Int),Wn s (ZI N D L (zS s)).ids)::yQ W)) (h4:Hs ((((hnd (ZI N D L (zS s)).D:Nat):Int),Wn s (ZI N D L (zS s)).ids)::yQ W)) (h5:VA D2 (Zc (ZI N D L (zS s)).D (Zg s).toNat))
 (h6:Rt rt rb (ZI N D' L (zS s)).L TR') (h7:Rf rb N (Zc (ZI N D' L (zS s)).D (Zg s).toNat) S1' TM') (h8:U7 N (Zc (ZI N D' L (zS s)).D (Zg s).toNat)):
 Gm tb ab rt rb N (W++[⟨((hnd (ZI N D L (zS s)).D:Nat):Int),s,(ZI N D L (zS s)).ids⟩]) T' H' TR' TM' D2 (Zc (ZI N D' L (zS s)).D (Zg s).toNat) (ZI N D L (zS s)).L S1':=by
 obtain⟨a1,a2,a3,a4⟩:=kY (N:=N) (l:=zS s) (L:=L) g.sim;obtain⟨hmay,h4096⟩:=uN hE;have h16:=Xc hmay;have he:=((UJ (N:=N) (D:=D) (L:=L) hE g.ar.ok.used ⟨by omega,h4096⟩ (vM hmay)).1 hf).1;refine⟨h1,h2,?_,?_,h7,h8,h5.trans (uT a4 _)⟩
 ·refine(g.pk.put hE hs he h3 h4).DF ?_;exact(List.perm_append_singleton _ _).symm
 ·rw[a1]; exact h6
theorem Gm.nodup{tb ab rt rb N:Nat}{W:List LS}{T H TR TM:List Chunk}{D D':List (Option Bt)}{L:List Nm}{S1:zq}(g:Gm tb ab rt rb N W T H TR TM D D' L S1):(W.map (·.h)).Nodup:=by
 have:=g.pk.hs;unfold Hs yQ at this;rw[List.map_map] at this;exact this
theorem Gm.drop{tb ab rt rb N:Nat}{W:List LS}{T H TR TM T' H' TR' TM':List Chunk}{D D' D2:List (Option Bt)}{L:List Nm}{S1:zq}(g:Gm tb ab rt rb N W T H TR TM D D' L S1){k:Nat}(hk:k<W.length)
 (h1:Tb tb ab (drops L W[k].ids) T') (h2:Ar ab N D2 H') (h3:Wo D2 (drops L W[k].ids) (yT (yQ W) W[k].h)) (h5:VA D2 (wB (K8 D L W[k].ids) W[k].h))
 (h6:Rt rt rb (drops L W[k].ids) TR') (h7:Rf rb N (wB (K8 D' L W[k].ids) W[k].h) S1 TM') (h8:U7 N (wB (K8 D' L W[k].ids) W[k].h)):
 Gm tb ab rt rb N (W.eraseIdx k) T' H' TR' TM' D2 (wB (K8 D' L W[k].ids) W[k].h) (drops L W[k].ids) S1:=by
 refine⟨h1,h2,?_,h6,h7,h8,h5.trans (XE (JK g.sim) _)⟩;have:=g.pk.drop (List.getElem_mem hk) h3
 rwa [XJ W k hk g.nodup] at this
theorem Gm.used{tb ab rt rb N:Nat}{W:List LS}{T H TR TM:List Chunk}{D D':List (Option Bt)}{L:List Nm}{S1:zq}(g:Gm tb ab rt rb N W T H TR TM D D' L S1):Z8 D'=Z8 D:=(XD g.sim).symm
theorem Gm.us{tb ab rt rb N:Nat}{W:List LS}{T H TR TM:List Chunk}{D D':List (Option Bt)}{L:List Nm}{S1:zq}(g:Gm tb ab rt rb N W T H TR TM D D' L S1)(hw:W.length≤100)(hi:∀z∈W,z.ids.length≤82):∀e∈L,1≤e.u∧e.u≤8200:=fun e he=>by
 have h1:=JY (n:=82) W hi;exact⟨g.pk.pos e he,g.pk.us (k:=8200) (by omega) e he⟩
theorem Tw.ids{S2:zq}{W:List LS}{Il:List IH}{Zl:List SH}(h:Tw S2 W Il Zl):∀z∈W,z.ids.length≤82:=fun z hz=>by
 have h1:z.ids∈Il.map (·.l):=by rw[h.i]; exact List.mem_map.2 ⟨z,hz,rfl⟩
 obtain⟨x,hx,he⟩:=List.mem_map.1 h1;rw[←he]; exact h.il x hx
theorem Fw.nms{x:SH}(h:Fw x):(zS x.s).length≤82:=by
 have h1:=vK x.s;have h2:=h.r;omega
end Go.Proofs.YtekgciopamkjlaaGreat