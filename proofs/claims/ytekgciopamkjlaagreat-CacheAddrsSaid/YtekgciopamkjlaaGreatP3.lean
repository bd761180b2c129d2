/- Sets in blocks (chapter 8): what reads a set's bytes. Sets in blocks (chapter 8): a record's data is read. Sets in blocks (chapter 8): a set is read. Sets in blocks (chapter 8): Get, Drop. Sets in blocks (chapter 8): Put. -/
import Derived.Test.YtekgciopamkjlaaGreatP2
namespace Go.Proofs.YtekgciopamkjlaaGreat
open Go.Xs
open Enc (enc)
theorem K7{α:Type}[Enc α]{S:zB}{a:Option Addr}{c:Nat}{Y:List α}(h:Src S (.slice a Y.length c) Y){n:Nat}(hn:n≤Y.length):Src S (.slice a n c) (Y.take n):=by
 generalize hv:Value.slice a Y.length c=v at h;cases h with
 | nil=>
  simp only[Value.slice.injEq] at hv;have:n=0:=by simpa using hn
  subst this;rw[List.take_zero]; exact .nil
 | @part b o cap ca ty fz Y hm hc=>
  simp only[Value.slice.injEq] at hv;obtain⟨rfl,_,rfl⟩:=hv;have hl:(Y.take n).length=n:=by rw[List.length_take]; omega
  have:=Src.part (S:=S) (b:=b) (o:=o) (cap:=c) (c:=ca) (ty:=ty) (fz:=fz) (Y:=Y.take n) hm (by
   have h1:=congrArg (fun l=>l.take (n*Enc.k α)) hc;simp only[WA,List.take_take] at h1;rw[hl, ←h1,Nat.min_eq_left (Nat.mul_le_mul_right _ hn)])
  rwa [hl] at this
theorem nJ{α:Type}[Enc α]{S:zB}{a:Option Addr}{c kk:Nat}{Y:List α}(h:Src S (.slice a Y.length c) Y)(hkk:Enc.k α=kk)(hc:Y.length≤c){n:Nat}(hn:n≤Y.length):
 ∃a2,(∀(E:Env) (q:IntKind) (x y:Operand),ev E x= .slice a Y.length c→ev E y= .int q (n:Int)→zu (ev E) (.slc kk x (some y) none none)=some (.slice a2 (Y.length-n) (c-n)))∧Src S (.slice a2 (Y.length-n) (c-n)) (Y.drop n):=by
 subst hkk;generalize hv:Value.slice a Y.length c=v at h;cases h with
 | nil=>
  simp only[Value.slice.injEq] at hv;obtain⟨rfl,_,rfl⟩:=hv;have h0:n=0:=by simpa using hn
  subst h0;refine⟨if c=0 then a else a.map (·.add (0*Enc.k α)),fun E q x y hx hy=>?_,.nil⟩;simp[zu,hx,Vp,hy,Jy,bnd,Ug]
 | @part b o cap ca ty fz Y hm hcell=>
  simp only[Value.slice.injEq] at hv;obtain⟨rfl,_,rfl⟩:=hv;refine⟨_,fun E q x y hx hy=>XC hx hy hn,?_⟩;have hl:(Y.drop n).length=Y.length-n:=List.length_drop;by_cases h0:Y.length-n=0
  ·have:Y.drop n=[]:=List.length_eq_zero_iff.1 (by omega);rw[h0,this]; exact .nil
  have hne:¬c=n:=by omega
  have:=Src.part (S:=S) (b:=b) (o:=o+n*Enc.k α) (cap:=c-n) (c:=ca) (ty:=ty) (fz:=fz) (Y:=Y.drop n) hm (by
   rw[←List.drop_drop];have h1:=congrArg (fun l=>l.drop (n*Enc.k α)) hcell;simp only[wZ] at h1;rw[hl, ←h1,List.drop_take,Nat.sub_mul])
  rw[hl] at this;rw[if_neg hne]; exact this
/-! ### numbers -/
def KD:Bs→Nat
 | []=>0
 | b::l=>b.toNat+256*KD l
theorem qj:∀(X:Bs),KD X<2 ^ (8*X.length)
 | []=>by decide
 | b::l=>by
  have h1:=qj l;have h2:=b.toNat_lt;have h3:2 ^ (8*(l.length+1))=256*2 ^ (8*l.length):=by rw[show 8*(l.length+1)=8+8*l.length from by omega,Nat.pow_add]
  show b.toNat+256*KD l<2 ^ (8*(l.length+1));omega
theorem jX:∀(X:Bs) (b:UInt8),KD (X++[b])=KD X+b.toNat*2 ^ (8*X.length)
 | [],b=>by show b.toNat+256*0=0+b.toNat*2 ^ 0; omega
 | x::l,b=>by
  have h1:=jX l b;have h3:2 ^ (8*(l.length+1))=256*2 ^ (8*l.length):=by rw[show 8*(l.length+1)=8+8*l.length from by omega,Nat.pow_add]
  show x.toNat+256*KD (l++[b])=x.toNat+256*KD l+b.toNat*2 ^ (8*(l.length+1));rw[h1,h3,Nat.mul_add, ←Nat.mul_assoc,Nat.mul_comm 256 b.toNat,Nat.mul_assoc,Nat.add_assoc, ←Nat.mul_assoc b.toNat]
theorem XE:∀(k n:Nat),KD (Ue k n)=n%256 ^ k
 | 0,n=>by show 0=n%1; omega
 | k+1,n=>by
  have h1:=XE k (n/256);have h2:(UInt8.ofNat (n%256)).toNat=n%256:=by simp
  show(UInt8.ofNat (n%256)).toNat+256*KD (Ue k (n/256))=n%256 ^ (k+1);rw[h1,h2,Nat.pow_succ,Nat.mul_comm (256 ^ k),Nat.mod_mul]
abbrev VD(x tb:Nat)(bv iv:Value):List Chunk:=[(x,.cells #[.pointer (some ⟨tb,0,none⟩),bv,iv,.bool false] 175)]
theorem Ki{x tb:Nat}{iv:Value}{S0:zB}{a:Option Addr}{c:Nat}{Y:Bs}(h:Src S0 (.slice a Y.length c) Y)(hc:Y.length≤c){n:Nat}(hn:n≤Y.length):
 Tri Tryz.prog 150 #[.pointer (some ⟨x,0,none⟩),.int .i64 (n:Int)] [VD x tb (.slice a Y.length c) iv] (fun r S=>r= .slice a n c∧∃a2,Src S0 (.slice a2 (Y.length-n) (c-n)) (Y.drop n)∧S=[VD x tb (.slice a2 (Y.length-n) (c-n)) iv]):=by
 refine Tri.forget (zn Tryz.GL (Nat.le_of_ble_eq_true rfl) ?_);unfold Tryz.x150;obtain⟨a2,hp,hs2⟩:=nJ h (kk:=1) rfl hc hn;refine ze (z8 (yp pC (zf (za (ze (ze (z8 (yp (pP rfl) (yp (pP rfl) (yp (zS rfl) (yp (zx rfl) ?_)))))))))));refine zh (zF rfl rfl ?_);refine yp (pB rfl) (Z0 rfl (Zc (pI rfl) (Z0 rfl (Zc (pP rfl) (Z0 rfl (Zc (zS rfl) (Z0 rfl (Zc (zx rfl) (Z0 rfl ?_)))))))));refine(zF rfl rfl ?_);refine Z0 rfl (Zc (Zz rfl) (Z0 rfl (Zc (VE rfl rfl) (yp (zU rfl rfl) (yp (zS rfl) (yp (zx rfl) ?_))))));refine zh (XP rfl rfl (CO rfl) ?_);refine zf (za (ze (z8 (yp (pP rfl) (yp (zS rfl) (yp (zx rfl) ?_))))));refine zh (zF rfl rfl ?_);refine zf (za ?_);rw[decide_eq_false (show ¬((Y.length:Nat):Int)<(n:Int) from by omega)];refine zw rfl (zq (za (ze (z8 (yp (pP rfl) (yp (zS rfl) (yp (zx rfl) ?_)))))));refine zh (zF rfl rfl ?_);refine yp (pI rfl) (yp (QB (j:=n) rfl rfl (by omega)) (yp (pS rfl) (zf (za (ze (z8 (yp (pP rfl) (yp (pP rfl) (yp (zS rfl) (yp (zx rfl) ?_))))))))));refine zh (zF rfl rfl ?_);refine yp (pI rfl) (yp (hp _ _ _ _ rfl rfl) (yp (zS rfl) (yp (zx rfl) ?_)));refine zh (dx rfl rfl (Ke rfl) ?_);refine zf (za (ze (z8 (yp (pS rfl) (yp (pS rfl) (zf (za (zL ?_))))))));exact zK (rS rfl) ⟨_,.of,rfl,a2,hs2,rfl⟩
set_option maxRecDepth 10000 in
theorem yc{x tb:Nat}{iv:Value}{S0:zB}{a:Option Addr}{c:Nat}{Y:Bs}(h:Src S0 (.slice a Y.length c) Y)(hc:Y.length≤c){n:Nat}(hn:n≤Y.length)(hn4:n≤4):
 Tri Tryz.prog 116 #[.pointer (some ⟨x,0,none⟩),.int .i64 (n:Int)] (VD x tb (.slice a Y.length c) iv::S0) (fun r S=>r= .int .i64 (KD (Y.take n):Nat)∧∃a2,Src S0 (.slice a2 (Y.length-n) (c-n)) (Y.drop n)∧S=VD x tb (.slice a2 (Y.length-n) (c-n)) iv::S0):=by
 refine Tri.forget (zn Tryz.I8 (Nat.le_of_ble_eq_true rfl) ?_);unfold Tryz.E9;have hst:=K7 h hn;have htl:(Y.take n).length=n:=by rw[List.length_take]; omega
 replace hst:Src S0 (.slice a (Y.take n).length c) (Y.take n):=by rw[htl]; exact hst
 refine ze (z8 (yp pC (zf (za (ze (ze (z8 (yp (pP rfl) (yp (pI rfl) ?_)))))))));refine zh (zk (Ki (x:=x) (tb:=tb) (iv:=iv) h hc hn) rfl rfl fun r S' h=>?_);obtain⟨rfl,a2,hs2,rfl⟩:=h;generalize Y.take n=X at hst htl;refine yp (Zz rfl) (yp pC (zf (za (zo ?_))));refine Z4 (σ:=Nat) (fun i E S=>Has E [(4,.int .i64 (KD (X.take i):Nat)),(9,.slice a n c),(10,.int .i64 (n:Int)),(11,.int .i64 (i:Int))]∧i≤n∧zG S (VD x tb (.slice a2 (Y.length-n) (c-n)) iv::S0)) (fun i=>n-i) 0
  ⟨⟨rfl,rfl,rfl,rfl,trivial⟩,Nat.zero_le _,.of⟩ fun i E S ⟨hE,hi,hJ⟩=>?_
 obtain⟨E0,e0⟩:=zl hE; subst e0; clear hE;refine zm hJ (ze (z8 (yp (ZL rfl rfl) (zf (za (ze ?_))))));refine zO rfl (fun hlt=>?_) (fun hlt=>?_)
 ·have hin:i<X.length:=by omega
  obtain⟨b,o,ca,ty,fz,rfl,hmem,_,hg⟩:=jE hst hin;have hg:=hg 0 (by decide);have hsn:=jX (X.take i) X[i];have hlt2:=qj (X.take i);have htk:X.take (i+1)=X.take i++[X[i]]:=List.take_succ_eq_append_getElem hin;rw[←htk] at hsn;have hti:(X.take i).length=i:=by rw[List.length_take]; omega
  rw[hti] at hsn hlt2;have hld:ca.toList[o+i*1+0]?=some (.int .u8 (X[i].toNat:Int)):=hg;have hb:=X[i].toNat_lt;generalize X[i]=y at hld hsn hb;have h64:2 ^ (8*(i+1))≤2 ^ 32:=Nat.pow_le_pow_right (by decide) (by omega);have hall:=qj (X.take (i+1));rw[show(X.take (i+1)).length=i+1 from by rw[List.length_take]; omega] at hall;have hor:=gW (b:=y.toNat) hlt2;have hpos:0<2 ^ (8*i):=Nat.pow_pos (by decide);generalize KD (X.take i)=V at*
  refine zq (za (ze (zo (ze (z8 (yp (pI rfl) (yp (zN rfl rfl (by omega)) ?_)))))));refine zh (XR (List.mem_cons_of_mem _ hmem) rfl hld ?_);refine yp (pI rfl) (yp (pI rfl) (zf (za (z8 (yp (pI rfl) (yp (pI rfl) (yp (jS rfl) (yp (pI rfl) (yp (Vh (j:=8) (k:=i) rfl rfl (by omega)) (yp (sJ rfl rfl (by omega) (by omega)) (yp (gP rfl rfl (by rw[hor]; omega) (by omega) (by omega)) ?_)))))))))));rw[hor, ←hsn];refine yp (pI rfl) (zf (zT (za (z8 (yp (Za rfl rfl (by omega)) (yp (pI rfl) (zf (za ?_))))))));exact⟨i+1,⟨⟨rfl,rfl,rfl,rfl,trivial⟩,by omega,.of⟩,by omega⟩
 ·have hxi:X.take i=X:=List.take_of_length_le (by omega);rw[hxi];refine zV (zy (zy (zW (za (ze (z8 (yp (pI rfl) (yp (pI rfl) (zf (za (zL ?_)))))))))));exact zK (rI rfl) ⟨_,.of,rfl,a2,hs2,rfl⟩
set_option maxRecDepth 10000 in
theorem fP{x tb ab N:Nat}{D:List (Option Bt)}{H:List Chunk}{L:List Nm}{B:List (Int × Bs)}{T:List Chunk}(hT:Tb tb ab L T)(hA:Ar ab N D H)(hI:vC D L B){S0:zB}{a:Option Addr}{c:Nat}{Y:Bs}(h:Src S0 (.slice a Y.length c) Y)(hc:Y.length≤c)(h4:4≤Y.length)
 {iv:Value} {ids:List Int} {Hi:List Chunk} (hi:Zf 3 iv ids Hi) (hil:ids.length<2 ^ 30) {e:Nm} (he:Yd L (KD (Y.take 4):Nat)=some e):
 Tri Tryz.prog 115 #[.pointer (some ⟨x,0,none⟩)] (VD x tb (.slice a Y.length c) iv::Hi::T::H::S0)
  (fun r S=>r=sv e.n∧∃a2 v2 Hi2,Src S0 (.slice a2 (Y.length-4) (c-4)) (Y.drop 4)∧Zf 3 v2 (ids++[((KD (Y.take 4):Nat):Int)]) Hi2∧S=VD x tb (.slice a2 (Y.length-4) (c-4)) v2::Hi2::T::H::S0):=by
 refine Tri.forget (zn Tryz.I9 (Nat.le_of_ble_eq_true rfl) ?_);unfold Tryz.x115;obtain⟨ia,ic,rfl⟩:=hi.isSlice;refine ze (z8 (yp pC (zf (za (ze (z8 (yp (pP rfl) ?_)))))));refine zh (zk (yc (x:=x) (tb:=tb) (iv:= .slice ia ids.length ic) h hc (n:=4) h4 (by decide)) rfl rfl fun r S' h=>?_);obtain⟨rfl,a2,hs2,rfl⟩:=h;generalize KD (Y.take 4)=i at he;refine yp (pI rfl) (zf (za (ze (z8 (yp (pP rfl) (yp (zS rfl) (yp (zx rfl) ?_)))))));refine zh (zF rfl rfl ?_);refine yp (pI rfl) ?_;refine zh (zk (JG hT hA hI (i:Int)) rfl rfl fun r S' h=>?_);obtain⟨rfl,rfl⟩:=h;rw[he];show YL _ _ _ _ _ (Zk _ (.tuple #[sv e.n,.bool true]) _) _;refine yp (pU rfl) (yp (pExt rfl rfl) (yp (pExt rfl rfl) (yp (pT rfl) (yp (pB rfl) (zf (za (ze (z8 (yp (pP rfl) (yp (pP rfl) (yp (zS rfl) (yp (zx rfl) ?_))))))))))));refine zh (zF rfl rfl ?_);refine yp (pB rfl) (Z0 rfl (Zc (pB rfl) (Z0 rfl (Zc (Ze rfl) (yp (zU rfl rfl) (yp (zS rfl) (yp (zx rfl) ?_)))))));refine zh (XP rfl rfl (CO rfl) ?_);refine zf (za (ze (z8 (yp (pP rfl) (yp (pP rfl) (yp (zS rfl) (yp (zx rfl) ?_)))))));refine zh (zF rfl rfl ?_);refine yp (pI rfl) ?_;refine zh (Ve (i:Int) rfl rfl (by decide) (by decide) rfl fun p34=>?_);refine zh (VL (Y:=[(i:Int)]) rfl rfl hi (.lit (by repeat (first | exact List.mem_cons_self | apply List.mem_cons_of_mem)) rfl) rfl (0:Int) rfl (by rw[List.length_singleton]; omega) (by rw[List.length_singleton]; omega) fun v2 H2 hL2=>?_);obtain⟨la2,lc2,rfl⟩:=hL2.isSlice;refine yp (zS rfl) (yp (zx rfl) ?_);refine zh (XQ rfl rfl (Ke rfl) ?_);refine zf (za (ze (z8 (yp (pT rfl) (yp (pT rfl) (zf (za (zL ?_))))))));rw[show(!true)=false from rfl,List.append_nil];exact zK (res1 rfl) ⟨_,.of,rfl,a2,_,H2,hs2,hL2,rfl⟩
theorem Al.len{L:List Nm}:∀{ids:List Int} {ns:List Bs},Al L ids ns→ids.length=ns.length
 | _,_,.nil=>rfl
 | _,_,.cons _ t=>by rw[List.length_cons,List.length_cons,t.len]
theorem Al.drop{L:List Nm}:∀{ids:List Int} {ns:List Bs} (k:Nat),Al L ids ns→Al L (ids.drop k) (ns.drop k)
 | _,_,0,h=>h
 | _,_,_+1,.nil=> .nil
 | _,_,k+1,.cons _ t=>t.drop k
theorem Al.take{L:List Nm}:∀{ids:List Int} {ns:List Bs} (k:Nat),Al L ids ns→Al L (ids.take k) (ns.take k)
 | _,_,0,_=> .nil
 | _,_,_+1,.nil=> .nil
 | _,_,k+1,.cons h t=> .cons h (t.take k)
theorem Al.at{L:List Nm}:∀{ids:List Int} {ns:List Bs} {k:Nat} {i:Int} {n:Bs},Al L ids ns→ids[k]?=some i→ns[k]?=some n→∃e∈L,e.id=i∧e.n=n
 | _,_,0,i,n,.cons h t,h1,h2=>by
  obtain rfl:=Option.some.inj h1;obtain rfl:=Option.some.inj h2;exact h
 | _,_,k+1,i,n,.cons h t,h1,h2=>t.at (k:=k) (by simpa using h1) (by simpa using h2)
theorem lM{L:List Nm}(hd:xL L){e:Nm}(he:e∈L):Yd L e.id=some e:=by
 obtain⟨j,hj⟩:=List.mem_iff_getElem?.1 he;unfold Yd;rw[QK hd.ids hj]; exact hj
theorem iJ{ab N:Nat}{D:List (Option Bt)}{H:List Chunk}{L:List Nm}{B:List (Int × Bs)}(hA:Ar ab N D H)(hI:vC D L B){e:Nm}(he:e∈L):1≤e.id∧e.id≤65536:=by
 obtain⟨j,hj,hjd⟩:=u6 (hI.blk e he);have h1:=(List.getElem?_eq_some_iff.1 hjd).1;have h2:=hA.ok.len;have h3:=hA.ok.big;omega
theorem QX{i:Int}(h0:0≤i)(h1:i≤65536):((KD (Uf i):Nat):Int)=i:=by
 unfold Uf;rw[XE,Nat.mod_eq_of_lt (by omega)]; omega
set_option maxRecDepth 10000 in
set_option maxHeartbeats 1000000 in
theorem AX{x tb ab N:Nat}{D:List (Option Bt)}{H:List Chunk}{L:List Nm}{B:List (Int × Bs)}{T:List Chunk}(hT:Tb tb ab L T)(hA:Ar ab N D H)(hI:vC D L B){S0:zB}{a:Option Addr}{c:Nat}{Y Y':Bs}(h:Src S0 (.slice a Y.length c) Y)(hc:Y.length≤c)
 {iv:Value} {ids ids':List Int} {Hi:List Chunk} (hi:Zf 3 iv ids Hi) (hil:ids.length<2 ^ 20) {r:RR} (hok:Zo r.t r.d=true) (hal:Al L ids' ((Zw r).map zC)) (hY:Y=Ue 2 (vg r ids').length++(vg r ids'++Y')) (hYl:Y.length≤4096):
 Tri Tryz.prog 117 #[.pointer (some ⟨x,0,none⟩),.int .i64 r.t] (VD x tb (.slice a Y.length c) iv::Hi::T::H::S0)
  (fun v S=>v=sv (Wm r.t r.d)∧∃a2 c2 v2 Hi2,Src S0 (.slice a2 Y'.length c2) Y'∧Y'.length≤c2∧Zf 3 v2 (ids++ids') Hi2∧S=VD x tb (.slice a2 Y'.length c2) v2::Hi2::T::H::S0):=by
 refine Tri.forget (zn Tryz.I7 (Nat.le_of_ble_eq_true rfl) ?_);unfold Tryz.E8;obtain⟨ia,ic,rfl⟩:=hi.isSlice;generalize hX:vg r ids'=X at hY;have hlen:Y.length=2+(X.length+Y'.length):=by rw[hY,List.length_append,ZC,List.length_append]
 have ht2:KD (Y.take 2)=X.length:=by
  rw[hY,List.take_append_of_le_length (by rw[ZC]; exact Nat.le_refl _),List.take_of_length_le (by rw[ZC]; exact Nat.le_refl _),XE,Nat.mod_eq_of_lt (by omega)]
 have hd2:Y.drop 2=X++Y':=by
  rw[hY];have:=List.drop_left (l₁:=Ue 2 X.length) (l₂:=X++Y')
  rwa [ZC] at this
 refine ze (z8 (yp pC (zf (za (ze (z8 (yp (pP rfl) (yp (pP rfl) ?_))))))));refine zh (zk (yc (x:=x) (tb:=tb) (iv:= .slice ia ids.length ic) h hc (n:=2) (by omega) (by decide)) rfl rfl fun r' S' h=>?_);obtain⟨rfl,a2,hs2,rfl⟩:=h;rw[ht2];have hl2:Y.length-2=(X++Y').length:=by rw[List.length_append]; omega
 rw[hd2,hl2] at hs2;rw[hl2];refine zh (zk (Ki (x:=x) (tb:=tb) (iv:= .slice ia ids.length ic) hs2 (by rw[←hl2]; omega) (n:=X.length) (by rw[List.length_append]; omega)) rfl rfl fun r' S' h=>?_);obtain⟨rfl,a3,hs3,rfl⟩:=h;rw[List.drop_left,show(X++Y').length-X.length=Y'.length from by rw[List.length_append]; omega] at hs3;rw[show(X++Y').length-X.length=Y'.length from by rw[List.length_append]; omega];have hsX:=K7 hs2 (n:=X.length) (by rw[List.length_append]; omega);rw[List.take_left] at hsX;have hc3:Y'.length≤c-2-X.length:=by omega
 have hcX:X.length≤c-2:=by omega
 refine yp (pS rfl) (zf (za (ze (z8 (yp (pI rfl) ?_)))));refine zh (zk (Qs r.t) rfl rfl fun r' S' h=>?_);obtain⟨rfl,rfl⟩:=h;unfold nP;cases hsh:wo r.t with
 | none=>
  have hp:prt r.t r.d=[]:=VP hsh;have hids:ids'=[]:=by
   have:=hal.len;unfold Zw at this;rw[hp] at this;exact List.length_eq_zero_iff.1 this
  have hXd:X=r.d:=by rw[←hX]; exact kC hsh ids'
  simp only;refine yp (pU rfl) (yp (pExt rfl rfl) (yp (pExt rfl rfl) (yp (pExt rfl rfl) (yp (pExt rfl rfl) (yp (pI rfl) (yp (pI rfl) (yp (pI rfl) (yp (pB rfl) (zf (za (ze (ze (z8 (yp (pB rfl) (yp (Ze rfl) (zf (za (zI rfl (ze (z8 (yp (pS rfl) ?_)))))))))))))))))))));refine zh (aM (Y:=X) rfl (hsX.mono fun s hs=>by simp[hs]) ?_);refine yp (pT rfl) (zf (za (zL (zX ?_))));exact zK (v:=sv X) (res1 rfl) ⟨_,.of,by rw[hXd,yJ hsh],a3,_,_,Hi,hs3,hc3,by rw[hids,List.append_nil]; exact hi,rfl⟩
 | some sh=>
  obtain⟨P,xs,Z,hf,hcut⟩:=KJ hok hsh;have hd1000:=wX hok;have hshe:=hf.shape;have hle:=xV hshe;rw[hsh] at hshe;obtain rfl:=Option.some.inj hshe;have hnr:Zw r=xs:=hcut;have hxl:ids'.length=xs.length:=by rw[hal.len,hnr,List.length_map]
  rw[kD hf hd1000 hxl] at hX;rw[hnr] at hal;have hPl:P.length≤X.length:=by rw[←hX,List.length_append,List.length_append]; omega
  simp only;refine XT (S0:=VD x tb (.slice a3 Y'.length (c-2-X.length)) (.slice ia ids.length ic)::Hi::T::H::S0) .of (yp (pU rfl) (yp (pExt rfl rfl) (yp (pExt rfl rfl) (yp (pExt rfl rfl) (yp (pExt rfl rfl) (yp (pI rfl) (yp (pI rfl) (yp (pI rfl) (yp (pB rfl) (zf (za (ze (ze (z8 (yp (pB rfl) (yp (Ze rfl) (zf (za (zw rfl (zq (za (ze (zY (zi (pP rfl) (zi (zS rfl) (zi (zx rfl) (Zd rfl rfl (zi (pS rfl) (zi (pP rfl) (zi (zS rfl) (zi (zx rfl) (Zd rfl rfl (zi (v:= .agg #[.pointer (some ⟨tb,0,none⟩),.slice a2 X.length (c-2),.slice none 0 0,.bool false]) rfl ?_)))))))))))))))))))))))))))))))));refine zH (Zv (c:=[.pointer (some ⟨tb,0,none⟩),.slice a2 X.length (c-2),.slice none 0 0,.bool false]) rfl fun p37=>?_) zM;refine zi (pP rfl) (zD (za (ze (z8 (yp (pP rfl) (yp (pI rfl) ?_))))));refine zh (zk (Ki (x:=p37) (tb:=tb) (iv:= .slice none 0 0) hsX hcX (n:=P.length) hPl) rfl rfl fun r' S' h=>?_);obtain⟨rfl,a4,hs4,rfl⟩:=h;have hsP:=K7 hsX hPl;have hXP:X.take P.length=P:=by rw[←hX,List.append_assoc,List.take_left]
  have hXd:X.drop P.length=(ids'.map Uf).flatten++Z:=by rw[←hX,List.append_assoc,List.drop_left]
  have hl4:X.length-P.length=((ids'.map Uf).flatten++Z).length:=by rw[←hXd,List.length_drop]
  rw[hXP] at hsP;rw[hXd,hl4] at hs4;rw[hl4];have hc4:((ids'.map Uf).flatten++Z).length≤c-2-P.length:=by omega
  refine zh (aM (Y:=P) rfl (hsP.mono fun s hs=>by simp[hs]) ?_);refine yp (pT rfl) (zf (za (ze (ze (z8 (yp (pI rfl) (yp pC (zf (za (zo ?_))))))))));refine Z4 (σ:=Nat) (fun i E S=>∃(a5:Option Addr) (c5:Nat) (v5:Value) (Hi5:List Chunk) (Yr:Bs),Has E [(0,.pointer (some ⟨x,0,none⟩)),(10,.pointer (some ⟨p37,0,none⟩)),(11,sv (P++((xs.take i).map zC).flatten)),(42,.int .i64 (xs.length:Int)),(43,.int .i64 (i:Int))]∧i≤xs.length∧Src S0 (.slice a5 Yr.length c5) Yr∧Yr.length≤c5∧Yr=((ids'.drop i).map Uf).flatten++Z∧Zf 3 v5 (ids'.take i) Hi5∧
   zG S (VD p37 tb (.slice a5 Yr.length c5) v5::Hi5::VD x tb (.slice a3 Y'.length (c-2-X.length)) (.slice ia ids.length ic)::Hi::T::H::S0)) (fun i=>xs.length-i) 0
   ⟨a4,_,_,[],_,⟨rfl,rfl,by show sv P=sv (P++[]); rw[List.append_nil],rfl,rfl,trivial⟩,Nat.zero_le _,hs4,hc4,rfl,.nil,.of⟩ fun i E S ⟨a5,c5,v5,Hi5,Yr,hE,hi5,hs5,hc5,hYr,hL5,hJ⟩=>?_
  obtain⟨l5a,l5c,rfl⟩:=hL5.isSlice;have hxl2:=hle.2.1;simp only at hxl2;obtain⟨E0,e0⟩:=zl hE; subst e0; clear hE;refine zm hJ (ze (z8 (yp (ZL rfl rfl) (zf (za (ze ?_))))));refine zO rfl (fun hlt=>?_) (fun hlt=>?_)
  ·have hix:i<xs.length:=by omega
   have hii:i<ids'.length:=by omega
   have hdi:ids'.drop i=ids'[i]::ids'.drop (i+1):=List.drop_eq_getElem_cons hii;have hti:ids'.take (i+1)=ids'.take i++[ids'[i]]:=List.take_succ_eq_append_getElem hii;have htx:xs.take (i+1)=xs.take i++[xs[i]]:=List.take_succ_eq_append_getElem hix;obtain⟨e,heL,heid,hen⟩:=hal.at (k:=i) (i:=ids'[i]) (n:=zC xs[i]) (List.getElem?_eq_getElem hii) (by rw[List.getElem?_map,List.getElem?_eq_getElem hix]; rfl)
   obtain⟨hb1,hb2⟩:=iJ hA hI heL;rw[hdi,List.map_cons,List.flatten_cons,List.append_assoc] at hYr;have hby:=lM hI.dis heL;have hvx:=hf.WR _ (List.getElem_mem hix);have hxlen:=Ww hvx;have hXlen:((xs.take i).map zC).flatten.length≤510:=by
    have h1:∀(l:List Bs),(∀y∈l,WR y=true)→(l.map zC).flatten.length≤255*l.length:=by
     intro l
     induction l with
     | nil=>intro _; exact Nat.zero_le _
     | cons y l ih=>
      intro hv;have h2:=ih fun z hz=>hv z (List.mem_cons_of_mem _ hz)
      have h3:=Ww (hv y (by simp));have h4:=wM y;rw[List.map_cons,List.flatten_cons,List.length_append,List.length_cons]; omega
    have h2:=h1 (xs.take i) fun y hy=>hf.WR y ((List.take_sublist _ _).subset hy)
    rw[List.length_take] at h2; omega
   rw[heid] at hb1 hb2 hby;generalize ids'[i]=z at hb1 hb2 hby hYr hti;have hY4:KD (Yr.take 4)=KD (Uf z):=by
    rw[hYr,List.take_append_of_le_length (by rw[Uf,ZC]; exact Nat.le_refl _),List.take_of_length_le (by rw[Uf,ZC]; exact Nat.le_refl _)]
   have hYd:Yr.drop 4=((ids'.drop (i+1)).map Uf).flatten++Z:=by
    rw[hYr];have:=List.drop_left (l₁:=Uf z) (l₂:=((ids'.drop (i+1)).map Uf).flatten++Z)
    rwa [Uf,ZC] at this
   have hYl4:4≤Yr.length:=by rw[hYr,List.length_append,Uf,ZC]; omega
   have hlz:=QX (i:=z) (by omega) hb2;rw[←hY4] at hlz;refine zq (za (ze (zo (z8 (yp (pT rfl) (yp (pP rfl) ?_))))));refine zh (zk (fP (x:=p37) hT hA hI hs5 hc5 hYl4 hL5 (by rw[List.length_take]; omega) (e:=e) (by rw[hlz]; exact hby)) rfl rfl fun r' S' h=>?_);obtain⟨rfl,a6,v6,H6,hs6,hL6,rfl⟩:=h;rw[hlz, ←hti] at hL6;rw[hen];have hl6:Yr.length-4=(((ids'.drop (i+1)).map Uf).flatten++Z).length:=by rw[←hYd,List.length_drop]
   rw[hYd,hl6] at hs6;rw[hl6]
   skip
   have hfl:=wM xs[i];refine yp (EU (Y:=P++((xs.take i).map zC).flatten) (Z:=zC xs[i]) rfl rfl (by rw[List.length_append]; omega)) (yp (pT rfl) (zf (zT (za (z8 (yp (Za rfl rfl (by omega)) (yp (pI rfl) (zf (za ?_)))))))));refine⟨i+1,⟨a6,c5-4,v6,H6,_,⟨rfl,rfl,?_,rfl,rfl,trivial⟩,by omega,hs6,by omega,rfl,hL6,?_⟩,by omega⟩
   ·show sv _=sv _;rw[htx,List.map_append,List.flatten_append,List.append_assoc];simp
   ·exact .of
  ·have hxi:xs.take i=xs:=List.take_of_length_le (by omega);have hii:ids'.take i=ids':=List.take_of_length_le (by omega);have hdi:ids'.drop i=[]:=List.drop_eq_nil_of_le (by omega);rw[hdi] at hYr;have hYr:Yr=Z:=hYr;subst hYr;have hPxs:(P++(xs.map zC).flatten++Yr).length=r.d.length:=hf.J3;have hPxl:(P++(xs.map zC).flatten).length≤1000:=by
    rw[List.length_append] at hPxs; omega
   have hYl1:Yr.length≤1000:=by
    rw[List.length_append] at hPxs; omega
   rw[hii] at hL5 ⊢;rw[hxi];refine zV (zy (zy (zW (za (ze (Wn (R:=[VD p37 tb (.slice a5 Yr.length c5) (.slice l5a ids'.length l5c),VD x tb (.slice a3 Y'.length (c-2-X.length)) (.slice ia ids.length ic)]) (by simp) (zi (pP rfl) (zi (pP rfl) (zi (pP rfl) (zi (zS rfl) (zi (zx rfl) (Zd rfl rfl (zi (pP rfl) (zi (zS rfl) (zi (zx rfl) (Zd rfl rfl (zi (pP rfl) (zi (zS rfl) (zi (zx rfl) (Zd rfl rfl ?_))))))))))))))))))));refine Zm (VL (Y:=ids') rfl rfl hi (hL5.src (by simp)) rfl (0:Int) rfl (by omega) (by omega) fun v7 H7 hL7=>⟨by simp,?_⟩) zM;obtain⟨l7a,l7c,rfl⟩:=hL7.isSlice;refine zi (zS rfl) (zi (zx rfl) ?_);refine zH (XP rfl rfl (CO rfl) ?_) zM;refine zi (zS rfl) (zi (zx rfl) ?_);refine zH (XQ rfl rfl (Ke rfl) ?_) zM;refine zD (za (ze (z8 (yp (pT rfl) (yp (pP rfl) (yp (zS rfl) (yp (zx rfl) ?_)))))));refine zh (zF rfl rfl ?_);refine zh (aM (Y:=Yr) rfl (hs5.mono fun s hs=>by simp[hs]) ?_);refine yp (EU (Y:=P++(xs.map zC).flatten) (Z:=Yr) rfl rfl (by omega)) (yp (pT rfl) (zf (za (zL ?_))));exact zK (v:=sv (P++(xs.map zC).flatten++Yr)) (res1 rfl) ⟨_,.of,by rw[yK hf hd1000],a3,_,_,H7,hs3,hc3,hL7,rfl⟩
/-- the next bytes are a number's, a name's -/
theorem JR{x tb:Nat}{iv:Value}{S0:zB}{a:Option Addr}{c:Nat}{Y Y':Bs}(h:Src S0 (.slice a Y.length c) Y)(hc:Y.length≤c){n z:Nat}(hn4:n≤4)(hY:Y=Ue n z++Y')(hz:z<256 ^ n):
 Tri Tryz.prog 116 #[.pointer (some ⟨x,0,none⟩),.int .i64 (n:Int)] (VD x tb (.slice a Y.length c) iv::S0) (fun r S=>r= .int .i64 (z:Int)∧∃a2 c2,Src S0 (.slice a2 Y'.length c2) Y'∧Y'.length≤c2∧S=VD x tb (.slice a2 Y'.length c2) iv::S0):=by
 have hl:Y.length=n+Y'.length:=by rw[hY,List.length_append,ZC]
 have ht:Y.take n=Ue n z:=by rw[hY,List.take_append_of_le_length (by rw[ZC]; exact Nat.le_refl _),List.take_of_length_le (by rw[ZC]; exact Nat.le_refl _)]
 have hd:Y.drop n=Y':=by
  rw[hY];have:=List.drop_left (l₁:=Ue n z) (l₂:=Y')
  rwa [ZC] at this
 refine(yc (x:=x) (tb:=tb) (iv:=iv) h hc (n:=n) (by omega) hn4).mono fun r S hr=>?_
 obtain⟨h1,a2,h2,h3⟩:=hr;rw[ht,XE,Nat.mod_eq_of_lt hz] at h1;rw[hd,show Y.length-n=Y'.length from by omega] at h2;rw[show Y.length-n=Y'.length from by omega] at h3;exact⟨h1,a2,c-n,h2,by omega,h3⟩
theorem fQ{x tb ab N:Nat}{D:List (Option Bt)}{H:List Chunk}{L:List Nm}{B:List (Int × Bs)}{T:List Chunk}(hT:Tb tb ab L T)(hA:Ar ab N D H)(hI:vC D L B){S0:zB}{a:Option Addr}{c:Nat}{Y Y':Bs}(h:Src S0 (.slice a Y.length c) Y)(hc:Y.length≤c)
 {iv:Value} {ids:List Int} {Hi:List Chunk} (hi:Zf 3 iv ids Hi) (hil:ids.length<2 ^ 30) {i:Int} {n:Bs} (he:∃e∈L,e.id=i∧e.n=n) (hY:Y=Uf i++Y'):
 Tri Tryz.prog 115 #[.pointer (some ⟨x,0,none⟩)] (VD x tb (.slice a Y.length c) iv::Hi::T::H::S0)
  (fun r S=>r=sv n∧∃a2 c2 v2 Hi2,Src S0 (.slice a2 Y'.length c2) Y'∧Y'.length≤c2∧Zf 3 v2 (ids++[i]) Hi2∧S=VD x tb (.slice a2 Y'.length c2) v2::Hi2::T::H::S0):=by
 obtain⟨e,heL,rfl,rfl⟩:=he;obtain⟨hb1,hb2⟩:=iJ hA hI heL;have h4:(Uf e.id).length=4:=by rw[Uf,ZC]
 have hl:Y.length=4+Y'.length:=by rw[hY,List.length_append,h4]
 have ht:Y.take 4=Uf e.id:=by rw[hY,List.take_append_of_le_length (by omega),List.take_of_length_le (by omega)]
 have hd:Y.drop 4=Y':=by
  rw[hY];have:=List.drop_left (l₁:=Uf e.id) (l₂:=Y')
  rwa [h4] at this
 have hlz:=QX (i:=e.id) (by omega) hb2;rw[←ht] at hlz;refine(fP (x:=x) hT hA hI h hc (by omega) hi hil (e:=e) (by rw[hlz]; exact lM hI.dis heL)).mono fun r S hr=>?_
 obtain⟨h1,a2,v2,H2,h2,h3,h4⟩:=hr;rw[hd,show Y.length-4=Y'.length from by omega] at h2;rw[hlz] at h3;rw[show Y.length-4=Y'.length from by omega] at h4;exact⟨h1,a2,c-4,v2,H2,h2,by omega,h3,h4⟩
theorem mD:isAgg? Tryz.prog 46=some true:=by kernel_rfl
theorem eP:sizeOf? Tryz.prog 46=some 5:=by kernel_rfl
theorem Xj:∀(d:Bs) (l:List Pl) (a:Nat) (xs:List Bs),splice d a l xs=splice d a l (xs.take l.length)
 | _,[],_,xs=>by cases xs<;>rfl
 | _,_::_,_,[]=>rfl
 | d,p::l,a,x::xs=>by
  show(d.drop a).take (p.at_-a)++x++splice d (p.at_+p.n) l xs=(d.drop a).take (p.at_-a)++x++splice d (p.at_+p.n) l (xs.take l.length);rw[Xj d l]
theorem bO(r:RR)(ids:List Int):vg r ids=vg r (ids.take (prt r.t r.d).length):=by
 unfold vg;rw[Xj,List.map_take]
set_option maxRecDepth 10000 in
set_option maxHeartbeats 2000000 in
theorem gy{tb ab N:Nat}{D:List (Option Bt)}{H:List Chunk}{L:List Nm}{B:List (Int × Bs)}{T:List Chunk}(hT:Tb tb ab L T)(hA:Ar ab N D H)(hI:vC D L B){h:Int}{s:St}{ids:List Int}(hm:(h,Wu s ids)∈B)(hE:wh s=0)(hal:Al L ids ((Zb s).map zC)):
 Tri Tryz.prog 70 #[.pointer (some ⟨ab,0,none⟩),.pointer (some ⟨tb,0,none⟩),.int .i64 h] [T,H] (fun r S=>∃v v2 HR HI,r= .tuple #[.agg (Jw (Zj s) v),v2,.bool true]∧Zf 89 v (Zj s).rrs HR∧Zf 3 v2 ids HI∧S=[HR,HI,T,H]):=by
 refine Tri.forget (zn Tryz.MS (Nat.le_of_ble_eq_true rfl) ?_);unfold Tryz.O1;obtain⟨hg,hno⟩:=hI.oth _ hm;have hg:Zl D h=some (Wu s ids):=hg;have hmay:WK s=true:=by
  cases hm:WK s with
  | true=>rfl
  | false=>unfold wh at hE; rw[if_pos hm] at hE; cases hE
 have hnum:=VY hmay;have hdat:=WC hmay;have hlen:ids.length=(Zb s).length:=by rw[hal.len,List.length_map]
 have hnl:=VT s;have hbl:=xI (fun r hr=>(hdat r hr).1) hlen;have hsz4:Zp s≤4096:=by
  unfold wh at hE;rw[if_neg (by rw[hmay]; decide)] at hE;split at hE
  ·cases hE
  ·omega
 have hsz16:16≤Zp s:=by
  rw[←hbl];unfold Wu Uf;simp only[List.length_append,ZC]
  push_cast
  omega
 have hsz:y5 D h=(Zp s,true):=by unfold y5; rw[hg]; simp only; rw[hbl]
 have hby:Yd L h=none:=by
  cases hb:Yd L h with
  | none=>rfl
  | some e=>obtain⟨h1,h2⟩:=KS hb; exact absurd h2 (hno e h1)
 obtain⟨hpe,hre⟩:=fM hg;rw[hbl] at hpe hre;refine ze (z8 ?_);refine zh (Z8 fun p6=>?_);refine yp pC (yp pC (zf (za (ze (z8 (yp (pP rfl) (yp (pI rfl) ?_)))))));refine zh (zk (lZ hA h) rfl rfl fun r' S' h=>?_);obtain⟨rfl,rfl⟩:=h;rw[hsz];refine yp (pU rfl) (yp (pExt rfl rfl) (yp (pExt rfl rfl) (yp (pI rfl) (yp (pB rfl) (zf (za (ze (ze (z8 (yp (pP rfl) (yp (pI rfl) ?_)))))))))));refine zh (zk (JG hT hA hI h) rfl rfl fun r' S' h=>?_);obtain⟨rfl,rfl⟩:=h;rw[hby];refine yp (pU rfl) (yp (pExt rfl rfl) (yp (pExt rfl rfl) (yp (pT rfl) (yp (pB rfl) (zf (za (ze (z8 (yp (pB rfl) (yp (Ze rfl) (yp (pB rfl) (Z0 rfl (Zc (pB rfl) (yp (zU rfl rfl) (yp (pB rfl) (Z0 rfl (Zc (pI rfl) (Z0 rfl (Zc (ZL rfl rfl) (yp (zU rfl rfl) (zf (za ?_))))))))))))))))))))));rw[decide_eq_false (show ¬Zp s<16 from by omega)];refine zw rfl (zq (za (ze (z8 (yp (pP rfl) (yp (pI rfl) (yp (pI rfl) ?_)))))));refine zh (zk (qX hA h 0 (Zp s)) rfl rfl fun r' S' h=>?_);obtain⟨va,Ho,rfl,hLo,rfl⟩:=h;rw[hpe];rw[hre] at hLo;have hcap:=nM hLo;obtain⟨vaa,vac,rfl⟩:=hLo.isSlice;have hcap:=hcap _ _ _ rfl;have hsrc:=hLo.src (S:=[Ho]) (by simp);have hal2:Al L ids (zC s.name::zC s.zone::((s.rrs.map Zw).flatten).map zC):=hal;clear hal;obtain⟨i0,i1,rest,rfl,h0,h1,halr⟩:∃i0 i1 rest,ids=i0::i1::rest∧(∃e∈L,e.id=i0∧e.n=zC s.name)∧(∃e∈L,e.id=i1∧e.n=zC s.zone)∧Al L rest (((s.rrs.map Zw).flatten).map zC):=by
  cases hal2 with
  | cons h0 t0=>
   cases t0 with
   | cons h1 t1=>exact⟨_,_,_,rfl,h0,h1,t1⟩
 have hrl:rest.length=((s.rrs.map Zw).flatten).length:=by rw[halr.len,List.length_map]
 have hYe:Wu s (i0::i1::rest)=Uf i0++(Ue 2 s.typ.toNat++(Ue 2 s.kind.toNat++(Uf i1++(Ue 4 1585123525++Ut s.rrs rest)))):=by
  unfold Wu;simp only[List.append_assoc];rfl
 have ht1:((s.typ.toNat:Nat):Int)=s.typ:=by omega
 have ht2:((s.kind.toNat:Nat):Int)=s.kind:=by omega
 have hY4:(Wu s (i0::i1::rest)).length≤4096:=by omega
 rw[hYe] at hY4;simp only[List.length_append] at hY4;generalize Wu s (i0::i1::rest)=Y at*
 refine yp (pU rfl) (yp (pExt rfl rfl) (yp (pExt rfl rfl) (yp (pS rfl) (yp (pI rfl) (zf (za (ze (z8 (yp (pP rfl) (yp (pS rfl) (yp (v:= .agg #[.pointer (some ⟨tb,0,none⟩),.slice vaa Y.length vac,.slice none 0 0,.bool false]) rfl ?_)))))))))));refine zh (Zv (c:=[.pointer (some ⟨tb,0,none⟩),.slice vaa Y.length vac,.slice none 0 0,.bool false]) rfl fun p50=>?_);refine yp (pP rfl) (zf (za (ze (z8 (yp (pP rfl) ?_)))));refine zh (zk (fQ (x:=p50) hT hA hI hsrc hcap (iv:= .slice none 0 0) (ids:=[]) (Hi:=[]) .nil (by decide) h0 hYe) rfl rfl fun r' S' h=>?_);obtain⟨rfl,a1,c1,v1,H1,hs1,hc1,hL1,rfl⟩:=h;obtain⟨l1a,l1c,rfl⟩:=hL1.isSlice;refine yp (zx rfl) (yp (zx rfl) ?_);refine zh (Aa rfl rfl (fE rfl) ?_);refine zf (za (ze (z8 (yp (pP rfl) ?_))));refine zh (zk (JR (x:=p50) (tb:=tb) (iv:= .slice l1a ([]++[i0]).length l1c) hs1 hc1 (n:=2) (z:=s.typ.toNat) (by decide) rfl (by omega)) rfl rfl fun r' S' h=>?_);obtain⟨rfl,a2,c2,hs2,hc2,rfl⟩:=h;rw[ht1];refine yp (pP rfl) ?_;refine zh (zk (JR (x:=p50) (tb:=tb) (iv:= .slice l1a ([]++[i0]).length l1c) hs2 hc2 (n:=2) (z:=s.kind.toNat) (by decide) rfl (by omega)) rfl rfl fun r' S' h=>?_);obtain⟨rfl,a3,c3,hs3,hc3,rfl⟩:=h;rw[ht2];refine yp (zx rfl) (yp (zx rfl) ?_);refine zh (A9 rfl rfl (uM rfl) ?_);refine yp (zx rfl) ?_;refine zh (A8 rfl rfl (uM rfl) ?_);refine zf (za (ze (z8 (yp (pP rfl) ?_))));refine zh (zk (fQ (x:=p50) hT hA hI hs3 hc3 hL1 (by simp) h1 rfl) rfl rfl fun r' S' h=>?_);obtain⟨rfl,a4,c4,v4,H4,hs4,hc4,hL4,rfl⟩:=h;obtain⟨l4a,l4c,rfl⟩:=hL4.isSlice;refine yp (zx rfl) ?_;refine zh (tZ rfl rfl (fE rfl) ?_);refine zf (za (ze (ze (z8 (yp (pP rfl) ?_)))));refine zh (zk (JR (x:=p50) (tb:=tb) (iv:= .slice l4a ([]++[i0]++[i1]).length l4c) hs4 hc4 (n:=4) (z:=1585123525) (by decide) rfl (by decide)) rfl rfl fun r' S' h=>?_);obtain⟨rfl,a5,c5,hs5,hc5,rfl⟩:=h;refine yp (UF rfl rfl) (zf (za (zw rfl (zq (za (ze (zo ?_)))))));have hfr:(Zj s).rrs=s.rrs.map fun r=>(⟨zC s.name,r.t,1,0,Wm r.t r.d⟩:RR):=rfl
 generalize hfg:(fun r:RR=>(⟨zC s.name,r.t,1,0,Wm r.t r.d⟩:RR))=fr at hfr;have hnum32:=hnum.2.2.2.2.2.2.1;refine Z4 (σ:=Nat) (fun i E S=>∃(rv:Value) (HR:List Chunk) (a5:Option Addr) (c5:Nat) (Yr:Bs) (v5:Value) (H5:List Chunk) (k:Nat),Has E [(6,.pointer (some ⟨p6,0,none⟩)),(9,.int .i64 (Zp s)),(15,.pointer (some ⟨p50,0,none⟩))]∧i≤s.rrs.length∧Zf 89 rv ((s.rrs.take i).map fr) HR∧Yr=Ut (s.rrs.drop i) (rest.drop k)∧k=((s.rrs.take i).map Zw).flatten.length∧Src [Ho] (.slice a5 Yr.length c5) Yr∧Yr.length≤c5∧Yr.length≤4096∧Zf 3 v5 (i0::i1::rest.take k) H5∧
  zG S (VD p50 tb (.slice a5 Yr.length c5) v5::H5::HR::[(p6,.cells #[sv (zC s.name),.int .i64 s.typ,rv,.int .i64 s.kind,sv (zC s.zone)] 46)]::T::H::[Ho])) (fun i=>s.rrs.length-i) 0
  ⟨.slice none 0 0,[],a5,c5,Ut s.rrs rest,.slice l4a ([]++[i0]++[i1]).length l4c,H4,0,⟨rfl,rfl,rfl,trivial⟩,Nat.zero_le _,.nil,rfl,rfl,hs5,hc5,by omega,hL4,by
   show zG _ (VD p50 tb (.slice a5 (Ut s.rrs rest).length c5) (.slice l4a ([]++[i0]++[i1]).length l4c)::H4::[]::[(p6,.cells #[sv (zC s.name),.int .i64 s.typ,.slice none 0 0,.int .i64 s.kind,sv (zC s.zone)] 46)]::T::H::[Ho]);exact .of⟩ fun i E S ⟨rv,HR,a5,c5,Yr,v5,H5,k,hE2,hi,hR,hYr,hk,hs5,hc5,hYl,hL5,hJ⟩=>?_
 obtain⟨ra,rc,rfl⟩:=hR.isSlice;obtain⟨l5a,l5c,rfl⟩:=hL5.isSlice;obtain⟨E0,e0⟩:=zl hE2; subst e0; clear hE2;refine zm hJ ?_;have hkl:=UZ (s.rrs.take i);rw[←hk,List.length_take] at hkl;refine ze (ze (z8 (yp (pP rfl) (yp (zS rfl) (yp (zx rfl) ?_)))));refine zh (zF rfl rfl ?_);refine yp (Zz rfl) (yp (VE rfl rfl) (yp (pB rfl) ?_));by_cases hlt:i<s.rrs.length
 ·have hdr:s.rrs.drop i=s.rrs[i]::s.rrs.drop (i+1):=List.drop_eq_getElem_cons hlt;have hr:=List.getElem_mem hlt;have hts:=yx hlt;have htk:s.rrs.take (i+1)=s.rrs.take i++[s.rrs[i]]:=List.take_succ_eq_append_getElem hlt;have hall:s.rrs.map Zw=(s.rrs.take i).map Zw++(Zw s.rrs[i]::(s.rrs.drop (i+1)).map Zw):=by
   rw[←List.map_cons, ←hdr, ←List.map_append,List.take_append_drop]
  rw[hdr,Ut] at hYr;generalize s.rrs[i]=r at hYr hr hts htk hall;obtain⟨hok,hty⟩:=hdat r hr;have hnp:(Zw r).length=(prt r.t r.d).length:=by unfold Zw; rw[List.length_map]
  have halk:Al L ((rest.drop k).take (prt r.t r.d).length) ((Zw r).map zC):=by
   have h1:=(halr.drop k).take (prt r.t r.d).length;have h2:((((s.rrs.map Zw).flatten).map zC).drop k).take (prt r.t r.d).length=(Zw r).map zC:=by
    rw[←List.map_drop, ←List.map_take,hall,List.flatten_append,List.flatten_cons,hk,List.drop_left, ←hnp,List.take_left]
   rw[h2] at h1; exact h1
  rw[bO] at hYr;rw[decide_eq_true (show(0:Int)<(Yr.length:Int) from by rw[hYr]; simp only[List.length_append,ZC]; omega)];refine Z0 rfl (Zc (pP rfl) (Z0 rfl (Zc (zS rfl) (Z0 rfl (Zc (zx rfl) (Z0 rfl ?_))))));refine(zF rfl rfl ?_);refine Z0 rfl (Zc (Ze rfl) (yp (zP rfl rfl) (zf (za (zI rfl (zq (za (zo (Wn (R:=[[(p6,.cells #[sv (zC s.name),.int .i64 s.typ,.slice ra ((s.rrs.take i).map fr).length rc,.int .i64 s.kind,sv (zC s.zone)] 46)]]) (by simp) ?_)))))))));rw[←hty];refine zi (zx rfl) (Zd rfl rfl (zi (zx rfl) (zi (zx rfl) (Zd rfl rfl (zi (zx rfl) (zi (zx rfl) (Zd rfl rfl (zi (pP rfl) (zi (zx rfl) (zi (zx rfl) (Zd rfl rfl ?_)))))))))));refine Zm (zk (AX (x:=p50) hT hA hI hs5 hc5 hL5 (by rw[List.length_cons,List.length_cons,List.length_take]; omega) hok halk (Y':=Ut (s.rrs.drop (i+1)) ((rest.drop k).drop (prt r.t r.d).length)) (by rw[hYr]; simp only[List.append_assoc]) hYl) rfl rfl fun r' S' h=>?_) zM;obtain⟨rfl,a6,c6,v6,H6,hs6,hc6,hL6,rfl⟩:=h;refine⟨by simp,?_⟩;obtain⟨l6a,l6c,rfl⟩:=hL6.isSlice;have hfrr:fr r=⟨zC s.name,r.t,1,0,Wm r.t r.d⟩:=by rw[←hfg]
  have hRl:((s.rrs.take i).map fr).length≤32:=by rw[List.length_map,List.length_take]; omega
  skip
  refine zi (v:= .agg #[sv (zC s.name),.int .i64 r.t,.int .i64 1,.int .i64 0,sv (Wm r.t r.d)]) rfl ?_;refine Zm (Ve (⟨zC s.name,r.t,1,0,Wm r.t r.d⟩:RR) rfl rfl (by decide) (by decide) rfl fun p96=>⟨by simp,?_⟩) zM;refine zH (VL (Y:=[(⟨zC s.name,r.t,1,0,Wm r.t r.d⟩:RR)]) rfl rfl hR (.lit (by repeat (first | exact List.mem_cons_self | apply List.mem_cons_of_mem)) rfl) rfl (⟨[],0,0,0,[]⟩:RR) rfl (by rw[List.length_singleton]; omega) (by rw[List.length_singleton]; omega) fun v7 H7 hL7=>?_) zM;obtain⟨l7a,l7c,rfl⟩:=hL7.isSlice;refine zi (zx rfl) ?_;refine zH (JA rfl rfl (Ke rfl) ?_) zM;refine zD (zT (za ?_));refine⟨i+1,⟨.slice l7a ((s.rrs.take i).map fr++[(⟨zC s.name,r.t,1,0,Wm r.t r.d⟩:RR)]).length l7c,H7,a6,c6,_,.slice l6a (i0::i1::rest.take k++(rest.drop k).take (prt r.t r.d).length).length l6c,H6,k+(prt r.t r.d).length,⟨rfl,rfl,rfl,trivial⟩,by omega,?_,?_,?_,hs6,hc6,?_,?_,.of⟩,by omega⟩
  ·rw[htk,List.map_append,List.map_singleton,hfrr]; exact hL7
  ·rw[List.drop_drop]
  ·rw[hts,List.length_append,hnp,hk]
  ·rw[hYr] at hYl;simp only[List.length_append] at hYl ⊢; omega
  ·rw[List.take_add]; exact hL6
 ·have hni:s.rrs.take i=s.rrs:=List.take_of_length_le (by omega);have hdi:s.rrs.drop i=[]:=List.drop_eq_nil_of_le (by omega);rw[hdi,Ut] at hYr;subst hYr;have hk2:rest.take k=rest:=List.take_of_length_le (by rw[hk,hni,hrl]; exact Nat.le_refl _);rw[hni, ←hfr] at hR ⊢;rw[hk2] at hL5 ⊢;rw[decide_eq_false (show ¬(0:Int)<(([]:Bs).length:Int) from by decide)];obtain⟨hm2,hz2⟩:=iR hmay;have hE2:wh (Zj s)=0:=by unfold wh; rw[if_neg (by rw[hm2]; decide),hz2,if_neg (by omega)]
  have hZ2:xU (Zj s)=Zp s:=by unfold xU; rw[if_pos hE2,hz2]
  have hS2:kK (Zj s):=by
   have hv1:=Ww hnum.1;have hv2:=Ww hnum.2.1;have hf1:=wM s.name;have hf2:=wM s.zone;refine⟨by show(zC s.name).length<_; omega,by show(zC s.zone).length<_; omega,by rw[hfr,List.length_map]; omega,fun r hr=>?_⟩;rw[hfr] at hr;obtain⟨x,hx,rfl⟩:=List.mem_map.1 hr;obtain⟨_,_,h3⟩:=yI (hdat x hx).1;have:=wX (hdat x hx).1;rw[←hfg];exact⟨by show(zC s.name).length<_; omega,by show(Wm x.t x.d).length<_; omega⟩
  refine Z5 rfl (Z5 rfl (Z5 rfl (Z5 rfl (Z5 rfl (yp (zU rfl rfl) (zf (za (zw rfl (zV (zy (zy (zW (za (ze (ze (z8 ?_))))))))))))))));refine zh (wB (l:=[sv (zC s.name),.int .i64 s.typ,.slice ra (Zj s).rrs.length rc,.int .i64 s.kind,sv (zC s.zone)]) rfl rfl rfl ?_);refine zh (zk (Ko (S:=[HR]) (s:=Zj s) hS2 (hR.src (by simp))) rfl rfl fun r' S' h=>?_);obtain⟨rfl,rfl⟩:=h;rw[hE2,hZ2];refine yp (pU rfl) (yp (pExt rfl rfl) (yp (pExt rfl rfl) (yp (pI rfl) (yp (pI rfl) (zf (za (ze (z8 (yp (pP rfl) (yp (zS rfl) (yp (zx rfl) ?_)))))))))));refine zh (zF rfl rfl ?_);refine yp (pB rfl) (Z0 rfl (Zc (pI rfl) (Z0 rfl (Zc (UF rfl rfl) (yp (zU rfl rfl) (yp (pB rfl) (Z0 rfl (Zc (pI rfl) (Z0 rfl (Zc (pI rfl) (Z0 rfl (Zc (UF rfl rfl) (yp (zU rfl rfl) (zf (za ?_)))))))))))))));rw[decide_eq_true (show Zp s=Zp s from rfl)];refine zw rfl (zq (za (ze (Wn (R:=[[(p6,.cells [sv (zC s.name),.int .i64 s.typ,.slice ra (Zj s).rrs.length rc,.int .i64 s.kind,sv (zC s.zone)].toArray 46)],VD p50 tb (.slice a5 ([]:Bs).length c5) (.slice l5a (i0::i1::rest).length l5c)]) (by simp) (VA (l:=[sv (zC s.name),.int .i64 s.typ,.slice ra (Zj s).rrs.length rc,.int .i64 s.kind,sv (zC s.zone)]) rfl rfl rfl (zi (pP rfl) (zi (zS rfl) (zi (zx rfl) (Zd rfl rfl ?_)))))))));refine Zm (vQ (c:=[sv (zC s.name),.int .i64 s.typ,.slice ra (Zj s).rrs.length rc,.int .i64 s.kind,sv (zC s.zone)]) (c':=[sv (zC s.name),.int .i64 s.typ,.slice ra (Zj s).rrs.length rc,.int .i64 s.kind,sv (zC s.zone)]) rfl rfl rfl rfl rfl ⟨by simp,?_⟩) zM;refine zi (pS rfl) (zi pC (zD (za (zL ?_))));exact zK (Ey (IX (b:=p6) (l:=[sv (zC s.name),.int .i64 s.typ,.slice ra (Zj s).rrs.length rc,.int .i64 s.kind,sv (zC s.zone)]) mD eP rfl rfl) (jg rfl) (jg rfl)) ⟨_,.of,_,_,HR,H5,rfl,hR,hL5,rfl⟩
theorem EC{tb ab N:Nat}{D:List (Option Bt)}{H:List Chunk}{L:List Nm}{B:List (Int × Bs)}{T:List Chunk}(hT:Tb tb ab L T)(hA:Ar ab N D H)(hI:vC D L B){h:Int}{s:St}{ids:List Int}(hm:(h,Wu s ids)∈B)(hE:wh s=0)(hal:Al L ids ((Zb s).map zC)):
 Tri Tryz.prog 27 #[.pointer (some ⟨ab,0,none⟩),.pointer (some ⟨tb,0,none⟩),.int .i64 h] [T,H] (fun r S=>∃v HR,r= .tuple #[.agg (Jw (Zj s) v),.int .i64 0]∧Zf 89 v (Zj s).rrs HR∧S=[HR,T,H]):=by
 refine Tri.forget (zn Tryz.Nq (Nat.le_of_ble_eq_true rfl) ?_);unfold Tryz.x27;refine ze (z8 ?_);refine zh (Z8 fun p6=>?_);refine yp pC (zf (za (ze (z8 (yp (pP rfl) (yp (pP rfl) (yp (pI rfl) ?_)))))));refine zh (zk (gy hT hA hI hm hE hal) rfl rfl fun r' S' h=>?_);obtain⟨v,v2,HR,HI,rfl,hR,hL,rfl⟩:=h;obtain⟨ra,rc,rfl⟩:=hR.isSlice;obtain⟨la,lc,rfl⟩:=hL.isSlice;refine yp (pU rfl) (yp (pExt rfl rfl) (yp (pExt rfl rfl) (yp (pExt rfl rfl) ?_)));refine zh (Z8 fun p8=>?_);refine zh (vQ (c':=[sv (Zj s).name,.int .i64 (Zj s).typ,.slice ra (Zj s).rrs.length rc,.int .i64 (Zj s).kind,sv (Zj s).zone]) rfl rfl rfl rfl rfl ?_);refine yp (pS rfl) (yp (pB rfl) (zf (za (ze (ze (z8 (yp (pB rfl) (yp (Ze rfl) (zf (za (zw rfl (zq (za (ze (z8 ?_)))))))))))))));refine zh (wB (l:=[sv (Zj s).name,.int .i64 (Zj s).typ,.slice ra (Zj s).rrs.length rc,.int .i64 (Zj s).kind,sv (Zj s).zone]) rfl rfl rfl ?_);refine zh (vQ (c':=[sv (Zj s).name,.int .i64 (Zj s).typ,.slice ra (Zj s).rrs.length rc,.int .i64 (Zj s).kind,sv (Zj s).zone]) rfl rfl rfl rfl rfl ?_);refine yp pC (zf (za (zL ?_)));exact zK (vW (IX (b:=p6) (l:=[sv (Zj s).name,.int .i64 (Zj s).typ,.slice ra (Zj s).rrs.length rc,.int .i64 (Zj s).kind,sv (Zj s).zone]) mD eP rfl rfl) (jg rfl)) ⟨_,.of,_,HR,rfl,hR,rfl⟩
/-! ### numbers given back, in the arena -/
def Iw:List (Option Bt)→List Nm→List Int→List (Option Bt)
 | D,_,[]=>D
 | D,L,i::ids=>Iw (Um D L i) (vM L i) ids
theorem J9:∀(D:List (Option Bt)) (L:List Nm) (ids:List Int) (i:Int),Iw D L (ids++[i])=Um (Iw D L ids) (drops L ids) i
 | _,_,[],_=>rfl
 | D,L,k::ids,i=>J9 (Um D L k) (vM L k) ids i
theorem uH(L:List Nm)(ids:List Int)(i:Int):drops L (ids++[i])=vM (drops L ids) i:=by unfold drops; rw[List.foldl_append]; rfl
theorem bM{D D':List (Option Bt)}(h:UE D D')(L:List Nm)(i:Int):UE (Um D L i) (Um D' L i):=by
 unfold Um;split
 ·split
  ·exact jG h i
  ·exact h
 ·exact h
theorem X7:∀{ids:List Int} {L:List Nm},Pos L→Pos (drops L ids)
 | [],_,h=>h
 | i::ids,L,h=>X7 (ids:=ids) (L:=vM L i) (bL h)
/-- the blocks of others without one -/
def jT(B:List (Int × Bs))(h:Int):List (Int × Bs):=B.filter fun x=>x.1 !=h
theorem gV{B:List (Int × Bs)}{h:Int}(x:Int × Bs):x∈jT B h↔x∈B∧x.1≠h:=by unfold jT; simp
theorem Bo{tb ab N:Nat}{D:List (Option Bt)}{H:List Chunk}{L:List Nm}{B:List (Int × Bs)}{T:List Chunk}(hT:Tb tb ab L T)(hA:Ar ab N D H)(hI:vC D L B)(hP:Pos L){h:Int}{s:St}{ids:List Int}(hm:(h,Wu s ids)∈B)(hE:wh s=0)(hal:Al L ids ((Zb s).map zC))(hs:kK s):
 Tri Tryz.prog 25 #[.pointer (some ⟨ab,0,none⟩),.pointer (some ⟨tb,0,none⟩),.int .i64 h] [T,H] (fun r S=>r= .int .i64 0∧∃T' H' D',Tb tb ab (drops L ids) T'∧Ar ab N D' H'∧vC D' (drops L ids) (jT B h)∧UE D' (WT (Iw D L ids) h)∧S=[T',H']):=by
 refine Tri.forget (zn Tryz.Nr (Nat.le_of_ble_eq_true rfl) ?_);unfold Tryz.x25;refine ze (z8 (yp pC (zf (za (ze (z8 (yp (pP rfl) (yp (pP rfl) (yp (pI rfl) ?_)))))))));refine zh (zk (gy hT hA hI hm hE hal) rfl rfl fun r' S' h=>?_);obtain⟨v,v2,HR,HI,rfl,hR,hL,rfl⟩:=h;obtain⟨ra,rc,rfl⟩:=hR.isSlice;obtain⟨la,lc,rfl⟩:=hL.isSlice;have hlen:ids.length=(Zb s).length:=by rw[hal.len,List.length_map]
 have hnl:=VT s;have hrr:=hs.rrs;refine yp (pU rfl) (yp (pExt rfl rfl) (yp (pExt rfl rfl) (yp (pExt rfl rfl) ?_)));refine zh (Z8 fun p7=>?_);refine zh (vQ (c':=[sv (Zj s).name,.int .i64 (Zj s).typ,.slice ra (Zj s).rrs.length rc,.int .i64 (Zj s).kind,sv (Zj s).zone]) rfl rfl rfl rfl rfl ?_);refine yp (pS rfl) (yp (pB rfl) (zf (za (ze (ze (z8 (yp (pB rfl) (yp (Ze rfl) (zf (za (zw rfl (zq (za (ze (ze (z8 (yp (pS rfl) (yp (Zz rfl) (yp pC (zf (za (zo ?_))))))))))))))))))))));refine Z4 (σ:=Nat) (fun i E S=>∃(T1 H1:List Chunk) (D1:List (Option Bt)),Has E [(0,.pointer (some ⟨ab,0,none⟩)),(1,.pointer (some ⟨tb,0,none⟩)),(2,.int .i64 h),(22,.slice la ids.length lc),(23,.int .i64 (ids.length:Int)),(24,.int .i64 (i:Int))]∧i≤ids.length∧Tb tb ab (drops L (ids.take i)) T1∧Ar ab N D1 H1∧vC D1 (drops L (ids.take i)) B∧UE D1 (Iw D L (ids.take i))∧zG S (HI::T1::H1::[])) (fun i=>ids.length-i) 0
  ⟨T,H,D,⟨rfl,rfl,rfl,rfl,rfl,rfl,trivial⟩,Nat.zero_le _,hT,hA,hI,UE.refl D,.of⟩ fun i E S ⟨T1,H1,D1,hE2,hi,hT1,hA1,hI1,hs1,hJ⟩=>?_
 obtain⟨E0,e0⟩:=zl hE2; subst e0; clear hE2;refine zm hJ (ze (z8 (yp (ZL rfl rfl) (zf (za (ze ?_))))));refine zO rfl (fun hlt=>?_) (fun hlt=>?_)
 ·have hii:i<ids.length:=by omega
  have hti:ids.take (i+1)=ids.take i++[ids[i]]:=List.take_succ_eq_append_getElem hii;obtain⟨b,sp,fz,hz,rfl,_,hc',rfl⟩:=hL.at' (by intro h; simp[h] at hii);have hld:((cells (ids++sp)).toArray.toList)[0+i*1+0]?=some (.int .i64 ids[i]):=(wH (kk:=1) (j:=0) hii rfl (by omega)).trans rfl;generalize ids[i]=z at hld hti;refine zq (za (ze (zo (ze (z8 (yp (zN rfl rfl (by omega)) ?_))))));refine zh (zF (v:= .int .i64 z) rfl hld ?_);refine yp (pI rfl) (zf (za (z8 (yp (pP rfl) (yp (pI rfl) ?_)))));refine zh (zk (eO hT1 hA1 hI1 (X7 hP) z) rfl rfl fun r' S' h=>?_);obtain⟨rfl,T2,H2,D2,hT2,hA2,hI2,hs2,rfl⟩:=h;refine zf (zT (za (z8 (yp (Za rfl rfl (by omega)) (yp (pI rfl) (zf (za ?_)))))));refine⟨i+1,⟨T2,H2,D2,⟨rfl,rfl,rfl,rfl,rfl,rfl,trivial⟩,by omega,?_,hA2,?_,?_,.of⟩,by omega⟩
  ·rw[hti,uH]; exact hT2
  ·rw[hti,uH]; exact hI2
  ·rw[hti,J9]; exact(Ka hs2).trans (bM hs1 _ z)
 ·have hti:ids.take i=ids:=List.take_of_length_le (by omega);rw[hti] at hT1 hI1 hs1;obtain⟨hg,_⟩:=hI1.oth _ hm;have hg:Zl D1 h=some (Wu s ids):=hg;have hfr:QY D1 h=0:=by unfold QY; rw[hg]; rfl
  refine zV (zy (zy (zW (za (ze (z8 (yp (pP rfl) (yp (pI rfl) ?_))))))));refine zh (zk (mq hA1 h) rfl rfl fun r' S' h=>?_);obtain⟨rfl,H2,hA2,rfl⟩:=h;rw[hfr];refine yp (pI rfl) (zf (za (zL ?_)));exact zK (rI rfl) ⟨_,.of,rfl,T1,H2,_,hT1,hA2,hI1.free hm gV,jG hs1 h,rfl⟩
/-- is there room for a set? -/
def fits(N:Nat)(D:List (Option Bt))(L:List Nm)(s:St):Prop:=(Zh D:Int)+uY L s≤N
theorem J7{N:Nat}{D:List (Option Bt)}{L:List Nm}{s:St}(hE:wh s=0)(hN:Zh D≤N)(h0:0≤Zp s∧Zp s≤4096)(hv:∀n∈Zb s,WR n=true):
 (fits N D L s→(wO N D L (Zb s)).e=0∧ZI N (wO N D L (Zb s)).D (Zp s)=0)∧(¬fits N D L s→(wO N D L (Zb s)).e=4∨(wO N D L (Zb s)).e=0∧ZI N (wO N D L (Zb s)).D (Zp s)=4):=by
 have hC:uY L s=cost (Zp s)+(wL L [] (Zb s):Nat):=by unfold uY; rw[if_pos hE]
 have hc:cost (Zp s)=(zZ (Zp s).toNat:Nat):=by unfold cost; rw[if_neg (by omega)]
 have h16:=yR (Zp s).toNat;obtain⟨h1,h2⟩:=Y6 (N:=N) (l:=Zb s) (D:=D) (L:=L) hv hN;unfold fits;rw[hC,hc];constructor
 ·intro hf;obtain⟨h3,h4⟩:=h1 (by omega);refine⟨h3,?_⟩;unfold ZI;rw[hc,if_neg (by omega),if_neg (by omega)]
 ·intro hf;by_cases hr:Zh D+wL L [] (Zb s)≤N
  ·obtain⟨h3,h4⟩:=h1 hr;refine .inr ⟨h3,?_⟩;unfold ZI;rw[hc,if_neg (by omega),if_pos (by omega)]
  ·exact .inl (h2 (by omega))
theorem u7{s:St}(hE:wh s=0):WK s=true∧Zp s≤4096:=by
 unfold wh at hE;cases hm:WK s with
 | false=>rw[if_pos hm] at hE; cases hE
 | true=>
  rw[if_neg (by rw[hm]; decide)] at hE;split at hE
  ·cases hE
  ·exact⟨rfl,by omega⟩
theorem Qp{s:St}(hm:WK s=true):16≤Zp s:=by
 have h:=fA hm s.rrs.length;have h2:(s.rrs.map WH).take s.rrs.length=s.rrs.map WH:=List.take_of_length_le (by rw[List.length_map]; exact Nat.le_refl _);rw[h2] at h;unfold Zp; omega
theorem Al.mem{L:List Nm}{i:Int}:∀{ids:List Int} {ns:List Bs},Al L ids ns→i∈ids→∃e∈L,e.id=i
 | _,_,.cons ⟨e,he,h1,_⟩ t,hi=>by
  rcases List.mem_cons.1 hi with rfl | hi
  ·exact⟨e,he,h1⟩
  ·exact t.mem hi
theorem aJ(N:Nat):∀(l:List Bs) (D:List (Option Bt)) (L:List Nm),(wO N D L l).ids.length≤l.length
 | [],_,_=>Nat.le_refl _
 | n::l,D,L=>by
  by_cases hE:WO N D L n=0
  ·rw[U2 hE];have:=aJ N l (WQ D L (zC n)) (ZN D L (zC n));show(_::_).length≤_;rw[List.length_cons,List.length_cons]; omega
  ·rw[Y4 hE]; exact Nat.zero_le _
theorem mE(N:Nat):∀(l:List Bs) (D:List (Option Bt)) (L:List Nm) (k:Nat),(∀e∈L,e.u≤k)→∀e∈(wO N D L l).L,e.u≤k+l.length
 | [],_,_,_,h=>h
 | n::l,D,L,k,h=>fun e he=>by
  by_cases hE:WO N D L n=0
  ·rw[U2 hE] at he;have:=mE N l (WQ D L (zC n)) (ZN D L (zC n)) (k+1) (mF h) e he;rw[List.length_cons]; omega
  ·rw[Y4 hE] at he;have:=h e he; omega
set_option maxRecDepth 10000 in
set_option maxHeartbeats 4000000 in
theorem Bl{S:zB}{s:St}{v:Value}{tb ab N:Nat}{D:List (Option Bt)}{H:List Chunk}{L:List Nm}{B:List (Int × Bs)}{T:List Chunk}(hT:Tb tb ab L T)(hA:Ar ab N D H)(hI:vC D L B)(hP:Pos L)(hB:Hs B)(hu:∀e∈L,e.u<2 ^ 50)(hs:kK s)(hv:Src S v s.rrs):
 Tri Tryz.prog 19 #[.pointer (some ⟨ab,0,none⟩),.pointer (some ⟨tb,0,none⟩),.agg (Jw s v)] (T::H::S) (fun r S'=>
  (wh s≠0∧r= .tuple #[.int .i64 0,.int .i64 (wh s)]∧S'=T::H::S)∨
  (wh s=0∧¬fits N D L s∧∃T' H' D',r= .tuple #[.int .i64 0,.int .i64 4]∧Tb tb ab L T'∧Ar ab N D' H'∧vC D' L B∧S'=T'::H'::S)∨
  (wh s=0∧fits N D L s∧∃T' H' D',r= .tuple #[.int .i64 ((hnd (wO N D L (Zb s)).D:Nat):Int),.int .i64 0]∧Tb tb ab (wO N D L (Zb s)).L T'∧Ar ab N D' H'∧
   vC D' (wO N D L (Zb s)).L ((((hnd (wO N D L (Zb s)).D:Nat):Int),Wu s (wO N D L (Zb s)).ids)::B)∧Hs ((((hnd (wO N D L (Zb s)).D:Nat):Int),Wu s (wO N D L (Zb s)).ids)::B)∧UE D' (ZJ (wO N D L (Zb s)).D (Zp s).toNat)∧S'=T'::H'::S)):=by
 refine Tri.forget (zn Tryz.Nu (Nat.le_of_ble_eq_true rfl) ?_);unfold Tryz.Oq;obtain⟨a,c,rfl⟩:=hv.isSlice;refine ze (z8 ?_);refine zh (Zv rfl fun p5=>?_);refine yp pC (yp pC (zf (za (ze (z8 ?_)))));refine zh (wB (l:=[sv s.name,.int .i64 s.typ,.slice a s.rrs.length c,.int .i64 s.kind,sv s.zone]) rfl rfl rfl ?_);refine zh (zk (Ko hs hv) rfl rfl fun r' S' h=>?_);obtain⟨rfl,hSS⟩:=h;have hSS:=hSS.symm;subst hSS;refine yp (pU rfl) (yp (pExt rfl rfl) (yp (pExt rfl rfl) (yp (pI rfl) (yp (pI rfl) (zf (za (ze (ze (z8 (yp (pI rfl) (yp (UF rfl rfl) (zf (za ?_)))))))))))));by_cases hE:wh s=0
 case neg=>
  rw[decide_eq_false hE];refine zI rfl (ze (z8 (yp (pI rfl) (yp pC (yp (pI rfl) (zf (za (zL (zX ?_)))))))));exact zK (Ya rfl rfl) ⟨_,.of,.inl ⟨hE,rfl,rfl⟩⟩
 obtain⟨hmay,h4096⟩:=u7 hE;have hZ:xU s=Zp s:=by unfold xU; rw[if_pos hE]
 have h16:=Qp hmay;have hvl:=yA hmay;obtain⟨hf1,hf2⟩:=J7 (N:=N) (D:=D) (L:=L) hE hA.ok.used ⟨by omega,h4096⟩ hvl;have hnl:=VT s;have hrr:=hs.rrs;rw[decide_eq_true hE,hZ];have hdr:=cu (N:=N) (l:=Zb s) hI.dis hP hI.stand;have hlv:= @Q5 N (Zb s) D L;have hidl:=aJ N (Zb s) D L;have huP:=mE N (Zb s) D L (2 ^ 50) (fun e he=>Nat.le_of_lt (hu e he));generalize hPd:wO N D L (Zb s)=P at hf1 hf2 hdr hlv hidl huP ⊢;refine zw rfl (zq (za (ze (z8 (yp pC (zf (za ?_)))))));refine w9 (fun E S'=>∃(T1 H1:List Chunk) (D1:List (Option Bt)) (iv:Value) (Hi:List Chunk),Has E [(0,.pointer (some ⟨ab,0,none⟩)),(1,.pointer (some ⟨tb,0,none⟩)),(5,.pointer (some ⟨p5,0,none⟩)),(8,.int .i64 (Zp s)),(9,.int .i64 P.e)]∧E 10=iv∧Zf 3 iv P.ids Hi∧Tb tb ab P.L T1∧Ar ab N D1 H1∧vC D1 P.L B∧Pos P.L∧UE D1 P.D∧
  zG S' (Hi::[(p5,.cells #[sv s.name,.int .i64 s.typ,.slice a s.rrs.length c,.int .i64 s.kind,sv s.zone] 46)]::T1::H1::S)) ?_ ?_
 ·refine ze (z8 ?_);refine zh (wB (l:=[sv s.name,.int .i64 s.typ,.slice a s.rrs.length c,.int .i64 s.kind,sv s.zone]) rfl rfl rfl ?_);refine zh (zk (Qz hs hv) rfl rfl fun r' S' h=>?_);obtain⟨HN,hN,hSS⟩:=h;subst hSS;obtain⟨na,nc,rfl⟩:=hN.isSlice;rw[uI] at hN ⊢;refine yp (Zz rfl) (yp pC (zf (za (zo ?_))));refine Z4 (σ:=Nat) (fun i E S'=>∃(T1 H1:List Chunk) (D1 Dk:List (Option Bt)) (L1:List Nm) (ik:List Int) (iv:Value) (Hi:List Chunk),Has E [(0,.pointer (some ⟨ab,0,none⟩)),(1,.pointer (some ⟨tb,0,none⟩)),(5,.pointer (some ⟨p5,0,none⟩)),(8,.int .i64 (Zp s)),(9,.int .i64 0),(27,.slice na (Zb s).length nc),(28,.int .i64 ((Zb s).length:Int)),(29,.int .i64 (i:Int))]∧E 10=iv∧i≤(Zb s).length∧Zf 3 iv ik Hi∧ik.length=i∧Tb tb ab L1 T1∧Ar ab N D1 H1∧vC D1 L1 B∧Pos L1∧UE D1 Dk∧(∀e∈L1,e.u≤2 ^ 50+i)∧
   P=⟨(wO N Dk L1 ((Zb s).drop i)).D,(wO N Dk L1 ((Zb s).drop i)).L,ik++(wO N Dk L1 ((Zb s).drop i)).ids,(wO N Dk L1 ((Zb s).drop i)).e⟩∧
   zG S' (Hi::HN::[(p5,.cells #[sv s.name,.int .i64 s.typ,.slice a s.rrs.length c,.int .i64 s.kind,sv s.zone] 46)]::T1::H1::S)) (fun i=>(Zb s).length-i) 0
   ⟨T,H,D,D,L,[],_,[],⟨rfl,rfl,rfl,rfl,by rw[←hE]; rfl,rfl,rfl,rfl,trivial⟩,rfl,Nat.zero_le _,.nil,rfl,hT,hA,hI,hP,UE.refl D,fun e he=>by have:=hu e he; omega,hPd.symm,.of⟩ fun i E S' ⟨T1,H1,D1,Dk,L1,ik,iv,Hi,hE2,hE10,hi,hiv,hikl,hT1,hA1,hI1,hP1,hs1,hu1,hPe,hJ⟩=>?_
  obtain⟨ia,ic,rfl⟩:=hiv.isSlice;have hE3:Has E [(0,.pointer (some ⟨ab,0,none⟩)),(1,.pointer (some ⟨tb,0,none⟩)),(5,.pointer (some ⟨p5,0,none⟩)),(8,.int .i64 (Zp s)),(9,.int .i64 0),(10,.slice ia ik.length ic),(27,.slice na (Zb s).length nc),(28,.int .i64 ((Zb s).length:Int)),(29,.int .i64 (i:Int))]:=⟨hE2.1,hE2.2.1,hE2.2.2.1,hE2.2.2.2.1,hE2.2.2.2.2.1,hE10,hE2.2.2.2.2.2⟩
  clear hE2 hE10;obtain⟨E0,e0⟩:=zl hE3; subst e0; clear hE3;refine zm hJ (ze (z8 (yp (ZL rfl rfl) (zf (za (ze ?_))))));refine zO rfl (fun hlt=>?_) (fun hlt=>?_)
  ·have hii:i<(Zb s).length:=by omega
   have hdi:(Zb s).drop i=(Zb s)[i]::(Zb s).drop (i+1):=List.drop_eq_getElem_cons hii;have hvn:=hvl _ (List.getElem_mem hii);obtain⟨b,sp,fz,hz,rfl,_,hc',rfl⟩:=hN.at' (by intro h; rw[←List.length_eq_zero_iff,uI] at h; omega);have hld:((cells (bss (Zb s)++sp)).toArray.toList)[0+i*1+0]?=some (sv (Zb s)[i]):=(wH (kk:=1) (j:=0) (by rw[uI]; exact hii) rfl (by omega)).trans (by unfold bss; rw[List.getElem_map]; rfl);rw[hdi] at hPe;generalize (Zb s)[i]=n at hld hvn hPe;have h255:=Ww hvn;have hEe:WO N Dk L1 n=WO N D1 L1 n:=by unfold WO; rw[y7 hs1]
   refine zq (za (ze (zo (ze (z8 (yp (zN rfl rfl (by omega)) ?_))))));refine zh (zF (v:=sv n) rfl hld ?_);refine yp (pT rfl) (zf (za (ze (z8 (yp (pP rfl) (yp (pT rfl) ?_))))));refine zh (zk (Er hT1 hA1 hI1 (fun e he=>by have:=hu1 e he; omega) n (by omega)) rfl rfl fun r' S' h=>?_);rcases h with⟨he,rfl,rfl⟩ | ⟨he,T2,H2,D2,rfl,hT2,hA2,hI2,hs2,rfl⟩
   ·rw[Y4 (by rw[hEe]; exact he),List.append_nil,hEe] at hPe;subst hPe;refine yp (pU rfl) (yp (pExt rfl rfl) (yp (pExt rfl rfl) (yp (pI rfl) (yp (pI rfl) (zf (za (ze (ze (z8 (yp (pI rfl) (yp (pI rfl) (zf (za (ze (z8 (yp (pI rfl) (yp (UF rfl rfl) (zf (za ?_)))))))))))))))))));rw[decide_eq_false he];refine zI rfl (zV (zy (vV rfl (zy (zy (zW (za ?_)))))));exact⟨T1,H1,D1,.slice ia ik.length ic,Hi,⟨rfl,rfl,rfl,rfl,rfl,trivial⟩,rfl,hiv,hT1,hA1,hI1,hP1,hs1,.of⟩
   ·have hLe:ZN D1 L1 (zC n)=ZN Dk L1 (zC n):=by unfold ZN; rw[U6 hs1]
    have hIe:U3 D1 L1 (zC n)=U3 Dk L1 (zC n):=by unfold U3; rw[U6 hs1]
    have hDe:UE (WQ D1 L1 (zC n)) (WQ Dk L1 (zC n)):=by
     unfold WQ; split
     ·exact hs1
     ·exact YA hs1 _
    have hPL:Pos (ZN D1 L1 (zC n)):=mG hP1;have huL:=mF (D:=D1) (n:=zC n) hu1;rw[U2 (by rw[hEe]; exact he)] at hPe;rw[hLe] at hT2 hI2 hPL huL;rw[hIe];generalize U3 Dk L1 (zC n)=z at hPe;refine yp (pU rfl) (yp (pExt rfl rfl) (yp (pExt rfl rfl) (yp (pI rfl) (yp (pI rfl) (zf (za (ze (ze (z8 (yp (pI rfl) (yp (pI rfl) (zf (za (ze (z8 (yp (pI rfl) (yp (UF rfl rfl) (zf (za (zw rfl (zq (za (z8 (yp (pS rfl) (yp (pI rfl) ?_)))))))))))))))))))))))));rw[decide_eq_true rfl]
    skip
    refine zh (Ve z rfl rfl (by decide) (by decide) rfl fun p44=>?_);refine zh (VL (Y:=[z]) rfl rfl hiv (.lit (by repeat (first | exact List.mem_cons_self | apply List.mem_cons_of_mem)) rfl) rfl (0:Int) rfl (by rw[List.length_singleton]; omega) (by rw[List.length_singleton]; omega) fun v2 H2' hL2=>?_);obtain⟨la2,lc2,rfl⟩:=hL2.isSlice;refine yp (pS rfl) (zf (zT (za (z8 (yp (Za rfl rfl (by omega)) (yp (pI rfl) (zf (za ?_))))))));refine⟨i+1,⟨T2,H2,D2,WQ Dk L1 (zC n),ZN Dk L1 (zC n),ik++[z],.slice la2 (ik++[z]).length lc2,H2',⟨rfl,rfl,rfl,rfl,rfl,rfl,rfl,rfl,trivial⟩,rfl,by omega,hL2,by rw[List.length_append,List.length_singleton]; omega,hT2,hA2,hI2,hPL,(Ka hs2).trans hDe,fun e he=>by have:=huL e he; omega,?_,.of⟩,by omega⟩;rw[hPe,List.append_assoc]; rfl
  ·have hd0:(Zb s).drop i=[]:=List.drop_eq_nil_of_le (by omega);rw[hd0,wO,List.append_nil] at hPe;subst hPe;refine zV (zy (zy (zW (za ?_))));exact⟨T1,H1,D1,.slice ia ik.length ic,Hi,⟨rfl,rfl,rfl,rfl,rfl,trivial⟩,rfl,hiv,hT1,hA1,hI1,hP1,hs1,.of⟩
 intro E S' ⟨T1,H1,D1,iv,Hi,hE2,hE10,hiv,hT1,hA1,hI1,hP1,hs1,hJ⟩;obtain⟨ia,ic,rfl⟩:=hiv.isSlice;have hE3:Has E [(0,.pointer (some ⟨ab,0,none⟩)),(1,.pointer (some ⟨tb,0,none⟩)),(5,.pointer (some ⟨p5,0,none⟩)),(8,.int .i64 (Zp s)),(9,.int .i64 P.e),(10,.slice ia P.ids.length ic)]:=⟨hE2.1,hE2.2.1,hE2.2.2.1,hE2.2.2.2.1,hE2.2.2.2.2.1,hE10,trivial⟩
 clear hE2 hE10;obtain⟨E0,e0⟩:=zl hE3; subst e0; clear hE3;refine zm hJ ?_;have ht:((Zp s).toNat:Int)=Zp s:=by omega
 have haE:ZI N D1 (Zp s)=ZI N P.D (Zp s):=y7 hs1 _ _;refine ze (z8 (yp pC (zf (za ?_))));refine w9 (fun E S'=>∃(H2:List Chunk) (D2:List (Option Bt)) (wv hz:Int),Has E [(0,.pointer (some ⟨ab,0,none⟩)),(1,.pointer (some ⟨tb,0,none⟩)),(5,.pointer (some ⟨p5,0,none⟩)),(9,.int .i64 wv),(10,.slice ia P.ids.length ic),(15,.int .i64 hz)]∧Ar ab N D2 H2∧
  ((wv=4∧¬fits N D L s∧vC D2 P.L B)∨(wv=0∧fits N D L s∧P.e=0∧hz=((hnd P.D:Nat):Int)∧D2=ZJ D1 (Zp s).toNat))∧
  zG S' (Hi::[(p5,.cells #[sv s.name,.int .i64 s.typ,.slice a s.rrs.length c,.int .i64 s.kind,sv s.zone] 46)]::T1::H2::S)) ?_ ?_
 ·by_cases hfit:fits N D L s
  ·obtain⟨h1,h2⟩:=hf1 hfit;rw[h1];refine ze (z8 (yp (pI rfl) (yp (WB rfl rfl) (zf (za (zI rfl (z8 (yp (pP rfl) (yp (pI rfl) ?_)))))))));rw[decide_eq_true rfl]
   skip
   refine zh (zk (bX hA1 (n:=Zp s) (m:=(Zp s).toNat) ht.symm (by rw[ht,haE]; exact h2)) rfl rfl fun r' S' h=>?_);obtain⟨rfl,H2,hA2,rfl⟩:=h;rw[U6 hs1];refine yp (pU rfl) (yp (pExt rfl rfl) (yp (pExt rfl rfl) (yp (pI rfl) (yp (pI rfl) (zf (za ?_))))));exact⟨H2,_,0,_,⟨rfl,rfl,rfl,rfl,rfl,rfl,trivial⟩,hA2,.inr ⟨rfl,hfit,rfl,rfl,rfl⟩,.of⟩
  ·rcases hf2 hfit with h1 | ⟨h1,h2⟩
   ·rw[h1];refine ze (z8 (yp (pI rfl) (yp (WB rfl rfl) (zf (za (zw rfl (zq (za ?_))))))));rw[decide_eq_false (show ¬(4:Int)=0 from by decide)]
    skip
    exact⟨H1,D1,4,0,⟨rfl,rfl,rfl,rfl,rfl,rfl,trivial⟩,hA1,.inl ⟨rfl,hfit,hI1⟩,.of⟩
   ·rw[h1];refine ze (z8 (yp (pI rfl) (yp (WB rfl rfl) (zf (za (zI rfl (z8 (yp (pP rfl) (yp (pI rfl) ?_)))))))));rw[decide_eq_true rfl]
    skip
    refine zh (zk (bY hA1 (haE.trans h2) (by decide)) rfl rfl fun r' S' h=>?_);obtain⟨rfl,rfl⟩:=h;refine yp (pU rfl) (yp (pExt rfl rfl) (yp (pExt rfl rfl) (yp (pI rfl) (yp (pI rfl) (zf (za ?_))))));exact⟨H1,D1,4,0,⟨rfl,rfl,rfl,rfl,rfl,rfl,trivial⟩,hA1,.inl ⟨rfl,hfit,hI1⟩,.of⟩
 intro E S' ⟨H2,D2,wv,hz,hE,hA2,hcase,hJ⟩;obtain⟨E0,e0⟩:=zl hE; subst e0; clear hE;refine zm hJ ?_;rcases hcase with⟨rfl,hfit,hI2⟩ | ⟨rfl,hfit,hPe,rfl,rfl⟩
 ·refine ze (ze (z8 (yp (pI rfl) (yp (UF rfl rfl) (zf (za (zI rfl (ze (ze (z8 (yp (pS rfl) (yp (Zz rfl) (yp pC (zf (za (zo ?_))))))))))))))));rw[decide_eq_false (show ¬(4:Int)=0 from by decide)]
  skip
  refine Z4 (σ:=Nat) (fun i E S'=>∃(T3 H3:List Chunk) (D3:List (Option Bt)),Has E [(1,.pointer (some ⟨tb,0,none⟩)),(9,.int .i64 4),(57,.slice ia P.ids.length ic),(58,.int .i64 (P.ids.length:Int)),(59,.int .i64 (i:Int))]∧i≤P.ids.length∧Tb tb ab (drops P.L (P.ids.take i)) T3∧Ar ab N D3 H3∧vC D3 (drops P.L (P.ids.take i)) B∧zG S' (Hi::T3::H3::S)) (fun i=>P.ids.length-i) 0
   ⟨T1,H2,D2,⟨rfl,rfl,rfl,rfl,rfl,trivial⟩,Nat.zero_le _,hT1,hA2,hI2,.of⟩ fun i E S' ⟨T3,H3,D3,hE,hi,hT3,hA3,hI3,hJ⟩=>?_
  obtain⟨E0,e0⟩:=zl hE; subst e0; clear hE;refine zm hJ (ze (z8 (yp (ZL rfl rfl) (zf (za (ze ?_))))));refine zO rfl (fun hlt=>?_) (fun hlt=>?_)
  ·have hii:i<P.ids.length:=by omega
   have hti:P.ids.take (i+1)=P.ids.take i++[P.ids[i]]:=List.take_succ_eq_append_getElem hii;obtain⟨b,sp,fz,hz,rfl,_,hc',rfl⟩:=hiv.at' (by intro h; simp[h] at hii);have hld:((cells (P.ids++sp)).toArray.toList)[0+i*1+0]?=some (.int .i64 P.ids[i]):=(wH (kk:=1) (j:=0) hii rfl (by omega)).trans rfl;generalize P.ids[i]=z at hld hti;refine zq (za (ze (zo (ze (z8 (yp (zN rfl rfl (by omega)) ?_))))));refine zh (zF (v:= .int .i64 z) rfl hld ?_);refine yp (pI rfl) (zf (za (z8 (yp (pP rfl) (yp (pI rfl) ?_)))));refine zh (zk (eO hT3 hA3 hI3 (X7 hP1) z) rfl rfl fun r' S' h=>?_);obtain⟨rfl,T4,H4,D4,hT4,hA4,hI4,hs4,rfl⟩:=h;refine zf (zT (za (z8 (yp (Za rfl rfl (by omega)) (yp (pI rfl) (zf (za ?_)))))));refine⟨i+1,⟨T4,H4,D4,⟨rfl,rfl,rfl,rfl,rfl,trivial⟩,by omega,?_,hA4,?_,.of⟩,by omega⟩
   ·rw[hti,uH]; exact hT4
   ·rw[hti,uH]; exact hI4
  ·have hti:P.ids.take i=P.ids:=List.take_of_length_le (by omega);rw[hti,hdr] at hT3 hI3;refine zV (zy (zy (zW (za (ze (z8 (yp (pI rfl) (yp pC (yp (pI rfl) (zf (za (zL (zX ?_)))))))))))));exact zK (Ya rfl rfl) ⟨_,.of,.inr (.inl ⟨hE,hfit,T3,H3,D3,rfl,hT3,hA3,hI3,rfl⟩)⟩
 ·have hal:=hlv hPe;have hlen:P.ids.length=(Zb s).length:=by rw[hal.len,List.length_map]
  have hnn:∀i∈P.ids,0≤i:=fun i hi=>by
   obtain⟨e,he,rfl⟩:=hal.mem hi;have:=(iJ hA1 hI1 he).1;omega
  have hbl:=xI (s:=s) (ids:=P.ids) (fun r hr=>(WC hmay r hr).1) hlen;have hdn:=U6 hs1;have hIa:=hI1.alloc (Zp s).toNat;have hga:=W9 D1 (Zp s).toNat;rw[hdn] at hIa hga;have hBn:Hs ((((hnd P.D:Nat):Int),zeros (Zp s).toNat)::B):=by
   refine List.nodup_cons.2 ⟨fun hm=>?_,hB⟩;obtain⟨x,hx,hxe⟩:=List.mem_map.1 hm;have h1:=(hI1.oth x hx).1;have h2:=yG D1;rw[hxe, ←hdn,h2] at h1;cases h1
  have hzl:(Wu s P.ids).length=(zeros (Zp s).toNat).length:=by rw[dh]; omega
  obtain⟨hw1,hw2⟩:=aO (Y:=Wu s P.ids) hga hzl;have hIw:=hIa.write (Y:=Wu s P.ids) hBn;have hsw:=nO (Y:=Wu s P.ids) hga hzl;refine ze (ze (z8 (yp (pI rfl) (yp (UF rfl rfl) (zf (za (zw rfl (zq (za (ze (z8 (yp (pP rfl) (yp (pI rfl) ?_)))))))))))));refine zh (wB (l:=[sv s.name,.int .i64 s.typ,.slice a s.rrs.length c,.int .i64 s.kind,sv s.zone]) rfl rfl rfl ?_);refine yp (pS rfl) ?_;refine zh (zk (og (S:=Hi::S) hs (hv.mono fun x hx=>List.mem_cons_of_mem _ hx) (hiv.src (by simp)) hE hlen hnn) rfl rfl fun r' S' h=>?_);obtain⟨Hw,hw,rfl⟩:=h;refine zh (zk (KX (S0:=[Hw]) hA2 ((hnd P.D:Nat):Int) 0 (Y:=Wu s P.ids) (hw.src (by simp)) (by show _≤9223372036854775807; omega)) rfl rfl fun r' S' h=>?_);obtain⟨rfl,H3,hA3,rfl⟩:=h;rw[hw2] at hA3;refine zf (za (ze (z8 (yp (pI rfl) (yp (pI rfl) (yp pC (zf (za (zL ?_)))))))));exact zK (Ya rfl rfl) ⟨_,.of,.inr (.inr ⟨hE,hfit,T1,H3,_,rfl,hT1,hA3,hIw,hBn,hsw.trans (YA hs1 _),rfl⟩)⟩
end Go.Proofs.YtekgciopamkjlaaGreat
