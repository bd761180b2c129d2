/- Sets in blocks (chapter 8): what reads a set's bytes. Sets in blocks (chapter 8): a record's data is read. Sets in blocks (chapter 8): a set is read. Sets in blocks (chapter 8): Get, Drop. Sets in blocks (chapter 8): Put. -/
import Derived.Test.YtekgciopamkjlaaGreatP2
namespace Go.Proofs.YtekgciopamkjlaaGreat
open Go.Xs
open Enc (enc)
theorem kN{α:Type}[Enc α]{S:zw}{a:Option Addr}{c:Nat}{Y:List α}(h:Src S (.slice a Y.length c) Y){n:Nat}(hn:n≤Y.length):Src S (.slice a n c) (Y.take n):=by
 generalize hv:Value.slice a Y.length c=v at h;cases h with
 | nil=>
  simp only[Value.slice.injEq] at hv;have:n=0:=by simpa using hn
  subst this;rw[List.take_zero]; exact .nil
 | @part b o cap ca ty fz Y hm hc=>
  simp only[Value.slice.injEq] at hv;obtain⟨rfl,_,rfl⟩:=hv;have hl:(Y.take n).length=n:=by rw[List.length_take]; omega
  have:=Src.part (S:=S) (b:=b) (o:=o) (cap:=c) (c:=ca) (ty:=ty) (fz:=fz) (Y:=Y.take n) hm (by
   have h1:=congrArg (fun l=>l.take (n*Enc.k α)) hc;simp only[WU,List.take_take] at h1;rw[hl, ←h1,Nat.min_eq_left (Nat.mul_le_mul_right _ hn)])
  rwa [hl] at this
theorem mh{α:Type}[Enc α]{S:zw}{a:Option Addr}{c kk:Nat}{Y:List α}(h:Src S (.slice a Y.length c) Y)(hkk:Enc.k α=kk)(hc:Y.length≤c){n:Nat}(hn:n≤Y.length):
 ∃a2,(∀(E:Env) (q:IntKind) (x y:Operand),ev E x= .slice a Y.length c→ev E y= .int q (n:Int)→zl (ev E) (.slc kk x (some y) none none)=some (.slice a2 (Y.length-n) (c-n)))∧Src S (.slice a2 (Y.length-n) (c-n)) (Y.drop n):=by
 subst hkk;generalize hv:Value.slice a Y.length c=v at h;cases h with
 | nil=>
  simp only[Value.slice.injEq] at hv;obtain⟨rfl,_,rfl⟩:=hv;have h0:n=0:=by simpa using hn
  subst h0;refine⟨if c=0 then a else a.map (·.add (0*Enc.k α)),fun E q x y hx hy=>?_,.nil⟩;simp[zl,hx,Vm,hy,Jf,bnd,Uf]
 | @part b o cap ca ty fz Y hm hcell=>
  simp only[Value.slice.injEq] at hv;obtain⟨rfl,_,rfl⟩:=hv;refine⟨_,fun E q x y hx hy=>Qh hx hy hn,?_⟩;have hl:(Y.drop n).length=Y.length-n:=List.length_drop;by_cases h0:Y.length-n=0
  ·have:Y.drop n=[]:=List.length_eq_zero_iff.1 (by omega);rw[h0,this]; exact .nil
  have hne:¬c=n:=by omega
  have:=Src.part (S:=S) (b:=b) (o:=o+n*Enc.k α) (cap:=c-n) (c:=ca) (ty:=ty) (fz:=fz) (Y:=Y.drop n) hm (by
   rw[←List.drop_drop];have h1:=congrArg (fun l=>l.drop (n*Enc.k α)) hcell;simp only[Wu] at h1;rw[hl, ←h1,List.drop_take,Nat.sub_mul])
  rw[hl] at this;rw[if_neg hne]; exact this
/-! ### numbers -/
def Kg:Bs→Nat
 | []=>0
 | b::l=>b.toNat+256*Kg l
theorem JJ:∀(X:Bs),Kg X<2 ^ (8*X.length)
 | []=>by decide
 | b::l=>by
  have h1:=JJ l;have h2:=b.toNat_lt;have h3:2 ^ (8*(l.length+1))=256*2 ^ (8*l.length):=by rw[show 8*(l.length+1)=8+8*l.length from by omega,Nat.pow_add]
  show b.toNat+256*Kg l<2 ^ (8*(l.length+1));omega
theorem jG:∀(X:Bs) (b:UInt8),Kg (X++[b])=Kg X+b.toNat*2 ^ (8*X.length)
 | [],b=>by show b.toNat+256*0=0+b.toNat*2 ^ 0; omega
 | x::l,b=>by
  have h1:=jG l b;have h3:2 ^ (8*(l.length+1))=256*2 ^ (8*l.length):=by rw[show 8*(l.length+1)=8+8*l.length from by omega,Nat.pow_add]
  show x.toNat+256*Kg (l++[b])=x.toNat+256*Kg l+b.toNat*2 ^ (8*(l.length+1));rw[h1,h3,Nat.mul_add, ←Nat.mul_assoc,Nat.mul_comm 256 b.toNat,Nat.mul_assoc,Nat.add_assoc, ←Nat.mul_assoc b.toNat]
theorem Xv:∀(k n:Nat),Kg (Uc k n)=n%256 ^ k
 | 0,n=>by show 0=n%1; omega
 | k+1,n=>by
  have h1:=Xv k (n/256);have h2:(UInt8.ofNat (n%256)).toNat=n%256:=by simp
  show(UInt8.ofNat (n%256)).toNat+256*Kg (Uc k (n/256))=n%256 ^ (k+1);rw[h1,h2,Nat.pow_succ,Nat.mul_comm (256 ^ k),Nat.mod_mul]
abbrev Vx(x tb:Nat)(bv iv:Value):List Chunk:=[(x,.cells #[.pointer (some ⟨tb,0,none⟩),bv,iv,.bool false] 175)]
theorem kU{x tb:Nat}{iv:Value}{S0:zw}{a:Option Addr}{c:Nat}{Y:Bs}(h:Src S0 (.slice a Y.length c) Y)(hc:Y.length≤c){n:Nat}(hn:n≤Y.length):
 zP Tryz.prog 150 #[.pointer (some ⟨x,0,none⟩),.int .i64 (n:Int)] [Vx x tb (.slice a Y.length c) iv] (fun r S=>r= .slice a n c∧∃a2,Src S0 (.slice a2 (Y.length-n) (c-n)) (Y.drop n)∧S=[Vx x tb (.slice a2 (Y.length-n) (c-n)) iv]):=by
 refine zP.forget (zm Tryz.Fj (Nat.le_of_ble_eq_true rfl) ?_);unfold Tryz.x150;obtain⟨a2,hp,hs2⟩:=mh h (kk:=1) rfl hc hn;refine ze (z8 (yp pC (zf (za (ze (ze (z8 (yp (pP rfl) (yp (pP rfl) (yp (zM rfl) (yp (zn rfl) ?_)))))))))));refine zh (zC rfl rfl ?_);refine yp (pB rfl) (zW rfl (Z6 (pI rfl) (zW rfl (Z6 (pP rfl) (zW rfl (Z6 (zM rfl) (zW rfl (Z6 (zn rfl) (zW rfl ?_)))))))));refine(zC rfl rfl ?_);refine zW rfl (Z6 (ZK rfl) (zW rfl (Z6 (VK rfl rfl) (yp (zQ rfl rfl) (yp (zM rfl) (yp (zn rfl) ?_))))));refine zh (XB rfl rfl (Bd rfl) ?_);refine zf (za (ze (z8 (yp (pP rfl) (yp (zM rfl) (yp (zn rfl) ?_))))));refine zh (zC rfl rfl ?_);refine zf (za ?_);rw[decide_eq_false (show ¬((Y.length:Nat):Int)<(n:Int) from by omega)];refine zA rfl (zq (za (ze (z8 (yp (pP rfl) (yp (zM rfl) (yp (zn rfl) ?_)))))));refine zh (zC rfl rfl ?_);refine yp (pI rfl) (yp (eY (j:=n) rfl rfl (by omega)) (yp (pS rfl) (zf (za (ze (z8 (yp (pP rfl) (yp (pP rfl) (yp (zM rfl) (yp (zn rfl) ?_))))))))));refine zh (zC rfl rfl ?_);refine yp (pI rfl) (yp (hp _ _ _ _ rfl rfl) (yp (zM rfl) (yp (zn rfl) ?_)));refine zh (bQ rfl rfl (jg rfl) ?_);refine zf (za (ze (z8 (yp (pS rfl) (yp (pS rfl) (zf (za (zJ ?_))))))));exact zH (rS rfl) ⟨_,.of,rfl,a2,hs2,rfl⟩
set_option maxRecDepth 10000 in
theorem XR{x tb:Nat}{iv:Value}{S0:zw}{a:Option Addr}{c:Nat}{Y:Bs}(h:Src S0 (.slice a Y.length c) Y)(hc:Y.length≤c){n:Nat}(hn:n≤Y.length)(hn4:n≤4):
 zP Tryz.prog 116 #[.pointer (some ⟨x,0,none⟩),.int .i64 (n:Int)] (Vx x tb (.slice a Y.length c) iv::S0) (fun r S=>r= .int .i64 (Kg (Y.take n):Nat)∧∃a2,Src S0 (.slice a2 (Y.length-n) (c-n)) (Y.drop n)∧S=Vx x tb (.slice a2 (Y.length-n) (c-n)) iv::S0):=by
 refine zP.forget (zm Tryz.FZ (Nat.le_of_ble_eq_true rfl) ?_);unfold Tryz.CG;have hst:=kN h hn;have htl:(Y.take n).length=n:=by rw[List.length_take]; omega
 replace hst:Src S0 (.slice a (Y.take n).length c) (Y.take n):=by rw[htl]; exact hst
 refine ze (z8 (yp pC (zf (za (ze (ze (z8 (yp (pP rfl) (yp (pI rfl) ?_)))))))));refine zh (zk (kU (x:=x) (tb:=tb) (iv:=iv) h hc hn) rfl rfl fun r S' h=>?_);obtain⟨rfl,a2,hs2,rfl⟩:=h;generalize Y.take n=X at hst htl;refine yp (ZK rfl) (yp pC (zf (za (zy ?_))));refine Zb (σ:=Nat) (fun i E S=>Has E [(4,.int .i64 (Kg (X.take i):Nat)),(9,.slice a n c),(10,.int .i64 (n:Int)),(11,.int .i64 (i:Int))]∧i≤n∧zF S (Vx x tb (.slice a2 (Y.length-n) (c-n)) iv::S0)) (fun i=>n-i) 0
  ⟨⟨rfl,rfl,rfl,rfl,trivial⟩,Nat.zero_le _,.of⟩ fun i E S ⟨hE,hi,hJ⟩=>?_
 obtain⟨E0,e0⟩:=zu hE; subst e0; clear hE;refine zo hJ (ze (z8 (yp (ZN rfl rfl) (zf (za (ze ?_))))));refine zR rfl (fun hlt=>?_) (fun hlt=>?_)
 ·have hin:i<X.length:=by omega
  obtain⟨b,o,ca,ty,fz,rfl,hmem,_,hg⟩:=jc hst hin;have hg:=hg 0 (by decide);have hsn:=jG (X.take i) X[i];have hlt2:=JJ (X.take i);have htk:X.take (i+1)=X.take i++[X[i]]:=List.take_succ_eq_append_getElem hin;rw[←htk] at hsn;have hti:(X.take i).length=i:=by rw[List.length_take]; omega
  rw[hti] at hsn hlt2;have hld:ca.toList[o+i*1+0]?=some (.int .u8 (X[i].toNat:Int)):=hg;have hb:=X[i].toNat_lt;generalize X[i]=y at hld hsn hb;have h64:2 ^ (8*(i+1))≤2 ^ 32:=Nat.pow_le_pow_right (by decide) (by omega);have hall:=JJ (X.take (i+1));rw[show(X.take (i+1)).length=i+1 from by rw[List.length_take]; omega] at hall;have hor:=fG (b:=y.toNat) hlt2;have hpos:0<2 ^ (8*i):=Nat.pow_pos (by decide);generalize Kg (X.take i)=V at*
  refine zq (za (ze (zy (ze (z8 (yp (pI rfl) (yp (zV rfl rfl (by omega)) ?_)))))));refine zh (kr (List.mem_cons_of_mem _ hmem) rfl hld ?_);refine yp (pI rfl) (yp (pI rfl) (zf (za (z8 (yp (pI rfl) (yp (pI rfl) (yp (jA rfl) (yp (pI rfl) (yp (UM (j:=8) (k:=i) rfl rfl (by omega)) (yp (oQ rfl rfl (by omega) (by omega)) (yp (fB rfl rfl (by rw[hor]; omega) (by omega) (by omega)) ?_)))))))))));rw[hor, ←hsn];refine yp (pI rfl) (zf (zU (za (z8 (yp (Zi rfl rfl (by omega)) (yp (pI rfl) (zf (za ?_))))))));exact⟨i+1,⟨⟨rfl,rfl,rfl,rfl,trivial⟩,by omega,.of⟩,by omega⟩
 ·have hxi:X.take i=X:=List.take_of_length_le (by omega);rw[hxi];refine Z0 (zI (zI (Z4 (za (ze (z8 (yp (pI rfl) (yp (pI rfl) (zf (za (zJ ?_)))))))))));exact zH (rI rfl) ⟨_,.of,rfl,a2,hs2,rfl⟩
set_option maxRecDepth 10000 in
theorem eu{x tb ab N:Nat}{D:List (Option Bt)}{H:List Chunk}{L:List Nm}{B:List (Int × Bs)}{T:List Chunk}(hT:Tb tb ab L T)(hA:Ar ab N D H)(hI:WW D L B){S0:zw}{a:Option Addr}{c:Nat}{Y:Bs}(h:Src S0 (.slice a Y.length c) Y)(hc:Y.length≤c)(h4:4≤Y.length)
 {iv:Value} {ids:List Int} {Hi:List Chunk} (hi:Zc 3 iv ids Hi) (hil:ids.length<2 ^ 30) {e:Nm} (he:Y0 L (Kg (Y.take 4):Nat)=some e):
 zP Tryz.prog 115 #[.pointer (some ⟨x,0,none⟩)] (Vx x tb (.slice a Y.length c) iv::Hi::T::H::S0)
  (fun r S=>r=sv e.n∧∃a2 v2 Hi2,Src S0 (.slice a2 (Y.length-4) (c-4)) (Y.drop 4)∧Zc 3 v2 (ids++[((Kg (Y.take 4):Nat):Int)]) Hi2∧S=Vx x tb (.slice a2 (Y.length-4) (c-4)) v2::Hi2::T::H::S0):=by
 refine zP.forget (zm Tryz.G5 (Nat.le_of_ble_eq_true rfl) ?_);unfold Tryz.x115;obtain⟨ia,ic,rfl⟩:=hi.isSlice;refine ze (z8 (yp pC (zf (za (ze (z8 (yp (pP rfl) ?_)))))));refine zh (zk (XR (x:=x) (tb:=tb) (iv:= .slice ia ids.length ic) h hc (n:=4) h4 (by decide)) rfl rfl fun r S' h=>?_);obtain⟨rfl,a2,hs2,rfl⟩:=h;generalize Kg (Y.take 4)=i at he;refine yp (pI rfl) (zf (za (ze (z8 (yp (pP rfl) (yp (zM rfl) (yp (zn rfl) ?_)))))));refine zh (zC rfl rfl ?_);refine yp (pI rfl) ?_;refine zh (zk (Jm hT hA hI (i:Int)) rfl rfl fun r S' h=>?_);obtain⟨rfl,rfl⟩:=h;rw[he];show YL _ _ _ _ _ (Zg _ (.tuple #[sv e.n,.bool true]) _) _;refine yp (pU rfl) (yp (pExt rfl rfl) (yp (pExt rfl rfl) (yp (pT rfl) (yp (pB rfl) (zf (za (ze (z8 (yp (pP rfl) (yp (pP rfl) (yp (zM rfl) (yp (zn rfl) ?_))))))))))));refine zh (zC rfl rfl ?_);refine yp (pB rfl) (zW rfl (Z6 (pB rfl) (zW rfl (Z6 (Ze rfl) (yp (zQ rfl rfl) (yp (zM rfl) (yp (zn rfl) ?_)))))));refine zh (XB rfl rfl (Bd rfl) ?_);refine zf (za (ze (z8 (yp (pP rfl) (yp (pP rfl) (yp (zM rfl) (yp (zn rfl) ?_)))))));refine zh (zC rfl rfl ?_);refine yp (pI rfl) ?_;refine zh (vU (i:Int) rfl rfl (by decide) (by decide) rfl fun p34=>?_);refine zh (uK (Y:=[(i:Int)]) rfl rfl hi (.lit (by repeat (first | exact List.mem_cons_self | apply List.mem_cons_of_mem)) rfl) rfl (0:Int) rfl (by rw[List.length_singleton]; omega) (by rw[List.length_singleton]; omega) fun v2 H2 hL2=>?_);obtain⟨la2,lc2,rfl⟩:=hL2.isSlice;refine yp (zM rfl) (yp (zn rfl) ?_);refine zh (XC rfl rfl (jg rfl) ?_);refine zf (za (ze (z8 (yp (pT rfl) (yp (pT rfl) (zf (za (zJ ?_))))))));rw[show(!true)=false from rfl,List.append_nil];exact zH (res1 rfl) ⟨_,.of,rfl,a2,_,H2,hs2,hL2,rfl⟩
theorem Al.len{L:List Nm}:∀{ids:List Int} {ns:List Bs},Al L ids ns→ids.length=ns.length
 | _,_,.nil=>rfl
 | _,_,.cons _ t=>by rw[List.length_cons,List.length_cons,t.len]
theorem Al.drop{L:List Nm}:∀{ids:List Int} {ns:List Bs} (k:Nat),Al L ids ns→Al L (ids.drop k) (ns.drop k)
 | _,_,0,h=>h
 | _,_,_+1,.nil=> .nil
 | _,_,k+1,.cons _ t=>t.drop k
theorem Al.take{L:List Nm}:∀{ids:List Int} {ns:List Bs} (k:Nat),Al L ids ns→Al L (ids.take k) (ns.take k)
 | _,_,0,_=> .nil
 | _,_,_+1,.nil=> .nil
 | _,_,k+1,.cons h t=> .cons h (t.take k)
theorem Al.at{L:List Nm}:∀{ids:List Int} {ns:List Bs} {k:Nat} {i:Int} {n:Bs},Al L ids ns→ids[k]?=some i→ns[k]?=some n→∃e∈L,e.id=i∧e.n=n
 | _,_,0,i,n,.cons h t,h1,h2=>by
  obtain rfl:=Option.some.inj h1;obtain rfl:=Option.some.inj h2;exact h
 | _,_,k+1,i,n,.cons h t,h1,h2=>t.at (k:=k) (by simpa using h1) (by simpa using h2)
theorem iL{L:List Nm}(hd:xD L){e:Nm}(he:e∈L):Y0 L e.id=some e:=by
 obtain⟨j,hj⟩:=List.mem_iff_getElem?.1 he;unfold Y0;rw[Qs hd.ids hj]; exact hj
theorem gH{ab N:Nat}{D:List (Option Bt)}{H:List Chunk}{L:List Nm}{B:List (Int × Bs)}(hA:Ar ab N D H)(hI:WW D L B){e:Nm}(he:e∈L):1≤e.id∧e.id≤65536:=by
 obtain⟨j,hj,hjd⟩:=VY (hI.blk e he);have h1:=(List.getElem?_eq_some_iff.1 hjd).1;have h2:=hA.ok.len;have h3:=hA.ok.big;omega
theorem QB{i:Int}(h0:0≤i)(h1:i≤65536):((Kg (Ud i):Nat):Int)=i:=by
 unfold Ud;rw[Xv,Nat.mod_eq_of_lt (by omega)]; omega
set_option maxRecDepth 10000 in
set_option maxHeartbeats 1000000 in
theorem sP{x tb ab N:Nat}{D:List (Option Bt)}{H:List Chunk}{L:List Nm}{B:List (Int × Bs)}{T:List Chunk}(hT:Tb tb ab L T)(hA:Ar ab N D H)(hI:WW D L B){S0:zw}{a:Option Addr}{c:Nat}{Y Y':Bs}(h:Src S0 (.slice a Y.length c) Y)(hc:Y.length≤c)
 {iv:Value} {ids ids':List Int} {Hi:List Chunk} (hi:Zc 3 iv ids Hi) (hil:ids.length<2 ^ 20) {r:RR} (hok:Zn r.t r.d=true) (hal:Al L ids' ((Zw r).map zx)) (hY:Y=Uc 2 (WT r ids').length++(WT r ids'++Y')) (hYl:Y.length≤4096):
 zP Tryz.prog 117 #[.pointer (some ⟨x,0,none⟩),.int .i64 r.t] (Vx x tb (.slice a Y.length c) iv::Hi::T::H::S0)
  (fun v S=>v=sv (wT r.t r.d)∧∃a2 c2 v2 Hi2,Src S0 (.slice a2 Y'.length c2) Y'∧Y'.length≤c2∧Zc 3 v2 (ids++ids') Hi2∧S=Vx x tb (.slice a2 Y'.length c2) v2::Hi2::T::H::S0):=by
 refine zP.forget (zm Tryz.FY (Nat.le_of_ble_eq_true rfl) ?_);unfold Tryz.CF;obtain⟨ia,ic,rfl⟩:=hi.isSlice;generalize hX:WT r ids'=X at hY;have hlen:Y.length=2+(X.length+Y'.length):=by rw[hY,List.length_append,Zy,List.length_append]
 have ht2:Kg (Y.take 2)=X.length:=by
  rw[hY,List.take_append_of_le_length (by rw[Zy]; exact Nat.le_refl _),List.take_of_length_le (by rw[Zy]; exact Nat.le_refl _),Xv,Nat.mod_eq_of_lt (by omega)]
 have hd2:Y.drop 2=X++Y':=by
  rw[hY];have:=List.drop_left (l₁:=Uc 2 X.length) (l₂:=X++Y')
  rwa [Zy] at this
 refine ze (z8 (yp pC (zf (za (ze (z8 (yp (pP rfl) (yp (pP rfl) ?_))))))));refine zh (zk (XR (x:=x) (tb:=tb) (iv:= .slice ia ids.length ic) h hc (n:=2) (by omega) (by decide)) rfl rfl fun r' S' h=>?_);obtain⟨rfl,a2,hs2,rfl⟩:=h;rw[ht2];have hl2:Y.length-2=(X++Y').length:=by rw[List.length_append]; omega
 rw[hd2,hl2] at hs2;rw[hl2];refine zh (zk (kU (x:=x) (tb:=tb) (iv:= .slice ia ids.length ic) hs2 (by rw[←hl2]; omega) (n:=X.length) (by rw[List.length_append]; omega)) rfl rfl fun r' S' h=>?_);obtain⟨rfl,a3,hs3,rfl⟩:=h;rw[List.drop_left,show(X++Y').length-X.length=Y'.length from by rw[List.length_append]; omega] at hs3;rw[show(X++Y').length-X.length=Y'.length from by rw[List.length_append]; omega];have hsX:=kN hs2 (n:=X.length) (by rw[List.length_append]; omega);rw[List.take_left] at hsX;have hc3:Y'.length≤c-2-X.length:=by omega
 have hcX:X.length≤c-2:=by omega
 refine yp (pS rfl) (zf (za (ze (z8 (yp (pI rfl) ?_)))));refine zh (zk (Q8 r.t) rfl rfl fun r' S' h=>?_);obtain⟨rfl,rfl⟩:=h;unfold mE;cases hsh:w9 r.t with
 | none=>
  have hp:prt r.t r.d=[]:=VJ hsh;have hids:ids'=[]:=by
   have:=hal.len;unfold Zw at this;rw[hp] at this;exact List.length_eq_zero_iff.1 this
  have hXd:X=r.d:=by rw[←hX]; exact YJ hsh ids'
  simp only;refine yp (pU rfl) (yp (pExt rfl rfl) (yp (pExt rfl rfl) (yp (pExt rfl rfl) (yp (pExt rfl rfl) (yp (pI rfl) (yp (pI rfl) (yp (pI rfl) (yp (pB rfl) (zf (za (ze (ze (z8 (yp (pB rfl) (yp (Ze rfl) (zf (za (zG rfl (ze (z8 (yp (pS rfl) ?_)))))))))))))))))))));refine zh (QX (Y:=X) rfl (hsX.mono fun s hs=>by simp[hs]) ?_);refine yp (pT rfl) (zf (za (zJ (zX ?_))));exact zH (v:=sv X) (res1 rfl) ⟨_,.of,by rw[hXd,yx hsh],a3,_,_,Hi,hs3,hc3,by rw[hids,List.append_nil]; exact hi,rfl⟩
 | some sh=>
  obtain⟨P,xs,Z,hf,hcut⟩:=Km hok hsh;have hd1000:=wV hok;have hshe:=hf.shape;have hle:=xJ hshe;rw[hsh] at hshe;obtain rfl:=Option.some.inj hshe;have hnr:Zw r=xs:=hcut;have hxl:ids'.length=xs.length:=by rw[hal.len,hnr,List.length_map]
  rw[YK hf hd1000 hxl] at hX;rw[hnr] at hal;have hPl:P.length≤X.length:=by rw[←hX,List.length_append,List.length_append]; omega
  simp only;refine XD (S0:=Vx x tb (.slice a3 Y'.length (c-2-X.length)) (.slice ia ids.length ic)::Hi::T::H::S0) .of (yp (pU rfl) (yp (pExt rfl rfl) (yp (pExt rfl rfl) (yp (pExt rfl rfl) (yp (pExt rfl rfl) (yp (pI rfl) (yp (pI rfl) (yp (pI rfl) (yp (pB rfl) (zf (za (ze (ze (z8 (yp (pB rfl) (yp (Ze rfl) (zf (za (zA rfl (zq (za (ze (Z5 (zi (pP rfl) (zi (zM rfl) (zi (zn rfl) (Z9 rfl rfl (zi (pS rfl) (zi (pP rfl) (zi (zM rfl) (zi (zn rfl) (Z9 rfl rfl (zi (v:= .agg #[.pointer (some ⟨tb,0,none⟩),.slice a2 X.length (c-2),.slice none 0 0,.bool false]) rfl ?_)))))))))))))))))))))))))))))))));refine zN (Zt (c:=[.pointer (some ⟨tb,0,none⟩),.slice a2 X.length (c-2),.slice none 0 0,.bool false]) rfl fun p37=>?_) zO;refine zi (pP rfl) (zK (za (ze (z8 (yp (pP rfl) (yp (pI rfl) ?_))))));refine zh (zk (kU (x:=p37) (tb:=tb) (iv:= .slice none 0 0) hsX hcX (n:=P.length) hPl) rfl rfl fun r' S' h=>?_);obtain⟨rfl,a4,hs4,rfl⟩:=h;have hsP:=kN hsX hPl;have hXP:X.take P.length=P:=by rw[←hX,List.append_assoc,List.take_left]
  have hXd:X.drop P.length=(ids'.map Ud).flatten++Z:=by rw[←hX,List.append_assoc,List.drop_left]
  have hl4:X.length-P.length=((ids'.map Ud).flatten++Z).length:=by rw[←hXd,List.length_drop]
  rw[hXP] at hsP;rw[hXd,hl4] at hs4;rw[hl4];have hc4:((ids'.map Ud).flatten++Z).length≤c-2-P.length:=by omega
  refine zh (QX (Y:=P) rfl (hsP.mono fun s hs=>by simp[hs]) ?_);refine yp (pT rfl) (zf (za (ze (ze (z8 (yp (pI rfl) (yp pC (zf (za (zy ?_))))))))));refine Zb (σ:=Nat) (fun i E S=>∃(a5:Option Addr) (c5:Nat) (v5:Value) (Hi5:List Chunk) (Yr:Bs),Has E [(0,.pointer (some ⟨x,0,none⟩)),(10,.pointer (some ⟨p37,0,none⟩)),(11,sv (P++((xs.take i).map zx).flatten)),(42,.int .i64 (xs.length:Int)),(43,.int .i64 (i:Int))]∧i≤xs.length∧Src S0 (.slice a5 Yr.length c5) Yr∧Yr.length≤c5∧Yr=((ids'.drop i).map Ud).flatten++Z∧Zc 3 v5 (ids'.take i) Hi5∧
   zF S (Vx p37 tb (.slice a5 Yr.length c5) v5::Hi5::Vx x tb (.slice a3 Y'.length (c-2-X.length)) (.slice ia ids.length ic)::Hi::T::H::S0)) (fun i=>xs.length-i) 0
   ⟨a4,_,_,[],_,⟨rfl,rfl,by show sv P=sv (P++[]); rw[List.append_nil],rfl,rfl,trivial⟩,Nat.zero_le _,hs4,hc4,rfl,.nil,.of⟩ fun i E S ⟨a5,c5,v5,Hi5,Yr,hE,hi5,hs5,hc5,hYr,hL5,hJ⟩=>?_
  obtain⟨l5a,l5c,rfl⟩:=hL5.isSlice;have hxl2:=hle.2.1;simp only at hxl2;obtain⟨E0,e0⟩:=zu hE; subst e0; clear hE;refine zo hJ (ze (z8 (yp (ZN rfl rfl) (zf (za (ze ?_))))));refine zR rfl (fun hlt=>?_) (fun hlt=>?_)
  ·have hix:i<xs.length:=by omega
   have hii:i<ids'.length:=by omega
   have hdi:ids'.drop i=ids'[i]::ids'.drop (i+1):=List.drop_eq_getElem_cons hii;have hti:ids'.take (i+1)=ids'.take i++[ids'[i]]:=List.take_succ_eq_append_getElem hii;have htx:xs.take (i+1)=xs.take i++[xs[i]]:=List.take_succ_eq_append_getElem hix;obtain⟨e,heL,heid,hen⟩:=hal.at (k:=i) (i:=ids'[i]) (n:=zx xs[i]) (List.getElem?_eq_getElem hii) (by rw[List.getElem?_map,List.getElem?_eq_getElem hix]; rfl)
   obtain⟨hb1,hb2⟩:=gH hA hI heL;rw[hdi,List.map_cons,List.flatten_cons,List.append_assoc] at hYr;have hby:=iL hI.dis heL;have hvx:=hf.WO _ (List.getElem_mem hix);have hxlen:=Wo hvx;have hXlen:((xs.take i).map zx).flatten.length≤510:=by
    have h1:∀(l:List Bs),(∀y∈l,WO y=true)→(l.map zx).flatten.length≤255*l.length:=by
     intro l
     induction l with
     | nil=>intro _; exact Nat.zero_le _
     | cons y l ih=>
      intro hv;have h2:=ih fun z hz=>hv z (List.mem_cons_of_mem _ hz)
      have h3:=Wo (hv y (by simp));have h4:=wK y;rw[List.map_cons,List.flatten_cons,List.length_append,List.length_cons]; omega
    have h2:=h1 (xs.take i) fun y hy=>hf.WO y ((List.take_sublist _ _).subset hy)
    rw[List.length_take] at h2; omega
   rw[heid] at hb1 hb2 hby;generalize ids'[i]=z at hb1 hb2 hby hYr hti;have hY4:Kg (Yr.take 4)=Kg (Ud z):=by
    rw[hYr,List.take_append_of_le_length (by rw[Ud,Zy]; exact Nat.le_refl _),List.take_of_length_le (by rw[Ud,Zy]; exact Nat.le_refl _)]
   have hYd:Yr.drop 4=((ids'.drop (i+1)).map Ud).flatten++Z:=by
    rw[hYr];have:=List.drop_left (l₁:=Ud z) (l₂:=((ids'.drop (i+1)).map Ud).flatten++Z)
    rwa [Ud,Zy] at this
   have hYl4:4≤Yr.length:=by rw[hYr,List.length_append,Ud,Zy]; omega
   have hlz:=QB (i:=z) (by omega) hb2;rw[←hY4] at hlz;refine zq (za (ze (zy (z8 (yp (pT rfl) (yp (pP rfl) ?_))))));refine zh (zk (eu (x:=p37) hT hA hI hs5 hc5 hYl4 hL5 (by rw[List.length_take]; omega) (e:=e) (by rw[hlz]; exact hby)) rfl rfl fun r' S' h=>?_);obtain⟨rfl,a6,v6,H6,hs6,hL6,rfl⟩:=h;rw[hlz, ←hti] at hL6;rw[hen];have hl6:Yr.length-4=(((ids'.drop (i+1)).map Ud).flatten++Z).length:=by rw[←hYd,List.length_drop]
   rw[hYd,hl6] at hs6;rw[hl6]
   skip
   have hfl:=wK xs[i];refine yp (DC (Y:=P++((xs.take i).map zx).flatten) (Z:=zx xs[i]) rfl rfl (by rw[List.length_append]; omega)) (yp (pT rfl) (zf (zU (za (z8 (yp (Zi rfl rfl (by omega)) (yp (pI rfl) (zf (za ?_)))))))));refine⟨i+1,⟨a6,c5-4,v6,H6,_,⟨rfl,rfl,?_,rfl,rfl,trivial⟩,by omega,hs6,by omega,rfl,hL6,?_⟩,by omega⟩
   ·show sv _=sv _;rw[htx,List.map_append,List.flatten_append,List.append_assoc];simp
   ·exact .of
  ·have hxi:xs.take i=xs:=List.take_of_length_le (by omega);have hii:ids'.take i=ids':=List.take_of_length_le (by omega);have hdi:ids'.drop i=[]:=List.drop_eq_nil_of_le (by omega);rw[hdi] at hYr;have hYr:Yr=Z:=hYr;subst hYr;have hPxs:(P++(xs.map zx).flatten++Yr).length=r.d.length:=hf.jK;have hPxl:(P++(xs.map zx).flatten).length≤1000:=by
    rw[List.length_append] at hPxs; omega
   have hYl1:Yr.length≤1000:=by
    rw[List.length_append] at hPxs; omega
   rw[hii] at hL5 ⊢;rw[hxi];refine Z0 (zI (zI (Z4 (za (ze (Wq (R:=[Vx p37 tb (.slice a5 Yr.length c5) (.slice l5a ids'.length l5c),Vx x tb (.slice a3 Y'.length (c-2-X.length)) (.slice ia ids.length ic)]) (by simp) (zi (pP rfl) (zi (pP rfl) (zi (pP rfl) (zi (zM rfl) (zi (zn rfl) (Z9 rfl rfl (zi (pP rfl) (zi (zM rfl) (zi (zn rfl) (Z9 rfl rfl (zi (pP rfl) (zi (zM rfl) (zi (zn rfl) (Z9 rfl rfl ?_))))))))))))))))))));refine Zj (uK (Y:=ids') rfl rfl hi (hL5.src (by simp)) rfl (0:Int) rfl (by omega) (by omega) fun v7 H7 hL7=>⟨by simp,?_⟩) zO;obtain⟨l7a,l7c,rfl⟩:=hL7.isSlice;refine zi (zM rfl) (zi (zn rfl) ?_);refine zN (XB rfl rfl (Bd rfl) ?_) zO;refine zi (zM rfl) (zi (zn rfl) ?_);refine zN (XC rfl rfl (jg rfl) ?_) zO;refine zK (za (ze (z8 (yp (pT rfl) (yp (pP rfl) (yp (zM rfl) (yp (zn rfl) ?_)))))));refine zh (zC rfl rfl ?_);refine zh (QX (Y:=Yr) rfl (hs5.mono fun s hs=>by simp[hs]) ?_);refine yp (DC (Y:=P++(xs.map zx).flatten) (Z:=Yr) rfl rfl (by omega)) (yp (pT rfl) (zf (za (zJ ?_))));exact zH (v:=sv (P++(xs.map zx).flatten++Yr)) (res1 rfl) ⟨_,.of,by rw[yA hf hd1000],a3,_,_,H7,hs3,hc3,hL7,rfl⟩
/-- the next bytes are a number's, a name's -/
theorem Jz{x tb:Nat}{iv:Value}{S0:zw}{a:Option Addr}{c:Nat}{Y Y':Bs}(h:Src S0 (.slice a Y.length c) Y)(hc:Y.length≤c){n z:Nat}(hn4:n≤4)(hY:Y=Uc n z++Y')(hz:z<256 ^ n):
 zP Tryz.prog 116 #[.pointer (some ⟨x,0,none⟩),.int .i64 (n:Int)] (Vx x tb (.slice a Y.length c) iv::S0) (fun r S=>r= .int .i64 (z:Int)∧∃a2 c2,Src S0 (.slice a2 Y'.length c2) Y'∧Y'.length≤c2∧S=Vx x tb (.slice a2 Y'.length c2) iv::S0):=by
 have hl:Y.length=n+Y'.length:=by rw[hY,List.length_append,Zy]
 have ht:Y.take n=Uc n z:=by rw[hY,List.take_append_of_le_length (by rw[Zy]; exact Nat.le_refl _),List.take_of_length_le (by rw[Zy]; exact Nat.le_refl _)]
 have hd:Y.drop n=Y':=by
  rw[hY];have:=List.drop_left (l₁:=Uc n z) (l₂:=Y')
  rwa [Zy] at this
 refine(XR (x:=x) (tb:=tb) (iv:=iv) h hc (n:=n) (by omega) hn4).mono fun r S hr=>?_
 obtain⟨h1,a2,h2,h3⟩:=hr;rw[ht,Xv,Nat.mod_eq_of_lt hz] at h1;rw[hd,show Y.length-n=Y'.length from by omega] at h2;rw[show Y.length-n=Y'.length from by omega] at h3;exact⟨h1,a2,c-n,h2,by omega,h3⟩
theorem eD{x tb ab N:Nat}{D:List (Option Bt)}{H:List Chunk}{L:List Nm}{B:List (Int × Bs)}{T:List Chunk}(hT:Tb tb ab L T)(hA:Ar ab N D H)(hI:WW D L B){S0:zw}{a:Option Addr}{c:Nat}{Y Y':Bs}(h:Src S0 (.slice a Y.length c) Y)(hc:Y.length≤c)
 {iv:Value} {ids:List Int} {Hi:List Chunk} (hi:Zc 3 iv ids Hi) (hil:ids.length<2 ^ 30) {i:Int} {n:Bs} (he:∃e∈L,e.id=i∧e.n=n) (hY:Y=Ud i++Y'):
 zP Tryz.prog 115 #[.pointer (some ⟨x,0,none⟩)] (Vx x tb (.slice a Y.length c) iv::Hi::T::H::S0)
  (fun r S=>r=sv n∧∃a2 c2 v2 Hi2,Src S0 (.slice a2 Y'.length c2) Y'∧Y'.length≤c2∧Zc 3 v2 (ids++[i]) Hi2∧S=Vx x tb (.slice a2 Y'.length c2) v2::Hi2::T::H::S0):=by
 obtain⟨e,heL,rfl,rfl⟩:=he;obtain⟨hb1,hb2⟩:=gH hA hI heL;have h4:(Ud e.id).length=4:=by rw[Ud,Zy]
 have hl:Y.length=4+Y'.length:=by rw[hY,List.length_append,h4]
 have ht:Y.take 4=Ud e.id:=by rw[hY,List.take_append_of_le_length (by omega),List.take_of_length_le (by omega)]
 have hd:Y.drop 4=Y':=by
  rw[hY];have:=List.drop_left (l₁:=Ud e.id) (l₂:=Y')
  rwa [h4] at this
 have hlz:=QB (i:=e.id) (by omega) hb2;rw[←ht] at hlz;refine(eu (x:=x) hT hA hI h hc (by omega) hi hil (e:=e) (by rw[hlz]; exact iL hI.dis heL)).mono fun r S hr=>?_
 obtain⟨h1,a2,v2,H2,h2,h3,h4⟩:=hr;rw[hd,show Y.length-4=Y'.length from by omega] at h2;rw[hlz] at h3;rw[show Y.length-4=Y'.length from by omega] at h4;exact⟨h1,a2,c-4,v2,H2,h2,by omega,h3,h4⟩
theorem iZ:isAgg? Tryz.prog 46=some true:=by kernel_rfl
theorem dH:sizeOf? Tryz.prog 46=some 5:=by kernel_rfl
theorem X8:∀(d:Bs) (l:List Pl) (a:Nat) (xs:List Bs),splice d a l xs=splice d a l (xs.take l.length)
 | _,[],_,xs=>by cases xs<;>rfl
 | _,_::_,_,[]=>rfl
 | d,p::l,a,x::xs=>by
  show(d.drop a).take (p.at_-a)++x++splice d (p.at_+p.n) l xs=(d.drop a).take (p.at_-a)++x++splice d (p.at_+p.n) l (xs.take l.length);rw[X8 d l]
theorem aZ(r:RR)(ids:List Int):WT r ids=WT r (ids.take (prt r.t r.d).length):=by
 unfold WT;rw[X8,List.map_take]
set_option maxRecDepth 10000 in
set_option maxHeartbeats 2000000 in
theorem eP{tb ab N:Nat}{D:List (Option Bt)}{H:List Chunk}{L:List Nm}{B:List (Int × Bs)}{T:List Chunk}(hT:Tb tb ab L T)(hA:Ar ab N D H)(hI:WW D L B){h:Int}{s:St}{ids:List Int}(hm:(h,Wn s ids)∈B)(hE:ZT s=0)(hal:Al L ids ((Z7 s).map zx)):
 zP Tryz.prog 70 #[.pointer (some ⟨ab,0,none⟩),.pointer (some ⟨tb,0,none⟩),.int .i64 h] [T,H] (fun r S=>∃v v2 HR HI,r= .tuple #[.agg (Jt (Zf s) v),v2,.bool true]∧Zc 89 v (Zf s).rrs HR∧Zc 3 v2 ids HI∧S=[HR,HI,T,H]):=by
 refine zP.forget (zm Tryz.IV (Nat.le_of_ble_eq_true rfl) ?_);unfold Tryz.Me;obtain⟨hg,hno⟩:=hI.oth _ hm;have hg:Zh D h=some (Wn s ids):=hg;have hmay:WS s=true:=by
  cases hm:WS s with
  | true=>rfl
  | false=>unfold ZT at hE; rw[if_pos hm] at hE; cases hE
 have hnum:=VU hmay;have hdat:=Wv hmay;have hlen:ids.length=(Z7 s).length:=by rw[hal.len,List.length_map]
 have hnl:=VP s;have hbl:=xB (fun r hr=>(hdat r hr).1) hlen;have hsz4:Zm s≤4096:=by
  unfold ZT at hE;rw[if_neg (by rw[hmay]; decide)] at hE;split at hE
  ·cases hE
  ·omega
 have hsz16:16≤Zm s:=by
  rw[←hbl];unfold Wn Ud;simp only[List.length_append,Zy]
  push_cast
  omega
 have hsz:XK D h=(Zm s,true):=by unfold XK; rw[hg]; simp only; rw[hbl]
 have hby:Y0 L h=none:=by
  cases hb:Y0 L h with
  | none=>rfl
  | some e=>obtain⟨h1,h2⟩:=KA hb; exact absurd h2 (hno e h1)
 obtain⟨hpe,hre⟩:=dZ hg;rw[hbl] at hpe hre;refine ze (z8 ?_);refine zh (Z8 fun p6=>?_);refine yp pC (yp pC (zf (za (ze (z8 (yp (pP rfl) (yp (pI rfl) ?_)))))));refine zh (zk (iU hA h) rfl rfl fun r' S' h=>?_);obtain⟨rfl,rfl⟩:=h;rw[hsz];refine yp (pU rfl) (yp (pExt rfl rfl) (yp (pExt rfl rfl) (yp (pI rfl) (yp (pB rfl) (zf (za (ze (ze (z8 (yp (pP rfl) (yp (pI rfl) ?_)))))))))));refine zh (zk (Jm hT hA hI h) rfl rfl fun r' S' h=>?_);obtain⟨rfl,rfl⟩:=h;rw[hby];refine yp (pU rfl) (yp (pExt rfl rfl) (yp (pExt rfl rfl) (yp (pT rfl) (yp (pB rfl) (zf (za (ze (z8 (yp (pB rfl) (yp (Ze rfl) (yp (pB rfl) (zW rfl (Z6 (pB rfl) (yp (zQ rfl rfl) (yp (pB rfl) (zW rfl (Z6 (pI rfl) (zW rfl (Z6 (ZN rfl rfl) (yp (zQ rfl rfl) (zf (za ?_))))))))))))))))))))));rw[decide_eq_false (show ¬Zm s<16 from by omega)];refine zA rfl (zq (za (ze (z8 (yp (pP rfl) (yp (pI rfl) (yp (pI rfl) ?_)))))));refine zh (zk (qm hA h 0 (Zm s)) rfl rfl fun r' S' h=>?_);obtain⟨va,Ho,rfl,hLo,rfl⟩:=h;rw[hpe];rw[hre] at hLo;have hcap:=mo hLo;obtain⟨vaa,vac,rfl⟩:=hLo.isSlice;have hcap:=hcap _ _ _ rfl;have hsrc:=hLo.src (S:=[Ho]) (by simp);have hal2:Al L ids (zx s.name::zx s.zone::((s.rrs.map Zw).flatten).map zx):=hal;clear hal;obtain⟨i0,i1,rest,rfl,h0,h1,halr⟩:∃i0 i1 rest,ids=i0::i1::rest∧(∃e∈L,e.id=i0∧e.n=zx s.name)∧(∃e∈L,e.id=i1∧e.n=zx s.zone)∧Al L rest (((s.rrs.map Zw).flatten).map zx):=by
  cases hal2 with
  | cons h0 t0=>
   cases t0 with
   | cons h1 t1=>exact⟨_,_,_,rfl,h0,h1,t1⟩
 have hrl:rest.length=((s.rrs.map Zw).flatten).length:=by rw[halr.len,List.length_map]
 have hYe:Wn s (i0::i1::rest)=Ud i0++(Uc 2 s.typ.toNat++(Uc 2 s.kind.toNat++(Ud i1++(Uc 4 1585123525++Un s.rrs rest)))):=by
  unfold Wn;simp only[List.append_assoc];rfl
 have ht1:((s.typ.toNat:Nat):Int)=s.typ:=by omega
 have ht2:((s.kind.toNat:Nat):Int)=s.kind:=by omega
 have hY4:(Wn s (i0::i1::rest)).length≤4096:=by omega
 rw[hYe] at hY4;simp only[List.length_append] at hY4;generalize Wn s (i0::i1::rest)=Y at*
 refine yp (pU rfl) (yp (pExt rfl rfl) (yp (pExt rfl rfl) (yp (pS rfl) (yp (pI rfl) (zf (za (ze (z8 (yp (pP rfl) (yp (pS rfl) (yp (v:= .agg #[.pointer (some ⟨tb,0,none⟩),.slice vaa Y.length vac,.slice none 0 0,.bool false]) rfl ?_)))))))))));refine zh (Zt (c:=[.pointer (some ⟨tb,0,none⟩),.slice vaa Y.length vac,.slice none 0 0,.bool false]) rfl fun p50=>?_);refine yp (pP rfl) (zf (za (ze (z8 (yp (pP rfl) ?_)))));refine zh (zk (eD (x:=p50) hT hA hI hsrc hcap (iv:= .slice none 0 0) (ids:=[]) (Hi:=[]) .nil (by decide) h0 hYe) rfl rfl fun r' S' h=>?_);obtain⟨rfl,a1,c1,v1,H1,hs1,hc1,hL1,rfl⟩:=h;obtain⟨l1a,l1c,rfl⟩:=hL1.isSlice;refine yp (zn rfl) (yp (zn rfl) ?_);refine zh (rJ rfl rfl (dU rfl) ?_);refine zf (za (ze (z8 (yp (pP rfl) ?_))));refine zh (zk (Jz (x:=p50) (tb:=tb) (iv:= .slice l1a ([]++[i0]).length l1c) hs1 hc1 (n:=2) (z:=s.typ.toNat) (by decide) rfl (by omega)) rfl rfl fun r' S' h=>?_);obtain⟨rfl,a2,c2,hs2,hc2,rfl⟩:=h;rw[ht1];refine yp (pP rfl) ?_;refine zh (zk (Jz (x:=p50) (tb:=tb) (iv:= .slice l1a ([]++[i0]).length l1c) hs2 hc2 (n:=2) (z:=s.kind.toNat) (by decide) rfl (by omega)) rfl rfl fun r' S' h=>?_);obtain⟨rfl,a3,c3,hs3,hc3,rfl⟩:=h;rw[ht2];refine yp (zn rfl) (yp (zn rfl) ?_);refine zh (rH rfl rfl (uO rfl) ?_);refine yp (zn rfl) ?_;refine zh (rE rfl rfl (uO rfl) ?_);refine zf (za (ze (z8 (yp (pP rfl) ?_))));refine zh (zk (eD (x:=p50) hT hA hI hs3 hc3 hL1 (by simp) h1 rfl) rfl rfl fun r' S' h=>?_);obtain⟨rfl,a4,c4,v4,H4,hs4,hc4,hL4,rfl⟩:=h;obtain⟨l4a,l4c,rfl⟩:=hL4.isSlice;refine yp (zn rfl) ?_;refine zh (rD rfl rfl (dU rfl) ?_);refine zf (za (ze (ze (z8 (yp (pP rfl) ?_)))));refine zh (zk (Jz (x:=p50) (tb:=tb) (iv:= .slice l4a ([]++[i0]++[i1]).length l4c) hs4 hc4 (n:=4) (z:=1585123525) (by decide) rfl (by decide)) rfl rfl fun r' S' h=>?_);obtain⟨rfl,a5,c5,hs5,hc5,rfl⟩:=h;refine yp (UL rfl rfl) (zf (za (zA rfl (zq (za (ze (zy ?_)))))));have hfr:(Zf s).rrs=s.rrs.map fun r=>(⟨zx s.name,r.t,1,0,wT r.t r.d⟩:RR):=rfl
 generalize hfg:(fun r:RR=>(⟨zx s.name,r.t,1,0,wT r.t r.d⟩:RR))=fr at hfr;have hnum32:=hnum.2.2.2.2.2.2.1;refine Zb (σ:=Nat) (fun i E S=>∃(rv:Value) (HR:List Chunk) (a5:Option Addr) (c5:Nat) (Yr:Bs) (v5:Value) (H5:List Chunk) (k:Nat),Has E [(6,.pointer (some ⟨p6,0,none⟩)),(9,.int .i64 (Zm s)),(15,.pointer (some ⟨p50,0,none⟩))]∧i≤s.rrs.length∧Zc 89 rv ((s.rrs.take i).map fr) HR∧Yr=Un (s.rrs.drop i) (rest.drop k)∧k=((s.rrs.take i).map Zw).flatten.length∧Src [Ho] (.slice a5 Yr.length c5) Yr∧Yr.length≤c5∧Yr.length≤4096∧Zc 3 v5 (i0::i1::rest.take k) H5∧
  zF S (Vx p50 tb (.slice a5 Yr.length c5) v5::H5::HR::[(p6,.cells #[sv (zx s.name),.int .i64 s.typ,rv,.int .i64 s.kind,sv (zx s.zone)] 46)]::T::H::[Ho])) (fun i=>s.rrs.length-i) 0
  ⟨.slice none 0 0,[],a5,c5,Un s.rrs rest,.slice l4a ([]++[i0]++[i1]).length l4c,H4,0,⟨rfl,rfl,rfl,trivial⟩,Nat.zero_le _,.nil,rfl,rfl,hs5,hc5,by omega,hL4,by
   show zF _ (Vx p50 tb (.slice a5 (Un s.rrs rest).length c5) (.slice l4a ([]++[i0]++[i1]).length l4c)::H4::[]::[(p6,.cells #[sv (zx s.name),.int .i64 s.typ,.slice none 0 0,.int .i64 s.kind,sv (zx s.zone)] 46)]::T::H::[Ho]);exact .of⟩ fun i E S ⟨rv,HR,a5,c5,Yr,v5,H5,k,hE2,hi,hR,hYr,hk,hs5,hc5,hYl,hL5,hJ⟩=>?_
 obtain⟨ra,rc,rfl⟩:=hR.isSlice;obtain⟨l5a,l5c,rfl⟩:=hL5.isSlice;obtain⟨E0,e0⟩:=zu hE2; subst e0; clear hE2;refine zo hJ ?_;have hkl:=UO (s.rrs.take i);rw[←hk,List.length_take] at hkl;refine ze (ze (z8 (yp (pP rfl) (yp (zM rfl) (yp (zn rfl) ?_)))));refine zh (zC rfl rfl ?_);refine yp (ZK rfl) (yp (VK rfl rfl) (yp (pB rfl) ?_));by_cases hlt:i<s.rrs.length
 ·have hdr:s.rrs.drop i=s.rrs[i]::s.rrs.drop (i+1):=List.drop_eq_getElem_cons hlt;have hr:=List.getElem_mem hlt;have hts:=y7 hlt;have htk:s.rrs.take (i+1)=s.rrs.take i++[s.rrs[i]]:=List.take_succ_eq_append_getElem hlt;have hall:s.rrs.map Zw=(s.rrs.take i).map Zw++(Zw s.rrs[i]::(s.rrs.drop (i+1)).map Zw):=by
   rw[←List.map_cons, ←hdr, ←List.map_append,List.take_append_drop]
  rw[hdr,Un] at hYr;generalize s.rrs[i]=r at hYr hr hts htk hall;obtain⟨hok,hty⟩:=hdat r hr;have hnp:(Zw r).length=(prt r.t r.d).length:=by unfold Zw; rw[List.length_map]
  have halk:Al L ((rest.drop k).take (prt r.t r.d).length) ((Zw r).map zx):=by
   have h1:=(halr.drop k).take (prt r.t r.d).length;have h2:((((s.rrs.map Zw).flatten).map zx).drop k).take (prt r.t r.d).length=(Zw r).map zx:=by
    rw[←List.map_drop, ←List.map_take,hall,List.flatten_append,List.flatten_cons,hk,List.drop_left, ←hnp,List.take_left]
   rw[h2] at h1; exact h1
  rw[aZ] at hYr;rw[decide_eq_true (show(0:Int)<(Yr.length:Int) from by rw[hYr]; simp only[List.length_append,Zy]; omega)];refine zW rfl (Z6 (pP rfl) (zW rfl (Z6 (zM rfl) (zW rfl (Z6 (zn rfl) (zW rfl ?_))))));refine(zC rfl rfl ?_);refine zW rfl (Z6 (Ze rfl) (yp (zD rfl rfl) (zf (za (zG rfl (zq (za (zy (Wq (R:=[[(p6,.cells #[sv (zx s.name),.int .i64 s.typ,.slice ra ((s.rrs.take i).map fr).length rc,.int .i64 s.kind,sv (zx s.zone)] 46)]]) (by simp) ?_)))))))));rw[←hty];refine zi (zn rfl) (Z9 rfl rfl (zi (zn rfl) (zi (zn rfl) (Z9 rfl rfl (zi (zn rfl) (zi (zn rfl) (Z9 rfl rfl (zi (pP rfl) (zi (zn rfl) (zi (zn rfl) (Z9 rfl rfl ?_)))))))))));refine Zj (zk (sP (x:=p50) hT hA hI hs5 hc5 hL5 (by rw[List.length_cons,List.length_cons,List.length_take]; omega) hok halk (Y':=Un (s.rrs.drop (i+1)) ((rest.drop k).drop (prt r.t r.d).length)) (by rw[hYr]; simp only[List.append_assoc]) hYl) rfl rfl fun r' S' h=>?_) zO;obtain⟨rfl,a6,c6,v6,H6,hs6,hc6,hL6,rfl⟩:=h;refine⟨by simp,?_⟩;obtain⟨l6a,l6c,rfl⟩:=hL6.isSlice;have hfrr:fr r=⟨zx s.name,r.t,1,0,wT r.t r.d⟩:=by rw[←hfg]
  have hRl:((s.rrs.take i).map fr).length≤32:=by rw[List.length_map,List.length_take]; omega
  skip
  refine zi (v:= .agg #[sv (zx s.name),.int .i64 r.t,.int .i64 1,.int .i64 0,sv (wT r.t r.d)]) rfl ?_;refine Zj (vU (⟨zx s.name,r.t,1,0,wT r.t r.d⟩:RR) rfl rfl (by decide) (by decide) rfl fun p96=>⟨by simp,?_⟩) zO;refine zN (uK (Y:=[(⟨zx s.name,r.t,1,0,wT r.t r.d⟩:RR)]) rfl rfl hR (.lit (by repeat (first | exact List.mem_cons_self | apply List.mem_cons_of_mem)) rfl) rfl (⟨[],0,0,0,[]⟩:RR) rfl (by rw[List.length_singleton]; omega) (by rw[List.length_singleton]; omega) fun v7 H7 hL7=>?_) zO;obtain⟨l7a,l7c,rfl⟩:=hL7.isSlice;refine zi (zn rfl) ?_;refine zN (rG rfl rfl (jg rfl) ?_) zO;refine zK (zU (za ?_));refine⟨i+1,⟨.slice l7a ((s.rrs.take i).map fr++[(⟨zx s.name,r.t,1,0,wT r.t r.d⟩:RR)]).length l7c,H7,a6,c6,_,.slice l6a (i0::i1::rest.take k++(rest.drop k).take (prt r.t r.d).length).length l6c,H6,k+(prt r.t r.d).length,⟨rfl,rfl,rfl,trivial⟩,by omega,?_,?_,?_,hs6,hc6,?_,?_,.of⟩,by omega⟩
  ·rw[htk,List.map_append,List.map_singleton,hfrr]; exact hL7
  ·rw[List.drop_drop]
  ·rw[hts,List.length_append,hnp,hk]
  ·rw[hYr] at hYl;simp only[List.length_append] at hYl ⊢; omega
  ·rw[List.take_add]; exact hL6
 ·have hni:s.rrs.take i=s.rrs:=List.take_of_length_le (by omega);have hdi:s.rrs.drop i=[]:=List.drop_eq_nil_of_le (by omega);rw[hdi,Un] at hYr;subst hYr;have hk2:rest.take k=rest:=List.take_of_length_le (by rw[hk,hni,hrl]; exact Nat.le_refl _);rw[hni, ←hfr] at hR ⊢;rw[hk2] at hL5 ⊢;rw[decide_eq_false (show ¬(0:Int)<(([]:Bs).length:Int) from by decide)];obtain⟨hm2,hz2⟩:=gV hmay;have hE2:ZT (Zf s)=0:=by unfold ZT; rw[if_neg (by rw[hm2]; decide),hz2,if_neg (by omega)]
  have hZ2:xI (Zf s)=Zm s:=by unfold xI; rw[if_pos hE2,hz2]
  have hS2:Y8 (Zf s):=by
   have hv1:=Wo hnum.1;have hv2:=Wo hnum.2.1;have hf1:=wK s.name;have hf2:=wK s.zone;refine⟨by show(zx s.name).length<_; omega,by show(zx s.zone).length<_; omega,by rw[hfr,List.length_map]; omega,fun r hr=>?_⟩;rw[hfr] at hr;obtain⟨x,hx,rfl⟩:=List.mem_map.1 hr;obtain⟨_,_,h3⟩:=yw (hdat x hx).1;have:=wV (hdat x hx).1;rw[←hfg];exact⟨by show(zx s.name).length<_; omega,by show(wT x.t x.d).length<_; omega⟩
  refine zS rfl (zS rfl (zS rfl (zS rfl (zS rfl (yp (zQ rfl rfl) (zf (za (zA rfl (Z0 (zI (zI (Z4 (za (ze (ze (z8 ?_))))))))))))))));refine zh (wo (l:=[sv (zx s.name),.int .i64 s.typ,.slice ra (Zf s).rrs.length rc,.int .i64 s.kind,sv (zx s.zone)]) rfl rfl rfl ?_);refine zh (zk (kZ (S:=[HR]) (s:=Zf s) hS2 (hR.src (by simp))) rfl rfl fun r' S' h=>?_);obtain⟨rfl,rfl⟩:=h;rw[hE2,hZ2];refine yp (pU rfl) (yp (pExt rfl rfl) (yp (pExt rfl rfl) (yp (pI rfl) (yp (pI rfl) (zf (za (ze (z8 (yp (pP rfl) (yp (zM rfl) (yp (zn rfl) ?_)))))))))));refine zh (zC rfl rfl ?_);refine yp (pB rfl) (zW rfl (Z6 (pI rfl) (zW rfl (Z6 (UL rfl rfl) (yp (zQ rfl rfl) (yp (pB rfl) (zW rfl (Z6 (pI rfl) (zW rfl (Z6 (pI rfl) (zW rfl (Z6 (UL rfl rfl) (yp (zQ rfl rfl) (zf (za ?_)))))))))))))));rw[decide_eq_true (show Zm s=Zm s from rfl)];refine zA rfl (zq (za (ze (Wq (R:=[[(p6,.cells [sv (zx s.name),.int .i64 s.typ,.slice ra (Zf s).rrs.length rc,.int .i64 s.kind,sv (zx s.zone)].toArray 46)],Vx p50 tb (.slice a5 ([]:Bs).length c5) (.slice l5a (i0::i1::rest).length l5c)]) (by simp) (Vu (l:=[sv (zx s.name),.int .i64 s.typ,.slice ra (Zf s).rrs.length rc,.int .i64 s.kind,sv (zx s.zone)]) rfl rfl rfl (zi (pP rfl) (zi (zM rfl) (zi (zn rfl) (Z9 rfl rfl ?_)))))))));refine Zj (vP (c:=[sv (zx s.name),.int .i64 s.typ,.slice ra (Zf s).rrs.length rc,.int .i64 s.kind,sv (zx s.zone)]) (c':=[sv (zx s.name),.int .i64 s.typ,.slice ra (Zf s).rrs.length rc,.int .i64 s.kind,sv (zx s.zone)]) rfl rfl rfl rfl rfl ⟨by simp,?_⟩) zO;refine zi (pS rfl) (zi pC (zK (za (zJ ?_))));exact zH (Da (GA (b:=p6) (l:=[sv (zx s.name),.int .i64 s.typ,.slice ra (Zf s).rrs.length rc,.int .i64 s.kind,sv (zx s.zone)]) iZ dH rfl rfl) (KP rfl) (KP rfl)) ⟨_,.of,_,_,HR,H5,rfl,hR,hL5,rfl⟩
theorem Dg{tb ab N:Nat}{D:List (Option Bt)}{H:List Chunk}{L:List Nm}{B:List (Int × Bs)}{T:List Chunk}(hT:Tb tb ab L T)(hA:Ar ab N D H)(hI:WW D L B){h:Int}{s:St}{ids:List Int}(hm:(h,Wn s ids)∈B)(hE:ZT s=0)(hal:Al L ids ((Z7 s).map zx)):
 zP Tryz.prog 27 #[.pointer (some ⟨ab,0,none⟩),.pointer (some ⟨tb,0,none⟩),.int .i64 h] [T,H] (fun r S=>∃v HR,r= .tuple #[.agg (Jt (Zf s) v),.int .i64 0]∧Zc 89 v (Zf s).rrs HR∧S=[HR,T,H]):=by
 refine zP.forget (zm Tryz.Lv (Nat.le_of_ble_eq_true rfl) ?_);unfold Tryz.x27;refine ze (z8 ?_);refine zh (Z8 fun p6=>?_);refine yp pC (zf (za (ze (z8 (yp (pP rfl) (yp (pP rfl) (yp (pI rfl) ?_)))))));refine zh (zk (eP hT hA hI hm hE hal) rfl rfl fun r' S' h=>?_);obtain⟨v,v2,HR,HI,rfl,hR,hL,rfl⟩:=h;obtain⟨ra,rc,rfl⟩:=hR.isSlice;obtain⟨la,lc,rfl⟩:=hL.isSlice;refine yp (pU rfl) (yp (pExt rfl rfl) (yp (pExt rfl rfl) (yp (pExt rfl rfl) ?_)));refine zh (Z8 fun p8=>?_);refine zh (vP (c':=[sv (Zf s).name,.int .i64 (Zf s).typ,.slice ra (Zf s).rrs.length rc,.int .i64 (Zf s).kind,sv (Zf s).zone]) rfl rfl rfl rfl rfl ?_);refine yp (pS rfl) (yp (pB rfl) (zf (za (ze (ze (z8 (yp (pB rfl) (yp (Ze rfl) (zf (za (zA rfl (zq (za (ze (z8 ?_)))))))))))))));refine zh (wo (l:=[sv (Zf s).name,.int .i64 (Zf s).typ,.slice ra (Zf s).rrs.length rc,.int .i64 (Zf s).kind,sv (Zf s).zone]) rfl rfl rfl ?_);refine zh (vP (c':=[sv (Zf s).name,.int .i64 (Zf s).typ,.slice ra (Zf s).rrs.length rc,.int .i64 (Zf s).kind,sv (Zf s).zone]) rfl rfl rfl rfl rfl ?_);refine yp pC (zf (za (zJ ?_)));exact zH (vV (GA (b:=p6) (l:=[sv (Zf s).name,.int .i64 (Zf s).typ,.slice ra (Zf s).rrs.length rc,.int .i64 (Zf s).kind,sv (Zf s).zone]) iZ dH rfl rfl) (KP rfl)) ⟨_,.of,_,HR,rfl,hR,rfl⟩
/-! ### numbers given back, in the arena -/
def Gn:List (Option Bt)→List Nm→List Int→List (Option Bt)
 | D,_,[]=>D
 | D,L,i::ids=>Gn (Uj D L i) (vJ L i) ids
theorem jR:∀(D:List (Option Bt)) (L:List Nm) (ids:List Int) (i:Int),Gn D L (ids++[i])=Uj (Gn D L ids) (drops L ids) i
 | _,_,[],_=>rfl
 | D,L,k::ids,i=>jR (Uj D L k) (vJ L k) ids i
theorem uE(L:List Nm)(ids:List Int)(i:Int):drops L (ids++[i])=vJ (drops L ids) i:=by unfold drops; rw[List.foldl_append]; rfl
theorem aX{D D':List (Option Bt)}(h:Uy D D')(L:List Nm)(i:Int):Uy (Uj D L i) (Uj D' L i):=by
 unfold Uj;split
 ·split
  ·exact je h i
  ·exact h
 ·exact h
theorem xU:∀{ids:List Int} {L:List Nm},Pos L→Pos (drops L ids)
 | [],_,h=>h
 | i::ids,L,h=>xU (ids:=ids) (L:=vJ L i) (aW h)
/-- the blocks of others without one -/
def jB(B:List (Int × Bs))(h:Int):List (Int × Bs):=B.filter fun x=>x.1 !=h
theorem fF{B:List (Int × Bs)}{h:Int}(x:Int × Bs):x∈jB B h↔x∈B∧x.1≠h:=by unfold jB; simp
theorem sW{tb ab N:Nat}{D:List (Option Bt)}{H:List Chunk}{L:List Nm}{B:List (Int × Bs)}{T:List Chunk}(hT:Tb tb ab L T)(hA:Ar ab N D H)(hI:WW D L B)(hP:Pos L){h:Int}{s:St}{ids:List Int}(hm:(h,Wn s ids)∈B)(hE:ZT s=0)(hal:Al L ids ((Z7 s).map zx))(hs:Y8 s):
 zP Tryz.prog 25 #[.pointer (some ⟨ab,0,none⟩),.pointer (some ⟨tb,0,none⟩),.int .i64 h] [T,H] (fun r S=>r= .int .i64 0∧∃T' H' D',Tb tb ab (drops L ids) T'∧Ar ab N D' H'∧WW D' (drops L ids) (jB B h)∧Uy D' (WI (Gn D L ids) h)∧S=[T',H']):=by
 refine zP.forget (zm Tryz.Lx (Nat.le_of_ble_eq_true rfl) ?_);unfold Tryz.x25;refine ze (z8 (yp pC (zf (za (ze (z8 (yp (pP rfl) (yp (pP rfl) (yp (pI rfl) ?_)))))))));refine zh (zk (eP hT hA hI hm hE hal) rfl rfl fun r' S' h=>?_);obtain⟨v,v2,HR,HI,rfl,hR,hL,rfl⟩:=h;obtain⟨ra,rc,rfl⟩:=hR.isSlice;obtain⟨la,lc,rfl⟩:=hL.isSlice;have hlen:ids.length=(Z7 s).length:=by rw[hal.len,List.length_map]
 have hnl:=VP s;have hrr:=hs.rrs;refine yp (pU rfl) (yp (pExt rfl rfl) (yp (pExt rfl rfl) (yp (pExt rfl rfl) ?_)));refine zh (Z8 fun p7=>?_);refine zh (vP (c':=[sv (Zf s).name,.int .i64 (Zf s).typ,.slice ra (Zf s).rrs.length rc,.int .i64 (Zf s).kind,sv (Zf s).zone]) rfl rfl rfl rfl rfl ?_);refine yp (pS rfl) (yp (pB rfl) (zf (za (ze (ze (z8 (yp (pB rfl) (yp (Ze rfl) (zf (za (zA rfl (zq (za (ze (ze (z8 (yp (pS rfl) (yp (ZK rfl) (yp pC (zf (za (zy ?_))))))))))))))))))))));refine Zb (σ:=Nat) (fun i E S=>∃(T1 H1:List Chunk) (D1:List (Option Bt)),Has E [(0,.pointer (some ⟨ab,0,none⟩)),(1,.pointer (some ⟨tb,0,none⟩)),(2,.int .i64 h),(22,.slice la ids.length lc),(23,.int .i64 (ids.length:Int)),(24,.int .i64 (i:Int))]∧i≤ids.length∧Tb tb ab (drops L (ids.take i)) T1∧Ar ab N D1 H1∧WW D1 (drops L (ids.take i)) B∧Uy D1 (Gn D L (ids.take i))∧zF S (HI::T1::H1::[])) (fun i=>ids.length-i) 0
  ⟨T,H,D,⟨rfl,rfl,rfl,rfl,rfl,rfl,trivial⟩,Nat.zero_le _,hT,hA,hI,Uy.refl D,.of⟩ fun i E S ⟨T1,H1,D1,hE2,hi,hT1,hA1,hI1,hs1,hJ⟩=>?_
 obtain⟨E0,e0⟩:=zu hE2; subst e0; clear hE2;refine zo hJ (ze (z8 (yp (ZN rfl rfl) (zf (za (ze ?_))))));refine zR rfl (fun hlt=>?_) (fun hlt=>?_)
 ·have hii:i<ids.length:=by omega
  have hti:ids.take (i+1)=ids.take i++[ids[i]]:=List.take_succ_eq_append_getElem hii;obtain⟨b,sp,fz,hz,rfl,_,hc',rfl⟩:=hL.at' (by intro h; simp[h] at hii);have hld:((cells (ids++sp)).toArray.toList)[0+i*1+0]?=some (.int .i64 ids[i]):=(wF (kk:=1) (j:=0) hii rfl (by omega)).trans rfl;generalize ids[i]=z at hld hti;refine zq (za (ze (zy (ze (z8 (yp (zV rfl rfl (by omega)) ?_))))));refine zh (zC (v:= .int .i64 z) rfl hld ?_);refine yp (pI rfl) (zf (za (z8 (yp (pP rfl) (yp (pI rfl) ?_)))));refine zh (zk (dG hT1 hA1 hI1 (xU hP) z) rfl rfl fun r' S' h=>?_);obtain⟨rfl,T2,H2,D2,hT2,hA2,hI2,hs2,rfl⟩:=h;refine zf (zU (za (z8 (yp (Zi rfl rfl (by omega)) (yp (pI rfl) (zf (za ?_)))))));refine⟨i+1,⟨T2,H2,D2,⟨rfl,rfl,rfl,rfl,rfl,rfl,trivial⟩,by omega,?_,hA2,?_,?_,.of⟩,by omega⟩
  ·rw[hti,uE]; exact hT2
  ·rw[hti,uE]; exact hI2
  ·rw[hti,jR]; exact(kR hs2).trans (aX hs1 _ z)
 ·have hti:ids.take i=ids:=List.take_of_length_le (by omega);rw[hti] at hT1 hI1 hs1;obtain⟨hg,_⟩:=hI1.oth _ hm;have hg:Zh D1 h=some (Wn s ids):=hg;have hfr:QC D1 h=0:=by unfold QC; rw[hg]; rfl
  refine Z0 (zI (zI (Z4 (za (ze (z8 (yp (pP rfl) (yp (pI rfl) ?_))))))));refine zh (zk (iY hA1 h) rfl rfl fun r' S' h=>?_);obtain⟨rfl,H2,hA2,rfl⟩:=h;rw[hfr];refine yp (pI rfl) (zf (za (zJ ?_)));exact zH (rI rfl) ⟨_,.of,rfl,T1,H2,_,hT1,hA2,hI1.free hm fF,je hs1 h,rfl⟩
/-- is there room for a set? -/
def fits(N:Nat)(D:List (Option Bt))(L:List Nm)(s:St):Prop:=(Zd D:Int)+uV L s≤N
theorem jO{N:Nat}{D:List (Option Bt)}{L:List Nm}{s:St}(hE:ZT s=0)(hN:Zd D≤N)(h0:0≤Zm s∧Zm s≤4096)(hv:∀n∈Z7 s,WO n=true):
 (fits N D L s→(wL N D L (Z7 s)).e=0∧ZC N (wL N D L (Z7 s)).D (Zm s)=0)∧(¬fits N D L s→(wL N D L (Z7 s)).e=4∨(wL N D L (Z7 s)).e=0∧ZC N (wL N D L (Z7 s)).D (Zm s)=4):=by
 have hC:uV L s=cost (Zm s)+(wJ L [] (Z7 s):Nat):=by unfold uV; rw[if_pos hE]
 have hc:cost (Zm s)=(zT (Zm s).toNat:Nat):=by unfold cost; rw[if_neg (by omega)]
 have h16:=yH (Zm s).toNat;obtain⟨h1,h2⟩:=yT (N:=N) (l:=Z7 s) (D:=D) (L:=L) hv hN;unfold fits;rw[hC,hc];constructor
 ·intro hf;obtain⟨h3,h4⟩:=h1 (by omega);refine⟨h3,?_⟩;unfold ZC;rw[hc,if_neg (by omega),if_neg (by omega)]
 ·intro hf;by_cases hr:Zd D+wJ L [] (Z7 s)≤N
  ·obtain⟨h3,h4⟩:=h1 hr;refine .inr ⟨h3,?_⟩;unfold ZC;rw[hc,if_neg (by omega),if_pos (by omega)]
  ·exact .inl (h2 (by omega))
theorem VZ{s:St}(hE:ZT s=0):WS s=true∧Zm s≤4096:=by
 unfold ZT at hE;cases hm:WS s with
 | false=>rw[if_pos hm] at hE; cases hE
 | true=>
  rw[if_neg (by rw[hm]; decide)] at hE;split at hE
  ·cases hE
  ·exact⟨rfl,by omega⟩
theorem Q0{s:St}(hm:WS s=true):16≤Zm s:=by
 have h:=dP hm s.rrs.length;have h2:(s.rrs.map vE).take s.rrs.length=s.rrs.map vE:=List.take_of_length_le (by rw[List.length_map]; exact Nat.le_refl _);rw[h2] at h;unfold Zm; omega
theorem Al.mem{L:List Nm}{i:Int}:∀{ids:List Int} {ns:List Bs},Al L ids ns→i∈ids→∃e∈L,e.id=i
 | _,_,.cons ⟨e,he,h1,_⟩ t,hi=>by
  rcases List.mem_cons.1 hi with rfl | hi
  ·exact⟨e,he,h1⟩
  ·exact t.mem hi
theorem QS(N:Nat):∀(l:List Bs) (D:List (Option Bt)) (L:List Nm),(wL N D L l).ids.length≤l.length
 | [],_,_=>Nat.le_refl _
 | n::l,D,L=>by
  by_cases hE:WE N D L n=0
  ·rw[uZ hE];have:=QS N l (WG D L (zx n)) (ZI D L (zx n));show(_::_).length≤_;rw[List.length_cons,List.length_cons]; omega
  ·rw[yR hE]; exact Nat.zero_le _
theorem l5(N:Nat):∀(l:List Bs) (D:List (Option Bt)) (L:List Nm) (k:Nat),(∀e∈L,e.u≤k)→∀e∈(wL N D L l).L,e.u≤k+l.length
 | [],_,_,_,h=>h
 | n::l,D,L,k,h=>fun e he=>by
  by_cases hE:WE N D L n=0
  ·rw[uZ hE] at he;have:=l5 N l (WG D L (zx n)) (ZI D L (zx n)) (k+1) (l6 h) e he;rw[List.length_cons]; omega
  ·rw[yR hE] at he;have:=h e he; omega
set_option maxRecDepth 10000 in
set_option maxHeartbeats 4000000 in
theorem sU{S:zw}{s:St}{v:Value}{tb ab N:Nat}{D:List (Option Bt)}{H:List Chunk}{L:List Nm}{B:List (Int × Bs)}{T:List Chunk}(hT:Tb tb ab L T)(hA:Ar ab N D H)(hI:WW D L B)(hP:Pos L)(hB:Hs B)(hu:∀e∈L,e.u<2 ^ 50)(hs:Y8 s)(hv:Src S v s.rrs):
 zP Tryz.prog 19 #[.pointer (some ⟨ab,0,none⟩),.pointer (some ⟨tb,0,none⟩),.agg (Jt s v)] (T::H::S) (fun r S'=>
  (ZT s≠0∧r= .tuple #[.int .i64 0,.int .i64 (ZT s)]∧S'=T::H::S)∨
  (ZT s=0∧¬fits N D L s∧∃T' H' D',r= .tuple #[.int .i64 0,.int .i64 4]∧Tb tb ab L T'∧Ar ab N D' H'∧WW D' L B∧S'=T'::H'::S)∨
  (ZT s=0∧fits N D L s∧∃T' H' D',r= .tuple #[.int .i64 ((hnd (wL N D L (Z7 s)).D:Nat):Int),.int .i64 0]∧Tb tb ab (wL N D L (Z7 s)).L T'∧Ar ab N D' H'∧
   WW D' (wL N D L (Z7 s)).L ((((hnd (wL N D L (Z7 s)).D:Nat):Int),Wn s (wL N D L (Z7 s)).ids)::B)∧Hs ((((hnd (wL N D L (Z7 s)).D:Nat):Int),Wn s (wL N D L (Z7 s)).ids)::B)∧Uy D' (ZE (wL N D L (Z7 s)).D (Zm s).toNat)∧S'=T'::H'::S)):=by
 refine zP.forget (zm Tryz.LD (Nat.le_of_ble_eq_true rfl) ?_);unfold Tryz.MG;obtain⟨a,c,rfl⟩:=hv.isSlice;refine ze (z8 ?_);refine zh (Zt rfl fun p5=>?_);refine yp pC (yp pC (zf (za (ze (z8 ?_)))));refine zh (wo (l:=[sv s.name,.int .i64 s.typ,.slice a s.rrs.length c,.int .i64 s.kind,sv s.zone]) rfl rfl rfl ?_);refine zh (zk (kZ hs hv) rfl rfl fun r' S' h=>?_);obtain⟨rfl,hSS⟩:=h;have hSS:=hSS.symm;subst hSS;refine yp (pU rfl) (yp (pExt rfl rfl) (yp (pExt rfl rfl) (yp (pI rfl) (yp (pI rfl) (zf (za (ze (ze (z8 (yp (pI rfl) (yp (UL rfl rfl) (zf (za ?_)))))))))))));by_cases hE:ZT s=0
 case neg=>
  rw[decide_eq_false hE];refine zG rfl (ze (z8 (yp (pI rfl) (yp pC (yp (pI rfl) (zf (za (zJ (zX ?_)))))))));exact zH (jr rfl rfl) ⟨_,.of,.inl ⟨hE,rfl,rfl⟩⟩
 obtain⟨hmay,h4096⟩:=VZ hE;have hZ:xI s=Zm s:=by unfold xI; rw[if_pos hE]
 have h16:=Q0 hmay;have hvl:=y8 hmay;obtain⟨hf1,hf2⟩:=jO (N:=N) (D:=D) (L:=L) hE hA.ok.used ⟨by omega,h4096⟩ hvl;have hnl:=VP s;have hrr:=hs.rrs;rw[decide_eq_true hE,hZ];have hdr:=bH (N:=N) (l:=Z7 s) hI.dis hP hI.stand;have hlv:= @qw N (Z7 s) D L;have hidl:=QS N (Z7 s) D L;have huP:=l5 N (Z7 s) D L (2 ^ 50) (fun e he=>Nat.le_of_lt (hu e he));generalize hPd:wL N D L (Z7 s)=P at hf1 hf2 hdr hlv hidl huP ⊢;refine zA rfl (zq (za (ze (z8 (yp pC (zf (za ?_)))))));refine Ws (fun E S'=>∃(T1 H1:List Chunk) (D1:List (Option Bt)) (iv:Value) (Hi:List Chunk),Has E [(0,.pointer (some ⟨ab,0,none⟩)),(1,.pointer (some ⟨tb,0,none⟩)),(5,.pointer (some ⟨p5,0,none⟩)),(8,.int .i64 (Zm s)),(9,.int .i64 P.e)]∧E 10=iv∧Zc 3 iv P.ids Hi∧Tb tb ab P.L T1∧Ar ab N D1 H1∧WW D1 P.L B∧Pos P.L∧Uy D1 P.D∧
  zF S' (Hi::[(p5,.cells #[sv s.name,.int .i64 s.typ,.slice a s.rrs.length c,.int .i64 s.kind,sv s.zone] 46)]::T1::H1::S)) ?_ ?_
 ·refine ze (z8 ?_);refine zh (wo (l:=[sv s.name,.int .i64 s.typ,.slice a s.rrs.length c,.int .i64 s.kind,sv s.zone]) rfl rfl rfl ?_);refine zh (zk (Qf hs hv) rfl rfl fun r' S' h=>?_);obtain⟨HN,hN,hSS⟩:=h;subst hSS;obtain⟨na,nc,rfl⟩:=hN.isSlice;rw[uF] at hN ⊢;refine yp (ZK rfl) (yp pC (zf (za (zy ?_))));refine Zb (σ:=Nat) (fun i E S'=>∃(T1 H1:List Chunk) (D1 Dk:List (Option Bt)) (L1:List Nm) (ik:List Int) (iv:Value) (Hi:List Chunk),Has E [(0,.pointer (some ⟨ab,0,none⟩)),(1,.pointer (some ⟨tb,0,none⟩)),(5,.pointer (some ⟨p5,0,none⟩)),(8,.int .i64 (Zm s)),(9,.int .i64 0),(27,.slice na (Z7 s).length nc),(28,.int .i64 ((Z7 s).length:Int)),(29,.int .i64 (i:Int))]∧E 10=iv∧i≤(Z7 s).length∧Zc 3 iv ik Hi∧ik.length=i∧Tb tb ab L1 T1∧Ar ab N D1 H1∧WW D1 L1 B∧Pos L1∧Uy D1 Dk∧(∀e∈L1,e.u≤2 ^ 50+i)∧
   P=⟨(wL N Dk L1 ((Z7 s).drop i)).D,(wL N Dk L1 ((Z7 s).drop i)).L,ik++(wL N Dk L1 ((Z7 s).drop i)).ids,(wL N Dk L1 ((Z7 s).drop i)).e⟩∧
   zF S' (Hi::HN::[(p5,.cells #[sv s.name,.int .i64 s.typ,.slice a s.rrs.length c,.int .i64 s.kind,sv s.zone] 46)]::T1::H1::S)) (fun i=>(Z7 s).length-i) 0
   ⟨T,H,D,D,L,[],_,[],⟨rfl,rfl,rfl,rfl,by rw[←hE]; rfl,rfl,rfl,rfl,trivial⟩,rfl,Nat.zero_le _,.nil,rfl,hT,hA,hI,hP,Uy.refl D,fun e he=>by have:=hu e he; omega,hPd.symm,.of⟩ fun i E S' ⟨T1,H1,D1,Dk,L1,ik,iv,Hi,hE2,hE10,hi,hiv,hikl,hT1,hA1,hI1,hP1,hs1,hu1,hPe,hJ⟩=>?_
  obtain⟨ia,ic,rfl⟩:=hiv.isSlice;have hE3:Has E [(0,.pointer (some ⟨ab,0,none⟩)),(1,.pointer (some ⟨tb,0,none⟩)),(5,.pointer (some ⟨p5,0,none⟩)),(8,.int .i64 (Zm s)),(9,.int .i64 0),(10,.slice ia ik.length ic),(27,.slice na (Z7 s).length nc),(28,.int .i64 ((Z7 s).length:Int)),(29,.int .i64 (i:Int))]:=⟨hE2.1,hE2.2.1,hE2.2.2.1,hE2.2.2.2.1,hE2.2.2.2.2.1,hE10,hE2.2.2.2.2.2⟩
  clear hE2 hE10;obtain⟨E0,e0⟩:=zu hE3; subst e0; clear hE3;refine zo hJ (ze (z8 (yp (ZN rfl rfl) (zf (za (ze ?_))))));refine zR rfl (fun hlt=>?_) (fun hlt=>?_)
  ·have hii:i<(Z7 s).length:=by omega
   have hdi:(Z7 s).drop i=(Z7 s)[i]::(Z7 s).drop (i+1):=List.drop_eq_getElem_cons hii;have hvn:=hvl _ (List.getElem_mem hii);obtain⟨b,sp,fz,hz,rfl,_,hc',rfl⟩:=hN.at' (by intro h; rw[←List.length_eq_zero_iff,uF] at h; omega);have hld:((cells (bss (Z7 s)++sp)).toArray.toList)[0+i*1+0]?=some (sv (Z7 s)[i]):=(wF (kk:=1) (j:=0) (by rw[uF]; exact hii) rfl (by omega)).trans (by unfold bss; rw[List.getElem_map]; rfl);rw[hdi] at hPe;generalize (Z7 s)[i]=n at hld hvn hPe;have h255:=Wo hvn;have hEe:WE N Dk L1 n=WE N D1 L1 n:=by unfold WE; rw[XM hs1]
   refine zq (za (ze (zy (ze (z8 (yp (zV rfl rfl (by omega)) ?_))))));refine zh (zC (v:=sv n) rfl hld ?_);refine yp (pT rfl) (zf (za (ze (z8 (yp (pP rfl) (yp (pT rfl) ?_))))));refine zh (zk (D5 hT1 hA1 hI1 (fun e he=>by have:=hu1 e he; omega) n (by omega)) rfl rfl fun r' S' h=>?_);rcases h with⟨he,rfl,rfl⟩ | ⟨he,T2,H2,D2,rfl,hT2,hA2,hI2,hs2,rfl⟩
   ·rw[yR (by rw[hEe]; exact he),List.append_nil,hEe] at hPe;subst hPe;refine yp (pU rfl) (yp (pExt rfl rfl) (yp (pExt rfl rfl) (yp (pI rfl) (yp (pI rfl) (zf (za (ze (ze (z8 (yp (pI rfl) (yp (pI rfl) (zf (za (ze (z8 (yp (pI rfl) (yp (UL rfl rfl) (zf (za ?_)))))))))))))))))));rw[decide_eq_false he];refine zG rfl (Z0 (zI (Ux rfl (zI (zI (Z4 (za ?_)))))));exact⟨T1,H1,D1,.slice ia ik.length ic,Hi,⟨rfl,rfl,rfl,rfl,rfl,trivial⟩,rfl,hiv,hT1,hA1,hI1,hP1,hs1,.of⟩
   ·have hLe:ZI D1 L1 (zx n)=ZI Dk L1 (zx n):=by unfold ZI; rw[U5 hs1]
    have hIe:U1 D1 L1 (zx n)=U1 Dk L1 (zx n):=by unfold U1; rw[U5 hs1]
    have hDe:Uy (WG D1 L1 (zx n)) (WG Dk L1 (zx n)):=by
     unfold WG; split
     ·exact hs1
     ·exact Yl hs1 _
    have hPL:Pos (ZI D1 L1 (zx n)):=l7 hP1;have huL:=l6 (D:=D1) (n:=zx n) hu1;rw[uZ (by rw[hEe]; exact he)] at hPe;rw[hLe] at hT2 hI2 hPL huL;rw[hIe];generalize U1 Dk L1 (zx n)=z at hPe;refine yp (pU rfl) (yp (pExt rfl rfl) (yp (pExt rfl rfl) (yp (pI rfl) (yp (pI rfl) (zf (za (ze (ze (z8 (yp (pI rfl) (yp (pI rfl) (zf (za (ze (z8 (yp (pI rfl) (yp (UL rfl rfl) (zf (za (zA rfl (zq (za (z8 (yp (pS rfl) (yp (pI rfl) ?_)))))))))))))))))))))))));rw[decide_eq_true rfl]
    skip
    refine zh (vU z rfl rfl (by decide) (by decide) rfl fun p44=>?_);refine zh (uK (Y:=[z]) rfl rfl hiv (.lit (by repeat (first | exact List.mem_cons_self | apply List.mem_cons_of_mem)) rfl) rfl (0:Int) rfl (by rw[List.length_singleton]; omega) (by rw[List.length_singleton]; omega) fun v2 H2' hL2=>?_);obtain⟨la2,lc2,rfl⟩:=hL2.isSlice;refine yp (pS rfl) (zf (zU (za (z8 (yp (Zi rfl rfl (by omega)) (yp (pI rfl) (zf (za ?_))))))));refine⟨i+1,⟨T2,H2,D2,WG Dk L1 (zx n),ZI Dk L1 (zx n),ik++[z],.slice la2 (ik++[z]).length lc2,H2',⟨rfl,rfl,rfl,rfl,rfl,rfl,rfl,rfl,trivial⟩,rfl,by omega,hL2,by rw[List.length_append,List.length_singleton]; omega,hT2,hA2,hI2,hPL,(kR hs2).trans hDe,fun e he=>by have:=huL e he; omega,?_,.of⟩,by omega⟩;rw[hPe,List.append_assoc]; rfl
  ·have hd0:(Z7 s).drop i=[]:=List.drop_eq_nil_of_le (by omega);rw[hd0,wL,List.append_nil] at hPe;subst hPe;refine Z0 (zI (zI (Z4 (za ?_))));exact⟨T1,H1,D1,.slice ia ik.length ic,Hi,⟨rfl,rfl,rfl,rfl,rfl,trivial⟩,rfl,hiv,hT1,hA1,hI1,hP1,hs1,.of⟩
 intro E S' ⟨T1,H1,D1,iv,Hi,hE2,hE10,hiv,hT1,hA1,hI1,hP1,hs1,hJ⟩;obtain⟨ia,ic,rfl⟩:=hiv.isSlice;have hE3:Has E [(0,.pointer (some ⟨ab,0,none⟩)),(1,.pointer (some ⟨tb,0,none⟩)),(5,.pointer (some ⟨p5,0,none⟩)),(8,.int .i64 (Zm s)),(9,.int .i64 P.e),(10,.slice ia P.ids.length ic)]:=⟨hE2.1,hE2.2.1,hE2.2.2.1,hE2.2.2.2.1,hE2.2.2.2.2.1,hE10,trivial⟩
 clear hE2 hE10;obtain⟨E0,e0⟩:=zu hE3; subst e0; clear hE3;refine zo hJ ?_;have ht:((Zm s).toNat:Int)=Zm s:=by omega
 have haE:ZC N D1 (Zm s)=ZC N P.D (Zm s):=XM hs1 _ _;refine ze (z8 (yp pC (zf (za ?_))));refine Ws (fun E S'=>∃(H2:List Chunk) (D2:List (Option Bt)) (wv hz:Int),Has E [(0,.pointer (some ⟨ab,0,none⟩)),(1,.pointer (some ⟨tb,0,none⟩)),(5,.pointer (some ⟨p5,0,none⟩)),(9,.int .i64 wv),(10,.slice ia P.ids.length ic),(15,.int .i64 hz)]∧Ar ab N D2 H2∧
  ((wv=4∧¬fits N D L s∧WW D2 P.L B)∨(wv=0∧fits N D L s∧P.e=0∧hz=((hnd P.D:Nat):Int)∧D2=ZE D1 (Zm s).toNat))∧
  zF S' (Hi::[(p5,.cells #[sv s.name,.int .i64 s.typ,.slice a s.rrs.length c,.int .i64 s.kind,sv s.zone] 46)]::T1::H2::S)) ?_ ?_
 ·by_cases hfit:fits N D L s
  ·obtain⟨h1,h2⟩:=hf1 hfit;rw[h1];refine ze (z8 (yp (pI rfl) (yp (WZ rfl rfl) (zf (za (zG rfl (z8 (yp (pP rfl) (yp (pI rfl) ?_)))))))));rw[decide_eq_true rfl]
   skip
   refine zh (zk (bE hA1 (n:=Zm s) (m:=(Zm s).toNat) ht.symm (by rw[ht,haE]; exact h2)) rfl rfl fun r' S' h=>?_);obtain⟨rfl,H2,hA2,rfl⟩:=h;rw[U5 hs1];refine yp (pU rfl) (yp (pExt rfl rfl) (yp (pExt rfl rfl) (yp (pI rfl) (yp (pI rfl) (zf (za ?_))))));exact⟨H2,_,0,_,⟨rfl,rfl,rfl,rfl,rfl,rfl,trivial⟩,hA2,.inr ⟨rfl,hfit,rfl,rfl,rfl⟩,.of⟩
  ·rcases hf2 hfit with h1 | ⟨h1,h2⟩
   ·rw[h1];refine ze (z8 (yp (pI rfl) (yp (WZ rfl rfl) (zf (za (zA rfl (zq (za ?_))))))));rw[decide_eq_false (show ¬(4:Int)=0 from by decide)]
    skip
    exact⟨H1,D1,4,0,⟨rfl,rfl,rfl,rfl,rfl,rfl,trivial⟩,hA1,.inl ⟨rfl,hfit,hI1⟩,.of⟩
   ·rw[h1];refine ze (z8 (yp (pI rfl) (yp (WZ rfl rfl) (zf (za (zG rfl (z8 (yp (pP rfl) (yp (pI rfl) ?_)))))))));rw[decide_eq_true rfl]
    skip
    refine zh (zk (bF hA1 (haE.trans h2) (by decide)) rfl rfl fun r' S' h=>?_);obtain⟨rfl,rfl⟩:=h;refine yp (pU rfl) (yp (pExt rfl rfl) (yp (pExt rfl rfl) (yp (pI rfl) (yp (pI rfl) (zf (za ?_))))));exact⟨H1,D1,4,0,⟨rfl,rfl,rfl,rfl,rfl,rfl,trivial⟩,hA1,.inl ⟨rfl,hfit,hI1⟩,.of⟩
 intro E S' ⟨H2,D2,wv,hz,hE,hA2,hcase,hJ⟩;obtain⟨E0,e0⟩:=zu hE; subst e0; clear hE;refine zo hJ ?_;rcases hcase with⟨rfl,hfit,hI2⟩ | ⟨rfl,hfit,hPe,rfl,rfl⟩
 ·refine ze (ze (z8 (yp (pI rfl) (yp (UL rfl rfl) (zf (za (zG rfl (ze (ze (z8 (yp (pS rfl) (yp (ZK rfl) (yp pC (zf (za (zy ?_))))))))))))))));rw[decide_eq_false (show ¬(4:Int)=0 from by decide)]
  skip
  refine Zb (σ:=Nat) (fun i E S'=>∃(T3 H3:List Chunk) (D3:List (Option Bt)),Has E [(1,.pointer (some ⟨tb,0,none⟩)),(9,.int .i64 4),(57,.slice ia P.ids.length ic),(58,.int .i64 (P.ids.length:Int)),(59,.int .i64 (i:Int))]∧i≤P.ids.length∧Tb tb ab (drops P.L (P.ids.take i)) T3∧Ar ab N D3 H3∧WW D3 (drops P.L (P.ids.take i)) B∧zF S' (Hi::T3::H3::S)) (fun i=>P.ids.length-i) 0
   ⟨T1,H2,D2,⟨rfl,rfl,rfl,rfl,rfl,trivial⟩,Nat.zero_le _,hT1,hA2,hI2,.of⟩ fun i E S' ⟨T3,H3,D3,hE,hi,hT3,hA3,hI3,hJ⟩=>?_
  obtain⟨E0,e0⟩:=zu hE; subst e0; clear hE;refine zo hJ (ze (z8 (yp (ZN rfl rfl) (zf (za (ze ?_))))));refine zR rfl (fun hlt=>?_) (fun hlt=>?_)
  ·have hii:i<P.ids.length:=by omega
   have hti:P.ids.take (i+1)=P.ids.take i++[P.ids[i]]:=List.take_succ_eq_append_getElem hii;obtain⟨b,sp,fz,hz,rfl,_,hc',rfl⟩:=hiv.at' (by intro h; simp[h] at hii);have hld:((cells (P.ids++sp)).toArray.toList)[0+i*1+0]?=some (.int .i64 P.ids[i]):=(wF (kk:=1) (j:=0) hii rfl (by omega)).trans rfl;generalize P.ids[i]=z at hld hti;refine zq (za (ze (zy (ze (z8 (yp (zV rfl rfl (by omega)) ?_))))));refine zh (zC (v:= .int .i64 z) rfl hld ?_);refine yp (pI rfl) (zf (za (z8 (yp (pP rfl) (yp (pI rfl) ?_)))));refine zh (zk (dG hT3 hA3 hI3 (xU hP1) z) rfl rfl fun r' S' h=>?_);obtain⟨rfl,T4,H4,D4,hT4,hA4,hI4,hs4,rfl⟩:=h;refine zf (zU (za (z8 (yp (Zi rfl rfl (by omega)) (yp (pI rfl) (zf (za ?_)))))));refine⟨i+1,⟨T4,H4,D4,⟨rfl,rfl,rfl,rfl,rfl,trivial⟩,by omega,?_,hA4,?_,.of⟩,by omega⟩
   ·rw[hti,uE]; exact hT4
   ·rw[hti,uE]; exact hI4
  ·have hti:P.ids.take i=P.ids:=List.take_of_length_le (by omega);rw[hti,hdr] at hT3 hI3;refine Z0 (zI (zI (Z4 (za (ze (z8 (yp (pI rfl) (yp pC (yp (pI rfl) (zf (za (zJ (zX ?_)))))))))))));exact zH (jr rfl rfl) ⟨_,.of,.inr (.inl ⟨hE,hfit,T3,H3,D3,rfl,hT3,hA3,hI3,rfl⟩)⟩
 ·have hal:=hlv hPe;have hlen:P.ids.length=(Z7 s).length:=by rw[hal.len,List.length_map]
  have hnn:∀i∈P.ids,0≤i:=fun i hi=>by
   obtain⟨e,he,rfl⟩:=hal.mem hi;have:=(gH hA1 hI1 he).1;omega
  have hbl:=xB (s:=s) (ids:=P.ids) (fun r hr=>(Wv hmay r hr).1) hlen;have hdn:=U5 hs1;have hIa:=hI1.alloc (Zm s).toNat;have hga:=wX D1 (Zm s).toNat;rw[hdn] at hIa hga;have hBn:Hs ((((hnd P.D:Nat):Int),zeros (Zm s).toNat)::B):=by
   refine List.nodup_cons.2 ⟨fun hm=>?_,hB⟩;obtain⟨x,hx,hxe⟩:=List.mem_map.1 hm;have h1:=(hI1.oth x hx).1;have h2:=yt D1;rw[hxe, ←hdn,h2] at h1;cases h1
  have hzl:(Wn s P.ids).length=(zeros (Zm s).toNat).length:=by rw[bO]; omega
  obtain⟨hw1,hw2⟩:=QZ (Y:=Wn s P.ids) hga hzl;have hIw:=hIa.write (Y:=Wn s P.ids) hBn;have hsw:=mD (Y:=Wn s P.ids) hga hzl;refine ze (ze (z8 (yp (pI rfl) (yp (UL rfl rfl) (zf (za (zA rfl (zq (za (ze (z8 (yp (pP rfl) (yp (pI rfl) ?_)))))))))))));refine zh (wo (l:=[sv s.name,.int .i64 s.typ,.slice a s.rrs.length c,.int .i64 s.kind,sv s.zone]) rfl rfl rfl ?_);refine yp (pS rfl) ?_;refine zh (zk (mR (S:=Hi::S) hs (hv.mono fun x hx=>List.mem_cons_of_mem _ hx) (hiv.src (by simp)) hE hlen hnn) rfl rfl fun r' S' h=>?_);obtain⟨Hw,hw,rfl⟩:=h;refine zh (zk (KF (S0:=[Hw]) hA2 ((hnd P.D:Nat):Int) 0 (Y:=Wn s P.ids) (hw.src (by simp)) (by show _≤9223372036854775807; omega)) rfl rfl fun r' S' h=>?_);obtain⟨rfl,H3,hA3,rfl⟩:=h;rw[hw2] at hA3;refine zf (za (ze (z8 (yp (pI rfl) (yp (pI rfl) (yp pC (zf (za (zJ ?_)))))))));exact zH (jr rfl rfl) ⟨_,.of,.inr (.inr ⟨hE,hfit,T1,H3,_,rfl,hT1,hA3,hIw,hBn,hsw.trans (Yl hs1 _),rfl⟩)⟩
end Go.Proofs.YtekgciopamkjlaaGreat
