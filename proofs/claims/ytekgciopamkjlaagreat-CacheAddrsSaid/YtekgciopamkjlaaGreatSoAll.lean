/- slices.Sort of numbers: the same elements, in order. -/
import Derived.Test.YtekgciopamkjlaaGreatCaF
import Derived.Test.YtekgciopamkjlaaGreatPdo
namespace Go.Proofs.YtekgciopamkjlaaGreat
open Go.Xs
open Enc (enc)
theorem nL(a:Int):Tri Tryz.prog 166 #[.int .i64 a] [] (fun r S=>r= .bool false∧S=[]):=by
 refine Tri.forget (zn Tryz.tq (Nat.le_of_ble_eq_true rfl) ?_);unfold Tryz.Ak;refine ze (z8 (yp pC (zf (za (ze (z8 (yp (pI rfl) (yp (pI rfl) (yp (UF rfl rfl) (yp (pB rfl) (zf (za (zL ?_)))))))))))));rw[decide_eq_true (show a=a from rfl)]
 skip
 exact zK (rB rfl) ⟨_,.of,rfl,rfl⟩
theorem AF(a b:Int):Tri Tryz.prog 179 #[.int .i64 a,.int .i64 b] [] (fun r S=>r= .bool (decide (a<b))∧S=[]):=by
 refine Tri.forget (zn Tryz.Gf (Nat.le_of_ble_eq_true rfl) ?_);unfold Tryz.Df;refine ze (z8 (yp pC (zf (za (ze (z8 (yp (pI rfl) ?_)))))));refine zh (zk (nL a) rfl rfl fun r S' h=>?_);obtain⟨rfl,rfl⟩:=h;refine yp (pB rfl) (Z5 rfl (Z5 rfl (Z5 rfl (yp (zU rfl rfl) (yp (pB rfl) (Z0 rfl (Zc (pI rfl) (Z0 rfl (Zc (pI rfl) (Z0 rfl (Zc (ZL rfl rfl) (yp (zU rfl rfl) (yp (pB rfl) (zf (za (zL ?_))))))))))))))));exact zK (rB rfl) ⟨_,.of,rfl,rfl⟩
theorem Iz:Co Tryz.prog 179 (fun a:Int=> .int .i64 a) (fun _=>True) (fun a b=>a<b):=
 ⟨⟨by intros; omega,by intros; omega,by intros; omega⟩,fun x y _ _=>(AF x y).mono fun r S h=>⟨⟨x-y,by rw[h.1]; congr 1; rw[decide_eq_decide]; omega,by omega⟩,h.2⟩⟩
theorem C8:Ld (α:=Int) (fun a=> .load1 a) (fun z=> .int .i64 z):=⟨fun {R E a b off c ty fz x} ha hm hx=> .load1 (ty:=ty) (fz:=fz) ha hm (by
 have:=congrArg (fun l=>l[0]?) hx;rw[show Enc.k Int=1 from rfl] at this;rw[show enc x=[Value.int .i64 x] from rfl] at this;simpa[List.getElem?_take,List.getElem?_drop] using this),fun _=>rfl⟩
theorem sF:NG Tryz.prog (fun a=> .load1 a) 1 179 156 173 174 175 176 177 178 180 181:=
 ⟨Tryz.tu,Tryz.sZ,⟨_,Tryz.Gl,Tryz.FU⟩,
  ⟨_,_,_,_,_,_,Tryz.Gj,Tryz.sW,Tryz.YU,Tryz.YS,Tryz.sV⟩,
  ⟨_,_,_,_,Tryz.Gi,Tryz.FT,Tryz.FR,Tryz.FK⟩,
  Tryz.Gh,Tryz.Gg,Tryz.Gd,Tryz.Gc⟩
theorem K8(m:Nat)(hm:m<2 ^ 30):j5 m:=fun {v L H} hL hl=>by
 refine Tri.forget (zn Tryz.tF (Nat.le_of_ble_eq_true rfl) ?_);unfold Tryz.Ao;rcases hL.inv with⟨rfl,rfl,rfl⟩ | ⟨b,sp,fz,hz,rfl,rfl⟩
 ·refine ze (z8 (yp (pS rfl) (yp (Zz rfl) (yp (pI rfl) (zf (za (z8 (yp (pS rfl) (yp (pI rfl) (yp (pI rfl) (yp (Xp (j:=0) rfl (by omega)) ?_)))))))))));refine zh (zk (xX Tryz.YU Tryz.YS (m:=0) (by omega)) rfl rfl fun r S' h=>?_);obtain⟨l,rfl,hl8,hi,rfl⟩:=h
  skip
  refine zh (zk (Bf (a:=none) (c:=0) (q:=(l:Int)) sF) rfl rfl fun r S' h=>?_);obtain⟨rfl,rfl⟩:=h;refine zf ?_;exact ZF ZG ⟨[[]],.of,rfl,[],[],.refl _,.nil,.nil,rfl⟩
 ·refine ze (z8 (yp (pS rfl) (yp (Zz rfl) (yp (pI rfl) (zf (za (z8 (yp (pS rfl) (yp (pI rfl) (yp (pI rfl) (yp (Xp (j:=L.length) rfl (by omega)) ?_)))))))))));refine zh (zk (xX Tryz.YU Tryz.YS (m:=L.length) (by omega)) rfl rfl fun r S' h=>?_);obtain⟨l,rfl,hl8,hi,rfl⟩:=h
  skip
  refine zh (zk (o8 (blk:=b) (ty:=3) (cp:=L.length+sp.length) (fz:=fz) (ln:=L.length) sF C8 rfl Iz (L.length+1) (M:=L++sp) ⟨by simp,by omega,hz,fun i _ h=>trivial⟩ (a:=0) (b:=L.length) (by omega) (by omega) (fun h=>absurd h (by omega)) (by omega) (q:=l) (by omega)) rfl rfl fun r S' h=>?_);obtain⟨rfl,M',hsw,hso,rfl⟩:=h;obtain⟨L',rfl,hpm⟩:=hsw.front;refine zf ?_;have hll:=hpm.length_eq;refine ZF ZG ⟨[sg b 3 fz (L'++sp)],.of,rfl,L',_,hpm,?_,?_,rfl⟩
  ·rw[List.pairwise_iff_getElem];intro i j hi hj hij;have:=hso i j (Nat.zero_le _) hij (by omega);rw[WZ hi,WZ hj,Uk hi,Uk hj] at this;omega
  ·rw[←hll];exact .row (by rw[zJ] at hz ⊢; simp at hz ⊢; rw[hll]; exact hz)
end Go.Proofs.YtekgciopamkjlaaGreat