/- Times (chapter 11) and ranks (chapter 12). -/
import Derived.Test.YtekgciopamkjlaaGreatB3
import Derived.Test.YtekgciopamkjlaaGreatFCache
namespace Go.Proofs.YtekgciopamkjlaaGreat
open Go.Xs
open Enc (enc)
def Cr(t most:Int):Int:=max (min t most) 0
def xA(now t:Int):Int:=if 1099511627776-min (max t 0) 1099511627776<now then 1099511627776 else min (now+max t 0) 1099511627776
def YM(x now:Int):Int:=if x≤now then 0 else min (x-now) 9223372036854775807
def Vm(tc nc kind t:Int):Int:=Cr t (if kind=0 then tc else nc)
theorem rY(t most:Int):Tri Tryz.prog 121 #[.int .i64 t,.int .i64 most] [] (fun r S=>r= .int .i64 (Cr t most)∧S=[]):=by
 refine Tri.forget (zn Tryz.I5 (Nat.le_of_ble_eq_true rfl) ?_);unfold Tryz.DZ;refine ze (z8 (yp pC (zf (za (ze (z8 (yp (pI rfl) (yp (pI rfl) (yp (YH rfl rfl) (yp (QF rfl rfl) (yp (pI rfl) (zf (za (zL ?_))))))))))))));exact zK (rI rfl) ⟨_,.of,rfl,rfl⟩
theorem eG(now t:Int)(h: -9223372036854775808≤now∧t≤9223372036854775807):Tri Tryz.prog 78 #[.int .i64 now,.int .i64 t] [] (fun r S=>r= .int .i64 (xA now t)∧S=[]):=by
 refine Tri.forget (zn Tryz.MN (Nat.le_of_ble_eq_true rfl) ?_);unfold Tryz.NU;refine ze (z8 (yp pC (zf (za (ze (z8 (yp (pI rfl) (yp (QF rfl rfl) (yp (pI rfl) (zf (za (ze (ze (z8 (yp (pI rfl) (yp (pI rfl) (yp (YH rfl rfl) (yp (Zt rfl rfl (by omega)) (yp (VE rfl rfl) (zf (za ?_)))))))))))))))))))));unfold xA;by_cases c:1099511627776-min (max t 0) 1099511627776<now
 ·rw[decide_eq_true c,if_pos c];refine zI rfl (ze (z8 (yp pC (zf (za (zL (zX ?_)))))));exact zK (rI rfl) ⟨_,.of,rfl,rfl⟩
 ·rw[decide_eq_false c,if_neg c];refine zw rfl (zq (za (ze (z8 (yp (pI rfl) (yp (pI rfl) (yp (Vo rfl rfl (by omega)) (yp (YH rfl rfl) (yp (pI rfl) (zf (za (zL ?_))))))))))));exact zK (rI rfl) ⟨_,.of,rfl,rfl⟩
theorem sK{E:Env}{x:Operand}{k:IntKind}{j:Int}(h:ev E x= .int k j):zu (ev E) (.conv .u64 x)=some (.int .u64 (IntKind.u64.wrap j)):=by
 simp only[zu,h]
theorem BF{E:Env}{x y:Operand}{a b:Int}(h1:ev E x= .int .u64 a)(h2:ev E y= .int .u64 b):zu (ev E) (.bin .sub x y)=some (.int .u64 (IntKind.u64.wrap (a-b))):=by
 simp[zu,h1,h2,Wy,WW]
theorem K3(a:Int):IntKind.u64.wrap a=a%18446744073709551616:=by simp[IntKind.wrap,IntKind.signed,IntKind.bits]
theorem eF(x now:Int)(hx: -9223372036854775808≤x∧x≤9223372036854775807)(hn: -9223372036854775808≤now∧now≤9223372036854775807):Tri Tryz.prog 85 #[.int .i64 x,.int .i64 now] [] (fun r S=>r= .int .i64 (YM x now)∧S=[]):=by
 refine Tri.forget (zn Tryz.MJ (Nat.le_of_ble_eq_true rfl) ?_);unfold Tryz.NS;refine ze (z8 (yp pC (zf (za (ze (z8 (yp (pI rfl) (yp (sK rfl) (yp (pI rfl) (yp (sK rfl) (yp (BF rfl rfl) (yp (pI rfl) (zf (za (ze (ze (z8 (yp (pI rfl) (yp (pI rfl) (yp (Xl rfl rfl) (zf (za ?_))))))))))))))))))))));unfold YM;by_cases c:x≤now
 ·rw[decide_eq_true c,if_pos c];refine zI rfl (ze (z8 (yp pC (zf (za (zL (zX ?_)))))));exact zK (rI rfl) ⟨_,.of,rfl,rfl⟩
 ·rw[decide_eq_false c,if_neg c];have e:IntKind.u64.wrap (IntKind.u64.wrap x-IntKind.u64.wrap now)=x-now:=by
   rw[K3,K3,K3];omega
  rw[e];refine zw rfl (zq (za (ze (z8 (yp (pI rfl) (yp (YH rfl rfl) ?_))))));obtain⟨m,hm⟩:∃m:Nat,min (x-now) 9223372036854775807=(m:Int):=⟨(min (x-now) 9223372036854775807).toNat,by omega⟩
  rw[hm];refine yp (JY (j:=m) rfl (by omega)) (yp (pI rfl) (zf (za (zL ?_))));exact zK (rI rfl) ⟨_,.of,rfl,rfl⟩
theorem eD(x now:Int)(hx: -9223372036854775808≤x∧x≤9223372036854775807)(hn: -9223372036854775808≤now∧now≤9223372036854775807):Tri Tryz.prog 80 #[.int .i64 x,.int .i64 now] [] (fun r S=>r= .bool (decide (x≤now))∧S=[]):=by
 refine Tri.forget (zn Tryz.ML (Nat.le_of_ble_eq_true rfl) ?_);unfold Tryz.x80;refine ze (z8 (yp pC (zf (za (ze (z8 (yp (pI rfl) (yp (pI rfl) ?_))))))));refine zh (zk (eF x now hx hn) rfl rfl fun r S' h=>?_);obtain⟨rfl,rfl⟩:=h;refine yp (WB rfl rfl) (yp (pB rfl) (zf (za (zL ?_))));refine zK (rB rfl) ⟨_,.of,?_,rfl⟩;congr 1;unfold YM;by_cases c:x≤now
 ·rw[if_pos c,decide_eq_true c]; rfl
 ·rw[if_neg c,decide_eq_false c];exact decide_eq_false (by omega)
theorem fJ(a b:Int):Tri Tryz.prog 81 #[.int .i64 a,.int .i64 b] [] (fun r S=>r= .bool (decide (b≤a))∧S=[]):=by
 refine Tri.forget (zn Tryz.MK (Nat.le_of_ble_eq_true rfl) ?_);unfold Tryz.NT;refine ze (z8 (yp pC (zf (za (ze (z8 (yp (pI rfl) (yp (pI rfl) (yp (U9 rfl rfl) (yp (pB rfl) (zf (za (zL ?_)))))))))))));exact zK (rB rfl) ⟨_,.of,rfl,rfl⟩
end Go.Proofs.YtekgciopamkjlaaGreat