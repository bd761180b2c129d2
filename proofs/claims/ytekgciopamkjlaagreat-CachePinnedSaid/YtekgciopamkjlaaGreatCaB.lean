/- Times (chapter 11) and ranks (chapter 12). -/
import Derived.Test.YtekgciopamkjlaaGreatB3
import Derived.Test.YtekgciopamkjlaaGreatFCache
namespace Go.Proofs.YtekgciopamkjlaaGreat
open Go.Xs
open Enc (enc)
def oO(t most:Int):Int:=max (min t most) 0
def xI(now t:Int):Int:=if 1099511627776-min (max t 0) 1099511627776<now then 1099511627776 else min (now+max t 0) 1099511627776
def Uo(x now:Int):Int:=if x≤now then 0 else min (x-now) 9223372036854775807
def vM(tc nc kind t:Int):Int:=oO t (if kind=0 then tc else nc)
theorem rD(t most:Int):zP Tryz.prog 121 #[.int .i64 t,.int .i64 most] [] (fun r S=>r= .int .i64 (oO t most)∧S=[]):=by
 refine zP.forget (zl Tryz.Gx (Nat.le_of_ble_eq_true rfl) ?_);unfold Tryz.Df;refine ze (z8 (yp pC (zf (za (ze (z8 (yp (pI rfl) (yp (pI rfl) (yp (YM rfl rfl) (yp (QK rfl rfl) (yp (pI rfl) (zf (za (zH ?_))))))))))))));exact zG (rI rfl) ⟨_,.of,rfl,rfl⟩
theorem eG(now t:Int)(h: -9223372036854775808≤now∧t≤9223372036854775807):zP Tryz.prog 78 #[.int .i64 now,.int .i64 t] [] (fun r S=>r= .int .i64 (xI now t)∧S=[]):=by
 refine zP.forget (zl Tryz.LC (Nat.le_of_ble_eq_true rfl) ?_);unfold Tryz.MK;refine ze (z8 (yp pC (zf (za (ze (z8 (yp (pI rfl) (yp (QK rfl rfl) (yp (pI rfl) (zf (za (ze (ze (z8 (yp (pI rfl) (yp (pI rfl) (yp (YM rfl rfl) (yp (ZG rfl rfl (by omega)) (yp (uf rfl rfl) (zf (za ?_)))))))))))))))))))));unfold xI;by_cases c:1099511627776-min (max t 0) 1099511627776<now
 ·rw[decide_eq_true c,if_pos c];refine zF rfl (ze (z8 (yp pC (zf (za (zH (zX ?_)))))));exact zG (rI rfl) ⟨_,.of,rfl,rfl⟩
 ·rw[decide_eq_false c,if_neg c];refine zx rfl (zq (za (ze (z8 (yp (pI rfl) (yp (pI rfl) (yp (Vq rfl rfl (by omega)) (yp (YM rfl rfl) (yp (pI rfl) (zf (za (zH ?_))))))))))));exact zG (rI rfl) ⟨_,.of,rfl,rfl⟩
theorem rR{E:Env}{x:Operand}{k:IntKind}{j:Int}(h:ev E x= .int k j):zm (ev E) (.conv .u64 x)=some (.int .u64 (IntKind.u64.wrap j)):=by
 simp only[zm,h]
theorem Ay{E:Env}{x y:Operand}{a b:Int}(h1:ev E x= .int .u64 a)(h2:ev E y= .int .u64 b):zm (ev E) (.bin .sub x y)=some (.int .u64 (IntKind.u64.wrap (a-b))):=by
 simp[zm,h1,h2,WA,vE]
theorem kZ(a:Int):IntKind.u64.wrap a=a%18446744073709551616:=by simp[IntKind.wrap,IntKind.signed,IntKind.bits]
theorem eF(x now:Int)(hx: -9223372036854775808≤x∧x≤9223372036854775807)(hn: -9223372036854775808≤now∧now≤9223372036854775807):zP Tryz.prog 85 #[.int .i64 x,.int .i64 now] [] (fun r S=>r= .int .i64 (Uo x now)∧S=[]):=by
 refine zP.forget (zl Tryz.Lu (Nat.le_of_ble_eq_true rfl) ?_);unfold Tryz.MI;refine ze (z8 (yp pC (zf (za (ze (z8 (yp (pI rfl) (yp (rR rfl) (yp (pI rfl) (yp (rR rfl) (yp (Ay rfl rfl) (yp (pI rfl) (zf (za (ze (ze (z8 (yp (pI rfl) (yp (pI rfl) (yp (jN rfl rfl) (zf (za ?_))))))))))))))))))))));unfold Uo;by_cases c:x≤now
 ·rw[decide_eq_true c,if_pos c];refine zF rfl (ze (z8 (yp pC (zf (za (zH (zX ?_)))))));exact zG (rI rfl) ⟨_,.of,rfl,rfl⟩
 ·rw[decide_eq_false c,if_neg c];have e:IntKind.u64.wrap (IntKind.u64.wrap x-IntKind.u64.wrap now)=x-now:=by
   rw[kZ,kZ,kZ];omega
  rw[e];refine zx rfl (zq (za (ze (z8 (yp (pI rfl) (yp (YM rfl rfl) ?_))))));obtain⟨m,hm⟩:∃m:Nat,min (x-now) 9223372036854775807=(m:Int):=⟨(min (x-now) 9223372036854775807).toNat,by omega⟩
  rw[hm];refine yp (bD (j:=m) rfl (by omega)) (yp (pI rfl) (zf (za (zH ?_))));exact zG (rI rfl) ⟨_,.of,rfl,rfl⟩
theorem eD(x now:Int)(hx: -9223372036854775808≤x∧x≤9223372036854775807)(hn: -9223372036854775808≤now∧now≤9223372036854775807):zP Tryz.prog 80 #[.int .i64 x,.int .i64 now] [] (fun r S=>r= .bool (decide (x≤now))∧S=[]):=by
 refine zP.forget (zl Tryz.Lx (Nat.le_of_ble_eq_true rfl) ?_);unfold Tryz.x80;refine ze (z8 (yp pC (zf (za (ze (z8 (yp (pI rfl) (yp (pI rfl) ?_))))))));refine zh (zk (eF x now hx hn) rfl rfl fun r S' h=>?_);obtain⟨rfl,rfl⟩:=h;refine yp (WT rfl rfl) (yp (pB rfl) (zf (za (zH ?_))));refine zG (rB rfl) ⟨_,.of,?_,rfl⟩;congr 1;unfold Uo;by_cases c:x≤now
 ·rw[if_pos c,decide_eq_true c]; rfl
 ·rw[if_neg c,decide_eq_false c];exact decide_eq_false (by omega)
theorem fH(a b:Int):zP Tryz.prog 81 #[.int .i64 a,.int .i64 b] [] (fun r S=>r= .bool (decide (b≤a))∧S=[]):=by
 refine zP.forget (zl Tryz.Lv (Nat.le_of_ble_eq_true rfl) ?_);unfold Tryz.MJ;refine ze (z8 (yp pC (zf (za (ze (z8 (yp (pI rfl) (yp (pI rfl) (yp (Yg rfl rfl) (yp (pB rfl) (zf (za (zH ?_)))))))))))));exact zG (rB rfl) ⟨_,.of,rfl,rfl⟩
end Go.Proofs.YtekgciopamkjlaaGreat