/- Times (chapter 11) and ranks (chapter 12). -/
import Derived.Test.YtekgciopamkjlaaGreatB3
import Derived.Test.YtekgciopamkjlaaGreatFCache
namespace Go.Proofs.YtekgciopamkjlaaGreat
open Go.Xs
open Enc (enc)
def nN(t most:Int):Int:=max (min t most) 0
def UZ(now t:Int):Int:=if 1099511627776-min (max t 0) 1099511627776<now then 1099511627776 else min (now+max t 0) 1099511627776
def Yz(x now:Int):Int:=if x≤now then 0 else min (x-now) 9223372036854775807
def WK(tc nc kind t:Int):Int:=nN t (if kind=0 then tc else nc)
theorem oz(t most:Int):zP Tryz.prog 121 #[.int .i64 t,.int .i64 most] [] (fun r S=>r= .int .i64 (nN t most)∧S=[]):=by
 refine zP.forget (zm Tryz.FW (Nat.le_of_ble_eq_true rfl) ?_);unfold Tryz.Cz;refine ze (z8 (yp pC (zf (za (ze (z8 (yp (pI rfl) (yp (pI rfl) (yp (Yw rfl rfl) (yp (Ql rfl rfl) (yp (pI rfl) (zf (za (zJ ?_))))))))))))));exact zH (rI rfl) ⟨_,.of,rfl,rfl⟩
theorem dD(now t:Int)(h: -9223372036854775808≤now∧t≤9223372036854775807):zP Tryz.prog 78 #[.int .i64 now,.int .i64 t] [] (fun r S=>r= .int .i64 (UZ now t)∧S=[]):=by
 refine zP.forget (zm Tryz.IJ (Nat.le_of_ble_eq_true rfl) ?_);unfold Tryz.M8;refine ze (z8 (yp pC (zf (za (ze (z8 (yp (pI rfl) (yp (Ql rfl rfl) (yp (pI rfl) (zf (za (ze (ze (z8 (yp (pI rfl) (yp (pI rfl) (yp (Yw rfl rfl) (yp (ZG rfl rfl (by omega)) (yp (VK rfl rfl) (zf (za ?_)))))))))))))))))))));unfold UZ;by_cases c:1099511627776-min (max t 0) 1099511627776<now
 ·rw[decide_eq_true c,if_pos c];refine zG rfl (ze (z8 (yp pC (zf (za (zJ (zX ?_)))))));exact zH (rI rfl) ⟨_,.of,rfl,rfl⟩
 ·rw[decide_eq_false c,if_neg c];refine zA rfl (zq (za (ze (z8 (yp (pI rfl) (yp (pI rfl) (yp (VL rfl rfl (by omega)) (yp (Yw rfl rfl) (yp (pI rfl) (zf (za (zJ ?_))))))))))));exact zH (rI rfl) ⟨_,.of,rfl,rfl⟩
theorem oU{E:Env}{x:Operand}{k:IntKind}{j:Int}(h:ev E x= .int k j):zl (ev E) (.conv .u64 x)=some (.int .u64 (IntKind.u64.wrap j)):=by
 simp only[zl,h]
theorem tQ{E:Env}{x y:Operand}{a b:Int}(h1:ev E x= .int .u64 a)(h2:ev E y= .int .u64 b):zl (ev E) (.bin .sub x y)=some (.int .u64 (IntKind.u64.wrap (a-b))):=by
 simp[zl,h1,h2,Wy,vD]
theorem kJ(a:Int):IntKind.u64.wrap a=a%18446744073709551616:=by simp[IntKind.wrap,IntKind.signed,IntKind.bits]
theorem dB(x now:Int)(hx: -9223372036854775808≤x∧x≤9223372036854775807)(hn: -9223372036854775808≤now∧now≤9223372036854775807):zP Tryz.prog 85 #[.int .i64 x,.int .i64 now] [] (fun r S=>r= .int .i64 (Yz x now)∧S=[]):=by
 refine zP.forget (zm Tryz.IE (Nat.le_of_ble_eq_true rfl) ?_);unfold Tryz.M6;refine ze (z8 (yp pC (zf (za (ze (z8 (yp (pI rfl) (yp (oU rfl) (yp (pI rfl) (yp (oU rfl) (yp (tQ rfl rfl) (yp (pI rfl) (zf (za (ze (ze (z8 (yp (pI rfl) (yp (pI rfl) (yp (jy rfl rfl) (zf (za ?_))))))))))))))))))))));unfold Yz;by_cases c:x≤now
 ·rw[decide_eq_true c,if_pos c];refine zG rfl (ze (z8 (yp pC (zf (za (zJ (zX ?_)))))));exact zH (rI rfl) ⟨_,.of,rfl,rfl⟩
 ·rw[decide_eq_false c,if_neg c];have e:IntKind.u64.wrap (IntKind.u64.wrap x-IntKind.u64.wrap now)=x-now:=by
   rw[kJ,kJ,kJ];omega
  rw[e];refine zA rfl (zq (za (ze (z8 (yp (pI rfl) (yp (Yw rfl rfl) ?_))))));obtain⟨m,hm⟩:∃m:Nat,min (x-now) 9223372036854775807=(m:Int):=⟨(min (x-now) 9223372036854775807).toNat,by omega⟩
  rw[hm];refine yp (aI (j:=m) rfl (by omega)) (yp (pI rfl) (zf (za (zJ ?_))));exact zH (rI rfl) ⟨_,.of,rfl,rfl⟩
theorem dA(x now:Int)(hx: -9223372036854775808≤x∧x≤9223372036854775807)(hn: -9223372036854775808≤now∧now≤9223372036854775807):zP Tryz.prog 80 #[.int .i64 x,.int .i64 now] [] (fun r S=>r= .bool (decide (x≤now))∧S=[]):=by
 refine zP.forget (zm Tryz.II (Nat.le_of_ble_eq_true rfl) ?_);unfold Tryz.x80;refine ze (z8 (yp pC (zf (za (ze (z8 (yp (pI rfl) (yp (pI rfl) ?_))))))));refine zh (zk (dB x now hx hn) rfl rfl fun r S' h=>?_);obtain⟨rfl,rfl⟩:=h;refine yp (WZ rfl rfl) (yp (pB rfl) (zf (za (zJ ?_))));refine zH (rB rfl) ⟨_,.of,?_,rfl⟩;congr 1;unfold Yz;by_cases c:x≤now
 ·rw[if_pos c,decide_eq_true c]; rfl
 ·rw[if_neg c,decide_eq_false c];exact decide_eq_false (by omega)
theorem dX(a b:Int):zP Tryz.prog 81 #[.int .i64 a,.int .i64 b] [] (fun r S=>r= .bool (decide (b≤a))∧S=[]):=by
 refine zP.forget (zm Tryz.IG (Nat.le_of_ble_eq_true rfl) ?_);unfold Tryz.M7;refine ze (z8 (yp pC (zf (za (ze (z8 (yp (pI rfl) (yp (pI rfl) (yp (Xa rfl rfl) (yp (pB rfl) (zf (za (zJ ?_)))))))))))));exact zH (rB rfl) ⟨_,.of,rfl,rfl⟩
end Go.Proofs.YtekgciopamkjlaaGreat