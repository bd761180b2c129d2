/- Times (chapter 11) and ranks (chapter 12). -/
import Derived.Test.YtekgciopamkjlaaGreatB3
import Derived.Test.YtekgciopamkjlaaGreatFCache
namespace Go.Proofs.YtekgciopamkjlaaGreat
open Go.Xs
open Enc (enc)
def CK(t most:Int):Int:=max (min t most) 0
def XM(now t:Int):Int:=if 1099511627776-min (max t 0) 1099511627776<now then 1099511627776 else min (now+max t 0) 1099511627776
def Uz(x now:Int):Int:=if x≤now then 0 else min (x-now) 9223372036854775807
def WJ(tc nc kind t:Int):Int:=CK t (if kind=0 then tc else nc)
theorem Dj(t most:Int):Tri Tryz.prog 121 #[.int .i64 t,.int .i64 most] [] (fun r S=>r= .int .i64 (CK t most)∧S=[]):=by
 refine Tri.forget (zq Tryz.Om (Nat.le_of_ble_eq_true rfl) ?_);unfold Tryz.IU;refine ze (z8 (yp pC (zf (za (ze (z8 (yp (pI rfl) (yp (pI rfl) (yp (kE rfl rfl) (yp (eZ rfl rfl) (yp (pI rfl) (zf (za (zJ ?_))))))))))))));exact zI (rI rfl) ⟨_,.of,rfl,rfl⟩
theorem nI(now t:Int)(h: -9223372036854775808≤now∧t≤9223372036854775807):Tri Tryz.prog 78 #[.int .i64 now,.int .i64 t] [] (fun r S=>r= .int .i64 (XM now t)∧S=[]):=by
 refine Tri.forget (zq Tryz.RY (Nat.le_of_ble_eq_true rfl) ?_);unfold Tryz.TM;refine ze (z8 (yp pC (zf (za (ze (z8 (yp (pI rfl) (yp (eZ rfl rfl) (yp (pI rfl) (zf (za (ze (ze (z8 (yp (pI rfl) (yp (pI rfl) (yp (kE rfl rfl) (yp (Zy rfl rfl (by omega)) (yp (WS rfl rfl) (zf (za ?_)))))))))))))))))))));unfold XM;by_cases c:1099511627776-min (max t 0) 1099511627776<now
 ·rw[decide_eq_true c,if_pos c];refine zC rfl (ze (z8 (yp pC (zf (za (zJ (zV ?_)))))));exact zI (rI rfl) ⟨_,.of,rfl,rfl⟩
 ·rw[decide_eq_false c,if_neg c];refine zo rfl (zl (za (ze (z8 (yp (pI rfl) (yp (pI rfl) (yp (vJ rfl rfl (by omega)) (yp (kE rfl rfl) (yp (pI rfl) (zf (za (zJ ?_))))))))))));exact zI (rI rfl) ⟨_,.of,rfl,rfl⟩
theorem Dy{E:Env}{x:Operand}{k:IntKind}{j:Int}(h:ev E x= .int k j):zB (ev E) (.conv .u64 x)=some (.int .u64 (IntKind.u64.wrap j)):=by
 simp only[zB,h]
theorem FW{E:Env}{x y:Operand}{a b:Int}(h1:ev E x= .int .u64 a)(h2:ev E y= .int .u64 b):zB (ev E) (.bin .sub x y)=some (.int .u64 (IntKind.u64.wrap (a-b))):=by
 simp[zB,h1,h2,vE,V7]
theorem J7(a:Int):IntKind.u64.wrap a=a%18446744073709551616:=by simp[IntKind.wrap,IntKind.signed,IntKind.bits]
theorem aO(x now:Int)(hx: -9223372036854775808≤x∧x≤9223372036854775807)(hn: -9223372036854775808≤now∧now≤9223372036854775807):Tri Tryz.prog 85 #[.int .i64 x,.int .i64 now] [] (fun r S=>r= .int .i64 (Uz x now)∧S=[]):=by
 refine Tri.forget (zq Tryz.RP (Nat.le_of_ble_eq_true rfl) ?_);unfold Tryz.TI;refine ze (z8 (yp pC (zf (za (ze (z8 (yp (pI rfl) (yp (Dy rfl) (yp (pI rfl) (yp (Dy rfl) (yp (FW rfl rfl) (yp (pI rfl) (zf (za (ze (ze (z8 (yp (pI rfl) (yp (pI rfl) (yp (XB rfl rfl) (zf (za ?_))))))))))))))))))))));unfold Uz;by_cases c:x≤now
 ·rw[decide_eq_true c,if_pos c];refine zC rfl (ze (z8 (yp pC (zf (za (zJ (zV ?_)))))));exact zI (rI rfl) ⟨_,.of,rfl,rfl⟩
 ·rw[decide_eq_false c,if_neg c];have e:IntKind.u64.wrap (IntKind.u64.wrap x-IntKind.u64.wrap now)=x-now:=by
   rw[J7,J7,J7];omega
  rw[e];refine zo rfl (zl (za (ze (z8 (yp (pI rfl) (yp (kE rfl rfl) ?_))))));obtain⟨m,hm⟩:∃m:Nat,min (x-now) 9223372036854775807=(m:Int):=⟨(min (x-now) 9223372036854775807).toNat,by omega⟩
  rw[hm];refine yp (bB (j:=m) rfl (by omega)) (yp (pI rfl) (zf (za (zJ ?_))));exact zI (rI rfl) ⟨_,.of,rfl,rfl⟩
theorem nH(x now:Int)(hx: -9223372036854775808≤x∧x≤9223372036854775807)(hn: -9223372036854775808≤now∧now≤9223372036854775807):Tri Tryz.prog 80 #[.int .i64 x,.int .i64 now] [] (fun r S=>r= .bool (decide (x≤now))∧S=[]):=by
 refine Tri.forget (zq Tryz.RX (Nat.le_of_ble_eq_true rfl) ?_);unfold Tryz.x80;refine ze (z8 (yp pC (zf (za (ze (z8 (yp (pI rfl) (yp (pI rfl) ?_))))))));refine zh (zk (aO x now hx hn) rfl rfl fun r S' h=>?_);obtain⟨rfl,rfl⟩:=h;refine yp (wB rfl rfl) (yp (pB rfl) (zf (za (zJ ?_))));refine zI (rB rfl) ⟨_,.of,?_,rfl⟩;congr 1;unfold Uz;by_cases c:x≤now
 ·rw[if_pos c,decide_eq_true c]; rfl
 ·rw[if_neg c,decide_eq_false c];exact decide_eq_false (by omega)
theorem oo(a b:Int):Tri Tryz.prog 81 #[.int .i64 a,.int .i64 b] [] (fun r S=>r= .bool (decide (b≤a))∧S=[]):=by
 refine Tri.forget (zq Tryz.RU (Nat.le_of_ble_eq_true rfl) ?_);unfold Tryz.TL;refine ze (z8 (yp pC (zf (za (ze (z8 (yp (pI rfl) (yp (pI rfl) (yp (Ux rfl rfl) (yp (pB rfl) (zf (za (zJ ?_)))))))))))));exact zI (rB rfl) ⟨_,.of,rfl,rfl⟩
end Go.Proofs.YtekgciopamkjlaaGreat