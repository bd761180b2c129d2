/- freshetalike: Round. -/
import Derived.Test.YtekgciopamkjlaaGreatB3
import Derived.Test.YtekgciopamkjlaaGreatFAlk
namespace Go.Proofs.YtekgciopamkjlaaGreat
open Go.Xs
open Enc (enc)
def round(k n:Int):Int:=k%n
theorem Cu(k n:Int)(hn:0<n∧n≤2 ^ 60):Tri Tryz.prog 24 #[.int .i64 k,.int .i64 n] [] (fun r S=>r= .int .i64 (round k n)∧S=[]):=by
 have h1: -n<k.tmod n:=Int.lt_tmod_of_pos k hn.1;have h2:k.tmod n<n:=Int.tmod_lt_of_pos k hn.1;refine Tri.forget (zn Tryz.Ns (Nat.le_of_ble_eq_true rfl) ?_);unfold Tryz.x24;refine ze (z8 (yp pC (zf (za (ze (z8 (yp (pI rfl) (yp (pI rfl) (yp (EN rfl rfl (by omega)) (yp (pI rfl) (yp (Vo rfl rfl (by omega)) (yp (pI rfl) (yp (EN rfl rfl (by omega)) (yp (pI rfl) (zf (za (zL ?_)))))))))))))))));have e:(k.tmod n+n).tmod n=round k n:=by
  have:0≤k.tmod n+n:=by omega
  rw[Int.tmod_eq_emod_of_nonneg this,Int.add_emod_right,round,Int.tmod_eq_emod];split
  ·simp
  ·rw[Int.sub_emod,Int.emod_emod_of_dvd _ (Int.dvd_refl n)];have:((n.natAbs:Int))%n=0:=Int.emod_eq_zero_of_dvd (Int.dvd_natAbs.2 (Int.dvd_refl n));rw[this]; simp
 exact zK (rI rfl) ⟨_,.of,by rw[e],rfl⟩
theorem jN(k n:Int)(hn:0<n):0≤round k n∧round k n<n:=⟨Int.emod_nonneg _ (by omega),Int.emod_lt_of_pos _ hn⟩
instance:Enc Bool:=⟨fun b=>[.bool b],1,fun _=>rfl,fun _=>rfl⟩
theorem Cv{I:List Bool}{k:Nat}{b:Bool}(h:I[k]?=some b):((cells I).toArray.toList)[0+k*1]?=some (.bool b):=by
 obtain⟨hk,rfl⟩:=List.getElem?_eq_some_iff.1 h;have:=uf I k 0 hk (by decide);rw[Nat.zero_add];exact this
end Go.Proofs.YtekgciopamkjlaaGreat