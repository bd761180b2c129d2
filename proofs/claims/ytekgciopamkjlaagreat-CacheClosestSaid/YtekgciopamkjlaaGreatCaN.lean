/- An address's number (chapter 3). -/
import Derived.Test.YtekgciopamkjlaaGreatCaA
import Derived.Test.YtekgciopamkjlaaGreatS1
namespace Go.Proofs.YtekgciopamkjlaaGreat
open Go.Xs
open Enc (enc)
def Vw(z:Int):Bs:=[xM (aT z 24),xM (aT z 16),xM (aT z 8),xM z]
theorem y5(n:Bs)(z:Int):Tri Tryz.prog 32 #[sv n,.int .i64 z] [] (fun r S=>∃v H,r= .agg (X7 (ZG n (Vw z)) v)∧Zg 89 v (ZG n (Vw z)).rrs H∧S=[H]):=by
 refine Tri.forget (zq Tryz.Ta (Nat.le_of_ble_eq_true rfl) ?_);unfold Tryz.x32 Vw;refine ze (z8 ?_);refine zh (Z5 fun p4=>?_);refine zf (za (ze (z8 (yp (pT rfl) (yp (Zr (xW rfl) (vH rfl)) (yp (pT rfl) (yp (pI rfl) (yp (pO 24 rfl) (yp (XC rfl) (yp (pI rfl) (yp (pO 16 rfl) (yp (XC rfl) (yp (pI rfl) (yp (pO 8 rfl) (yp (XC rfl) (yp (pI rfl) (yp (XC rfl) ?_)))))))))))))))));generalize xM (aT z 24)=b0;generalize xM (aT z 16)=b1;generalize xM (aT z 8)=b2;generalize xM z=b3;refine zh (mJ (l:=cells [b0,b1,b2,b3]) rfl (by decide) (by decide) (by decide) rfl fun p19=>?_);refine zh (YN (Y:=[b0,b1,b2,b3]) rfl (.lit (by repeat (first | exact List.mem_cons_self | apply List.mem_cons_of_mem)) rfl) ?_);refine yp (v:= .agg #[sv n,.int .i64 1,.int .i64 1,.int .i64 0,sv [b0,b1,b2,b3]]) rfl ?_;refine zh (wJ (⟨n,1,1,0,[b0,b1,b2,b3]⟩:RR) rfl rfl (by decide) (by decide) rfl fun p22=>?_);refine yp (v:= .agg #[sv n,.int .i64 1,.slice (some ⟨p22,0,none⟩) 1 1,.int .i64 0,sv [0]]) rfl ?_;refine zh (Vx (c':=[sv n,.int .i64 1,.slice (some ⟨p22,0,none⟩) 1 1,.int .i64 0,sv [0]]) rfl rfl rfl rfl rfl ?_);refine zf (za (zJ ?_));exact zI (jd (P8 (b:=p4) (l:=[sv n,.int .i64 1,.slice (some ⟨p22,0,none⟩) 1 1,.int .i64 0,sv [0]]) Ap nM rfl rfl)) ⟨[[(p22,.cells (cells [(⟨n,1,1,0,[b0,b1,b2,b3]⟩:RR)]).toArray 89)]],.of,_,_,rfl,.full (L:=[(⟨n,1,1,0,[b0,b1,b2,b3]⟩:RR)]) rfl,rfl⟩
theorem kH(a b i:Nat)(h:b<2 ^ i):(a*2 ^ i) ||| b=a*2 ^ i+b:=by
 rw[Nat.mul_comm a,Nat.two_pow_add_eq_or_of_lt h]
theorem pQ{E:Env}{x:Operand}{a s:Nat}(h1:ev E x= .int .i64 (a:Int))(hs:s≤64)(h:a*2 ^ s<2 ^ 63):zB (ev E) (.bin .shl x (.const (.int .u64 (s:Int))))=some (.int .i64 ((a*2 ^ s:Nat):Int)):=by
 rw[eX (k':= .u64) (b:=(s:Int)) h1 rfl (by omega)];rw[show Nat.min ((s:Int)).toNat IntKind.i64.bits=s from Nat.min_eq_left hs,wrap_i64 (by
  have:(a:Int)*2 ^ s=((a*2 ^ s:Nat):Int):=by simp
  rw[this]; omega)]
 simp
theorem Ga(a b c d:UInt8):(((a.toNat*2 ^ 24 ||| b.toNat*2 ^ 16) ||| c.toNat*2 ^ 8) ||| d.toNat:Nat)=((a.toNat*256+b.toNat)*256+c.toNat)*256+d.toNat:=by
 have ha:=a.toNat_lt; have hb:=b.toNat_lt; have hc:=c.toNat_lt; have hd:=d.toNat_lt;rw[kH a.toNat (b.toNat*2 ^ 16) 24 (by omega)];rw[show a.toNat*2 ^ 24+b.toNat*2 ^ 16=(a.toNat*2 ^ 8+b.toNat)*2 ^ 16 from by omega,kH _ (c.toNat*2 ^ 8) 16 (by omega)];rw[show(a.toNat*2 ^ 8+b.toNat)*2 ^ 16+c.toNat*2 ^ 8=((a.toNat*2 ^ 8+b.toNat)*2 ^ 8+c.toNat)*2 ^ 8 from by omega,kH _ d.toNat 8 (by omega)]
theorem oF(d:Bs)(h:d.length=4):Tri Tryz.prog 155 #[sv d] [] (fun r S=>r= .int .i64 (KI d)∧S=[]):=by
 match d,h with
 | [a,b,c,e],_=>
 have ha:=a.toNat_lt; have hb:=b.toNat_lt; have hc:=c.toNat_lt; have he:=e.toNat_lt;refine Tri.forget (zq Tryz.NI (Nat.le_of_ble_eq_true rfl) ?_);unfold Tryz.Ie;refine ze (z8 (yp pC (zf (za (ze (wU (R:=[]) (by simp) (zi (pT rfl) (zi (Jv (k:=0) (b:=a) rfl rfl rfl) (zi (kG rfl) (zi (pQ (s:=24) rfl (by decide) (by omega)) (zi (pT rfl) (zi (Jv (k:=1) (b:=b) rfl rfl rfl) (zi (kG rfl) (zi (pQ (s:=16) rfl (by decide) (by omega)) (zi (pR rfl rfl (by rw[kH _ _ _ (by omega)]; omega) (by omega) (by omega)) (zi (pT rfl) (zi (Jv (k:=2) (b:=c) rfl rfl rfl) (zi (kG rfl) (zi (pQ (s:=8) rfl (by decide) (by omega)) ?_)))))))))))))))))));have e1:a.toNat*2 ^ 24 ||| b.toNat*2 ^ 16=(a.toNat*2 ^ 8+b.toNat)*2 ^ 16:=by rw[kH _ _ _ (by omega)]; omega
 have e2:(a.toNat*2 ^ 24 ||| b.toNat*2 ^ 16) ||| c.toNat*2 ^ 8=((a.toNat*2 ^ 8+b.toNat)*2 ^ 8+c.toNat)*2 ^ 8:=by rw[e1,kH _ _ _ (by omega)]; omega
 refine zi (pR rfl rfl (by rw[e2]; omega) (by rw[e1]; omega) (by omega)) (zi (pT rfl) (zi (Jv (k:=3) (b:=e) rfl rfl rfl) (zi (kG rfl) (zi (pR rfl rfl (by rw[e2,kH _ _ _ (by omega)]; omega) (by rw[e2]; omega) (by omega)) (zi (pI rfl) (zH (za (zJ ?_))))))));refine zI (rI rfl) ⟨_,.of,?_,rfl⟩;rw[Ga];show Value.int .i64 _=Value.int .i64 (((((0*256+a.toNat)*256+b.toNat)*256+c.toNat)*256+e.toNat:Nat):Int);rw[Nat.zero_mul,Nat.zero_add]
theorem Fv(r:RR)(hd:r.d.length<2 ^ 40):Tri Tryz.prog 135 #[.agg (BI r)] [] (fun x S=>x= .tuple #[.int .i64 (if r.t=1∧Zk 1 r.d=true then KI r.d else 0),.bool (decide (r.t=1) && Zk 1 r.d)]∧S=[]):=by
 refine Tri.forget (zq Tryz.O7 (Nat.le_of_ble_eq_true rfl) ?_);unfold Tryz.Iu;refine ze (z8 ?_);refine zh (ZC rfl fun p1=>?_);refine yp pC (yp pC (zf (za (ze (ze (z8 (yp (zx rfl) ?_)))))));refine zh (zy rfl rfl ?_);refine yp (WU rfl rfl) (yp (pB rfl) ?_);by_cases c:r.t=1
 ·rw[c,decide_eq_true rfl];refine zK rfl (zQ (zx rfl) (zK rfl ?_));refine(zy rfl rfl ?_);refine zK rfl (zQ (zx rfl) (zK rfl ?_));refine(zy rfl rfl ?_);refine zK rfl ?_;refine zk (bf 1 r.d (by omega)) rfl rfl fun r' S' h=>?_
  obtain⟨rfl,rfl⟩:=h;cases hk:Zk 1 r.d with
  | false=>
   refine zK rfl (zQ (Za rfl) (yp (zD rfl rfl) (zf (za (zC rfl (ze (z8 (yp pC (yp pC (zf (za (zJ (zV ?_)))))))))))));exact zI (WR (Yl rfl) (Yl rfl)) ⟨_,.of,rfl,rfl⟩
  | true=>
   refine zK rfl (zQ (Za rfl) (yp (zD rfl rfl) (zf (za (zo rfl (zl (za (ze (z8 (yp (zx rfl) ?_))))))))));refine zh (zy rfl rfl ?_);have hl:r.d.length=4:=by
    unfold Zk at hk;split at hk
    ·cases hk
    ·rw[if_pos rfl] at hk; simpa using hk
   refine zh (zk (oF r.d hl) rfl rfl fun r' S' h=>?_);obtain⟨rfl,rfl⟩:=h;refine yp (pI rfl) (yp pC (zf (za (zJ ?_))));exact zI (WR (Yl rfl) (Yl rfl)) ⟨_,.of,rfl,rfl⟩
 ·rw[decide_eq_false c];refine zP rfl (zP rfl (zP rfl (zP rfl (zP rfl (zP rfl (yp (zw rfl rfl) (zf (za (zC rfl (ze (z8 (yp pC (yp pC (zf (za (zJ (zV ?_)))))))))))))))));exact zI (WR (Yl rfl) (Yl rfl)) ⟨_,.of,by rw[if_neg (fun q=>c q.1)]; rfl,rfl⟩
end Go.Proofs.YtekgciopamkjlaaGreat