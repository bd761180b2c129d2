/- An address's number (chapter 3). -/
import Derived.Test.YtekgciopamkjlaaGreatCaA
import Derived.Test.YtekgciopamkjlaaGreatS1
namespace Go.Proofs.YtekgciopamkjlaaGreat
open Go.Xs
open Enc (enc)
def Y3(z:Int):Bs:=[iM (Jq z 24),iM (Jq z 16),iM (Jq z 8),iM z]
theorem QO(n:Bs)(z:Int):zP Tryz.prog 32 #[sv n,.int .i64 z] [] (fun r S=>∃v H,r= .agg (Jt (vY n (Y3 z)) v)∧Zc 89 v (vY n (Y3 z)).rrs H∧S=[H]):=by
 refine zP.forget (zm Tryz.Ls (Nat.le_of_ble_eq_true rfl) ?_);unfold Tryz.x32 Y3;refine ze (z8 ?_);refine zh (Z8 fun p4=>?_);refine zf (za (ze (z8 (yp (pT rfl) (yp (vg (dU rfl) (uO rfl)) (yp (pT rfl) (yp (pI rfl) (yp (fu 24 rfl) (yp (Qm rfl) (yp (pI rfl) (yp (fu 16 rfl) (yp (Qm rfl) (yp (pI rfl) (yp (fu 8 rfl) (yp (Qm rfl) (yp (pI rfl) (yp (Qm rfl) ?_)))))))))))))))));generalize iM (Jq z 24)=b0;generalize iM (Jq z 16)=b1;generalize iM (Jq z 8)=b2;generalize iM z=b3;refine zh (lK (l:=cells [b0,b1,b2,b3]) rfl (by decide) (by decide) (by decide) rfl fun p19=>?_);refine zh (QX (Y:=[b0,b1,b2,b3]) rfl (.lit (by repeat (first | exact List.mem_cons_self | apply List.mem_cons_of_mem)) rfl) ?_);refine yp (v:= .agg #[sv n,.int .i64 1,.int .i64 1,.int .i64 0,sv [b0,b1,b2,b3]]) rfl ?_;refine zh (vU (⟨n,1,1,0,[b0,b1,b2,b3]⟩:RR) rfl rfl (by decide) (by decide) rfl fun p22=>?_);refine yp (v:= .agg #[sv n,.int .i64 1,.slice (some ⟨p22,0,none⟩) 1 1,.int .i64 0,sv [0]]) rfl ?_;refine zh (vP (c':=[sv n,.int .i64 1,.slice (some ⟨p22,0,none⟩) 1 1,.int .i64 0,sv [0]]) rfl rfl rfl rfl rfl ?_);refine zf (za (zJ ?_));exact zH (jo (GA (b:=p4) (l:=[sv n,.int .i64 1,.slice (some ⟨p22,0,none⟩) 1 1,.int .i64 0,sv [0]]) iZ dH rfl rfl)) ⟨[[(p22,.cells (cells [(⟨n,1,1,0,[b0,b1,b2,b3]⟩:RR)]).toArray 89)]],.of,_,_,rfl,.full (L:=[(⟨n,1,1,0,[b0,b1,b2,b3]⟩:RR)]) rfl,rfl⟩
theorem y5(a b i:Nat)(h:b<2 ^ i):(a*2 ^ i) ||| b=a*2 ^ i+b:=by
 rw[Nat.mul_comm a,Nat.two_pow_add_eq_or_of_lt h]
theorem fA{E:Env}{x:Operand}{a s:Nat}(h1:ev E x= .int .i64 (a:Int))(hs:s≤64)(h:a*2 ^ s<2 ^ 63):zl (ev E) (.bin .shl x (.const (.int .u64 (s:Int))))=some (.int .i64 ((a*2 ^ s:Nat):Int)):=by
 rw[Qj (k':= .u64) (b:=(s:Int)) h1 rfl (by omega)];rw[show Nat.min ((s:Int)).toNat IntKind.i64.bits=s from Nat.min_eq_left hs,wrap_i64 (by
  have:(a:Int)*2 ^ s=((a*2 ^ s:Nat):Int):=by simp
  rw[this]; omega)]
 simp
theorem Ab(a b c d:UInt8):(((a.toNat*2 ^ 24 ||| b.toNat*2 ^ 16) ||| c.toNat*2 ^ 8) ||| d.toNat:Nat)=((a.toNat*256+b.toNat)*256+c.toNat)*256+d.toNat:=by
 have ha:=a.toNat_lt; have hb:=b.toNat_lt; have hc:=c.toNat_lt; have hd:=d.toNat_lt;rw[y5 a.toNat (b.toNat*2 ^ 16) 24 (by omega)];rw[show a.toNat*2 ^ 24+b.toNat*2 ^ 16=(a.toNat*2 ^ 8+b.toNat)*2 ^ 16 from by omega,y5 _ (c.toNat*2 ^ 8) 16 (by omega)];rw[show(a.toNat*2 ^ 8+b.toNat)*2 ^ 16+c.toNat*2 ^ 8=((a.toNat*2 ^ 8+b.toNat)*2 ^ 8+c.toNat)*2 ^ 8 from by omega,y5 _ d.toNat 8 (by omega)]
theorem eF(d:Bs)(h:d.length=4):zP Tryz.prog 155 #[sv d] [] (fun r S=>r= .int .i64 (jC d)∧S=[]):=by
 match d,h with
 | [a,b,c,e],_=>
 have ha:=a.toNat_lt; have hb:=b.toNat_lt; have hc:=c.toNat_lt; have he:=e.toNat_lt;refine zP.forget (zm Tryz.Fa (Nat.le_of_ble_eq_true rfl) ?_);unfold Tryz.BR;refine ze (z8 (yp pC (zf (za (ze (Wq (R:=[]) (by simp) (zi (pT rfl) (zi (aH (k:=0) (b:=a) rfl rfl rfl) (zi (jA rfl) (zi (fA (s:=24) rfl (by decide) (by omega)) (zi (pT rfl) (zi (aH (k:=1) (b:=b) rfl rfl rfl) (zi (jA rfl) (zi (fA (s:=16) rfl (by decide) (by omega)) (zi (fB rfl rfl (by rw[y5 _ _ _ (by omega)]; omega) (by omega) (by omega)) (zi (pT rfl) (zi (aH (k:=2) (b:=c) rfl rfl rfl) (zi (jA rfl) (zi (fA (s:=8) rfl (by decide) (by omega)) ?_)))))))))))))))))));have e1:a.toNat*2 ^ 24 ||| b.toNat*2 ^ 16=(a.toNat*2 ^ 8+b.toNat)*2 ^ 16:=by rw[y5 _ _ _ (by omega)]; omega
 have e2:(a.toNat*2 ^ 24 ||| b.toNat*2 ^ 16) ||| c.toNat*2 ^ 8=((a.toNat*2 ^ 8+b.toNat)*2 ^ 8+c.toNat)*2 ^ 8:=by rw[e1,y5 _ _ _ (by omega)]; omega
 refine zi (fB rfl rfl (by rw[e2]; omega) (by rw[e1]; omega) (by omega)) (zi (pT rfl) (zi (aH (k:=3) (b:=e) rfl rfl rfl) (zi (jA rfl) (zi (fB rfl rfl (by rw[e2,y5 _ _ _ (by omega)]; omega) (by rw[e2]; omega) (by omega)) (zi (pI rfl) (zK (za (zJ ?_))))))));refine zH (rI rfl) ⟨_,.of,?_,rfl⟩;rw[Ab];show Value.int .i64 _=Value.int .i64 (((((0*256+a.toNat)*256+b.toNat)*256+c.toNat)*256+e.toNat:Nat):Int);rw[Nat.zero_mul,Nat.zero_add]
theorem sQ(r:RR)(hd:r.d.length<2 ^ 40):zP Tryz.prog 135 #[.agg (mM r)] [] (fun x S=>x= .tuple #[.int .i64 (if r.t=1∧Zn 1 r.d=true then jC r.d else 0),.bool (decide (r.t=1) && Zn 1 r.d)]∧S=[]):=by
 refine zP.forget (zm Tryz.FI (Nat.le_of_ble_eq_true rfl) ?_);unfold Tryz.Ci;refine ze (z8 ?_);refine zh (Zt rfl fun p1=>?_);refine yp pC (yp pC (zf (za (ze (ze (z8 (yp (zn rfl) ?_)))))));refine zh (zC rfl rfl ?_);refine yp (UL rfl rfl) (yp (pB rfl) ?_);by_cases c:r.t=1
 ·rw[c,decide_eq_true rfl];refine zW rfl (Z6 (zn rfl) (zW rfl ?_));refine(zC rfl rfl ?_);refine zW rfl (Z6 (zn rfl) (zW rfl ?_));refine(zC rfl rfl ?_);refine zW rfl ?_;refine zk (JA 1 r.d (by omega)) rfl rfl fun r' S' h=>?_
  obtain⟨rfl,rfl⟩:=h;cases hk:Zn 1 r.d with
  | false=>
   refine zW rfl (Z6 (Ze rfl) (yp (zQ rfl rfl) (zf (za (zG rfl (ze (z8 (yp pC (yp pC (zf (za (zJ (zX ?_)))))))))))));exact zH (vV (KP rfl) (KP rfl)) ⟨_,.of,rfl,rfl⟩
  | true=>
   refine zW rfl (Z6 (Ze rfl) (yp (zQ rfl rfl) (zf (za (zA rfl (zq (za (ze (z8 (yp (zn rfl) ?_))))))))));refine zh (zC rfl rfl ?_);have hl:r.d.length=4:=by
    unfold Zn at hk;split at hk
    ·cases hk
    ·rw[if_pos rfl] at hk; simpa using hk
   refine zh (zk (eF r.d hl) rfl rfl fun r' S' h=>?_);obtain⟨rfl,rfl⟩:=h;refine yp (pI rfl) (yp pC (zf (za (zJ ?_))));exact zH (vV (KP rfl) (KP rfl)) ⟨_,.of,rfl,rfl⟩
 ·rw[decide_eq_false c];refine zS rfl (zS rfl (zS rfl (zS rfl (zS rfl (zS rfl (yp (zD rfl rfl) (zf (za (zG rfl (ze (z8 (yp pC (yp pC (zf (za (zJ (zX ?_)))))))))))))))));exact zH (vV (KP rfl) (KP rfl)) ⟨_,.of,by rw[if_neg (fun q=>c q.1)]; rfl,rfl⟩
end Go.Proofs.YtekgciopamkjlaaGreat