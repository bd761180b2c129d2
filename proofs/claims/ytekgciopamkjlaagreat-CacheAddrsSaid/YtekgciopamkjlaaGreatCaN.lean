/- An address's number (chapter 3). -/
import Derived.Test.YtekgciopamkjlaaGreatCaA
import Derived.Test.YtekgciopamkjlaaGreatS1
namespace Go.Proofs.YtekgciopamkjlaaGreat
open Go.Xs
open Enc (enc)
def Yj(z:Int):Bs:=[lN (JK z 24),lN (JK z 16),lN (JK z 8),lN z]
theorem aI(n:Bs)(z:Int):Tri Tryz.prog 32 #[sv n,.int .i64 z] [] (fun r S=>∃v H,r= .agg (Jw (uo n (Yj z)) v)∧Zf 89 v (uo n (Yj z)).rrs H∧S=[H]):=by
 refine Tri.forget (zn Tryz.Nn (Nat.le_of_ble_eq_true rfl) ?_);unfold Tryz.x32 Yj;refine ze (z8 ?_);refine zh (Z8 fun p4=>?_);refine zf (za (ze (z8 (yp (pT rfl) (yp (vE (fE rfl) (uM rfl)) (yp (pT rfl) (yp (pI rfl) (yp (gL 24 rfl) (yp (QG rfl) (yp (pI rfl) (yp (gL 16 rfl) (yp (QG rfl) (yp (pI rfl) (yp (gL 8 rfl) (yp (QG rfl) (yp (pI rfl) (yp (QG rfl) ?_)))))))))))))))));generalize lN (JK z 24)=b0;generalize lN (JK z 16)=b1;generalize lN (JK z 8)=b2;generalize lN z=b3;refine zh (mY (l:=cells [b0,b1,b2,b3]) rfl (by decide) (by decide) (by decide) rfl fun p19=>?_);refine zh (aM (Y:=[b0,b1,b2,b3]) rfl (.lit (by repeat (first | exact List.mem_cons_self | apply List.mem_cons_of_mem)) rfl) ?_);refine yp (v:= .agg #[sv n,.int .i64 1,.int .i64 1,.int .i64 0,sv [b0,b1,b2,b3]]) rfl ?_;refine zh (Ve (⟨n,1,1,0,[b0,b1,b2,b3]⟩:RR) rfl rfl (by decide) (by decide) rfl fun p22=>?_);refine yp (v:= .agg #[sv n,.int .i64 1,.slice (some ⟨p22,0,none⟩) 1 1,.int .i64 0,sv [0]]) rfl ?_;refine zh (vQ (c':=[sv n,.int .i64 1,.slice (some ⟨p22,0,none⟩) 1 1,.int .i64 0,sv [0]]) rfl rfl rfl rfl rfl ?_);refine zf (za (zL ?_));exact zK (jO (IX (b:=p4) (l:=[sv n,.int .i64 1,.slice (some ⟨p22,0,none⟩) 1 1,.int .i64 0,sv [0]]) mD eP rfl rfl)) ⟨[[(p22,.cells (cells [(⟨n,1,1,0,[b0,b1,b2,b3]⟩:RR)]).toArray 89)]],.of,_,_,rfl,.full (L:=[(⟨n,1,1,0,[b0,b1,b2,b3]⟩:RR)]) rfl,rfl⟩
theorem yw(a b i:Nat)(h:b<2 ^ i):(a*2 ^ i) ||| b=a*2 ^ i+b:=by
 rw[Nat.mul_comm a,Nat.two_pow_add_eq_or_of_lt h]
theorem gN{E:Env}{x:Operand}{a s:Nat}(h1:ev E x= .int .i64 (a:Int))(hs:s≤64)(h:a*2 ^ s<2 ^ 63):zu (ev E) (.bin .shl x (.const (.int .u64 (s:Int))))=some (.int .i64 ((a*2 ^ s:Nat):Int)):=by
 rw[QD (k':= .u64) (b:=(s:Int)) h1 rfl (by omega)];rw[show Nat.min ((s:Int)).toNat IntKind.i64.bits=s from Nat.min_eq_left hs,wrap_i64 (by
  have:(a:Int)*2 ^ s=((a*2 ^ s:Nat):Int):=by simp
  rw[this]; omega)]
 simp
theorem BM(a b c d:UInt8):(((a.toNat*2 ^ 24 ||| b.toNat*2 ^ 16) ||| c.toNat*2 ^ 8) ||| d.toNat:Nat)=((a.toNat*256+b.toNat)*256+c.toNat)*256+d.toNat:=by
 have ha:=a.toNat_lt; have hb:=b.toNat_lt; have hc:=c.toNat_lt; have hd:=d.toNat_lt;rw[yw a.toNat (b.toNat*2 ^ 16) 24 (by omega)];rw[show a.toNat*2 ^ 24+b.toNat*2 ^ 16=(a.toNat*2 ^ 8+b.toNat)*2 ^ 16 from by omega,yw _ (c.toNat*2 ^ 8) 16 (by omega)];rw[show(a.toNat*2 ^ 8+b.toNat)*2 ^ 16+c.toNat*2 ^ 8=((a.toNat*2 ^ 8+b.toNat)*2 ^ 8+c.toNat)*2 ^ 8 from by omega,yw _ d.toNat 8 (by omega)]
theorem fT(d:Bs)(h:d.length=4):Tri Tryz.prog 155 #[sv d] [] (fun r S=>r= .int .i64 (Kw d)∧S=[]):=by
 match d,h with
 | [a,b,c,e],_=>
 have ha:=a.toNat_lt; have hb:=b.toNat_lt; have hc:=c.toNat_lt; have he:=e.toNat_lt;refine Tri.forget (zn Tryz.GD (Nat.le_of_ble_eq_true rfl) ?_);unfold Tryz.Dp;refine ze (z8 (yp pC (zf (za (ze (Wn (R:=[]) (by simp) (zi (pT rfl) (zi (bq (k:=0) (b:=a) rfl rfl rfl) (zi (jS rfl) (zi (gN (s:=24) rfl (by decide) (by omega)) (zi (pT rfl) (zi (bq (k:=1) (b:=b) rfl rfl rfl) (zi (jS rfl) (zi (gN (s:=16) rfl (by decide) (by omega)) (zi (gP rfl rfl (by rw[yw _ _ _ (by omega)]; omega) (by omega) (by omega)) (zi (pT rfl) (zi (bq (k:=2) (b:=c) rfl rfl rfl) (zi (jS rfl) (zi (gN (s:=8) rfl (by decide) (by omega)) ?_)))))))))))))))))));have e1:a.toNat*2 ^ 24 ||| b.toNat*2 ^ 16=(a.toNat*2 ^ 8+b.toNat)*2 ^ 16:=by rw[yw _ _ _ (by omega)]; omega
 have e2:(a.toNat*2 ^ 24 ||| b.toNat*2 ^ 16) ||| c.toNat*2 ^ 8=((a.toNat*2 ^ 8+b.toNat)*2 ^ 8+c.toNat)*2 ^ 8:=by rw[e1,yw _ _ _ (by omega)]; omega
 refine zi (gP rfl rfl (by rw[e2]; omega) (by rw[e1]; omega) (by omega)) (zi (pT rfl) (zi (bq (k:=3) (b:=e) rfl rfl rfl) (zi (jS rfl) (zi (gP rfl rfl (by rw[e2,yw _ _ _ (by omega)]; omega) (by rw[e2]; omega) (by omega)) (zi (pI rfl) (zD (za (zL ?_))))))));refine zK (rI rfl) ⟨_,.of,?_,rfl⟩;rw[BM];show Value.int .i64 _=Value.int .i64 (((((0*256+a.toNat)*256+b.toNat)*256+c.toNat)*256+e.toNat:Nat):Int);rw[Nat.zero_mul,Nat.zero_add]
theorem AY(r:RR)(hd:r.d.length<2 ^ 40):Tri Tryz.prog 135 #[.agg (nY r)] [] (fun x S=>x= .tuple #[.int .i64 (if r.t=1∧Zo 1 r.d=true then Kw r.d else 0),.bool (decide (r.t=1) && Zo 1 r.d)]∧S=[]):=by
 refine Tri.forget (zn Tryz.Hf (Nat.le_of_ble_eq_true rfl) ?_);unfold Tryz.DI;refine ze (z8 ?_);refine zh (Zv rfl fun p1=>?_);refine yp pC (yp pC (zf (za (ze (ze (z8 (yp (zx rfl) ?_)))))));refine zh (zF rfl rfl ?_);refine yp (UF rfl rfl) (yp (pB rfl) ?_);by_cases c:r.t=1
 ·rw[c,decide_eq_true rfl];refine Z0 rfl (Zc (zx rfl) (Z0 rfl ?_));refine(zF rfl rfl ?_);refine Z0 rfl (Zc (zx rfl) (Z0 rfl ?_));refine(zF rfl rfl ?_);refine Z0 rfl ?_;refine zk (JU 1 r.d (by omega)) rfl rfl fun r' S' h=>?_
  obtain⟨rfl,rfl⟩:=h;cases hk:Zo 1 r.d with
  | false=>
   refine Z0 rfl (Zc (Ze rfl) (yp (zU rfl rfl) (zf (za (zI rfl (ze (z8 (yp pC (yp pC (zf (za (zL (zX ?_)))))))))))));exact zK (vW (jg rfl) (jg rfl)) ⟨_,.of,rfl,rfl⟩
  | true=>
   refine Z0 rfl (Zc (Ze rfl) (yp (zU rfl rfl) (zf (za (zw rfl (zq (za (ze (z8 (yp (zx rfl) ?_))))))))));refine zh (zF rfl rfl ?_);have hl:r.d.length=4:=by
    unfold Zo at hk;split at hk
    ·cases hk
    ·rw[if_pos rfl] at hk; simpa using hk
   refine zh (zk (fT r.d hl) rfl rfl fun r' S' h=>?_);obtain⟨rfl,rfl⟩:=h;refine yp (pI rfl) (yp pC (zf (za (zL ?_))));exact zK (vW (jg rfl) (jg rfl)) ⟨_,.of,rfl,rfl⟩
 ·rw[decide_eq_false c];refine Z5 rfl (Z5 rfl (Z5 rfl (Z5 rfl (Z5 rfl (Z5 rfl (yp (zP rfl rfl) (zf (za (zI rfl (ze (z8 (yp pC (yp pC (zf (za (zL (zX ?_)))))))))))))))));exact zK (vW (jg rfl) (jg rfl)) ⟨_,.of,by rw[if_neg (fun q=>c q.1)]; rfl,rfl⟩
end Go.Proofs.YtekgciopamkjlaaGreat