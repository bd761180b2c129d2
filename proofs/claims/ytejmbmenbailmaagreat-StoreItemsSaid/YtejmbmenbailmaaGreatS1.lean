/- freshetalike: a name of a number, an address's set. -/
import Derived.Test.YtejmbmenbailmaaGreatAlk
import Derived.Test.YtejmbmenbailmaaGreatP3
namespace Go.Proofs.YtejmbmenbailmaaGreat
open Go.Xs
open Enc (enc)
def vV(z:Int):UInt8:=UInt8.ofNat (z%256).toNat
theorem kC{E:Env}{x:Operand}{z:Int}(h:ev E x= .int .i64 z):zl (ev E) (.conv .u8 x)=some (.int .u8 ((vV z).toNat:Int)):=by
 simp only[zl,h,yA];have:(vV z).toNat=(z%256).toNat%256:=by simp[vV]
 rw[this];congr 2;omega
def ni(z:Int)(k:Nat):Int:=z.fdiv (2 ^ (Nat.min k 64))
theorem fK{E:Env}{x:Operand}{z:Int}(k:Nat)(h:ev E x= .int .i64 z):zl (ev E) (.bin .shr x (.const (.int .u64 (k:Int))))=some (.int .i64 (ni z k)):=by
 have:zl (ev E) (.bin .shr x (.const (.int .u64 (k:Int))))=Wo .shr (ev E x) (.int .u64 (k:Int)):=rfl;rw[this,h];show(if IntKind.i64=IntKind.u64∨BinOp.shr= .shl∨BinOp.shr= .shr then vF .shr .i64 z (k:Int) else none)=_;rw[if_pos (.inr (.inr rfl))];show(if(k:Int)<0 then none else some (Value.int .i64 (z.fdiv (2 ^ (Nat.min (k:Int).toNat 64)))))=_;rw[if_neg (by omega)]; rfl
/-- an address's set -/
def uj(n d:Bs):St:=⟨n,1,0,[0],[⟨n,1,1,0,d⟩]⟩
theorem GY(n:Bs)(z:Int):Tri Tryz.prog 30 #[sv n,.int .i64 z] [] (fun r S=>∃d v H,d.length=4∧r= .agg (YE (uj n d) v)∧Za 88 v (uj n d).rrs H∧S=[H]):=by
 refine Tri.forget (zm Tryz.Mx (Nat.le_of_ble_eq_true rfl) ?_);unfold Tryz.NK;refine ze (z8 ?_);refine zh (Z9 fun p4=>?_);refine zf (za (ze (z8 (yp (pT rfl) (yp (uw (rQ rfl) (um rfl)) (yp (pT rfl) (yp (pI rfl) (yp (fK 24 rfl) (yp (kC rfl) (yp (pI rfl) (yp (fK 16 rfl) (yp (kC rfl) (yp (pI rfl) (yp (fK 8 rfl) (yp (kC rfl) (yp (pI rfl) (yp (kC rfl) ?_)))))))))))))))));generalize vV (ni z 24)=b0;generalize vV (ni z 16)=b1;generalize vV (ni z 8)=b2;generalize vV z=b3;refine zh (dx (l:=cells [b0,b1,b2,b3]) rfl (by decide) (by decide) (by decide) rfl fun p19=>?_);refine zh (YA (Y:=[b0,b1,b2,b3]) rfl (.lit (by repeat (first | exact List.mem_cons_self | apply List.mem_cons_of_mem)) rfl) ?_);refine yp (v:= .agg #[sv n,.int .i64 1,.int .i64 1,.int .i64 0,sv [b0,b1,b2,b3]]) rfl ?_;refine zh (wL (⟨n,1,1,0,[b0,b1,b2,b3]⟩:RR) rfl rfl (by decide) (by decide) rfl fun p22=>?_);refine yp (v:= .agg #[sv n,.int .i64 1,.slice (some ⟨p22,0,none⟩) 1 1,.int .i64 0,sv [0]]) rfl ?_;refine zh (Wm (c':=[sv n,.int .i64 1,.slice (some ⟨p22,0,none⟩) 1 1,.int .i64 0,sv [0]]) rfl rfl rfl rfl rfl ?_);refine zf (za (zJ ?_));exact zI (UZ (Hg (b:=p4) (l:=[sv n,.int .i64 1,.slice (some ⟨p22,0,none⟩) 1 1,.int .i64 0,sv [0]]) lI dS rfl rfl)) ⟨[[(p22,.cells (cells [(⟨n,1,1,0,[b0,b1,b2,b3]⟩:RR)]).toArray 88)]],.of,[b0,b1,b2,b3],_,_,rfl,rfl,.full (L:=[(⟨n,1,1,0,[b0,b1,b2,b3]⟩:RR)]) rfl,rfl⟩
end Go.Proofs.YtejmbmenbailmaaGreat
