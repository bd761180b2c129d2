/- Caches of one set, plainly. -/
import Derived.Test.YtekgciopamkjlaaGreatCaP
namespace Go.Proofs.YtekgciopamkjlaaGreat
open Go.Xs
open Enc (enc)
theorem iW{now l:Int}(h0:0≤now∧now≤549755813888)(hl:0≤l∧l≤549755813888):xA now l=now+l:=by
 unfold xA;rw[if_neg (by omega)];omega
theorem o7{N:Nat}{tc nc r left now l:Int}{s:St}{S:Ss}(ht:decide (s.typ=255)=decide (s.kind=2))(hc:Vm tc nc s.kind left=l)(hl:l≠0)(hb:∀i,ZP S ⟨s.name,s.typ⟩ now=some i→¬r<i.rank):
 Ud N tc nc s r left now S=Uv N s r now (xA now l) S:=by
 unfold Ud;rw[if_neg (by simpa using ht),hc,if_neg hl];cases hi:ZP S ⟨s.name,s.typ⟩ now with
 | none=>rfl
 | some i=>exact if_neg (hb i hi)
theorem YJ{s:St}{p r c x now:Int}{P Q:List Ky}{k:Ky}(hk:fk k=ZA s):ZP (one s p r c x P Q) k now=if now<x then some (sS s p r c x) else none:=Vf (S:=one s p r c x P Q) (i:=sS s p r c x) (by rw[hk]; exact EZ s p r c x)
theorem q8{s:St}{p r c x now:Int}{P Q:List Ky}{k:Ky}(hk:ZA s≠fk k):ZP (one s p r c x P Q) k now=none:=Uo (by
 show List.find? _ [_]=none;rw[List.find?_cons,decide_eq_false hk]; rfl)
theorem ow{N:Nat}{s:St}{r c x:Int}(hE:wh s=0)(hw:wS s≤N)(hk:gY r c x=true):Uv N s r c x qd=(one s 0 r c x [ZA s] [],0):=
 fZ (S:=qd) hE hk rfl (by show 0+_≤N; omega)
end Go.Proofs.YtekgciopamkjlaaGreat