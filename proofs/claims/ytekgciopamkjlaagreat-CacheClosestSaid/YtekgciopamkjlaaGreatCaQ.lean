/- Caches of one set, plainly. -/
import Derived.Test.YtekgciopamkjlaaGreatCaP
namespace Go.Proofs.YtekgciopamkjlaaGreat
open Go.Xs
open Enc (enc)
theorem uh{now l:Int}(h0:0≤now∧now≤549755813888)(hl:0≤l∧l≤549755813888):XM now l=now+l:=by
 unfold XM;rw[if_neg (by omega)];omega
theorem gN{tc nc k left:Int}(h:0≤left∧0≤tc∧0≤nc):WJ tc nc k left=min left (if k=0 then tc else nc):=by
 unfold WJ CK;split<;>omega
theorem left_eq{x now:Int}(h0:0≤now∧now<x∧x≤1099511627776):Uz x now=x-now:=by
 unfold Uz;rw[if_neg (by omega)];omega
theorem uD{N:Nat}{tc nc r left now l:Int}{s:St}{S:Ss}(ht:decide (s.typ=255)=decide (s.kind=2))(hc:WJ tc nc s.kind left=l)(hl:l≠0)(hb:∀i,Zi S ⟨s.name,s.typ⟩ now=some i→¬r<i.rank):
 Vo N tc nc s r left now S=VF N s r now (XM now l) S:=by
 unfold Vo;rw[if_neg (by simpa using ht),hc,if_neg hl];cases hi:Zi S ⟨s.name,s.typ⟩ now with
 | none=>rfl
 | some i=>exact if_neg (hb i hi)
theorem xH{s:St}{p r c x now:Int}{P Q:List Ky}{k:Ky}(hk:fk k=Zq s):Zi (one s p r c x P Q) k now=if now<x then some (AO s p r c x) else none:=wK (S:=one s p r c x P Q) (i:=AO s p r c x) (by rw[hk]; exact M6 s p r c x)
theorem Uf{s:St}{p r c x now:Int}{P Q:List Ky}{k:Ky}(hk:Zq s≠fk k):Zi (one s p r c x P Q) k now=none:=wL (by
 show List.find? _ [_]=none;rw[List.find?_cons,decide_eq_false hk]; rfl)
theorem Jw{N:Nat}{s:St}{r c x:Int}(hE:w9 s=0)(hw:wS s≤N)(hk:ji r c x=true):VF N s r c x Ui=(one s 0 r c x [Zq s] [],0):=
 kr (S:=Ui) hE hk rfl (by show 0+_≤N; omega)
end Go.Proofs.YtekgciopamkjlaaGreat