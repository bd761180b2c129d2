/- Caches of one set, plainly. -/
import Derived.Test.YtekgciopamkjlaaGreatCaP
namespace Go.Proofs.YtekgciopamkjlaaGreat
open Go.Xs
open Enc (enc)
theorem Jb{now l:Int}(h0:0≤now∧now≤549755813888)(hl:0≤l∧l≤549755813888):xI now l=now+l:=by
 unfold xI;rw[if_neg (by omega)];omega
theorem oJ{tc nc k left:Int}(h:0≤left∧0≤tc∧0≤nc):vM tc nc k left=min left (if k=0 then tc else nc):=by
 unfold vM oO;split<;>omega
theorem left_eq{x now:Int}(h0:0≤now∧now<x∧x≤1099511627776):Uo x now=x-now:=by
 unfold Uo;rw[if_neg (by omega)];omega
theorem Qy{N:Nat}{tc nc r left now l:Int}{s:St}{S:Ss}(ht:decide (s.typ=255)=decide (s.kind=2))(hc:vM tc nc s.kind left=l)(hl:l≠0)(hb:∀i,ZL S ⟨s.name,s.typ⟩ now=some i→¬r<i.rank):
 uW N tc nc s r left now S=VN N s r now (xI now l) S:=by
 unfold uW;rw[if_neg (by simpa using ht),hc,if_neg hl];cases hi:ZL S ⟨s.name,s.typ⟩ now with
 | none=>rfl
 | some i=>exact if_neg (hb i hi)
theorem X5{s:St}{p r c x now:Int}{P Q:List Ky}{k:Ky}(hk:fk k=Zg s):ZL (one s p r c x P Q) k now=if now<x then some (JC s p r c x) else none:=Vg (S:=one s p r c x P Q) (i:=JC s p r c x) (by rw[hk]; exact jT s p r c x)
theorem qg{s:St}{p r c x now:Int}{P Q:List Ky}{k:Ky}(hk:Zg s≠fk k):ZL (one s p r c x P Q) k now=none:=Us (by
 show List.find? _ [_]=none;rw[List.find?_cons,decide_eq_false hk]; rfl)
theorem nS{N:Nat}{s:St}{r c x:Int}(hE:ZU s=0)(hw:wS s≤N)(hk:qh r c x=true):VN N s r c x jV=(one s 0 r c x [Zg s] [],0):=
 fT (S:=jV) hE hk rfl (by show 0+_≤N; omega)
theorem AL{N:Nat}{s s':St}(hE:ZU s'=0)(hw:wS s'≤N)(he:Zg s'=Zg s){r c x r' c' x':Int}(hk:qh r' c' x'=true):VN N s' r' c' x' (one s 0 r c x [Zg s] [])=(one s' 0 r' c' x' [Zg s'] [],0):=by
 unfold VN;rw[if_neg (by rw[hE]; decide),if_neg (by rw[hk]; decide),X3 (i:=JC s 0 r c x) (by rw[he]; exact jT s 0 r c x),if_neg (show ¬(0:Int)<0 by decide)];have e:Xr (Zg s') (one s 0 r c x [Zg s] [])=jV:=by
  unfold Xr;rw[he,show Vk (one s 0 r c x [Zg s] []).I (Zg s)=[] from AO s 0 r c x];simp
 rw[e,JQ (H8 (by show 0+_≤N; omega))];rfl
theorem gQ{N:Nat}{s s':St}(hE:ZU s'=0)(he:Zg s'=Zg s){p r c x r' c' x':Int}{P Q:List Ky}(hk:qh r' c' x'=true)(hp:0<p):VN N s' r' c' x' (one s p r c x P Q)=(one s p r c x P Q,6):=by
 unfold VN;rw[if_neg (by rw[hE]; decide),if_neg (by rw[hk]; decide),X3 (i:=JC s p r c x) (by rw[he]; exact jT s p r c x),if_pos hp]
end Go.Proofs.YtekgciopamkjlaaGreat