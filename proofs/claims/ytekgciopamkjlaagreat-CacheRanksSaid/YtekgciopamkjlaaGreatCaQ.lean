/- Caches of one set, plainly. -/
import Derived.Test.YtekgciopamkjlaaGreatCaP
namespace Go.Proofs.YtekgciopamkjlaaGreat
open Go.Xs
open Enc (enc)
theorem jQ{now l:Int}(h0:0≤now∧now≤549755813888)(hl:0≤l∧l≤549755813888):UZ now l=now+l:=by
 unfold UZ;rw[if_neg (by omega)];omega
theorem nM{tc nc k left:Int}(h:0≤left∧0≤tc∧0≤nc):WK tc nc k left=min left (if k=0 then tc else nc):=by
 unfold WK nN;split<;>omega
theorem Q9{N:Nat}{tc nc r left now l:Int}{s:St}{S:Ss}(ht:decide (s.typ=255)=decide (s.kind=2))(hc:WK tc nc s.kind left=l)(hl:l≠0)(hb:∀i,ZJ S ⟨s.name,s.typ⟩ now=some i→¬r<i.rank):
 VI N tc nc s r left now S=uL N s r now (UZ now l) S:=by
 unfold VI;rw[if_neg (by simpa using ht),hc,if_neg hl];cases hi:ZJ S ⟨s.name,s.typ⟩ now with
 | none=>rfl
 | some i=>exact if_neg (hb i hi)
theorem mQ{N:Nat}{tc nc r left now:Int}{s:St}{S:Ss}{i:It}(ht:decide (s.typ=255)=decide (s.kind=2))(hl:WK tc nc s.kind left≠0)(hi:ZJ S ⟨s.name,s.typ⟩ now=some i)(hr:r<i.rank):
 VI N tc nc s r left now S=(S,5):=by
 unfold VI;rw[if_neg (by simpa using ht),if_neg hl,hi];exact if_pos hr
theorem U8{s:St}{p r c x now:Int}{P Q:List Ky}{k:Ky}(hk:fk k=Zk s):ZJ (one s p r c x P Q) k now=if now<x then some (bM s p r c x) else none:=Vf (S:=one s p r c x P Q) (i:=bM s p r c x) (by rw[hk]; exact oV s p r c x)
theorem mY{N:Nat}{s:St}{r c x:Int}(hE:ZT s=0)(hw:wS s≤N)(hk:Qp r c x=true):uL N s r c x jD=(one s 0 r c x [Zk s] [],0):=
 eH (S:=jD) hE hk rfl (by show 0+_≤N; omega)
theorem tZ{N:Nat}{s s':St}(hE:ZT s'=0)(hw:wS s'≤N)(he:Zk s'=Zk s){r c x r' c' x':Int}(hk:Qp r' c' x'=true):uL N s' r' c' x' (one s 0 r c x [Zk s] [])=(one s' 0 r' c' x' [Zk s'] [],0):=by
 unfold uL;rw[if_neg (by rw[hE]; decide),if_neg (by rw[hk]; decide),Yt (i:=bM s 0 r c x) (by rw[he]; exact oV s 0 r c x),if_neg (show ¬(0:Int)<0 by decide)];have e:Xe (Zk s') (one s 0 r c x [Zk s] [])=jD:=by
  unfold Xe;rw[he,show Vy (one s 0 r c x [Zk s] []).I (Zk s)=[] from A8 s 0 r c x];simp
 rw[e,Jr (Gj (by show 0+_≤N; omega))];rfl
end Go.Proofs.YtekgciopamkjlaaGreat