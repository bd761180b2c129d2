/- Sets with their slice's header, lists of numbers with theirs: as they stand in slices. -/
import Derived.Test.YtekgciopamkjlaaGreatP2
namespace Go.Proofs.YtekgciopamkjlaaGreat
open Go.Xs
open Enc (enc)
/-- a set, and where its records' slice begins -/
structure SH where
 s:St
 a:Option Addr
 c:Nat
instance:Enc SH:=⟨fun x=>[sv x.s.name,.int .i64 x.s.typ,.slice x.a x.s.rrs.length x.c,.int .i64 x.s.kind,sv x.s.zone],5,fun _=>rfl,fun _=>rfl⟩
def SH.v(x:SH):Value:= .slice x.a x.s.rrs.length x.c
def SH.z:SH:=⟨⟨[],0,0,[],[]⟩,none,0⟩
/-- numbers, and where their slice begins -/
structure IH where
 l:List Int
 a:Option Addr
 c:Nat
instance:Enc IH:=⟨fun x=>[.slice x.a x.l.length x.c],1,fun _=>rfl,fun _=>rfl⟩
def IH.v(x:IH):Value:= .slice x.a x.l.length x.c
def IH.z:IH:=⟨[],none,0⟩
def sU(z:ByteArray):Bs:=z.data.toList
end Go.Proofs.YtekgciopamkjlaaGreat