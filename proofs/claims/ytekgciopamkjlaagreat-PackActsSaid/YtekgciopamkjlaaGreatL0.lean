/- Whole objects: loads, stores. -/
import Derived.Test.YtekgciopamkjlaaGreatB3
namespace Go.Xs
variable {P:Program} {r:Option Nat} {n:Nat} {K:Env→zq→Prop} {E:Env} {S R:zq} {d:Option Tmp}
theorem Xt{b k:Nat}{a:Operand}{c:Array Value}{ty:TypeId}{fz:Nat × Nat}{f:Obj→zq}[hA:At S b (.cells c ty fz) f](ha:ev E a= .pointer (some ⟨b,0,none⟩))(hk:c.toList.length=k)(h:K (Zh d (.agg c) E) S):YO P r n d (.loadN k a) K E S:=
 wC (l:=c.toList) ha (by rw[List.drop_zero, ←hk,List.take_length]) hk (by rw[Array.toArray_toList]; exact h)
theorem lu{b k:Nat}{a:Operand}{c:Array Value}{ty:TypeId}{fz:Nat × Nat}{f:Obj→zq}{t:Zx}[hA:At R b (.cells c ty fz) f](ha:ev E a= .pointer (some ⟨b,0,none⟩))(hk:c.toList.length=k)(h:YT P r n R K t (Zh d (.agg c) E) S):YT P r n R K (.q ⟨d,.loadN k a,none⟩ t) E S:=
 ji (l:=c.toList) ha (by rw[List.drop_zero, ←hk,List.take_length]) hk (by rw[Array.toArray_toList]; exact h)
theorem lC{b k:Nat}{a v:Operand}{c c':Array Value}{ty:TypeId}{f:Obj→zq}[hA:At S b (.cells c ty) f](ha:ev E a= .pointer (some ⟨b,0,none⟩))(hv:ev E v= .agg c')(h1:c'.toList.length=k)(h2:c.toList.length=k)(hp:c'.toList.all u6=true)
 (h:K (Zh d undef E) (f (.cells c' ty))):YO P r n d (.store k a v) K E S:=by
 have hA':At S b (.cells c.toList.toArray ty) f:=by rw[Array.toArray_toList]; exact hA
 exact ZX (hA:=hA') (c':=c'.toList) ha (by rw[Array.toArray_toList]; exact hv) h1 h2 hp (by rw[Array.toArray_toList]; exact h)
end Go.Xs
