/- Whole objects: loads, stores. -/
import Derived.Test.YtejmbmenbailmaaGreatB3
namespace Go.Xs
variable {P : Program} {r : Option Nat} {n : Nat} {K : Env → zo → Prop} {E : Env} {S R : zo} {d : Option Tmp}
theorem Zk {b k : Nat} {a : Operand} {c : Array Value} {ty : TypeId} {fz : Nat × Nat} {f : Obj → zo} [hA : At S b (.cells c ty fz) f] (ha : ev E a = .pointer (some ⟨b, 0, none⟩)) (hk : c.toList.length = k) (h : K (Zf d (.agg c) E) S) : YO P r n d (.loadN k a) K E S :=
 wm (l := c.toList) ha (by rw [List.drop_zero, ← hk, List.take_length]) hk (by rw [Array.toArray_toList]; exact h)
theorem Wz {b k : Nat} {a : Operand} {c : Array Value} {ty : TypeId} {fz : Nat × Nat} {f : Obj → zo} {t : wP} [hA : At R b (.cells c ty fz) f] (ha : ev E a = .pointer (some ⟨b, 0, none⟩)) (hk : c.toList.length = k) (h : YT P r n R K t (Zf d (.agg c) E) S) : YT P r n R K (.q ⟨d, .loadN k a, none⟩ t) E S :=
 Vi (l := c.toList) ha (by rw [List.drop_zero, ← hk, List.take_length]) hk (by rw [Array.toArray_toList]; exact h)
theorem WG {b k : Nat} {a v : Operand} {c c' : Array Value} {ty : TypeId} {f : Obj → zo} [hA : At S b (.cells c ty) f] (ha : ev E a = .pointer (some ⟨b, 0, none⟩)) (hv : ev E v = .agg c') (h1 : c'.toList.length = k) (h2 : c.toList.length = k) (hp : c'.toList.all VQ = true)
 (h : K (Zf d undef E) (f (.cells c' ty))) : YO P r n d (.store k a v) K E S := by
 have hA' : At S b (.cells c.toList.toArray ty) f := by rw [Array.toArray_toList]; exact hA
 exact vD (hA := hA') (c' := c'.toList) ha (by rw [Array.toArray_toList]; exact hv) h1 h2 hp (by rw [Array.toArray_toList]; exact h)
theorem bW {t : Tmp} {b k : Nat} {ty ty' : TypeId} {c : Array Value} {fz : Nat × Nat} {f : Obj → zo} (hagg : isAgg? P ty = some true) (hsz : sizeOf? P ty = some k) (hk : c.toList.length = k) (ha : E t = .pointer (some ⟨b, 0, none⟩)) [hA : At S b (.cells c ty' fz) f] : RV P (.cell t ty) E S (.agg c) := by
 have hA' : At S b (.cells c.toList.toArray ty' fz) f := by rw [Array.toArray_toList]; exact hA
 have := Eb (hA := hA') (l := c.toList) hagg hsz hk ha;rw [Array.toArray_toList] at this;exact this
theorem zC.pm {S S2 : zo} (h : S.flatten.Perm S2.flatten) : zC S S2 := ⟨[], by rw [List.append_nil]; exact h⟩
end Go.Xs