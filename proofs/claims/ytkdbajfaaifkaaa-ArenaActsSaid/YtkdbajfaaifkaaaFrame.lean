/- Arguments that are read beside what is one's own. -/
import Derived.Test.YtkdbajfaaifkaaaSlices
namespace Go.Xs
open Enc (enc)
instance (priority := low) Sub.appS0 {S T G : Segs} [h : Sub S T G] : Sub ([] ++ S) T G := h
instance (priority := low) Sub.appS {A S T G : Segs} {y : List Chunk} [h : Sub (y :: (A ++ S)) T G] : Sub ((y :: A) ++ S) T G := h

variable {P : Program} {r : Option Nat} {n : Nat} {K : Env → Segs → Prop} {E : Env} {S R : Segs} {d : Option Tmp}
theorem yloadM {b off : Nat} {a : Operand} {c : Array Value} {ty : TypeId} {fz : Nat × Nat} {v : Value} (hm : [(b, Obj.cells c ty fz)] ∈ S)
    (ha : ev E a = .pointer (some ⟨b, off, none⟩)) (hv : c.toList[off]? = some v) (h : K (putE d v E) S) : YO P r n d (.load1 a) K E S := by
  obtain ⟨f, hA⟩ := At.of_mem hm
  exact yload1 (hA := hA) ha hv h
theorem yloadNM {b off k : Nat} {a : Operand} {c : Array Value} {ty : TypeId} {fz : Nat × Nat} {l : List Value} (hm : [(b, Obj.cells c ty fz)] ∈ S)
    (ha : ev E a = .pointer (some ⟨b, off, none⟩)) (hv : (c.toList.drop off).take k = l) (hk : l.length = k) (h : K (putE d (.agg l.toArray) E) S) : YO P r n d (.loadN k a) K E S := by
  obtain ⟨f, hA⟩ := At.of_mem hm
  exact yloadN (hA := hA) ha hv hk h
theorem ytlM {d : Option Tmp} {a : Operand} {b off : Nat} {c : Array Value} {ty : TypeId} {fz : Nat × Nat} {v : Value} {t : XTree} (hm : [(b, Obj.cells c ty fz)] ∈ R)
    (ha : ev E a = .pointer (some ⟨b, off, none⟩)) (hv : c.toList[off]? = some v) (h : YT P r n R K t (putE d v E) S) : YT P r n R K (.q ⟨d, .load1 a, none⟩ t) E S := by
  obtain ⟨f, hA⟩ := At.of_mem hm
  exact ytl1 (hA := hA) ha hv h
end Go.Xs
