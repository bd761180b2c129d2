/- Scalars, stores of one cell into small objects, small structs built; the words of straight code. -/
import Derived.Test.YtkdbajfaaifkaaaRange
namespace Go.Xs
open Enc (enc)
variable {P : Program} {r : Option Nat} {n : Nat} {K : Env → Segs → Prop} {E : Env} {S : Segs} {d : Option Tmp}
/-- a value of one cell -/
structure Sc (E : Env) (x : Operand) (v : Value) : Prop where
  ev : ev E x = v
  cells : v.cells = #[v]
  plain : plainV v = true
theorem scI {x : Operand} {k : IntKind} {a : Int} (h : ev E x = .int k a) : Sc E x (.int k a) := ⟨h, rfl, rfl⟩
theorem scB {x : Operand} {b : Bool} (h : ev E x = .bool b) : Sc E x (.bool b) := ⟨h, rfl, rfl⟩
theorem scP {x : Operand} {p : Option Addr} (h : ev E x = .pointer p) : Sc E x (.pointer p) := ⟨h, rfl, rfl⟩
theorem scS {x : Operand} {p : Option Addr} {m c : Nat} (h : ev E x = .slice p m c) : Sc E x (.slice p m c) := ⟨h, rfl, rfl⟩
theorem scT {x : Operand} {s : ByteArray} (h : ev E x = .string s) : Sc E x (.string s) := ⟨h, rfl, rfl⟩
theorem scF {x : Operand} {f : Fn} {p q : Array Value} (h : ev E x = .func f p q) : Sc E x (.func f p q) := ⟨h, rfl, rfl⟩
theorem scM {x : Operand} {m : Option Nat} (h : ev E x = .map m) : Sc E x (.map m) := ⟨h, rfl, rfl⟩
theorem scN {x : Operand} (h : ev E x = .nilFunc) : Sc E x .nilFunc := ⟨h, rfl, rfl⟩
theorem ybx {t : TypeId} {x : Operand} {v : Value} (hv : Sc E x v) (h : ∀ b, K (putE d (.pointer (some ⟨b, 0, none⟩)) E) ([(b, .cells #[v] t)] :: S)) : YO P r n d (.box t x) K E S := ybox (vs := [v]) (by rw [hv.ev, hv.cells]) h
theorem pEqS {x y : Operand} {a b : ByteArray} (h1 : ev E x = .string a) (h2 : ev E y = .string b) : pstep (ev E) (.bin .eql x y) = some (.bool (decide (a = b))) := by simp [pstep, h1, h2, xbin, xstr]
theorem pNeS {x y : Operand} {a b : ByteArray} (h1 : ev E x = .string a) (h2 : ev E y = .string b) : pstep (ev E) (.bin .neq x y) = some (.bool (!decide (a = b))) := by simp [pstep, h1, h2, xbin, xstr]
theorem pEqB {x y : Operand} {a b : Bool} (h1 : ev E x = .bool a) (h2 : ev E y = .bool b) : pstep (ev E) (.eqb false x y) = some (.bool (a == b)) := by simp [pstep, h1, h2]
theorem pNeB {x y : Operand} {a b : Bool} (h1 : ev E x = .bool a) (h2 : ev E y = .bool b) : pstep (ev E) (.eqb true x y) = some (.bool (!(a == b))) := by simp [pstep, h1, h2]
theorem pFn {fn : Fn} : pstep (ev E) (.mkf fn [] []) = some (.func fn #[] #[]) := rfl
theorem pFn1 {fn : Fn} {x : Operand} {v : Value} (h : Sc E x v) : pstep (ev E) (.mkf fn [] [x]) = some (.func fn #[] #[v]) := by simp [pstep, h.ev]
theorem pFn2 {fn : Fn} {x y : Operand} {v u : Value} (h : Sc E x v) (h2 : Sc E y u) : pstep (ev E) (.mkf fn [] [x, y]) = some (.func fn #[] #[v, u]) := by simp [pstep, h.ev, h2.ev]
theorem pFn3 {fn : Fn} {x y z : Operand} {v u t : Value} (h : Sc E x v) (h2 : Sc E y u) (h3 : Sc E z t) : pstep (ev E) (.mkf fn [] [x, y, z]) = some (.func fn #[] #[v, u, t]) := by simp [pstep, h.ev, h2.ev, h3.ev]
theorem yst1_0 {b off : Nat} {a v : Operand} {a0 x : Value} {ty : TypeId} {f : Obj → Segs} [hA : At S b (.cells #[a0] ty) f] (ha : ev E a = .pointer (some ⟨b, off, none⟩)) (ho : off = 0) (hv : Sc E v x) (h : K (putE d undef E) (f (.cells #[x] ty))) : YO P r n d (.store 1 a v) K E S := by
  subst ho
  exact ystore ha (vs := [x]) (by rw [hv.ev, hv.cells]) rfl (by simp [hv.plain]) (Nat.le_of_ble_eq_true rfl) (.inl (Nat.zero_le _)) h
theorem yst2_0 {b off : Nat} {a v : Operand} {a0 a1 x : Value} {ty : TypeId} {f : Obj → Segs} [hA : At S b (.cells #[a0, a1] ty) f] (ha : ev E a = .pointer (some ⟨b, off, none⟩)) (ho : off = 0) (hv : Sc E v x) (h : K (putE d undef E) (f (.cells #[x, a1] ty))) : YO P r n d (.store 1 a v) K E S := by
  subst ho
  exact ystore ha (vs := [x]) (by rw [hv.ev, hv.cells]) rfl (by simp [hv.plain]) (Nat.le_of_ble_eq_true rfl) (.inl (Nat.zero_le _)) h
theorem yst2_1 {b off : Nat} {a v : Operand} {a0 a1 x : Value} {ty : TypeId} {f : Obj → Segs} [hA : At S b (.cells #[a0, a1] ty) f] (ha : ev E a = .pointer (some ⟨b, off, none⟩)) (ho : off = 1) (hv : Sc E v x) (h : K (putE d undef E) (f (.cells #[a0, x] ty))) : YO P r n d (.store 1 a v) K E S := by
  subst ho
  exact ystore ha (vs := [x]) (by rw [hv.ev, hv.cells]) rfl (by simp [hv.plain]) (Nat.le_of_ble_eq_true rfl) (.inl (Nat.zero_le _)) h
theorem yst3_0 {b off : Nat} {a v : Operand} {a0 a1 a2 x : Value} {ty : TypeId} {f : Obj → Segs} [hA : At S b (.cells #[a0, a1, a2] ty) f] (ha : ev E a = .pointer (some ⟨b, off, none⟩)) (ho : off = 0) (hv : Sc E v x) (h : K (putE d undef E) (f (.cells #[x, a1, a2] ty))) : YO P r n d (.store 1 a v) K E S := by
  subst ho
  exact ystore ha (vs := [x]) (by rw [hv.ev, hv.cells]) rfl (by simp [hv.plain]) (Nat.le_of_ble_eq_true rfl) (.inl (Nat.zero_le _)) h
theorem yst3_1 {b off : Nat} {a v : Operand} {a0 a1 a2 x : Value} {ty : TypeId} {f : Obj → Segs} [hA : At S b (.cells #[a0, a1, a2] ty) f] (ha : ev E a = .pointer (some ⟨b, off, none⟩)) (ho : off = 1) (hv : Sc E v x) (h : K (putE d undef E) (f (.cells #[a0, x, a2] ty))) : YO P r n d (.store 1 a v) K E S := by
  subst ho
  exact ystore ha (vs := [x]) (by rw [hv.ev, hv.cells]) rfl (by simp [hv.plain]) (Nat.le_of_ble_eq_true rfl) (.inl (Nat.zero_le _)) h
theorem yst3_2 {b off : Nat} {a v : Operand} {a0 a1 a2 x : Value} {ty : TypeId} {f : Obj → Segs} [hA : At S b (.cells #[a0, a1, a2] ty) f] (ha : ev E a = .pointer (some ⟨b, off, none⟩)) (ho : off = 2) (hv : Sc E v x) (h : K (putE d undef E) (f (.cells #[a0, a1, x] ty))) : YO P r n d (.store 1 a v) K E S := by
  subst ho
  exact ystore ha (vs := [x]) (by rw [hv.ev, hv.cells]) rfl (by simp [hv.plain]) (Nat.le_of_ble_eq_true rfl) (.inl (Nat.zero_le _)) h
theorem yst4_0 {b off : Nat} {a v : Operand} {a0 a1 a2 a3 x : Value} {ty : TypeId} {f : Obj → Segs} [hA : At S b (.cells #[a0, a1, a2, a3] ty) f] (ha : ev E a = .pointer (some ⟨b, off, none⟩)) (ho : off = 0) (hv : Sc E v x) (h : K (putE d undef E) (f (.cells #[x, a1, a2, a3] ty))) : YO P r n d (.store 1 a v) K E S := by
  subst ho
  exact ystore ha (vs := [x]) (by rw [hv.ev, hv.cells]) rfl (by simp [hv.plain]) (Nat.le_of_ble_eq_true rfl) (.inl (Nat.zero_le _)) h
theorem yst4_1 {b off : Nat} {a v : Operand} {a0 a1 a2 a3 x : Value} {ty : TypeId} {f : Obj → Segs} [hA : At S b (.cells #[a0, a1, a2, a3] ty) f] (ha : ev E a = .pointer (some ⟨b, off, none⟩)) (ho : off = 1) (hv : Sc E v x) (h : K (putE d undef E) (f (.cells #[a0, x, a2, a3] ty))) : YO P r n d (.store 1 a v) K E S := by
  subst ho
  exact ystore ha (vs := [x]) (by rw [hv.ev, hv.cells]) rfl (by simp [hv.plain]) (Nat.le_of_ble_eq_true rfl) (.inl (Nat.zero_le _)) h
theorem yst4_2 {b off : Nat} {a v : Operand} {a0 a1 a2 a3 x : Value} {ty : TypeId} {f : Obj → Segs} [hA : At S b (.cells #[a0, a1, a2, a3] ty) f] (ha : ev E a = .pointer (some ⟨b, off, none⟩)) (ho : off = 2) (hv : Sc E v x) (h : K (putE d undef E) (f (.cells #[a0, a1, x, a3] ty))) : YO P r n d (.store 1 a v) K E S := by
  subst ho
  exact ystore ha (vs := [x]) (by rw [hv.ev, hv.cells]) rfl (by simp [hv.plain]) (Nat.le_of_ble_eq_true rfl) (.inl (Nat.zero_le _)) h
theorem yst4_3 {b off : Nat} {a v : Operand} {a0 a1 a2 a3 x : Value} {ty : TypeId} {f : Obj → Segs} [hA : At S b (.cells #[a0, a1, a2, a3] ty) f] (ha : ev E a = .pointer (some ⟨b, off, none⟩)) (ho : off = 3) (hv : Sc E v x) (h : K (putE d undef E) (f (.cells #[a0, a1, a2, x] ty))) : YO P r n d (.store 1 a v) K E S := by
  subst ho
  exact ystore ha (vs := [x]) (by rw [hv.ev, hv.cells]) rfl (by simp [hv.plain]) (Nat.le_of_ble_eq_true rfl) (.inl (Nat.zero_le _)) h
theorem yst5_0 {b off : Nat} {a v : Operand} {a0 a1 a2 a3 a4 x : Value} {ty : TypeId} {f : Obj → Segs} [hA : At S b (.cells #[a0, a1, a2, a3, a4] ty) f] (ha : ev E a = .pointer (some ⟨b, off, none⟩)) (ho : off = 0) (hv : Sc E v x) (h : K (putE d undef E) (f (.cells #[x, a1, a2, a3, a4] ty))) : YO P r n d (.store 1 a v) K E S := by
  subst ho
  exact ystore ha (vs := [x]) (by rw [hv.ev, hv.cells]) rfl (by simp [hv.plain]) (Nat.le_of_ble_eq_true rfl) (.inl (Nat.zero_le _)) h
theorem yst5_1 {b off : Nat} {a v : Operand} {a0 a1 a2 a3 a4 x : Value} {ty : TypeId} {f : Obj → Segs} [hA : At S b (.cells #[a0, a1, a2, a3, a4] ty) f] (ha : ev E a = .pointer (some ⟨b, off, none⟩)) (ho : off = 1) (hv : Sc E v x) (h : K (putE d undef E) (f (.cells #[a0, x, a2, a3, a4] ty))) : YO P r n d (.store 1 a v) K E S := by
  subst ho
  exact ystore ha (vs := [x]) (by rw [hv.ev, hv.cells]) rfl (by simp [hv.plain]) (Nat.le_of_ble_eq_true rfl) (.inl (Nat.zero_le _)) h
theorem yst5_2 {b off : Nat} {a v : Operand} {a0 a1 a2 a3 a4 x : Value} {ty : TypeId} {f : Obj → Segs} [hA : At S b (.cells #[a0, a1, a2, a3, a4] ty) f] (ha : ev E a = .pointer (some ⟨b, off, none⟩)) (ho : off = 2) (hv : Sc E v x) (h : K (putE d undef E) (f (.cells #[a0, a1, x, a3, a4] ty))) : YO P r n d (.store 1 a v) K E S := by
  subst ho
  exact ystore ha (vs := [x]) (by rw [hv.ev, hv.cells]) rfl (by simp [hv.plain]) (Nat.le_of_ble_eq_true rfl) (.inl (Nat.zero_le _)) h
theorem yst5_3 {b off : Nat} {a v : Operand} {a0 a1 a2 a3 a4 x : Value} {ty : TypeId} {f : Obj → Segs} [hA : At S b (.cells #[a0, a1, a2, a3, a4] ty) f] (ha : ev E a = .pointer (some ⟨b, off, none⟩)) (ho : off = 3) (hv : Sc E v x) (h : K (putE d undef E) (f (.cells #[a0, a1, a2, x, a4] ty))) : YO P r n d (.store 1 a v) K E S := by
  subst ho
  exact ystore ha (vs := [x]) (by rw [hv.ev, hv.cells]) rfl (by simp [hv.plain]) (Nat.le_of_ble_eq_true rfl) (.inl (Nat.zero_le _)) h
theorem yst5_4 {b off : Nat} {a v : Operand} {a0 a1 a2 a3 a4 x : Value} {ty : TypeId} {f : Obj → Segs} [hA : At S b (.cells #[a0, a1, a2, a3, a4] ty) f] (ha : ev E a = .pointer (some ⟨b, off, none⟩)) (ho : off = 4) (hv : Sc E v x) (h : K (putE d undef E) (f (.cells #[a0, a1, a2, a3, x] ty))) : YO P r n d (.store 1 a v) K E S := by
  subst ho
  exact ystore ha (vs := [x]) (by rw [hv.ev, hv.cells]) rfl (by simp [hv.plain]) (Nat.le_of_ble_eq_true rfl) (.inl (Nat.zero_le _)) h
theorem yst6_0 {b off : Nat} {a v : Operand} {a0 a1 a2 a3 a4 a5 x : Value} {ty : TypeId} {f : Obj → Segs} [hA : At S b (.cells #[a0, a1, a2, a3, a4, a5] ty) f] (ha : ev E a = .pointer (some ⟨b, off, none⟩)) (ho : off = 0) (hv : Sc E v x) (h : K (putE d undef E) (f (.cells #[x, a1, a2, a3, a4, a5] ty))) : YO P r n d (.store 1 a v) K E S := by
  subst ho
  exact ystore ha (vs := [x]) (by rw [hv.ev, hv.cells]) rfl (by simp [hv.plain]) (Nat.le_of_ble_eq_true rfl) (.inl (Nat.zero_le _)) h
theorem yst6_1 {b off : Nat} {a v : Operand} {a0 a1 a2 a3 a4 a5 x : Value} {ty : TypeId} {f : Obj → Segs} [hA : At S b (.cells #[a0, a1, a2, a3, a4, a5] ty) f] (ha : ev E a = .pointer (some ⟨b, off, none⟩)) (ho : off = 1) (hv : Sc E v x) (h : K (putE d undef E) (f (.cells #[a0, x, a2, a3, a4, a5] ty))) : YO P r n d (.store 1 a v) K E S := by
  subst ho
  exact ystore ha (vs := [x]) (by rw [hv.ev, hv.cells]) rfl (by simp [hv.plain]) (Nat.le_of_ble_eq_true rfl) (.inl (Nat.zero_le _)) h
theorem yst6_2 {b off : Nat} {a v : Operand} {a0 a1 a2 a3 a4 a5 x : Value} {ty : TypeId} {f : Obj → Segs} [hA : At S b (.cells #[a0, a1, a2, a3, a4, a5] ty) f] (ha : ev E a = .pointer (some ⟨b, off, none⟩)) (ho : off = 2) (hv : Sc E v x) (h : K (putE d undef E) (f (.cells #[a0, a1, x, a3, a4, a5] ty))) : YO P r n d (.store 1 a v) K E S := by
  subst ho
  exact ystore ha (vs := [x]) (by rw [hv.ev, hv.cells]) rfl (by simp [hv.plain]) (Nat.le_of_ble_eq_true rfl) (.inl (Nat.zero_le _)) h
theorem yst6_3 {b off : Nat} {a v : Operand} {a0 a1 a2 a3 a4 a5 x : Value} {ty : TypeId} {f : Obj → Segs} [hA : At S b (.cells #[a0, a1, a2, a3, a4, a5] ty) f] (ha : ev E a = .pointer (some ⟨b, off, none⟩)) (ho : off = 3) (hv : Sc E v x) (h : K (putE d undef E) (f (.cells #[a0, a1, a2, x, a4, a5] ty))) : YO P r n d (.store 1 a v) K E S := by
  subst ho
  exact ystore ha (vs := [x]) (by rw [hv.ev, hv.cells]) rfl (by simp [hv.plain]) (Nat.le_of_ble_eq_true rfl) (.inl (Nat.zero_le _)) h
theorem yst6_4 {b off : Nat} {a v : Operand} {a0 a1 a2 a3 a4 a5 x : Value} {ty : TypeId} {f : Obj → Segs} [hA : At S b (.cells #[a0, a1, a2, a3, a4, a5] ty) f] (ha : ev E a = .pointer (some ⟨b, off, none⟩)) (ho : off = 4) (hv : Sc E v x) (h : K (putE d undef E) (f (.cells #[a0, a1, a2, a3, x, a5] ty))) : YO P r n d (.store 1 a v) K E S := by
  subst ho
  exact ystore ha (vs := [x]) (by rw [hv.ev, hv.cells]) rfl (by simp [hv.plain]) (Nat.le_of_ble_eq_true rfl) (.inl (Nat.zero_le _)) h
theorem yst6_5 {b off : Nat} {a v : Operand} {a0 a1 a2 a3 a4 a5 x : Value} {ty : TypeId} {f : Obj → Segs} [hA : At S b (.cells #[a0, a1, a2, a3, a4, a5] ty) f] (ha : ev E a = .pointer (some ⟨b, off, none⟩)) (ho : off = 5) (hv : Sc E v x) (h : K (putE d undef E) (f (.cells #[a0, a1, a2, a3, a4, x] ty))) : YO P r n d (.store 1 a v) K E S := by
  subst ho
  exact ystore ha (vs := [x]) (by rw [hv.ev, hv.cells]) rfl (by simp [hv.plain]) (Nat.le_of_ble_eq_true rfl) (.inl (Nat.zero_le _)) h
theorem yst7_0 {b off : Nat} {a v : Operand} {a0 a1 a2 a3 a4 a5 a6 x : Value} {ty : TypeId} {f : Obj → Segs} [hA : At S b (.cells #[a0, a1, a2, a3, a4, a5, a6] ty) f] (ha : ev E a = .pointer (some ⟨b, off, none⟩)) (ho : off = 0) (hv : Sc E v x) (h : K (putE d undef E) (f (.cells #[x, a1, a2, a3, a4, a5, a6] ty))) : YO P r n d (.store 1 a v) K E S := by
  subst ho
  exact ystore ha (vs := [x]) (by rw [hv.ev, hv.cells]) rfl (by simp [hv.plain]) (Nat.le_of_ble_eq_true rfl) (.inl (Nat.zero_le _)) h
theorem yst7_1 {b off : Nat} {a v : Operand} {a0 a1 a2 a3 a4 a5 a6 x : Value} {ty : TypeId} {f : Obj → Segs} [hA : At S b (.cells #[a0, a1, a2, a3, a4, a5, a6] ty) f] (ha : ev E a = .pointer (some ⟨b, off, none⟩)) (ho : off = 1) (hv : Sc E v x) (h : K (putE d undef E) (f (.cells #[a0, x, a2, a3, a4, a5, a6] ty))) : YO P r n d (.store 1 a v) K E S := by
  subst ho
  exact ystore ha (vs := [x]) (by rw [hv.ev, hv.cells]) rfl (by simp [hv.plain]) (Nat.le_of_ble_eq_true rfl) (.inl (Nat.zero_le _)) h
theorem yst7_2 {b off : Nat} {a v : Operand} {a0 a1 a2 a3 a4 a5 a6 x : Value} {ty : TypeId} {f : Obj → Segs} [hA : At S b (.cells #[a0, a1, a2, a3, a4, a5, a6] ty) f] (ha : ev E a = .pointer (some ⟨b, off, none⟩)) (ho : off = 2) (hv : Sc E v x) (h : K (putE d undef E) (f (.cells #[a0, a1, x, a3, a4, a5, a6] ty))) : YO P r n d (.store 1 a v) K E S := by
  subst ho
  exact ystore ha (vs := [x]) (by rw [hv.ev, hv.cells]) rfl (by simp [hv.plain]) (Nat.le_of_ble_eq_true rfl) (.inl (Nat.zero_le _)) h
theorem yst7_3 {b off : Nat} {a v : Operand} {a0 a1 a2 a3 a4 a5 a6 x : Value} {ty : TypeId} {f : Obj → Segs} [hA : At S b (.cells #[a0, a1, a2, a3, a4, a5, a6] ty) f] (ha : ev E a = .pointer (some ⟨b, off, none⟩)) (ho : off = 3) (hv : Sc E v x) (h : K (putE d undef E) (f (.cells #[a0, a1, a2, x, a4, a5, a6] ty))) : YO P r n d (.store 1 a v) K E S := by
  subst ho
  exact ystore ha (vs := [x]) (by rw [hv.ev, hv.cells]) rfl (by simp [hv.plain]) (Nat.le_of_ble_eq_true rfl) (.inl (Nat.zero_le _)) h
theorem yst7_4 {b off : Nat} {a v : Operand} {a0 a1 a2 a3 a4 a5 a6 x : Value} {ty : TypeId} {f : Obj → Segs} [hA : At S b (.cells #[a0, a1, a2, a3, a4, a5, a6] ty) f] (ha : ev E a = .pointer (some ⟨b, off, none⟩)) (ho : off = 4) (hv : Sc E v x) (h : K (putE d undef E) (f (.cells #[a0, a1, a2, a3, x, a5, a6] ty))) : YO P r n d (.store 1 a v) K E S := by
  subst ho
  exact ystore ha (vs := [x]) (by rw [hv.ev, hv.cells]) rfl (by simp [hv.plain]) (Nat.le_of_ble_eq_true rfl) (.inl (Nat.zero_le _)) h
theorem yst7_5 {b off : Nat} {a v : Operand} {a0 a1 a2 a3 a4 a5 a6 x : Value} {ty : TypeId} {f : Obj → Segs} [hA : At S b (.cells #[a0, a1, a2, a3, a4, a5, a6] ty) f] (ha : ev E a = .pointer (some ⟨b, off, none⟩)) (ho : off = 5) (hv : Sc E v x) (h : K (putE d undef E) (f (.cells #[a0, a1, a2, a3, a4, x, a6] ty))) : YO P r n d (.store 1 a v) K E S := by
  subst ho
  exact ystore ha (vs := [x]) (by rw [hv.ev, hv.cells]) rfl (by simp [hv.plain]) (Nat.le_of_ble_eq_true rfl) (.inl (Nat.zero_le _)) h
theorem yst7_6 {b off : Nat} {a v : Operand} {a0 a1 a2 a3 a4 a5 a6 x : Value} {ty : TypeId} {f : Obj → Segs} [hA : At S b (.cells #[a0, a1, a2, a3, a4, a5, a6] ty) f] (ha : ev E a = .pointer (some ⟨b, off, none⟩)) (ho : off = 6) (hv : Sc E v x) (h : K (putE d undef E) (f (.cells #[a0, a1, a2, a3, a4, a5, x] ty))) : YO P r n d (.store 1 a v) K E S := by
  subst ho
  exact ystore ha (vs := [x]) (by rw [hv.ev, hv.cells]) rfl (by simp [hv.plain]) (Nat.le_of_ble_eq_true rfl) (.inl (Nat.zero_le _)) h
theorem yst8_0 {b off : Nat} {a v : Operand} {a0 a1 a2 a3 a4 a5 a6 a7 x : Value} {ty : TypeId} {f : Obj → Segs} [hA : At S b (.cells #[a0, a1, a2, a3, a4, a5, a6, a7] ty) f] (ha : ev E a = .pointer (some ⟨b, off, none⟩)) (ho : off = 0) (hv : Sc E v x) (h : K (putE d undef E) (f (.cells #[x, a1, a2, a3, a4, a5, a6, a7] ty))) : YO P r n d (.store 1 a v) K E S := by
  subst ho
  exact ystore ha (vs := [x]) (by rw [hv.ev, hv.cells]) rfl (by simp [hv.plain]) (Nat.le_of_ble_eq_true rfl) (.inl (Nat.zero_le _)) h
theorem yst8_1 {b off : Nat} {a v : Operand} {a0 a1 a2 a3 a4 a5 a6 a7 x : Value} {ty : TypeId} {f : Obj → Segs} [hA : At S b (.cells #[a0, a1, a2, a3, a4, a5, a6, a7] ty) f] (ha : ev E a = .pointer (some ⟨b, off, none⟩)) (ho : off = 1) (hv : Sc E v x) (h : K (putE d undef E) (f (.cells #[a0, x, a2, a3, a4, a5, a6, a7] ty))) : YO P r n d (.store 1 a v) K E S := by
  subst ho
  exact ystore ha (vs := [x]) (by rw [hv.ev, hv.cells]) rfl (by simp [hv.plain]) (Nat.le_of_ble_eq_true rfl) (.inl (Nat.zero_le _)) h
theorem yst8_2 {b off : Nat} {a v : Operand} {a0 a1 a2 a3 a4 a5 a6 a7 x : Value} {ty : TypeId} {f : Obj → Segs} [hA : At S b (.cells #[a0, a1, a2, a3, a4, a5, a6, a7] ty) f] (ha : ev E a = .pointer (some ⟨b, off, none⟩)) (ho : off = 2) (hv : Sc E v x) (h : K (putE d undef E) (f (.cells #[a0, a1, x, a3, a4, a5, a6, a7] ty))) : YO P r n d (.store 1 a v) K E S := by
  subst ho
  exact ystore ha (vs := [x]) (by rw [hv.ev, hv.cells]) rfl (by simp [hv.plain]) (Nat.le_of_ble_eq_true rfl) (.inl (Nat.zero_le _)) h
theorem yst8_3 {b off : Nat} {a v : Operand} {a0 a1 a2 a3 a4 a5 a6 a7 x : Value} {ty : TypeId} {f : Obj → Segs} [hA : At S b (.cells #[a0, a1, a2, a3, a4, a5, a6, a7] ty) f] (ha : ev E a = .pointer (some ⟨b, off, none⟩)) (ho : off = 3) (hv : Sc E v x) (h : K (putE d undef E) (f (.cells #[a0, a1, a2, x, a4, a5, a6, a7] ty))) : YO P r n d (.store 1 a v) K E S := by
  subst ho
  exact ystore ha (vs := [x]) (by rw [hv.ev, hv.cells]) rfl (by simp [hv.plain]) (Nat.le_of_ble_eq_true rfl) (.inl (Nat.zero_le _)) h
theorem yst8_4 {b off : Nat} {a v : Operand} {a0 a1 a2 a3 a4 a5 a6 a7 x : Value} {ty : TypeId} {f : Obj → Segs} [hA : At S b (.cells #[a0, a1, a2, a3, a4, a5, a6, a7] ty) f] (ha : ev E a = .pointer (some ⟨b, off, none⟩)) (ho : off = 4) (hv : Sc E v x) (h : K (putE d undef E) (f (.cells #[a0, a1, a2, a3, x, a5, a6, a7] ty))) : YO P r n d (.store 1 a v) K E S := by
  subst ho
  exact ystore ha (vs := [x]) (by rw [hv.ev, hv.cells]) rfl (by simp [hv.plain]) (Nat.le_of_ble_eq_true rfl) (.inl (Nat.zero_le _)) h
theorem yst8_5 {b off : Nat} {a v : Operand} {a0 a1 a2 a3 a4 a5 a6 a7 x : Value} {ty : TypeId} {f : Obj → Segs} [hA : At S b (.cells #[a0, a1, a2, a3, a4, a5, a6, a7] ty) f] (ha : ev E a = .pointer (some ⟨b, off, none⟩)) (ho : off = 5) (hv : Sc E v x) (h : K (putE d undef E) (f (.cells #[a0, a1, a2, a3, a4, x, a6, a7] ty))) : YO P r n d (.store 1 a v) K E S := by
  subst ho
  exact ystore ha (vs := [x]) (by rw [hv.ev, hv.cells]) rfl (by simp [hv.plain]) (Nat.le_of_ble_eq_true rfl) (.inl (Nat.zero_le _)) h
theorem yst8_6 {b off : Nat} {a v : Operand} {a0 a1 a2 a3 a4 a5 a6 a7 x : Value} {ty : TypeId} {f : Obj → Segs} [hA : At S b (.cells #[a0, a1, a2, a3, a4, a5, a6, a7] ty) f] (ha : ev E a = .pointer (some ⟨b, off, none⟩)) (ho : off = 6) (hv : Sc E v x) (h : K (putE d undef E) (f (.cells #[a0, a1, a2, a3, a4, a5, x, a7] ty))) : YO P r n d (.store 1 a v) K E S := by
  subst ho
  exact ystore ha (vs := [x]) (by rw [hv.ev, hv.cells]) rfl (by simp [hv.plain]) (Nat.le_of_ble_eq_true rfl) (.inl (Nat.zero_le _)) h
theorem yst8_7 {b off : Nat} {a v : Operand} {a0 a1 a2 a3 a4 a5 a6 a7 x : Value} {ty : TypeId} {f : Obj → Segs} [hA : At S b (.cells #[a0, a1, a2, a3, a4, a5, a6, a7] ty) f] (ha : ev E a = .pointer (some ⟨b, off, none⟩)) (ho : off = 7) (hv : Sc E v x) (h : K (putE d undef E) (f (.cells #[a0, a1, a2, a3, a4, a5, a6, x] ty))) : YO P r n d (.store 1 a v) K E S := by
  subst ho
  exact ystore ha (vs := [x]) (by rw [hv.ev, hv.cells]) rfl (by simp [hv.plain]) (Nat.le_of_ble_eq_true rfl) (.inl (Nat.zero_le _)) h
theorem pBuild1 {E : Env} {z0 v0 : Value} {x0 : Operand} (h0 : Sc E x0 v0) : pstep (ev E) (.build [z0] [(0, 1, x0)]) = some (.agg #[v0]) := by
  simp [pstep, xbuild, h0.ev, h0.cells, setAll]
theorem pBuild2 {E : Env} {z0 z1 v0 v1 : Value} {x0 x1 : Operand} (h0 : Sc E x0 v0) (h1 : Sc E x1 v1) : pstep (ev E) (.build [z0, z1] [(0, 1, x0), (1, 1, x1)]) = some (.agg #[v0, v1]) := by
  simp [pstep, xbuild, h0.ev, h0.cells, h1.ev, h1.cells, setAll]
theorem pBuild3 {E : Env} {z0 z1 z2 v0 v1 v2 : Value} {x0 x1 x2 : Operand} (h0 : Sc E x0 v0) (h1 : Sc E x1 v1) (h2 : Sc E x2 v2) : pstep (ev E) (.build [z0, z1, z2] [(0, 1, x0), (1, 1, x1), (2, 1, x2)]) = some (.agg #[v0, v1, v2]) := by
  simp [pstep, xbuild, h0.ev, h0.cells, h1.ev, h1.cells, h2.ev, h2.cells, setAll]
theorem pBuild4 {E : Env} {z0 z1 z2 z3 v0 v1 v2 v3 : Value} {x0 x1 x2 x3 : Operand} (h0 : Sc E x0 v0) (h1 : Sc E x1 v1) (h2 : Sc E x2 v2) (h3 : Sc E x3 v3) : pstep (ev E) (.build [z0, z1, z2, z3] [(0, 1, x0), (1, 1, x1), (2, 1, x2), (3, 1, x3)]) = some (.agg #[v0, v1, v2, v3]) := by
  simp [pstep, xbuild, h0.ev, h0.cells, h1.ev, h1.cells, h2.ev, h2.cells, h3.ev, h3.cells, setAll]
theorem pBuild5 {E : Env} {z0 z1 z2 z3 z4 v0 v1 v2 v3 v4 : Value} {x0 x1 x2 x3 x4 : Operand} (h0 : Sc E x0 v0) (h1 : Sc E x1 v1) (h2 : Sc E x2 v2) (h3 : Sc E x3 v3) (h4 : Sc E x4 v4) : pstep (ev E) (.build [z0, z1, z2, z3, z4] [(0, 1, x0), (1, 1, x1), (2, 1, x2), (3, 1, x3), (4, 1, x4)]) = some (.agg #[v0, v1, v2, v3, v4]) := by
  simp [pstep, xbuild, h0.ev, h0.cells, h1.ev, h1.cells, h2.ev, h2.cells, h3.ev, h3.cells, h4.ev, h4.cells, setAll]
theorem pBuild6 {E : Env} {z0 z1 z2 z3 z4 z5 v0 v1 v2 v3 v4 v5 : Value} {x0 x1 x2 x3 x4 x5 : Operand} (h0 : Sc E x0 v0) (h1 : Sc E x1 v1) (h2 : Sc E x2 v2) (h3 : Sc E x3 v3) (h4 : Sc E x4 v4) (h5 : Sc E x5 v5) : pstep (ev E) (.build [z0, z1, z2, z3, z4, z5] [(0, 1, x0), (1, 1, x1), (2, 1, x2), (3, 1, x3), (4, 1, x4), (5, 1, x5)]) = some (.agg #[v0, v1, v2, v3, v4, v5]) := by
  simp [pstep, xbuild, h0.ev, h0.cells, h1.ev, h1.cells, h2.ev, h2.cells, h3.ev, h3.cells, h4.ev, h4.cells, h5.ev, h5.cells, setAll]
theorem pBuild7 {E : Env} {z0 z1 z2 z3 z4 z5 z6 v0 v1 v2 v3 v4 v5 v6 : Value} {x0 x1 x2 x3 x4 x5 x6 : Operand} (h0 : Sc E x0 v0) (h1 : Sc E x1 v1) (h2 : Sc E x2 v2) (h3 : Sc E x3 v3) (h4 : Sc E x4 v4) (h5 : Sc E x5 v5) (h6 : Sc E x6 v6) : pstep (ev E) (.build [z0, z1, z2, z3, z4, z5, z6] [(0, 1, x0), (1, 1, x1), (2, 1, x2), (3, 1, x3), (4, 1, x4), (5, 1, x5), (6, 1, x6)]) = some (.agg #[v0, v1, v2, v3, v4, v5, v6]) := by
  simp [pstep, xbuild, h0.ev, h0.cells, h1.ev, h1.cells, h2.ev, h2.cells, h3.ev, h3.cells, h4.ev, h4.cells, h5.ev, h5.cells, h6.ev, h6.cells, setAll]
theorem pBuild8 {E : Env} {z0 z1 z2 z3 z4 z5 z6 z7 v0 v1 v2 v3 v4 v5 v6 v7 : Value} {x0 x1 x2 x3 x4 x5 x6 x7 : Operand} (h0 : Sc E x0 v0) (h1 : Sc E x1 v1) (h2 : Sc E x2 v2) (h3 : Sc E x3 v3) (h4 : Sc E x4 v4) (h5 : Sc E x5 v5) (h6 : Sc E x6 v6) (h7 : Sc E x7 v7) : pstep (ev E) (.build [z0, z1, z2, z3, z4, z5, z6, z7] [(0, 1, x0), (1, 1, x1), (2, 1, x2), (3, 1, x3), (4, 1, x4), (5, 1, x5), (6, 1, x6), (7, 1, x7)]) = some (.agg #[v0, v1, v2, v3, v4, v5, v6, v7]) := by
  simp [pstep, xbuild, h0.ev, h0.cells, h1.ev, h1.cells, h2.ev, h2.cells, h3.ev, h3.cells, h4.ev, h4.cells, h5.ev, h5.cells, h6.ev, h6.cells, h7.ev, h7.cells, setAll]
theorem pBuild0 {E : Env} {z : List Value} : pstep (ev E) (.build z []) = some (.agg z.toArray) := rfl
/-- a whole object is stored -/
theorem ystAll {b k : Nat} {a v : Operand} {c c' : List Value} {ty : TypeId} {f : Obj → Segs} [hA : At S b (.cells c.toArray ty) f] (ha : ev E a = .pointer (some ⟨b, 0, none⟩)) (hv : ev E v = .agg c'.toArray) (h1 : c'.length = k) (h2 : c.length = k) (hp : c'.all plainV = true)
    (h : K (putE d undef E) (f (.cells c'.toArray ty))) : YO P r n d (.store k a v) K E S := by
  refine ystore ha (vs := c') (by rw [hv]; rfl) h1 hp (by simp [h2]) (.inl (Nat.zero_le _)) ?_
  have : setAll c.toArray.toList 0 c' = c' := by
    show setAll c 0 c' = c'
    rw [setAll_append _ _ _ (by omega)]
    simp [h1, h2]
  rw [this]; exact h
/-! ### results that lie in cells -/
def rvSem (tmps : Array Value) : ResultVar → Sem Value
  | .tmp t => pure (tmps.getD t undef)
  | .cell a t => do loadVar t (← asAddr (tmps.getD a undef))
def RV (P : Program) (rv : ResultVar) (E : Env) (S : Segs) (v : Value) : Prop :=
  ∀ (F : Segs) (w : World) (tmps : Array Value), Sat (S ++ F) w → (fun i => tmps.getD i undef) = E → (rvSem tmps rv).run P w = .ok v w
theorem rvT {t : Tmp} {v : Value} (hv : E t = v) : RV P (.tmp t) E S v := fun F w tmps _ he => by
  rw [← hv, ← he]; rfl
theorem rvC {t : Tmp} {b : Nat} {ty ty' : TypeId} {v : Value} {fz : Nat × Nat} {f : Obj → Segs} (hagg : isAgg? P ty = some false) (ha : E t = .pointer (some ⟨b, 0, none⟩)) [hA : At S b (.cells #[v] ty' fz) f] : RV P (.cell t ty) E S v := fun F w tmps hs he => by
  have hb := hA.heap hs
  have hcell : w.cell? ⟨b, 0, none⟩ = some v := by rw [cellOf hb]; rfl
  have ht : tmps.getD t undef = .pointer (some ⟨b, 0, none⟩) := by rw [← ha, ← he]
  simp only [rvSem, ht, asAddr, loadVar, Sem.run_bind, Sem.run, pure, Result.andThen]
  simp [run_isAgg hagg, load_run hcell]
theorem results_eq (fn : Func) (tmps : Array Value) : results fn tmps = (do
    let vs ← fn.results.mapM (rvSem tmps)
    pure (if h : vs.size = 1 then vs[0] else .tuple vs)) := by
  unfold results
  congr 1
theorem resL1 {rv : ResultVar} {v : Value} (h : RV P rv E S v) : Res P #[rv] E S v := fun fn F w tmps hr hs he => by
  rw [results_eq, hr]
  have := h F w tmps hs he
  simp [Array.mapM_eq_mapM_toList, Sem.run_bind, this, Result.andThen, pure, Sem.run]
theorem resL2 {rv rv' : ResultVar} {v v' : Value} (h : RV P rv E S v) (h' : RV P rv' E S v') : Res P #[rv, rv'] E S (.tuple #[v, v']) := fun fn F w tmps hr hs he => by
  rw [results_eq, hr]
  have h1 := h F w tmps hs he
  have h2 := h' F w tmps hs he
  simp [Array.mapM_eq_mapM_toList, Sem.run_bind, h1, h2, Result.andThen, pure, Sem.run]
theorem resForget {rs : Array ResultVar} {S0 : Segs} {v : Value} (j : Junk S S0) (h : Res P rs E S0 v) : Res P rs E S v := fun fn F w tmps hr hs he => h fn F w tmps hr (j.sat hs) he
theorem pRem {x y : Operand} {k : IntKind} {a b : Int} (h1 : ev E x = .int k a) (h2 : ev E y = .int k b) (h : b ≠ 0) : pstep (ev E) (.bin .rem x y) = some (.int k (a.tmod b)) := by simp [pstep, h1, h2, xbin, xint, h]
theorem pQuo {x y : Operand} {a b : Int} (h1 : ev E x = .int .i64 a) (h2 : ev E y = .int .i64 b) (h : 0 < b) (ha : -9223372036854775808 ≤ a ∧ a ≤ 9223372036854775807) : pstep (ev E) (.bin .quo x y) = some (.int .i64 (a.tdiv b)) := by
  have hb : b ≠ 0 := by omega
  have hw : -9223372036854775808 ≤ a.tdiv b ∧ a.tdiv b ≤ 9223372036854775807 := by
    have h1 : (a.tdiv b).natAbs ≤ a.natAbs := by rw [Int.natAbs_tdiv]; exact Nat.div_le_self _ _
    rcases Int.lt_or_le a 0 with h0 | h0
    · have : a.tdiv b ≤ 0 := by
        rw [← Int.neg_neg a, Int.neg_tdiv]
        have := Int.tdiv_nonneg (a := -a) (b := b) (by omega) (by omega)
        omega
      omega
    · have := Int.tdiv_nonneg (a := a) (b := b) h0 (by omega)
      omega
  simp [pstep, h1, h2, xbin, xint, hb, wrap_i64 hw]
theorem pMin1 {x y : Operand} {k k' : IntKind} {a b : Int} (h1 : ev E x = .int k a) (h2 : ev E y = .int k' b) : pstep (ev E) (.min x [y]) = some (.int k (min a b)) := by
  have h : (if b < a then b else a) = min a b := by split <;> omega
  simp [pstep, h1, h2, xints, asI, xminI, h]
theorem pMax1 {x y : Operand} {k k' : IntKind} {a b : Int} (h1 : ev E x = .int k a) (h2 : ev E y = .int k' b) : pstep (ev E) (.max x [y]) = some (.int k (max a b)) := by
  have h : (if a < b then b else a) = max a b := by split <;> omega
  simp [pstep, h1, h2, xints, asI, xmaxI, h]
end Go.Xs
