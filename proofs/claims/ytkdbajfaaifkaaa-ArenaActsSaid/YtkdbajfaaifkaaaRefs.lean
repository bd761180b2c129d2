/- What the document's answers do with slices: parts of a slice that may be nil; one cell of an element stored; what is read beside what grows. -/
import Derived.Test.YtkdbajfaaifkaaaBytes
namespace Go.Xs
open Enc (enc)
variable {P : Program} {r : Option Nat} {n : Nat} {K : Env → Segs → Prop} {E : Env} {S G : Segs} {d : Option Tmp} {α : Type} [Enc α]

/-- s[:k], of a slice that may be nil -/
theorem Slc.headE {ty : TypeId} {v : Value} {L : List α} {H : List Chunk} (h : Slc ty v L H) (hm : H ∈ S) {k kk : Nat} {q : IntKind} (hk : k ≤ L.length) {x y : Operand} (hx : ev E x = v) (hy : ev E y = .int q (k : Int)) :
    ∃ a c, pstep (ev E) (.slc kk x none (some y) none) = some (.slice a k c) ∧ Src S (.slice a k c) (L.take k) := by
  cases h with
  | nil =>
    obtain rfl : k = 0 := by simpa using hk
    exact ⟨none, 0, pSlTo hx hy (Nat.le_refl _), .nil⟩
  | @row b L sp fz hz =>
    have hl : (L.take k).length = k := by rw [List.length_take]; omega
    have hs : Src S (.slice (some ⟨b, 0, none⟩) (L.take k).length (L.length + sp.length)) (L.take k) := .part hm (by
      rw [List.drop_zero, hl]
      show (cells (L ++ sp)).take _ = _
      rw [cells_take, List.take_append_of_le_length hk])
    rw [hl] at hs
    exact ⟨_, _, pSlTo hx hy (by omega), hs⟩
/-- s[k:] -/
theorem Slc.tailE {ty : TypeId} {v : Value} {L : List α} {H : List Chunk} (h : Slc ty v L H) (hm : H ∈ S) {k kk : Nat} {q : IntKind} (hkk : Enc.k α = kk) (hk : k ≤ L.length) {x y : Operand} (hx : ev E x = v) (hy : ev E y = .int q (k : Int)) :
    ∃ a c, pstep (ev E) (.slc kk x (some y) none none) = some (.slice a (L.length - k) c) ∧ Src S (.slice a (L.length - k) c) (L.drop k) := by
  cases h with
  | nil =>
    obtain rfl : k = 0 := by simpa using hk
    exact ⟨none, 0, by simp [pstep, hx, bndV, hy, asI, bnd, bnd1], .nil⟩
  | @row b L sp fz hz =>
    have := Src.tail (c := L.length + sp.length - k) (L := L) (sp := sp) (j := k) hm hkk hk
    exact ⟨_, _, pSlFrom hx hy hk, this⟩
/-- s[k:m] of a slice that is read -/
theorem Src.partE {v : Value} {L : List α} (h : Src S v L) {k m kk : Nat} {q q' : IntKind} (hkk : Enc.k α = kk) (hk : k ≤ m) (hm : m ≤ L.length) {x y z : Operand} (hx : ev E x = v) (hc : ∀ a l c, v = .slice a l c → l ≤ c) (hy : ev E y = .int q (k : Int)) (hz : ev E z = .int q' (m : Int)) :
    ∃ a c, pstep (ev E) (.slc kk x (some y) (some z) none) = some (.slice a (m - k) c) ∧ Src S (.slice a (m - k) c) ((L.drop k).take (m - k)) := by
  subst hkk
  cases h with
  | nil =>
    obtain rfl : m = 0 := by simpa using hm
    obtain rfl : k = 0 := by omega
    exact ⟨_, _, by simp [pstep, hx, bndV, hy, hz, asI, bnd, bnd1]; exact ⟨rfl, rfl⟩, .nil⟩
  | @part b o cap c ty fz Y hm2 hcells =>
    have hcap := hc _ _ _ rfl
    have hl : ((L.drop k).take (m - k)).length = m - k := by rw [List.length_take, List.length_drop]; omega
    refine ⟨_, _, pSlFT hx hy hz ⟨hk, by omega⟩, ?_⟩
    by_cases h0 : m - k = 0
    · rw [h0, List.take_zero]; exact .nil
    have hne : ¬ cap = k := by omega
    have hs : Src S (.slice (some ⟨b, if cap = k then o else o + k * Enc.k α, none⟩) ((L.drop k).take (m - k)).length (cap - k)) ((L.drop k).take (m - k)) := .part hm2 (by
      rw [if_neg hne, hl, ← List.drop_drop]
      have h1 := congrArg (fun l => (l.drop (k * Enc.k α)).take ((m - k) * Enc.k α)) hcells
      simp only [cells_drop, cells_take] at h1
      rw [← h1, List.drop_take, List.take_take, Nat.min_eq_left]
      rw [← Nat.sub_mul]; exact Nat.mul_le_mul_right _ (by omega))
    rw [hl] at hs
    exact hs
theorem Src.mono {S S' : Segs} {v : Value} {L : List α} (h : Src S v L) (hs : ∀ s ∈ S, s ∈ S') : Src S' v L := by
  cases h with
  | nil => exact .nil
  | part hm hc => exact .part (hs _ hm) hc
theorem set_cell {kk j : Nat} (hk : Enc.k α = kk) {v : Value} : ∀ (L : List α) (i : Nat) (y : α), (hi : i < L.length) → j < kk → (enc L[i]).set j v = enc y → setAll (cells L) (0 + i * kk + j) [v] = cells (L.set i y)
  | [], i, y, hi, _, _ => by simp at hi
  | a :: L, 0, y, hi, hj, h => by
    show (cells (a :: L)).set _ v = _
    rw [cells_cons, List.set_append_left _ _ (by rw [Enc.len, hk]; omega), List.set_cons_zero, cells_cons]
    have : 0 + 0 * kk + j = j := by omega
    rw [this]
    exact congrArg (· ++ cells L) h
  | a :: L, i + 1, y, hi, hj, h => by
    have ih := set_cell hk L i y (by simpa using hi) hj (by simpa using h)
    have ih2 : (cells L).set (0 + i * kk + j) v = cells (L.set i y) := ih
    show (cells (a :: L)).set _ v = _
    rw [cells_cons, List.set_append_right _ _ (by rw [Enc.len, hk, Nat.succ_mul]; omega), List.set_cons_succ, cells_cons, Enc.len, hk]
    have : 0 + (i + 1) * kk + j - kk = 0 + i * kk + j := by rw [Nat.succ_mul]; omega
    rw [this, ih2]
/-- one cell of an element is stored -/
theorem ystoreC {b i j kk ty : Nat} {a v : Operand} {M : List α} {y : α} {fz : Nat × Nat} {f : Obj → Segs} {x : Value} [hA : At S b (.cells (cells M).toArray ty fz) f] (ha : ev E a = .pointer (some ⟨b, 0 + i * kk + j, none⟩)) (hi : i < M.length) (hk : Enc.k α = kk) (hj : j < kk)
    (hv : Sc E v x) (hy : (enc M[i]).set j x = enc y) (hz : FzOk fz (cells M).length) (h : K (putE d undef E) (f (.cells (cells (M.set i y)).toArray ty fz))) : YO P r n d (.store 1 a v) K E S := by
  have hb : 0 + i * kk + j + 1 ≤ (cells M).length := by
    rw [cells_length, hk]
    have : (i + 1) * kk ≤ M.length * kk := Nat.mul_le_mul_right _ hi
    rw [Nat.succ_mul] at this; omega
  refine ystore ha (vs := [x]) (by rw [hv.ev, hv.cells]) rfl (by simp [hv.plain]) (by simpa using hb) (hz.imp (fun h => by omega) (fun h => by omega)) ?_
  rw [show (cells M).toArray.toList = cells M from rfl, set_cell hk M i y hi hj hy]
  exact h

/-- what is read, with more that may be read -/
structure Bag (S1 S : Segs) : Prop where
  mem : ∀ s ∈ S, s ∈ S1
  junk : Junk S1 S
theorem Bag.refl (S : Segs) : Bag S S := ⟨fun _ h => h, .self⟩
theorem Bag.cons {S1 S : Segs} (h : Bag S1 S) (x : List Chunk) : Bag (x :: S1) S := ⟨fun s hs => List.mem_cons_of_mem _ (h.mem s hs), Junk.trans (Junk.of (S0 := S1)) h.junk⟩
theorem Bag.trans {S2 S1 S : Segs} (h : Bag S2 S1) (k : Bag S1 S) : Bag S2 S := ⟨fun s hs => h.mem s (k.mem s hs), h.junk.trans k.junk⟩
end Go.Xs
