/- The types of the laws' arguments: ints, bools, and slices of them. Arguments that hold others: the fields of a struct, a slice within it; bytes, strings. -/
import Derived.Test.YtkdbajfaaifkaaaWide
import Derived.Test.YtkdbajfaaifkaaaB3
namespace Go.Proofs.Ytkdbajfaaifkaaa
open Go.Xs Go.ChangeShapes Go.WideShapes

theorem tyInt : Try.prog.underlying 3 = some (.int .i64) := by kernel_rfl
theorem tyBool : Try.prog.underlying 4 = some .bool := by kernel_rfl
theorem ceInt : Try.prog.cellsOf 3 = 1 := by kernel_rfl
theorem slicesSized : ((List.range Try.prog.types.size).all fun t => match Try.prog.underlying t with | some (.slice e) => Nat.blt 0 (Try.prog.cellsOf e) | _ => true) = true := by kernel_rfl
theorem kids : Kids Try.prog (· < Try.prog.types.size) := kids_rows wideLaid wideMaps
theorem sized {t e : TypeId} (ht : t < Try.prog.types.size) (h : Try.prog.underlying t = some (.slice e)) : 0 < Try.prog.cellsOf e := by
  have := List.all_eq_true.1 slicesSized t (List.mem_range.2 ht)
  rw [h] at this
  simpa [Nat.blt_eq] using this
theorem below {ts : List TypeId} (h : (ts.all fun t => Nat.blt t Try.prog.types.size) = true) : ∀ t ∈ ts, t < Try.prog.types.size := by
  intro t ht
  have h1 := List.all_eq_true.1 h t ht
  simpa [Nat.blt_eq] using h1

def InI (a : Int) : Prop := -9223372036854775808 ≤ a ∧ a ≤ 9223372036854775807
theorem inI_wf {a : Int} (h : (Lit.int .i64 a).wf = true) : InI a := by
  simp only [Lit.wf, Bool.and_eq_true, decide_eq_true_eq] at h
  have h1 : IntKind.i64.min = -9223372036854775808 := by decide
  have h2 : IntKind.i64.max = 9223372036854775807 := by decide
  rw [h1, h2] at h
  exact h

variable {H : Type} {en : TypeId × Value → H} {W : World} {sp : Nat → Bool}
theorem elInt : ∀ (n : Nat) (cs : List Value) (x : DataW H × List MemPlace), DataW.trod en Try.prog W 0 sp true n 3 cs = some x → ∃ a : Int, cs = Enc.enc a ∧ InI a := by
  intro n cs x h
  obtain ⟨z, rfl, _, hw⟩ := DataW.trod_int tyInt h
  exact ⟨z, rfl, inI_wf hw⟩
theorem maxLen_eq : maxLen = 9223372036854775807 := by decide
end Go.Proofs.Ytkdbajfaaifkaaa
namespace Go.Proofs.Ytkdbajfaaifkaaa
open Go.Xs Go.ChangeShapes Go.WideShapes
variable {H : Type} {en : TypeId × Value → H} {W : World} {sp : Nat → Bool}
noncomputable def fieldsOf (t : TypeId) : Array Field := match Try.prog.underlying t with | some (.struct fs) => fs | _ => #[]
/-- each field of a struct -/
theorem field {t : TypeId} {fs : Array Field} {l : List (TypeId × Nat)} (ht : Try.prog.underlying t = some (.struct fs)) (hf : (fs.toList.map fun f => (f.type, f.offset)) = l)
    {n : Nat} {cs : List Value} {x : DataW H × List MemPlace} (h : DataW.trod en Try.prog W 0 sp true n t cs = some x) :
    cs.length = Try.prog.cellsOf t ∧ ∀ (i u o : Nat), l[i]? = some (u, o) → ∃ m y, DataW.trod en Try.prog W 0 sp true m u ((cs.drop o).take (Try.prog.cellsOf u)) = some y := by
  obtain ⟨xs, m, _, _, hl, hxl, hg⟩ := DataW.trod_struct ht h
  refine ⟨hl, fun i u o hi => ?_⟩
  have hsz : i < fs.size := by
    have := (List.getElem?_eq_some_iff.1 hi).1
    rw [← hf] at this
    simpa using this
  have hfi : fs[i]? = some fs[i] := Array.getElem?_eq_getElem _
  have hgi := hg i _ hfi
  have hto := congrArg (fun (l : List (TypeId × Nat)) => l[i]?) hf
  simp only [List.getElem?_map, Array.getElem?_toList, hfi, Option.map_some, hi] at hto
  have h1 := congrArg Prod.fst (Option.some.inj hto)
  have h2 := congrArg Prod.snd (Option.some.inj hto)
  simp only at h1 h2
  rw [h1, h2, List.getElem?_eq_getElem (by omega)] at hgi
  exact ⟨m, _, hgi⟩
/-- a slice within -/
theorem nested {α : Type} [Enc α] {Q : α → Prop} {t e : TypeId} (ht : Try.prog.underlying t = some (.slice e)) (hc : Try.prog.cellsOf e = Enc.k α) (hk : 0 < Enc.k α)
    (hel : ∀ n cs (x : DataW H × List MemPlace), DataW.trod en Try.prog W 0 sp true n e cs = some x → ∃ a : α, cs = Enc.enc a ∧ Q a)
    {n : Nat} {cs : List Value} {x : DataW H × List MemPlace} (h : DataW.trod en Try.prog W 0 sp true n t cs = some x) :
    ∃ a c, ∃ L : List α, cs = [.slice a L.length c] ∧ Src (heapS W) (.slice a L.length c) L ∧ L.length ≤ maxLen ∧ ∀ y ∈ L, Q y := by
  have hs : ∃ a l c, cs = [.slice a l c] := by
    rcases DataW.trod_slice ht h with ⟨h1, _⟩ | ⟨a, len, cap, _, _, _, _, h1, _⟩
    · exact ⟨_, _, _, h1⟩
    · exact ⟨_, _, _, h1⟩
  obtain ⟨a, l, c, rfl⟩ := hs
  obtain ⟨L, h1, h2, h3⟩ := open_src ht hc hk hel (v := .slice a l c) (d := x.1) (ps := x.2) ⟨a, l, c, rfl⟩ ⟨n, h⟩
  obtain ⟨a', c', he⟩ := h1.isSlice
  obtain ⟨rfl, rfl, rfl⟩ : a = a' ∧ l = L.length ∧ c = c' := by cases he; exact ⟨rfl, rfl, rfl⟩
  exact ⟨a, c, L, rfl, h1, h2, h3⟩

theorem tyByte : Try.prog.underlying 5 = some (.int .u8) := by kernel_rfl
theorem ceByte : Try.prog.cellsOf 5 = 1 := by kernel_rfl
theorem elByte : ∀ (n : Nat) (cs : List Value) (x : DataW H × List MemPlace), DataW.trod en Try.prog W 0 sp true n 5 cs = some x → ∃ a : UInt8, cs = Enc.enc a ∧ True := by
  intro n cs x h
  obtain ⟨z, rfl, _, hw⟩ := DataW.trod_int tyByte h
  simp only [Lit.wf, Bool.and_eq_true, decide_eq_true_eq] at hw
  have h1 : IntKind.u8.min = 0 := by decide
  have h2 : IntKind.u8.max = 255 := by decide
  rw [h1, h2] at hw
  refine ⟨UInt8.ofNat z.toNat, ?_, trivial⟩
  show _ = [Value.int .u8 _]
  congr 2
  have : (UInt8.ofNat z.toNat).toNat = z.toNat % 256 := by simp
  rw [this]; omega
theorem tyBytes : Try.prog.underlying 31 = some (.slice 5) := by kernel_rfl
theorem ceBytes : Try.prog.cellsOf 31 = 1 := by kernel_rfl
end Go.Proofs.Ytkdbajfaaifkaaa
