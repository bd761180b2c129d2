/- Bytes: a slice of bytes as a string, a string as bytes; copying onto nothing. -/
import Derived.Test.YtkdbajfaaifkaaaFrame
namespace Go.Xs
open Enc (enc)
instance : Enc Int := ⟨fun a => [.int .i64 a], 1, fun _ => rfl, fun _ => rfl⟩
instance : Enc (Int × Int) := ⟨fun a => [.int .i64 a.1, .int .i64 a.2], 2, fun _ => rfl, fun _ => rfl⟩
instance : Enc UInt8 := ⟨fun b => [.int .u8 (b.toNat : Int)], 1, fun _ => rfl, fun _ => rfl⟩
variable {P : Program} {r : Option Nat} {n : Nat} {K : Env → Segs → Prop} {E : Env} {S : Segs} {d : Option Tmp}
theorem ycopy0 {kk : Nat} {x s : Operand} {sv : Value} {α : Type} [Enc α] {Y : List α} {a : Option Addr} {cap : Nat} (hx : ev E x = .slice a 0 cap) (hs : ev E s = sv) (hY : Src S sv Y) (_hk : Enc.k α = kk)
    (h : K (putE d (.int .i64 0) E) S) : YO P r n d (.copy kk x s) K E S := by
  intro op ty pos af g hc hd
  obtain ⟨t, rr, e, rfl, ht, hsz⟩ := cop_inv hc
  refine xsem (by simp) hd fun F w hsat => ?_
  obtain ⟨hlen, hcells⟩ := src_run (P := P) hY hsat
  refine ⟨_, w, S, ?_, Ext.refl w, hsat, h⟩
  refine exec_builtin rfl ?_
  have hargs : (#[x, s] : Array Operand).map (ev E) = #[.slice a 0 cap, sv] := by simp [hx, hs]
  have hfc : (Builtin.firstCells kk 0 sv).run P w = .ok #[] w := by
    obtain ⟨a', c', rfl⟩ := hY.isSlice
    cases a' <;> simp [Builtin.firstCells, loadCells, loadCellsFrom, pure]
  simp only [hargs, builtin]
  cases a <;> simp [Builtin.copy_, Sem.run_bind, run_underlying ht, hlen, run_sizeOf hsz, hfc, Result.andThen, pure, Sem.run, goInt, storeCells]
theorem bytes_fold {f : Value → ByteArray → Sem (ForInStep ByteArray)} (hf : ∀ (k : Int) s, f (.int .u8 k) s = pure (.yield (s.push (UInt8.ofNat k.toNat)))) : ∀ (l : List UInt8) (acc : ByteArray) (w : World), (forIn (cells l) acc f : Sem ByteArray).run P w = .ok ⟨acc.data ++ l.toArray⟩ w
  | [], acc, w => by simp [cells, pure]
  | b :: l, acc, w => by
    rw [cells_cons]
    show Sem.run P (forIn (Value.int .u8 (b.toNat : Int) :: cells l) acc f) w = _
    simp only [List.forIn_cons, hf]
    have := bytes_fold hf l (acc.push (UInt8.ofNat ((b.toNat : Int)).toNat)) w
    simp only [bind, Sem.bind, pure] at this ⊢
    rw [this]
    congr 2
    simp [ByteArray.push]
theorem cells_bytes : ∀ Y : List UInt8, cells Y = Y.map fun b => Value.int .u8 (b.toNat : Int)
  | [] => rfl
  | y :: Y => by rw [cells_cons, cells_bytes Y]; rfl
theorem b2s_run {v : Value} {Y : List UInt8} {F : Segs} {w : World} (hY : Src S v Y) (hs : Sat (S ++ F) w) : (Conv.bytesToString v).run P w = .ok (.string ⟨Y.toArray⟩) w := by
  have h2 := (src_run (P := P) hY hs).2
  obtain ⟨a, c, rfl⟩ := hY.isSlice
  cases a with
  | none =>
    have : Y = [] := by
      generalize hv : Value.slice none Y.length c = v at hY
      cases hY with
      | nil => rfl
      | part hm hc => simp at hv
    subst this
    rfl
  | some a =>
    have h3 : (loadCells a Y.length).run P w = .ok (cells Y).toArray w := by
      simp [Builtin.firstCells, show Enc.k UInt8 = 1 from rfl] at h2
      exact h2
    unfold Conv.bytesToString
    simp only [Sem.run_bind, h3, Result.andThen_ok]
    simp only [List.forIn_toArray]
    rw [bytes_fold (P := P) (fun k s => rfl) Y ByteArray.empty w]
    simp [Result.andThen, pure]
/-- string(b) -/
theorem yb2s {x : Operand} {v : Value} {Y : List UInt8} (hx : ev E x = v) (hY : Src S v Y) (h : K (putE d (.string ⟨Y.toArray⟩) E) S) : YO P r n d (.b2s x) K E S := by
  intro op ty pos af g hc hd
  obtain ⟨s, t, e, rfl, hs, ht, he⟩ := cop_inv hc
  refine xsem (by simp) hd fun F w hsat => ⟨_, w, S, ?_, Ext.refl w, hsat, h⟩
  have hr := b2s_run (P := P) hY hsat
  obtain ⟨a, c, rfl⟩ := hY.isSlice
  simp only [execOp, convert, Sem.run_bind, run_underlying hs, run_underlying ht, Result.andThen_ok, hx, run_underlying he, hr]
  rfl
theorem markRun {w : World} {b : Nat} {c : Array Value} {ty : TypeId} (h : w.heap[b]? = some (.cells c ty)) : ∃ w', (markStringish ⟨b, 0, none⟩).run P w = .ok () w' ∧ w'.heap[b]? = some (.cells c ty (c.size, c.size + 1)) ∧ (∀ j, j ≠ b → w'.heap[j]? = w.heap[j]?) ∧ Ext w w' := by
  refine ⟨w.freeze ⟨b, c.size, none⟩ 1, ?_, ?_, fun j hj => ?_, ⟨?_, ?_, ?_, ?_⟩⟩
  · simp [markStringish, shape, freeze, bind, Sem.bind, Sem.run, World.shape?, h]
  · simp only [World.freeze, Nat.one_ne_zero, if_false]
    rw [Array.getElem?_modify, if_pos rfl, h]
    rfl
  · simp only [World.freeze, Nat.one_ne_zero, if_false]
    rw [Array.getElem?_modify, if_neg (fun e => hj e.symm)]
  all_goals simp [World.freeze]
/-- []byte(s) -/
theorem ys2b {e : TypeId} {x : Operand} {s : ByteArray} (hx : ev E x = .string s) (h : ∀ v H, Slc e v s.data.toList H → K (putE d v E) (H :: S)) : YO P r n d (.s2b e x) K E S := by
  intro op ty pos af g hc hd
  obtain ⟨t1, t2, rfl, hs, ht, he⟩ := cop_inv hc
  refine xsem (by simp) hd fun F w hsat => ?_
  let q : Question := .appendCap s.size 0 e
  let M := q.cut (w.tape w.drawn q)
  let w1 : World := { w with drawn := w.drawn + 1 }
  have hM : s.size ≤ M := Nat.le_add_right _ _
  obtain ⟨m, hm⟩ : ∃ m, M = s.size + m := ⟨M - s.size, by omega⟩
  let Y := s.data.toList
  let sp : List UInt8 := List.replicate m 0
  have hYl : Y.length = s.size := Array.length_toList
  have hcl : (s.data.map (fun b => Value.int .u8 (b.toNat : Int)) ++ Array.replicate (M - s.size) (.int .u8 0)) = (cells (Y ++ sp)).toArray := by
    apply Array.toList_inj.1
    rw [cells_bytes]
    simp [Y, sp, hm]
  let w2 : World := { w1 with heap := w1.heap.push (.cells (cells (Y ++ sp)).toArray e) }
  have hb2 : w2.heap[w.heap.size]? = some (.cells (cells (Y ++ sp)).toArray e) := by simp [w2, w1]
  obtain ⟨w3, h1, h2, h3, h4⟩ := markRun (P := P) hb2
  have hsat0 : SatL (S ++ F).flatten w := hsat
  have hsat1 : Sat (S ++ F) w1 := ⟨hsat0.nodup, hsat0.at_⟩
  have hx2 : Ext w w2 := ⟨rfl, rfl, rfl, by simp [w2, w1]⟩
  have hsat2 : Sat (([(w.heap.size, .cells (cells (Y ++ sp)).toArray e)] : List Chunk) :: (S ++ F)) w2 := Sat.new _ (w := w1) hsat1
  have hsat3 : Sat (([(w.heap.size, .cells (cells (Y ++ sp)).toArray e ((cells (Y ++ sp)).toArray.size, (cells (Y ++ sp)).toArray.size + 1))] : List Chunk) :: (S ++ F)) w3 := At.upd (S := [(w.heap.size, .cells (cells (Y ++ sp)).toArray e)] :: S) At.here hsat2 h2 h3
  refine ⟨.slice (some ⟨w.heap.size, 0, none⟩) s.size M, w3, [(w.heap.size, .cells (cells (Y ++ sp)).toArray e ((cells (Y ++ sp)).toArray.size, (cells (Y ++ sp)).toArray.size + 1))] :: S, ?_, ?_, hsat3, ?_⟩
  · have hch : (choose (.appendCap s.size 0 e)).run P w = .ok M w1 := rfl
    simp only [execOp, convert, Sem.run_bind, run_underlying hs, run_underlying ht, Result.andThen_ok, hx, run_underlying he, Conv.stringToBytes, hch, hcl, newRow_run]
    have h1' : (markStringish ⟨w1.heap.size, 0, none⟩).run P { w1 with heap := w1.heap.push (.cells (cells (Y ++ sp)).toArray e) } = .ok () w3 := h1
    simp only [h1', Result.andThen_ok]
    rfl
  · exact hx2.trans h4
  · refine h _ _ ?_
    have hM2 : M = Y.length + sp.length := by simp [sp, hYl, hm]
    rw [hM2, ← hYl]
    exact .row (.inr (by simp))
/-- []byte("..") of a literal: its bytes, marked -/
theorem yconvB {t e ty0 : TypeId} {x : Operand} {b m cap ty' : Nat} {c : Array Value} {f : Obj → Segs} [hA : At S b (.cells c ty') f] (ht : P.underlying t = some (.slice e)) (he : P.underlying e = some (.int .u8)) (hx : ev E x = .slice (some ⟨b, 0, none⟩) m cap)
    (h : K (putE d (.slice (some ⟨b, 0, none⟩) m cap) E) (f (.cells c ty' (c.size, c.size + 1)))) : YO P r n d (.raw (.convert t t x) ty0) K E S := by
  intro op ty pos af g hc hd
  obtain ⟨rfl, rfl⟩ := cop_inv hc
  refine xsem (by simp) hd fun F w hsat => ?_
  have hb := hA.heap hsat
  obtain ⟨w', h1, h2, h3, h4⟩ := markRun (P := P) hb
  refine ⟨_, w', _, ?_, h4, hA.upd hsat h2 h3, h⟩
  simp only [execOp, convert, Sem.run_bind, run_underlying ht, Result.andThen_ok, hx, run_underlying he, beq_self_eq_true, h1]
  rfl
theorem Src.litF {α : Type} [Enc α] {e b m c : Nat} {fz : Nat × Nat} {Y : List α} (hm : [(b, Obj.cells (cells Y).toArray e fz)] ∈ S) (hl : m = Y.length) : Src S (.slice (some ⟨b, 0, none⟩) m c) Y := by
  subst hl
  refine .part hm ?_
  show (cells Y).take _ = _
  rw [← cells_length, List.take_length]
/-- what is live is kept, all else of the frame forgotten -/
theorem ykeep {Q : Exit → Env → Segs → Prop} {x : XCode} (l : List (Nat × Value)) (h : Has E l) (k : ∀ E0, Y P r n x Q (puts l E0) S) : Y P r n x Q E S := by
  obtain ⟨E0, rfl⟩ := has_puts h
  exact k E0
theorem ylkeep {x : List XOper} (l : List (Nat × Value)) (h : Has E l) (k : ∀ E0, YL P r n x K (puts l E0) S) : YL P r n x K E S := by
  obtain ⟨E0, rfl⟩ := has_puts h
  exact k E0
/-- cutting behind three parts -/
theorem ycut3 {Q : Exit → Env → Segs → Prop} {a b c d : XCode} (I : Env → Segs → Prop) (h1 : Y P r n a (thenQ (Y P r n b (thenQ (Y P r n c (thenQ I Q)) Q)) Q) E S) (h2 : ∀ E S, I E S → Y P r n d Q E S) : Y P r n (.seq a (.seq b (.seq c d))) Q E S :=
  yseq (h1.mono fun e E' S' h => by
    cases e with
    | normal => exact yseq (Y.mono h fun e E' S' h => by
        cases e with
        | normal => exact yseq (Y.mono h fun e E' S' h => by
            cases e with
            | normal => exact h2 _ _ h
            | _ => exact h)
        | _ => exact h)
    | _ => exact h)
end Go.Xs
