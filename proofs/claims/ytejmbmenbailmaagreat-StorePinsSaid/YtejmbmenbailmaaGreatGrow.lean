/- What slices.Grow does: append(.., make(..)...) onto nothing makes a row of zeros. -/
import Derived.Test.YtejmbmenbailmaaGreatB3
namespace Go.Xs
open Enc (enc)
variable {P : Program} {r : Option Nat} {m : Nat} {K : Env → zo → Prop} {E : Env} {S : zo} {d : Option Tmp}
theorem fB (z : List Value) (a b : Nat) : (List.replicate a z).flatten ++ (List.replicate b z).flatten = (List.replicate (a + b) z).flatten := by
 rw [← List.flatten_append, List.replicate_append_replicate]
theorem Kl {t u e : TypeId} {ty : TypeId} {k n b : Nat} {w : World} {z : List Value} (ht : P.underlying t = some (.slice e)) (hu : P.underlying u = some (.int .i64)) (hsz : sizeOf? P e = some k)
 (hzz : zero? P e = some z) (hbb : bytes? P e = some b) (hn : 0 < n) (hk : 0 < k) (hfit : n * b ≤ 140737488355328) (hnn : n ≤ 1099511627776) :
 ∃ (M : Nat) (w1 : World), n ≤ M ∧ w1.heap = w.heap ∧ Ext w w1 ∧
  (Builtin.append_ #[t, u] ty #[.slice none 0 0, .int .i64 (n : Int)]).run P w = .ok (.slice (some ⟨w1.heap.size, 0, none⟩) n M) { w1 with heap := w1.heap.push (.cells ((List.replicate M z).flatten).toArray e) } := by
 let q : Question := .appendCap (0 + n) 0 e
 let M := q.cut (w.tape w.drawn q)
 let w1 : World := { w with drawn := w.drawn + 1 }
 obtain ⟨ti, hti, htb⟩ := VJ hbb w;obtain ⟨ti1, hti1, htb1⟩ := VJ hbb w1;obtain ⟨zv, hzr, hzc⟩ := vZ hzz w1;have hw : IntKind.i64.wrap (n : Int) = n := wrap_i64 (by omega);have hc0 : ¬ ((n : Int) < 0) := by omega
 have hcb : ¬ ((n : Int) * (ti.bytes : Int) > 2 ^ 48) := by
  have e48 : (2 : Int) ^ 48 = 281474976710656 := by decide
  rw [htb, e48, ← Int.natCast_mul]; omega
 have hnx : Builtin.nextslicecap (0 + n) 0 = n := by
  unfold Builtin.nextslicecap;rw [if_pos (by omega)]; omega
 have hc1 : ¬ (((0 + n : Nat) : Int) > IntKind.i64.max ∧ (True ∨ ti.bytes = 0)) := by
  intro h;have := h.1;simp [IntKind.max, IntKind.signed, IntKind.bits] at this;omega
 have hc2 : ¬ Builtin.nextslicecap (0 + n) 0 * ti.bytes > 2 ^ 48 := by rw [htb, hnx]; omega
 have hch : (choose (.appendCap (0 + n) 0 e)).run P w = .ok M w1 := rfl;have hroom : (askRoom (M * ti1.bytes)).run P w1 = .ok () w1 := by
  unfold askRoom;split <;> rfl
 have hM : 0 + n ≤ M := Nat.le_add_right _ _;have hold : (Builtin.firstCells k 0 (.slice none 0 0)).run P w1 = .ok #[] w1 := by simp [Builtin.firstCells, pure]
 have hnk : ¬ n * k = 0 := by intro h; rcases Nat.mul_eq_zero.1 h with h | h <;> omega
 have hcells : #[] ++ Builtin.zeroCells zv.cells n ++ Builtin.zeroCells zv.cells (M - (0 + n)) = ((List.replicate M z).flatten).toArray := by
  apply Array.ext';simp only [Array.toList_append, vO hzc, List.nil_append];rw [fB]; congr 2; omega
 refine ⟨M, w1, by omega, rfl, ⟨rfl, rfl, rfl, Nat.le_refl _⟩, ?_⟩;simp only [Builtin.append_, List.getElem?_toArray, List.getElem?_cons_zero, List.getElem?_cons_succ];simp only [Sem.run_bind, run_underlying ht, Result.andThen_ok, run_sizeOf hsz, run_underlying hu, pure, Sem.run, if_true, asInt, asIntOf, hw];rw [if_neg hc0];simp only [Sem.run_bind, hti, Result.andThen_ok];rw [if_neg hcb];simp only [Sem.run_bind, Sem.run, Result.andThen_ok, Int.toNat_natCast];rw [if_neg (by omega : ¬ 0 + n ≤ 0)];simp only [Sem.run_bind, hti, Result.andThen_ok];rw [if_neg hc1];simp only [Sem.run_bind, hti, Result.andThen_ok];rw [if_neg hc2];simp only [Sem.run_bind, hch, Result.andThen_ok, hti1, hroom, hold, Bool.not_true, Bool.false_eq_true, if_false];rw [if_neg hnk];simp only [Sem.run_bind, hzr, Result.andThen_ok, Sem.run, wo, Nat.zero_add];rw [Nat.zero_add] at hcells;rw [hcells]
theorem sO {t u e ty : TypeId} {k n b : Nat} {z : List Value} {s x : Operand} (ht : P.underlying t = some (.slice e)) (hu : P.underlying u = some (.int .i64)) (hsz : sizeOf? P e = some k)
 (hzz : zero? P e = some z) (hbb : bytes? P e = some b) (hs : ev E s = .slice none 0 0) (hx : ev E x = .int .i64 (n : Int)) (hn : 0 < n) (hk : 0 < k) (hfit : n * b ≤ 140737488355328) (hnn : n ≤ 1099511627776)
 (h : ∀ c M, n ≤ M → K (Zf d (.slice (some ⟨c, 0, none⟩) n M) E) ([(c, .cells ((List.replicate M z).flatten).toArray e)] :: S)) :
 YO P r m d (.raw (.call { callee := .builtin .append, args := #[s, x], argTypes := #[t, u] }) ty) K E S := by
 intro op ty' pos af g hc hd;obtain ⟨rfl, rfl⟩ := Zl hc;refine Vu (by simp) hd fun F w hsat => ?_
 obtain ⟨M, w1, hM, hw1, hx1, hrun⟩ := Kl (ty := ty') (w := w) ht hu hsz hzz hbb hn hk hfit hnn;refine ⟨_, _, [(w1.heap.size, .cells ((List.replicate M z).flatten).toArray e)] :: S, ?_, hx1.trans (Ext.push w1 (.cells ((List.replicate M z).flatten).toArray e)), ?_, h _ _ hM⟩
 ·refine ZE rfl ?_;have : (#[s, x] : Array Operand).map (ev E) = #[.slice none 0 0, .int .i64 (n : Int)] := by simp [hs, hx]
  rw [this];simp [builtin, Sem.run_bind, hrun, Result.andThen, pure, Sem.run]
 ·have hs1 : Sat (S ++ F) w1 := ⟨Zq.nodup hsat, fun y hy => by rw [hw1]; exact Zq.at_ hsat y hy⟩
  exact Sat.new _ hs1
end Go.Xs