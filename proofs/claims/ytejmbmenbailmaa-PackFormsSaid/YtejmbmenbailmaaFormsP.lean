/- PackForms. -/
import Derived.Test.YtejmbmenbailmaaS1
namespace Go.Proofs.Ytejmbmenbailmaa
open Go.Xs
open Enc (enc)

theorem mayS_all {s : St} (h : mayS s = true) : ∀ r ∈ s.rrs, sameN r.n s.name = true ∧ r.t = s.typ ∧ r.c = 1 ∧ dataOk r.t r.d = true := fun r hr => by
  unfold mayS at h
  simp only [Bool.and_eq_true] at h
  have := List.all_eq_true.1 h.2 r hr
  unfold rrOk at this
  simp only [Bool.and_eq_true, decide_eq_true_eq] at this
  exact ⟨this.1.1.1, this.1.1.2, this.1.2, this.2⟩
theorem errS_no {s : St} (h : mayS s = true → False) : errS s = 1 := by
  cases hm : mayS s with
  | true => exact (h hm).elim
  | false => unfold errS; rw [if_pos hm]
abbrev na : Bs := [1, 97, 0]
/-- what a set of PackForms is -/
def FmOk (s : St) (w : Int) : Prop := Sok s ∧ ((w = 1 ∧ errS s = 1) ∨ (errS s = 0 ∧ ((w = 0 ∧ fits 1024 [] [] s) ∨ (w = 4 ∧ ¬ fits 1024 [] [] s))))
theorem sok_one {n z : Bs} {t k : Int} {l : List RR} (hn : n.length < 2 ^ 40) (hz : z.length < 2 ^ 40) (hl : l.length < 2 ^ 20) (h : ∀ r ∈ l, r.n.length < 2 ^ 40 ∧ r.d.length < 2 ^ 40) : Sok ⟨n, t, k, z, l⟩ := ⟨hn, hz, hl, h⟩
theorem one_rr {r : RR} {P : RR → Prop} (h : P r) : ∀ x ∈ [r], P x := fun x hx => by rw [List.mem_singleton.1 hx]; exact h
theorem sokO {n z : Bs} {t k : Int} {r : RR} (hn : n.length < 2 ^ 40) (hz : z.length < 2 ^ 40) (h1 : r.n.length < 2 ^ 40) (h2 : r.d.length < 2 ^ 40) : Sok ⟨n, t, k, z, [r]⟩ := ⟨hn, hz, by show 1 < 2 ^ 20; decide, one_rr (P := fun r => r.n.length < 2 ^ 40 ∧ r.d.length < 2 ^ 40) ⟨h1, h2⟩⟩
theorem fm0 : FmOk ⟨na, 1, 0, [0], []⟩ 1 := ⟨sok_one (by decide) (by decide) (by decide) (fun r hr => by simp at hr), .inl ⟨rfl, errS_no fun h => by
  have := (mayS_nums h).2.2.2.2.2.2.2.2 rfl
  exact absurd this (by decide)⟩⟩
section
variable {d : Bs} (hd : d.length = 4)
include hd
theorem fm1 : FmOk ⟨na, 1, 1, [0], [⟨na, 1, 1, 0, d⟩]⟩ 1 := ⟨sokO (by decide) (by decide) (by show (3 : Nat) < _; decide) (by show d.length < _; omega), .inl ⟨rfl, errS_no fun h => by
  have := (mayS_nums h).2.2.2.2.2.2.2.1 (by show 0 < 1; decide)
  exact absurd this (by show ¬ (1 : Int) = 0; decide)⟩⟩
theorem fm2 : FmOk ⟨na, 1, 0, [], [⟨na, 1, 1, 0, d⟩]⟩ 1 := ⟨sokO (by decide) (by decide) (by show (3 : Nat) < _; decide) (by show d.length < _; omega), .inl ⟨rfl, errS_no fun h => by
  have := (mayS_nums h).2.1
  exact absurd this (by show ¬ vld [] = true; decide +kernel)⟩⟩
theorem fm3 : FmOk ⟨na, 2, 0, [0], [⟨na, 1, 1, 0, d⟩]⟩ 1 := ⟨sokO (by decide) (by decide) (by show (3 : Nat) < _; decide) (by show d.length < _; omega), .inl ⟨rfl, errS_no fun h => by
  have := (mayS_all h _ List.mem_cons_self).2.1
  exact absurd this (by show ¬ (1 : Int) = 2; decide)⟩⟩
theorem fm4 : FmOk ⟨na, 1, 0, [0], [⟨na, 1, 3, 0, d⟩]⟩ 1 := ⟨sokO (by decide) (by decide) (by show (3 : Nat) < _; decide) (by show d.length < _; omega), .inl ⟨rfl, errS_no fun h => by
  have := (mayS_all h _ List.mem_cons_self).2.2.1
  exact absurd this (by show ¬ (3 : Int) = 1; decide)⟩⟩
theorem fm5 : FmOk ⟨na, 1, 0, [0], [⟨[1, 98, 0], 1, 1, 0, d⟩]⟩ 1 := ⟨sokO (by decide) (by decide) (by show (3 : Nat) < _; decide) (by show d.length < _; omega), .inl ⟨rfl, errS_no fun h => by
  have := (mayS_all h _ List.mem_cons_self).1
  exact absurd this (by show ¬ sameN [1, 98, 0] [1, 97, 0] = true; decide +kernel)⟩⟩
theorem dok1 : dataOk 1 d = true := by unfold dataOk; rw [if_neg (by omega), if_pos rfl, hd]; rfl
end
theorem cost64 : costL [] [] [na, [0]] = 64 := by decide +kernel
theorem nms_plain {l : List RR} (h : ∀ r ∈ l, prt r.t r.d = []) : (l.map nmsR).flatten = [] := by
  induction l with
  | nil => rfl
  | cons r l ih =>
    rw [List.map_cons, List.flatten_cons, ih fun x hx => h x (List.mem_cons_of_mem _ hx)]
    unfold nmsR
    rw [h r (by simp)]; rfl
theorem fits_plain {t : Int} {l : List RR} (hE : errS ⟨na, t, 0, [0], l⟩ = 0) (h : ∀ r ∈ l, prt r.t r.d = []) : fits 1024 [] [] ⟨na, t, 0, [0], l⟩ ↔ cost (sizS ⟨na, t, 0, [0], l⟩) + 64 ≤ 1024 := by
  have hn : nmsS ⟨na, t, 0, [0], l⟩ = [na, [0]] := by unfold nmsS; rw [nms_plain h]
  unfold fits costS
  rw [if_pos hE, hn, cost64]
  show (0 : Int) + (cost _ + 64) ≤ 1024 ↔ _
  omega
theorem siz_rep {d : Bs} (hd : d.length = 4) : ∀ (n : Nat), sumI ((List.replicate n (⟨na, 1, 1, 0, d⟩ : RR)).map sizR) = 6 * (n : Int)
  | 0 => rfl
  | n + 1 => by
    have h1 : sizR ⟨na, 1, 1, 0, d⟩ = 6 := by
      unfold sizR
      rw [prt_none (t := 1) rfl, hd]; rfl
    rw [List.replicate_succ, List.map_cons, sumI_cons, siz_rep hd n, h1]
    push_cast
    omega
theorem mayS_plain {t : Int} {l : List RR} (ht : 1 ≤ t ∧ t ≤ 65535) (hl : 1 ≤ l.length ∧ l.length ≤ 32) (h : ∀ r ∈ l, r.n = na ∧ r.t = t ∧ r.c = 1 ∧ dataOk r.t r.d = true) : mayS ⟨na, t, 0, [0], l⟩ = true := by
  have h1 : vld na = true := by decide +kernel
  have h2 : vld [0] = true := by decide +kernel
  have h3 : l.all (rrOk ⟨na, t, 0, [0], l⟩) = true := List.all_eq_true.2 fun r hr => by
    obtain ⟨a, b, c, e⟩ := h r hr
    unfold rrOk sameN
    rw [a, c, e, b]
    simp [h1]
  unfold mayS
  simp only [h1, h2, h3, Bool.and_true, Bool.true_and]
  rw [decide_eq_true (show 1 ≤ t ∧ t ≤ 65535 ∧ (0 : Int) ≤ 0 ∧ (0 : Int) ≤ 2 from ⟨ht.1, ht.2, by decide, by decide⟩), decide_eq_true hl.2, decide_eq_true (show 0 < l.length from hl.1)]
  rfl
theorem fm6 {d : Bs} (hd : d.length = 4) {n : Nat} (hn : n ≤ 40) : FmOk ⟨na, 1, 0, [0], List.replicate (1 + n) ⟨na, 1, 1, 0, d⟩⟩ (if n < 32 then 0 else 1) := by
  refine ⟨sok_one (by decide) (by decide) (by rw [List.length_replicate]; omega) (fun r hr => by rw [List.eq_of_mem_replicate hr]; exact ⟨by show (3 : Nat) < _; decide, by show d.length < _; omega⟩), ?_⟩
  split
  · next h32 =>
    have hm : mayS ⟨na, 1, 0, [0], List.replicate (1 + n) ⟨na, 1, 1, 0, d⟩⟩ = true := mayS_plain (by decide) (by rw [List.length_replicate]; omega) fun r hr => by rw [List.eq_of_mem_replicate hr]; exact ⟨rfl, rfl, rfl, dok1 hd⟩
    have hsz : sizS ⟨na, 1, 0, [0], List.replicate (1 + n) ⟨na, 1, 1, 0, d⟩⟩ = 16 + 6 * ((1 + n : Nat) : Int) := by unfold sizS; rw [siz_rep hd]
    have hE : errS ⟨na, 1, 0, [0], List.replicate (1 + n) ⟨na, 1, 1, 0, d⟩⟩ = 0 := by
      unfold errS
      rw [if_neg (by rw [hm]; decide), hsz, if_neg (by omega)]
    refine .inr ⟨hE, .inl ⟨rfl, (fits_plain hE fun r hr => by rw [List.eq_of_mem_replicate hr]; exact prt_none rfl).2 ?_⟩⟩
    rw [hsz]
    unfold cost costN
    rw [if_neg (by omega)]
    (repeat' split) <;> omega
  · next h32 =>
    refine .inl ⟨rfl, errS_no fun h => ?_⟩
    have := (mayS_nums h).2.2.2.2.2.2.1
    simp only [List.length_replicate] at this
    omega
theorem fm7 {n : Nat} (hn : n ≤ 40) : FmOk ⟨na, 99, 0, [0], [⟨na, 99, 1, 0, List.replicate (25 * n) 0⟩]⟩ (if 1024 < cost (18 + 25 * (n : Int)) + 64 then 4 else 0) := by
  have hdk : dataOk 99 (List.replicate (25 * n) 0) = true := by unfold dataOk; rw [if_neg (by rw [List.length_replicate]; omega)]; rfl
  have hm : mayS ⟨na, 99, 0, [0], [⟨na, 99, 1, 0, List.replicate (25 * n) 0⟩]⟩ = true := mayS_plain (by decide) (by show 1 ≤ 1 ∧ 1 ≤ 32; decide) fun r hr => by rw [List.mem_singleton.1 hr]; exact ⟨rfl, rfl, rfl, hdk⟩
  have hsz : sizS ⟨na, 99, 0, [0], [⟨na, 99, 1, 0, List.replicate (25 * n) 0⟩]⟩ = 18 + 25 * (n : Int) := by
    unfold sizS
    rw [List.map_cons, List.map_nil, sumI_cons]
    unfold sizR
    rw [prt_none (t := 99) rfl, List.length_replicate]
    show 16 + (2 + ((25 * n : Nat) : Int) + 0 + 0) = _
    push_cast
    omega
  have hE : errS ⟨na, 99, 0, [0], [⟨na, 99, 1, 0, List.replicate (25 * n) 0⟩]⟩ = 0 := by
    unfold errS
    rw [if_neg (by rw [hm]; decide), hsz, if_neg (by omega)]
  have hfp := fits_plain hE fun r hr => by rw [List.mem_singleton.1 hr]; exact prt_none rfl
  rw [hsz] at hfp
  refine ⟨sokO (by decide) (by decide) (by show (3 : Nat) < _; decide) (by show (List.replicate _ _).length < _; rw [List.length_replicate]; omega), .inr ⟨hE, ?_⟩⟩
  split
  · exact .inr ⟨rfl, fun h => by have := hfp.1 h; omega⟩
  · exact .inl ⟨rfl, hfp.2 (by omega)⟩
end Go.Proofs.Ytejmbmenbailmaa
