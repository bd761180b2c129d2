/- PackShares, plainly. -/
import Derived.Test.YtejmbmenbailmaaS1
import Derived.Test.YtejmbmenbailmaaPk
namespace Go.Proofs.Ytejmbmenbailmaa
open Go.Xs
open Enc (enc)

/-- a record of one name, to -/
structure One (n to : Bs) (t q : Int) (r : RR) : Prop where
  n : r.n = n
  t : r.t = t
  c : r.c = 1
  ok : dataOk r.t r.d = true
  nms : nmsR r = [to]
  siz : sizR r = q
theorem one_form {n to P Z : Bs} {t : Int} (hf : Form t (P ++ to ++ Z) P [to] Z) (hl : (P ++ to ++ Z).length ≤ 1000) : One n to t (6 + (P.length : Int) + (Z.length : Int)) ⟨n, t, 1, 0, P ++ to ++ Z⟩ := by
  obtain ⟨h1, h2⟩ := hf.ok hl
  refine ⟨rfl, rfl, rfl, h1, hf.cut hl, ?_⟩
  unfold sizR
  rw [h2, sumI_mk]
  simp only [List.length_append, List.flatten_cons, List.flatten_nil, List.length_cons, List.length_nil]
  push_cast
  omega
theorem one_ns {n to : Bs} (hv : vld to = true) : One n to 2 6 ⟨n, 2, 1, 0, to⟩ := by
  have h255 := vld_len hv
  have hf : Form 2 ([] ++ to ++ []) [] [to] [] := ⟨rfl, by simp, fun x hx => by rw [List.mem_singleton.1 hx]; exact hv⟩
  have := one_form (n := n) hf (by simp; omega)
  simpa using this
theorem ones {n to : Bs} {t q : Int} : ∀ {l : List RR}, (∀ r ∈ l, One n to t q r) → (l.map nmsR).flatten = List.replicate l.length to ∧ sumI (l.map sizR) = q * (l.length : Int)
  | [], _ => ⟨rfl, by show (0 : Int) = q * ((0 : Nat) : Int); simp⟩
  | r :: l, h => by
    obtain ⟨h1, h2⟩ := ones (l := l) fun x hx => h x (List.mem_cons_of_mem _ hx)
    have h3 := h r (by simp)
    refine ⟨?_, ?_⟩
    · rw [List.map_cons, List.flatten_cons, h3.nms, h1, List.length_cons, List.replicate_succ]; rfl
    · rw [List.map_cons, sumI_cons, h3.siz, h2, List.length_cons]
      push_cast
      rw [Int.mul_add]; omega
theorem sh_okz {n z to : Bs} {t q : Int} {l : List RR} (hn : vld n = true) (hz : vld z = true) (ht : 1 ≤ t ∧ t ≤ 65535) (hl : 1 ≤ l.length ∧ l.length ≤ 8) (hq : 0 ≤ q ∧ q ≤ 100) (h : ∀ r ∈ l, One n to t q r) :
    errS ⟨n, t, 0, z, l⟩ = 0 ∧ sizS ⟨n, t, 0, z, l⟩ = 16 + q * (l.length : Int) ∧ nmsS ⟨n, t, 0, z, l⟩ = n :: z :: List.replicate l.length to ∧ Sok ⟨n, t, 0, z, l⟩ := by
  obtain ⟨h1, h2⟩ := ones h
  have hnl := vld_len hn
  have htl := vld_len hz
  have h3 : l.all (rrOk ⟨n, t, 0, z, l⟩) = true := List.all_eq_true.2 fun r hr => by
    have a := h r hr
    have a4 := a.ok
    unfold rrOk sameN
    rw [a.t] at a4
    rw [a.n, a.c, a.t, a4]
    simp [hn]
  have hm : mayS ⟨n, t, 0, z, l⟩ = true := by
    unfold mayS
    simp only [hn, hz, h3, Bool.and_true, Bool.true_and]
    rw [decide_eq_true (show 1 ≤ t ∧ t ≤ 65535 ∧ (0 : Int) ≤ 0 ∧ (0 : Int) ≤ 2 from ⟨ht.1, ht.2, by decide, by decide⟩), decide_eq_true (show l.length ≤ 32 from by omega), decide_eq_true (show 0 < l.length from hl.1)]
    rfl
  have hsz : sizS ⟨n, t, 0, z, l⟩ = 16 + q * (l.length : Int) := by unfold sizS; rw [h2]
  have hql : q * (l.length : Int) ≤ 100 * 8 := Int.mul_le_mul hq.2 (by omega) (by omega) (by decide)
  refine ⟨?_, hsz, by unfold nmsS; rw [h1], ⟨by show n.length < _; omega, by show z.length < _; omega, by show l.length < _; omega, fun r hr => ?_⟩⟩
  · unfold errS
    rw [if_neg (by rw [hm]; decide), hsz, if_neg (by omega)]
  · have a := h r hr
    have := dataOk_len a.ok
    rw [a.n]
    exact ⟨by omega, by omega⟩
theorem costN_100 {k : Nat} (h : k ≤ 108) : costN k ≤ 128 := by
  unfold costN
  (repeat' split) <;> omega
theorem Al.has {L : List Nm} {n : Bs} : ∀ {ids : List Int} {ns : List Bs}, Al L ids ns → n ∈ ns → (byN L n).isSome = true
  | _, _, .cons ⟨e, he, _, h2⟩ t, hn => by
    rcases List.mem_cons.1 hn with rfl | hn
    · rw [← h2]; exact byN_of_mem he
    · exact t.has hn
theorem cost_small {z : Int} (h0 : 0 ≤ z) (h : z ≤ 120) : 0 ≤ cost z ∧ cost z ≤ 128 := by
  have h1 := costN_100 (k := z.toNat)
  unfold cost costN
  rw [if_neg (by omega)]
  (repeat' split) <;> omega
end Go.Proofs.Ytejmbmenbailmaa
