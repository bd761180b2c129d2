/- Lists changed by swaps alone: what sorting in place comes to. -/
import Derived.Test.YtkdbajfaaifkaaaSlices
namespace Go.Xs
/-- the order that a comparison speaks of -/
structure Wk {α : Type} (lt : α → α → Prop) : Prop where
  irr : ∀ a, ¬ lt a a
  asymm : ∀ a b, lt a b → ¬ lt b a
  tr : ∀ a b c, ¬ lt a b → ¬ lt b c → ¬ lt a c
section
variable {α : Type} [Inhabited α]
abbrev gt (L : List α) (i : Nat) : α := L.getD i default
theorem gt_eq {L : List α} {i : Nat} (h : i < L.length) : gt L i = L[i] := by
  unfold gt
  rw [List.getD_eq_getElem?_getD, List.getElem?_eq_getElem h]; rfl
theorem gt_some {L : List α} {i : Nat} (h : i < L.length) : L[i]? = some (gt L i) := by
  rw [gt_eq h, List.getElem?_eq_getElem h]
theorem gt_mem {L : List α} {i : Nat} (h : i < L.length) : gt L i ∈ L := by
  rw [gt_eq h]; exact List.getElem_mem h
theorem gt_set {L : List α} {i k : Nat} {x : α} (h : i < L.length) : gt (L.set i x) k = if k = i then x else gt L k := by
  unfold gt
  rw [List.getD_eq_getElem?_getD, List.getD_eq_getElem?_getD]
  by_cases hk : k = i
  · subst hk; rw [if_pos rfl, List.getElem?_set_self h]; rfl
  · rw [if_neg hk, List.getElem?_set_ne (fun e => hk e.symm)]
abbrev swp (L : List α) (i j : Nat) : List α := (L.set i (gt L j)).set j (gt L i)
theorem swp_len (L : List α) (i j : Nat) : (swp L i j).length = L.length := by simp [swp]
theorem gt_swp {L : List α} {i j k : Nat} (hi : i < L.length) (hj : j < L.length) : gt (swp L i j) k = if k = j then gt L i else if k = i then gt L j else gt L k := by
  unfold swp
  rw [gt_set (by simpa using hj), gt_set hi]
theorem swp_perm {L : List α} {i j : Nat} (hi : i < L.length) (hj : j < L.length) : (swp L i j).Perm L := by
  unfold swp
  rw [gt_eq hi, gt_eq hj]
  exact List.set_set_perm hi hj
/-- swaps within a range alone -/
inductive Sw (a b : Nat) (L : List α) : List α → Prop
  | refl : Sw a b L L
  | step {M : List α} {i j : Nat} : Sw a b L M → a ≤ i → i < b → a ≤ j → j < b → b ≤ L.length → Sw a b L (swp M i j)
theorem Sw.len {a b : Nat} {L M : List α} (h : Sw a b L M) : M.length = L.length := by
  induction h with
  | refl => rfl
  | step _ _ _ _ _ _ ih => rw [swp_len, ih]
theorem Sw.perm {a b : Nat} {L M : List α} (h : Sw a b L M) : M.Perm L := by
  induction h with
  | refl => exact .refl _
  | step h _ _ _ _ _ ih => exact (swp_perm (by rw [h.len]; omega) (by rw [h.len]; omega)).trans ih
theorem Sw.out {a b : Nat} {L M : List α} (h : Sw a b L M) {k : Nat} (hk : k < a ∨ b ≤ k) : gt M k = gt L k := by
  induction h with
  | refl => rfl
  | step h _ _ _ _ _ ih => rw [gt_swp (by rw [h.len]; omega) (by rw [h.len]; omega), if_neg (by omega), if_neg (by omega), ih]
theorem Sw.all {a b : Nat} {L M : List α} (h : Sw a b L M) {p : α → Prop} (hp : ∀ k, a ≤ k → k < b → p (gt L k)) : ∀ k, a ≤ k → k < b → p (gt M k) := by
  induction h with
  | refl => exact hp
  | step h hi hi' hj hj' _ ih =>
    intro k hk hk'
    rw [gt_swp (by rw [h.len]; omega) (by rw [h.len]; omega)]
    split
    · exact ih _ hi hi'
    · split
      · exact ih _ hj hj'
      · exact ih _ hk hk'
theorem Sw.mono {a b a' b' : Nat} {L M : List α} (h : Sw a' b' L M) (ha : a ≤ a') (hb : b' ≤ b) (hl : b ≤ L.length) : Sw a b L M := by
  induction h with
  | refl => exact .refl
  | step h _ _ _ _ _ ih => exact .step ih (by omega) (by omega) (by omega) (by omega) hl
theorem Sw.trans {a b : Nat} {L M N : List α} (h : Sw a b L M) (k : Sw a b M N) : Sw a b L N := by
  induction k with
  | refl => exact h
  | step _ h1 h2 h3 h4 h5 ih => exact .step ih h1 h2 h3 h4 (by rw [← h.len]; exact h5)
/-- in order between a and b -/
def So (lt : α → α → Prop) (a b : Nat) (L : List α) : Prop := ∀ i j, a ≤ i → i < j → j < b → ¬ lt (gt L j) (gt L i)
theorem So.of_adj {lt : α → α → Prop} (w : Wk lt) {a b : Nat} {L : List α} (h : ∀ i, a ≤ i → i + 1 < b → ¬ lt (gt L (i + 1)) (gt L i)) : So lt a b L := by
  intro i j ha hij hj
  induction j with
  | zero => omega
  | succ j ih =>
    by_cases hc : i = j
    · subst hc; exact h i ha hj
    · exact w.tr _ _ _ (h j (by omega) hj) (ih (by omega) (by omega))
theorem So.congr {lt : α → α → Prop} {a b : Nat} {L M : List α} (h : So lt a b L) (he : ∀ k, a ≤ k → k < b → gt M k = gt L k) : So lt a b M := by
  intro i j ha hij hj
  rw [he i (by omega) (by omega), he j (by omega) hj]
  exact h i j ha hij hj
/-- in order but for one, which is not above those behind it -/
structure So1 (lt : α → α → Prop) (a b j : Nat) (L : List α) : Prop where
  rest : ∀ k l, a ≤ k → k < l → l < b → k ≠ j → l ≠ j → ¬ lt (gt L l) (gt L k)
  fore : ∀ l, j < l → l < b → ¬ lt (gt L l) (gt L j)
theorem So1.start {lt : α → α → Prop} {a i : Nat} {L : List α} (h : So lt a i L) : So1 lt a (i + 1) i L :=
  ⟨fun k l hk hkl hl h1 h2 => h k l hk hkl (by omega), fun l h1 h2 => by omega⟩
theorem So1.step {lt : α → α → Prop} (w : Wk lt) {a b j : Nat} {L : List α} (h : So1 lt a b j L) (hj : a < j) (hjb : j < b) (hb : b ≤ L.length) (hlt : lt (gt L j) (gt L (j - 1))) : So1 lt a b (j - 1) (swp L j (j - 1)) := by
  have e : ∀ k, gt (swp L j (j - 1)) k = if k = j - 1 then gt L j else if k = j then gt L (j - 1) else gt L k := fun k => gt_swp (by omega) (by omega)
  refine ⟨fun k l hk hkl hl h1 h2 => ?_, fun l h1 h2 => ?_⟩
  · rw [e k, e l, if_neg h1, if_neg h2]
    by_cases hkj : k = j
    · rw [if_pos hkj, if_neg (by omega)]; exact h.rest (j - 1) l (by omega) (by omega) hl (by omega) (by omega)
    · rw [if_neg hkj]
      by_cases hlj : l = j
      · rw [if_pos hlj]; exact h.rest k (j - 1) hk (by omega) (by omega) hkj (by omega)
      · rw [if_neg hlj]; exact h.rest k l hk hkl hl hkj hlj
  · rw [e l, e (j - 1), if_pos rfl, if_neg (by omega)]
    by_cases hlj : l = j
    · rw [if_pos hlj]; exact w.asymm _ _ hlt
    · rw [if_neg hlj]; exact h.fore l (by omega) h2
theorem So1.stop {lt : α → α → Prop} (w : Wk lt) {a b j : Nat} {L : List α} (h : So1 lt a b j L) (_hj : a ≤ j) (hs : j = a ∨ ¬ lt (gt L j) (gt L (j - 1))) : So lt a b L := by
  intro k l hk hkl hl
  by_cases hkj : k = j
  · rw [hkj]; exact h.fore l (by omega) hl
  by_cases hlj : l = j
  · rw [hlj]
    rcases hs with hs | hs
    · omega
    · by_cases h1 : k = j - 1
      · rw [h1]; exact hs
      · exact w.tr _ _ _ hs (h.rest k (j - 1) hk (by omega) (by omega) hkj (by omega))
  · exact h.rest k l hk hkl hl hkj hlj
theorem So.snoc {lt : α → α → Prop} (w : Wk lt) {a i : Nat} {L : List α} (h : So lt a i L) (ha : a < i) (hs : ¬ lt (gt L i) (gt L (i - 1))) : So lt a (i + 1) L := by
  intro x y h1 h2 h3
  by_cases hy : y = i
  · rw [hy]
    by_cases hx : x = i - 1
    · rw [hx]; exact hs
    · exact w.tr _ _ _ hs (h x (i - 1) h1 (by omega) (by omega))
  · exact h x y h1 h2 (by omega)
theorem So.swapped {lt : α → α → Prop} {a i : Nat} {L : List α} (h : So lt a i L) (ha : a < i) (hi : i < L.length) : So1 lt a i (i - 1) (swp L i (i - 1)) := by
  have := So1.start (lt := lt) (a := a) (i := i - 1) (L := swp L i (i - 1)) (fun x y h1 h2 h3 => by
    rw [gt_swp (by omega) (by omega), gt_swp (by omega) (by omega), if_neg (by omega), if_neg (by omega), if_neg (by omega), if_neg (by omega)]
    exact h x y h1 h2 (by omega))
  rwa [show i - 1 + 1 = i from by omega] at this
/-! heaps -/
def Hp (lt : α → α → Prop) (first lo hi : Nat) (L : List α) : Prop := ∀ q c, lo ≤ q → (c = 2 * q + 1 ∨ c = 2 * q + 2) → c < hi → ¬ lt (gt L (first + q)) (gt L (first + c))
/-- a heap but for r -/
structure Hp1 (lt : α → α → Prop) (first lo hi r : Nat) (L : List α) : Prop where
  rest : ∀ q c, lo ≤ q → q ≠ r → (c = 2 * q + 1 ∨ c = 2 * q + 2) → c < hi → ¬ lt (gt L (first + q)) (gt L (first + c))
  fore : ∀ q c, lo ≤ q → (r = 2 * q + 1 ∨ r = 2 * q + 2) → (c = 2 * r + 1 ∨ c = 2 * r + 2) → c < hi → ¬ lt (gt L (first + q)) (gt L (first + c))
theorem Hp1.start {lt : α → α → Prop} {first lo hi : Nat} {L : List α} (h : Hp lt first (lo + 1) hi L) : Hp1 lt first lo hi lo L :=
  ⟨fun q c h1 h2 h3 h4 => h q c (by omega) h3 h4, fun q c h1 h2 _ _ => by omega⟩
theorem Hp1.step {lt : α → α → Prop} (w : Wk lt) {first lo hi r c : Nat} {L : List α} (h : Hp1 lt first lo hi r L) (_hr : lo ≤ r) (hc : c = 2 * r + 1 ∨ c = 2 * r + 2) (hch : c < hi) (hb : first + hi ≤ L.length)
    (hmax : ∀ c', (c' = 2 * r + 1 ∨ c' = 2 * r + 2) → c' < hi → ¬ lt (gt L (first + c)) (gt L (first + c'))) (hlt : lt (gt L (first + r)) (gt L (first + c))) : Hp1 lt first lo hi c (swp L (first + r) (first + c)) := by
  have e : ∀ k, gt (swp L (first + r) (first + c)) (first + k) = if k = c then gt L (first + r) else if k = r then gt L (first + c) else gt L (first + k) := by
    intro k
    rw [gt_swp (by omega) (by omega)]
    by_cases h1 : k = c
    · rw [if_pos (by omega), if_pos h1]
    · rw [if_neg (by omega), if_neg h1]
      by_cases h2 : k = r
      · rw [if_pos (by omega), if_pos h2]
      · rw [if_neg (by omega), if_neg h2]
  refine ⟨fun q d h1 h2 h3 h4 => ?_, fun q d h1 h2 h3 h4 => ?_⟩
  · rw [e q, e d, if_neg h2]
    by_cases hq : q = r
    · rw [if_pos hq]
      by_cases hd : d = c
      · rw [if_pos hd]; exact w.asymm _ _ hlt
      · rw [if_neg hd, if_neg (by omega)]; exact hmax d (by omega) h4
    · rw [if_neg hq]
      by_cases hd : d = c
      · omega
      · rw [if_neg hd]
        by_cases hd2 : d = r
        · rw [if_pos hd2]; exact h.fore q c h1 (by omega) hc hch
        · rw [if_neg hd2]; exact h.rest q d h1 hq h3 h4
  · have hq : q = r := by omega
    rw [e q, e d, if_neg (by omega), if_pos hq, if_neg (by omega), if_neg (by omega)]
    exact h.rest c d (by omega) (by omega) h3 h4
theorem Hp1.stop {lt : α → α → Prop} {first lo hi r : Nat} {L : List α} (h : Hp1 lt first lo hi r L) (hs : ∀ c, (c = 2 * r + 1 ∨ c = 2 * r + 2) → c < hi → ¬ lt (gt L (first + r)) (gt L (first + c))) : Hp lt first lo hi L := by
  intro q c h1 h2 h3
  by_cases hq : q = r
  · subst hq; exact hs c h2 h3
  · exact h.rest q c h1 hq h2 h3
theorem Hp.top {lt : α → α → Prop} (w : Wk lt) {first hi : Nat} {L : List α} (h : Hp lt first 0 hi L) : ∀ k, k < hi → ¬ lt (gt L first) (gt L (first + k)) := by
  intro k
  induction k using Nat.strongRecOn with
  | _ k ih =>
    intro hk
    by_cases h0 : k = 0
    · subst h0; exact w.irr _
    · obtain ⟨q, hq⟩ : ∃ q, k = 2 * q + 1 ∨ k = 2 * q + 2 := ⟨(k - 1) / 2, by omega⟩
      exact w.tr _ _ _ (ih q (by omega) (by omega)) (h q k (by omega) hq hk)
/-- what is popped off a heap -/
structure Pops (lt : α → α → Prop) (first hi i : Nat) (L : List α) : Prop where
  heap : Hp lt first 0 i L
  up : ∀ k l, k < l → i ≤ l → l < hi → ¬ lt (gt L (first + l)) (gt L (first + k))
theorem Pops.step {lt : α → α → Prop} (w : Wk lt) {first hi i : Nat} {L M : List α} (h : Pops lt first hi (i + 1) L) (hi' : i < hi) (hb : first + hi ≤ L.length) (hs : Sw first (first + i) (swp L first (first + i)) M) (hm : Hp lt first 0 i M) : Pops lt first hi i M := by
  have e : ∀ k, gt (swp L first (first + i)) k = if k = first + i then gt L first else if k = first then gt L (first + i) else gt L k := fun k => gt_swp (by omega) (by omega)
  refine ⟨hm, fun k l hkl hil hl => ?_⟩
  rw [hs.out (k := first + l) (by omega), e, if_neg (show ¬ first + l = first from by omega)]
  by_cases hc : l = i
  · subst hc
    rw [if_pos rfl]
    -- everything below is not above the old top
    refine hs.all (p := fun x => ¬ lt (gt L first) x) (fun q h1 h2 => ?_) (first + k) (by omega) (by omega)
    rw [e]
    split
    · exact w.irr _
    · split
      · exact h.heap.top w l (by omega)
      · obtain ⟨t, rfl⟩ : ∃ t, q = first + t := ⟨q - first, by omega⟩
        exact h.heap.top w t (by omega)
  · rw [if_neg (by omega)]
    by_cases hki : i ≤ k
    · rw [hs.out (k := first + k) (by omega), e]
      split
      · exact h.up 0 l (by omega) (by omega) hl
      · rw [if_neg (by omega)]; exact h.up k l hkl (by omega) hl
    · refine hs.all (p := fun x => ¬ lt (gt L (first + l)) x) (fun q h1 h2 => ?_) (first + k) (by omega) (by omega)
      rw [e]
      split
      · exact h.up 0 l (by omega) (by omega) hl
      · split
        · exact h.up i l (by omega) (by omega) hl
        · obtain ⟨t, rfl⟩ : ∃ t, q = first + t := ⟨q - first, by omega⟩
          exact h.up t l (by omega) (by omega) hl
theorem Pops.done {lt : α → α → Prop} {first hi : Nat} {L : List α} (h : Pops lt first hi 0 L) : So lt first (first + hi) L := by
  intro i j h1 h2 h3
  have := h.up (i - first) (j - first) (by omega) (by omega) (by omega)
  rwa [show first + (i - first) = i from by omega, show first + (j - first) = j from by omega] at this
/-- in order as far as what is outside of a' .. b' is concerned -/
def Ou (lt : α → α → Prop) (a b a' b' : Nat) (L : List α) : Prop := ∀ i j, a ≤ i → i < j → j < b → (i < a' ∨ b' ≤ j) → ¬ lt (gt L j) (gt L i)
theorem Ou.keep {lt : α → α → Prop} {a b a' b' : Nat} {L M : List α} (h : Ou lt a b a' b' L) (ha : a ≤ a') (hb : b' ≤ b) (hs : Sw a' b' L M) : Ou lt a b a' b' M := by
  intro i j h1 h2 h3 h4
  by_cases hi : a' ≤ i ∧ i < b'
  · have hj : b' ≤ j := by omega
    rw [hs.out (k := j) (.inr hj)]
    exact hs.all (p := fun x => ¬ lt (gt L j) x) (fun k hk hk' => h k j (by omega) (by omega) h3 (.inr hj)) i hi.1 hi.2
  · rw [hs.out (k := i) (by omega)]
    by_cases hj : a' ≤ j ∧ j < b'
    · exact hs.all (p := fun x => ¬ lt x (gt L i)) (fun k hk hk' => h i k h1 (by omega) (by omega) (.inl (by omega))) j hj.1 hj.2
    · rw [hs.out (k := j) (by omega)]; exact h i j h1 h2 h3 h4
theorem Ou.done {lt : α → α → Prop} {a b a' b' : Nat} {L : List α} (h : Ou lt a b a' b' L) (hs : So lt a' b' L) : So lt a b L := by
  intro i j h1 h2 h3
  by_cases hc : i < a' ∨ b' ≤ j
  · exact h i j h1 h2 h3 hc
  · exact hs i j (by omega) h2 (by omega)
/-! partitions -/
structure PI (lt : α → α → Prop) (a b i j : Nat) (N : List α) : Prop where
  lo : ∀ k, a < k → k < i → lt (gt N k) (gt N a)
  hi : ∀ k, j < k → k < b → ¬ lt (gt N k) (gt N a)
  ai : a + 1 ≤ i
  ij : i ≤ j + 1
  jb : j < b
theorem PI.start {lt : α → α → Prop} {a b : Nat} {N : List α} (h : a < b) : PI lt a b (a + 1) (b - 1) N :=
  ⟨fun k h1 h2 => by omega, fun k h1 h2 => by omega, by omega, by omega, by omega⟩
theorem PI.up {lt : α → α → Prop} {a b i j : Nat} {N : List α} (h : PI lt a b i j N) (hij : i ≤ j) (hl : lt (gt N i) (gt N a)) : PI lt a b (i + 1) j N := by
  refine ⟨fun k h1 h2 => ?_, h.hi, by have := h.ai; omega, by omega, h.jb⟩
  by_cases hk : k = i
  · rw [hk]; exact hl
  · exact h.lo k h1 (by omega)
theorem PI.dn {lt : α → α → Prop} {a b i j : Nat} {N : List α} (h : PI lt a b i j N) (hij : i ≤ j) (hl : ¬ lt (gt N j) (gt N a)) : PI lt a b i (j - 1) N := by
  refine ⟨h.lo, fun k h1 h2 => ?_, h.ai, by omega, by have := h.jb; omega⟩
  by_cases hk : k = j
  · rw [hk]; exact hl
  · exact h.hi k (by omega) h2
theorem PI.swap {lt : α → α → Prop} {a b i j : Nat} {N : List α} (h : PI lt a b i j N) (hij : i ≤ j) (hb : b ≤ N.length) (h1 : ¬ lt (gt N i) (gt N a)) (h2 : lt (gt N j) (gt N a)) : i < j ∧ PI lt a b (i + 1) (j - 1) (swp N i j) := by
  have hne : i ≠ j := fun e => by rw [e] at h1; exact h1 h2
  have hai := h.ai
  have hjb := h.jb
  refine ⟨by omega, fun k h3 h4 => ?_, fun k h3 h4 => ?_, by omega, by omega, by omega⟩
  · rw [gt_swp (by omega) (by omega), gt_swp (by omega) (by omega), if_neg (by omega), if_neg (show ¬ a = j from by omega), if_neg (show ¬ a = i from by omega)]
    split
    · exact h2
    · exact h.lo k h3 (by omega)
  · rw [gt_swp (by omega) (by omega), gt_swp (by omega) (by omega), if_neg (show ¬ a = j from by omega), if_neg (show ¬ a = i from by omega)]
    split
    · exact h1
    · rw [if_neg (by omega)]; exact h.hi k (by omega) h4
/-- data[mid] parts the range -/
structure Parted (lt : α → α → Prop) (a b mid : Nat) (M : List α) : Prop where
  am : a ≤ mid
  mb : mid < b
  lo : ∀ k, a ≤ k → k < mid → lt (gt M k) (gt M mid)
  hi : ∀ k, mid < k → k < b → ¬ lt (gt M k) (gt M mid)
theorem PI.done {lt : α → α → Prop} {a b i j : Nat} {N : List α} (h : PI lt a b i j N) (hij : ¬ i ≤ j) (hb : b ≤ N.length) : Parted lt a b j (swp N j a) := by
  have hai := h.ai
  have hjb := h.jb
  have hh := h.ij
  have e : gt (swp N j a) j = gt N a := by
    rw [gt_swp (by omega) (by omega)]
    split
    · next hc => rw [hc]
    · rw [if_pos rfl]
  refine ⟨by omega, hjb, fun k h3 h4 => ?_, fun k h3 h4 => ?_⟩
  · rw [e, gt_swp (by omega) (by omega)]
    split
    · exact h.lo j (by omega) (by omega)
    · rw [if_neg (by omega)]; exact h.lo k (by omega) (by omega)
  · rw [e, gt_swp (by omega) (by omega), if_neg (by omega), if_neg (by omega)]
    exact h.hi k h3 h4
structure PE (lt : α → α → Prop) (a b i j : Nat) (N : List α) : Prop where
  lo : ∀ k, a < k → k < i → ¬ lt (gt N a) (gt N k)
  hi : ∀ k, j < k → k < b → lt (gt N a) (gt N k)
  least : ∀ k, a ≤ k → k < b → ¬ lt (gt N k) (gt N a)
  ai : a + 1 ≤ i
  ij : i ≤ j + 1
  jb : j < b
theorem PE.start {lt : α → α → Prop} {a b p : Nat} {N : List α} (hp : a ≤ p) (hpb : p < b) (hb : b ≤ N.length) (hl : ∀ k, a ≤ k → k < b → ¬ lt (gt N k) (gt N p)) : PE lt a b (a + 1) (b - 1) (swp N a p) := by
  refine ⟨fun k h1 h2 => by omega, fun k h1 h2 => by omega, fun k h1 h2 => ?_, by omega, by omega, by omega⟩
  have e : gt (swp N a p) a = gt N p := by
    rw [gt_swp (by omega) (by omega)]
    split
    · next hc => rw [← hc]
    · rw [if_pos rfl]
  rw [e, gt_swp (by omega) (by omega)]
  split
  · exact hl a (by omega) (by omega)
  · split
    · exact hl p hp hpb
    · exact hl k h1 h2
theorem PE.up {lt : α → α → Prop} {a b i j : Nat} {N : List α} (h : PE lt a b i j N) (hij : i ≤ j) (hl : ¬ lt (gt N a) (gt N i)) : PE lt a b (i + 1) j N := by
  refine ⟨fun k h1 h2 => ?_, h.hi, h.least, by have := h.ai; omega, by omega, h.jb⟩
  by_cases hk : k = i
  · rw [hk]; exact hl
  · exact h.lo k h1 (by omega)
theorem PE.dn {lt : α → α → Prop} {a b i j : Nat} {N : List α} (h : PE lt a b i j N) (hij : i ≤ j) (hl : lt (gt N a) (gt N j)) : PE lt a b i (j - 1) N := by
  refine ⟨h.lo, fun k h1 h2 => ?_, h.least, h.ai, by omega, by have := h.jb; omega⟩
  by_cases hk : k = j
  · rw [hk]; exact hl
  · exact h.hi k (by omega) h2
theorem PE.swap {lt : α → α → Prop} {a b i j : Nat} {N : List α} (h : PE lt a b i j N) (hij : i ≤ j) (hb : b ≤ N.length) (h1 : lt (gt N a) (gt N i)) (h2 : ¬ lt (gt N a) (gt N j)) : i < j ∧ PE lt a b (i + 1) (j - 1) (swp N i j) := by
  have hne : i ≠ j := fun e => by rw [e] at h1; exact h2 h1
  have hai := h.ai
  have hjb := h.jb
  have ea : gt (swp N i j) a = gt N a := by rw [gt_swp (by omega) (by omega), if_neg (by omega), if_neg (by omega)]
  refine ⟨by omega, fun k h3 h4 => ?_, fun k h3 h4 => ?_, fun k h3 h4 => ?_, by omega, by omega, by omega⟩
  · rw [ea, gt_swp (by omega) (by omega), if_neg (by omega)]
    split
    · exact h2
    · exact h.lo k h3 (by omega)
  · rw [ea, gt_swp (by omega) (by omega)]
    split
    · exact h1
    · rw [if_neg (by omega)]; exact h.hi k (by omega) h4
  · rw [ea]
    exact (Sw.refl.step (M := N) (i := i) (j := j) (by omega) (by omega) (by omega) (by omega) hb : Sw a b N _).all (p := fun x => ¬ lt x (gt N a)) h.least k h3 h4
/-- the equal ones ahead of those above -/
structure Eqd (lt : α → α → Prop) (a b mid : Nat) (M : List α) : Prop where
  am : a < mid
  mb : mid ≤ b
  ord : ∀ i j, a ≤ i → i < j → j < b → i < mid → ¬ lt (gt M j) (gt M i)
theorem PE.done {lt : α → α → Prop} (w : Wk lt) {a b i j : Nat} {N : List α} (h : PE lt a b i j N) (hij : ¬ i ≤ j) : Eqd lt a b i N := by
  have hai := h.ai
  have hjb := h.jb
  have hh := h.ij
  have lo : ∀ k, a ≤ k → k < i → ¬ lt (gt N a) (gt N k) := fun k h1 h2 => by
    by_cases hk : k = a
    · rw [hk]; exact w.irr _
    · exact h.lo k (by omega) h2
  exact ⟨by omega, by omega, fun x y h1 h2 h3 h4 => w.tr _ _ _ (h.least y (by omega) h3) (lo x h1 h4)⟩
/-! the whole -/
structure PdI (lt : α → α → Prop) (a b : Nat) (M : List α) (a' b' : Nat) (N : List α) : Prop where
  sw : Sw a b M N
  ou : Ou lt a b a' b' N
  aa : a ≤ a'
  ab : a' ≤ b'
  bb : b' ≤ b
  pre : 0 < a' → ∀ i, a' ≤ i → i < b' → ¬ lt (gt N i) (gt N (a' - 1))
theorem PdI.keep {lt : α → α → Prop} {a b a' b' : Nat} {M N N' : List α} (h : PdI lt a b M a' b' N) (hs : Sw a' b' N N') (hb : b ≤ N.length) : PdI lt a b M a' b' N' := by
  refine ⟨h.sw.trans (hs.mono h.aa h.bb hb), h.ou.keep h.aa h.bb hs, h.aa, h.ab, h.bb, fun h0 => ?_⟩
  rw [hs.out (k := a' - 1) (by omega)]
  exact hs.all (p := fun x => ¬ lt x (gt N (a' - 1))) (h.pre h0)
theorem PdI.eqd {lt : α → α → Prop} {a b a' b' mid : Nat} {M N : List α} (h : PdI lt a b M a' b' N) (e : Eqd lt a' b' mid N) : PdI lt a b M mid b' N := by
  have h1 := e.am
  have h2 := e.mb
  refine ⟨h.sw, fun i j hi hij hj hc => ?_, by have := h.aa; omega, h2, h.bb, fun h0 i hi hi2 => e.ord (mid - 1) i (by omega) (by omega) hi2 (by omega)⟩
  by_cases hn : i < a' ∨ b' ≤ j
  · exact h.ou i j hi hij hj hn
  · exact e.ord i j (by omega) hij (by omega) (by omega)
theorem Parted.keepL {lt : α → α → Prop} {a b mid : Nat} {N N2 : List α} (h : Parted lt a b mid N) (hs : Sw a mid N N2) : Parted lt a b mid N2 := by
  refine ⟨h.am, h.mb, ?_, fun k h1 h2 => ?_⟩
  · rw [hs.out (k := mid) (by omega)]
    exact hs.all (p := fun x => lt x (gt N mid)) h.lo
  · rw [hs.out (k := mid) (by omega), hs.out (k := k) (by omega)]; exact h.hi k h1 h2
theorem Parted.keepR {lt : α → α → Prop} {a b mid : Nat} {N N2 : List α} (h : Parted lt a b mid N) (hs : Sw (mid + 1) b N N2) : Parted lt a b mid N2 := by
  refine ⟨h.am, h.mb, fun k h1 h2 => ?_, ?_⟩
  · rw [hs.out (k := mid) (by omega), hs.out (k := k) (by omega)]; exact h.lo k h1 h2
  · rw [hs.out (k := mid) (by omega)]
    intro k h1 h2
    exact hs.all (p := fun x => ¬ lt x (gt N mid)) (fun k h1 h2 => h.hi k (by omega) h2) k (by omega) h2
theorem Parted.across {lt : α → α → Prop} (w : Wk lt) {a b mid : Nat} {N : List α} (h : Parted lt a b mid N) {i j : Nat} (h1 : a ≤ i) (h2 : i ≤ mid) (h3 : mid ≤ j) (h4 : j < b) (hij : i < j) : ¬ lt (gt N j) (gt N i) := by
  by_cases hi : i = mid
  · rw [hi]; exact h.hi j (by omega) h4
  · have hl := w.asymm _ _ (h.lo i h1 (by omega))
    by_cases hj : j = mid
    · rw [hj]; exact hl
    · exact w.tr _ _ _ (h.hi j (by omega) h4) hl
theorem PdI.left {lt : α → α → Prop} (w : Wk lt) {a b a' b' mid : Nat} {M N N2 : List α} (h : PdI lt a b M a' b' N) (hp : Parted lt a' b' mid N) (hs : Sw a' mid N N2) (ho : So lt a' mid N2) (hb : b ≤ N.length) : PdI lt a b M (mid + 1) b' N2 := by
  have h1 := hp.am
  have h2 := hp.mb
  have hbb := h.bb
  have k2 := h.keep (hs.mono (Nat.le_refl _) (by omega) (by omega)) hb
  have hp2 := hp.keepL hs
  refine ⟨k2.sw, fun i j hi hij hj hc => ?_, by have := h.aa; omega, by omega, h.bb, fun _ i h3 h4 => hp2.hi i (by omega) h4⟩
  by_cases hn : i < a' ∨ b' ≤ j
  · exact k2.ou i j hi hij hj hn
  · by_cases hj2 : j < mid
    · exact ho i j (by omega) hij hj2
    · exact hp2.across w (by omega) (by omega) (by omega) (by omega) hij
theorem PdI.right {lt : α → α → Prop} (w : Wk lt) {a b a' b' mid : Nat} {M N N2 : List α} (h : PdI lt a b M a' b' N) (hp : Parted lt a' b' mid N) (hs : Sw (mid + 1) b' N N2) (ho : So lt (mid + 1) b' N2) (hb : b ≤ N.length) : PdI lt a b M a' mid N2 := by
  have h1 := hp.am
  have h2 := hp.mb
  have hbb := h.bb
  have k2 := h.keep (hs.mono (by omega) (Nat.le_refl _) (by omega)) hb
  have hp2 := hp.keepR hs
  refine ⟨k2.sw, fun i j hi hij hj hc => ?_, h.aa, h1, by omega, fun h0 i h3 h4 => k2.pre h0 i h3 (by omega)⟩
  by_cases hn : i < a' ∨ b' ≤ j
  · exact k2.ou i j hi hij hj hn
  · by_cases hi2 : mid < i
    · exact ho i j (by omega) hij (by omega)
    · exact hp2.across w (by omega) (by omega) (by omega) (by omega) hij
end
end Go.Xs
