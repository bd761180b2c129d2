/- A law's arguments as lists, and that they read as they did. -/
import Derived.Test.YtkdbajfaaifkaaaClose
import Derived.ChangeStays
import Derived.RowKit
import Derived.OpenShut
namespace Go.Xs
open Go.ChangeShapes Go.WideShapes

section
variable {H : Type} {en : TypeId × Value → H} {P : Program} {W W' : World}

theorem Stays.sameAt (hl : Stays W W') {p : MemPlace} (hp : p.block < W.heap.size) : W.sameAt W' p := by
  cases p with
  | cell b off =>
    show W'.cell? _ = W.cell? _
    simp only [World.cell?, hl.same b hp]
  | map b => exact hl.same b hp

theorem trodAll_stays (hl : Stays W W') {T : TypeId → Prop} (K : Kids P T) (hsz : ∀ {t e : TypeId}, T t → P.underlying t = some (.slice e) → 0 < P.cellsOf e) :
    ∀ {ts : List TypeId} {vs : List Value} {ds : List (DataW H)} {ps : List MemPlace}, (∀ t ∈ ts, T t) → DataW.TrodAll en P W 0 (fun _ => true) true ts vs ds ps → (∀ p ∈ ps, p.block < W.heap.size) →
      ∀ sp : Nat → Bool, (∀ p ∈ ps, sp p.block = true) → DataW.TrodAll en P W' 0 sp true ts vs ds ps
  | [], _, _, _, _, h, _, sp, _ => by
    obtain ⟨rfl, rfl, rfl⟩ := trodAll_nil h
    rfl
  | t :: ts, _, _, _, hT, h, hlt, sp, hsp => by
    obtain ⟨v, vs1, d, ds1, a, b, rfl, rfl, rfl, ⟨fuel, h1⟩, h2⟩ := trodAll_cons h
    refine ⟨a, b, ⟨fuel, ?_⟩, ?_, rfl⟩
    · exact DataW.trod_stays K hsz (fun h => by cases h) (hT t (by simp)) h1 (fun p hp => hl.sameAt (hlt p (List.mem_append.2 (.inl hp)))) (fun p hp => hsp p (List.mem_append.2 (.inl hp)))
    · exact trodAll_stays hl K hsz (fun t ht => hT t (List.mem_cons_of_mem _ ht)) h2 (fun p hp => hlt p (List.mem_append.2 (.inr hp))) sp (fun p hp => hsp p (List.mem_append.2 (.inr hp)))

/-- the answer of a law -/
theorem Stays.law {f : Func} {s : ChangeSpec} {apart fresh handsOn again : Bool} {args : Array Value} {v : Value} {ds : List (DataW H)} {before : List MemPlace} (hl : Stays W W') {T : TypeId → Prop} (K : Kids P T)
    (hsz : ∀ {t e : TypeId}, T t → P.underlying t = some (.slice e) → 0 < P.cellsOf e) (hT : ∀ t ∈ f.params.toList, T t)
    (hW : DataW.Whole en P f.params.toList s.vars apart W args.toList ds [] before) (hv : s.vars = []) (ha : (s.fn H (ds ++ [])).args = ds) (hg : (s.fn H (ds ++ [])).vars = [])
    (hres : ∀ (b : Nat) (sp : Nat → Bool) (hd : Bool), DataW.TrodAll en P W' b sp hd f.resultTypes.toList (v.resultList f.resultTypes.size) (s.fn H (ds ++ [])).results [])
    (hok : ∀ (j : Nat) (t : TypeId) (r : Value), f.resultTypes[j]? = some t → (v.resultList f.resultTypes.size)[j]? = some r → Value.okWide P W' .any 0 t r) :
    s.post en P f apart fresh handsOn again W args v W' := by
  have hW' := hW
  have hlt : ∀ p ∈ before, p.block < W.heap.size := fun p hp => hW.lt p hp
  obtain ⟨p, q, hA, hV, rfl, hz, hn⟩ := hW
  have hq : q = [] := by
    rw [hv] at hV
    exact hV
  subst hq
  refine hl.post (pa := p) (pv := []) hW' hres (fun sp hsp => ?_) (fun sp _ => ?_) rfl hok
  · rw [ha]
    exact trodAll_stays hl K hsz hT hA (fun x hx => hlt x (by simpa using hx)) sp (fun x hx => hsp x (by simpa using hx))
  · rw [hg, hv]
    rfl

/-- a slice that is an argument may be read as a list -/
theorem open_src {α : Type} [Enc α] {Q : α → Prop} {t e : TypeId} {v : Value} {d : DataW H} {ps : List MemPlace} {sp : Nat → Bool} (ht : P.underlying t = some (.slice e)) (hc : P.cellsOf e = Enc.k α) (hk : 0 < Enc.k α)
    (hel : ∀ n cs x, DataW.trod en P W 0 sp true n e cs = some x → ∃ a : α, cs = Enc.enc a ∧ Q a)
    (hv : ∃ a len cap, v = .slice a len cap) (h : DataW.Trod en P W 0 sp true t v d ps) : ∃ L : List α, Src (heapS W) v L ∧ L.length ≤ maxLen ∧ ∀ a ∈ L, Q a := by
  obtain ⟨a0, l0, c0, rfl⟩ := hv
  obtain ⟨fuel, hf⟩ := h
  rcases DataW.trod_slice ht hf with ⟨hcs, _⟩ | ⟨a, len, cap, elems, rest, n, _, hcs, _, _, hl, hm, hlen, helm, hs1, hs2⟩
  · simp [Value.cells] at hcs
    obtain ⟨rfl, rfl, rfl⟩ := hcs
    exact ⟨[], .nil, Nat.zero_le _, by simp⟩
  simp [Value.cells] at hcs
  obtain ⟨rfl, rfl, rfl⟩ := hcs
  have each : ∀ i, i < l0 → ∃ x : α, W.cells? 0 (a.add (i * Enc.k α)) (Enc.k α) = some (Enc.enc x) ∧ Q x := by
    intro i hi
    have h1 := helm i hi
    rw [List.getElem?_eq_getElem (by omega), hc, Option.bind_eq_some_iff] at h1
    obtain ⟨cs, h2, h3⟩ := h1
    obtain ⟨x, rfl, hx⟩ := hel _ _ _ h3
    exact ⟨x, h2, hx⟩
  obtain ⟨L, hL, hcell, hQ⟩ : ∃ L : List α, L.length = l0 ∧ (∀ i (hi : i < L.length), W.cells? 0 (a.add (i * Enc.k α)) (Enc.k α) = some (Enc.enc L[i])) ∧ ∀ x ∈ L, Q x := by
    clear helm hs1 hs2 hlen hf hl
    induction l0 with
    | zero => exact ⟨[], rfl, by simp, by simp⟩
    | succ m ih =>
      obtain ⟨L, h1, h2, h3⟩ := ih (fun i hi => each i (by omega))
      obtain ⟨x, hx, hq⟩ := each m (by omega)
      refine ⟨L ++ [x], by simp [h1], fun i hi => ?_, fun y hy => ?_⟩
      · by_cases him : i < L.length
        · rw [List.getElem_append_left him]; exact h2 i him
        · have : i = m := by simp at hi; omega
          subst this
          rw [hx]; congr 2
          rw [List.getElem_append_right (by omega)]; simp [h1]
      · rcases List.mem_append.1 hy with hy | hy
        · exact h3 y hy
        · rw [List.mem_singleton.1 hy]; exact hq
  rcases Nat.eq_zero_or_pos l0 with h0 | h0
  · subst h0
    obtain rfl := List.length_eq_zero_iff.1 hL
    exact ⟨[], .nil, Nat.zero_le _, by simp⟩
  -- the row
  have hadd : ∀ i j, j < Enc.k α → (a.add (i * Enc.k α)).add j = a.add (i * Enc.k α + j) := by
    intro i j hj
    unfold Addr.add
    by_cases h1 : i * Enc.k α = 0
    · rw [if_pos h1, h1, Nat.zero_add]
    · rw [if_neg h1]
      by_cases h2 : j = 0
      · subst h2; simp [h1]
      · rw [if_neg h2, if_neg (by omega)]
        simp [Nat.add_assoc]
  have hget : ∀ i j (hi : i < L.length), j < Enc.k α → W.cell? (a.add (i * Enc.k α + j)) = (Enc.enc L[i])[j]? := by
    intro i j hi hj
    have := (World.cells?_some (hcell i hi)).2.2 j hj
    rw [hadd i j hj] at this
    exact this
  obtain ⟨b, o, s⟩ := a
  have h00 := hget 0 0 (by omega) hk
  simp only [Nat.zero_mul, Nat.add_zero, Addr.add, if_true] at h00
  have hsome : (Enc.enc L[0])[0]? = some ((Enc.enc L[0])[0]'(by rw [Enc.len]; exact hk)) := List.getElem?_eq_getElem _
  rw [hsome] at h00
  simp only [World.cell?] at h00
  split at h00
  · rename_i c ty fz hb
    have hs : s = none := by
      cases s with
      | none => rfl
      | some x => simp at h00
    subst hs
    refine ⟨L, ?_, by omega, hQ⟩
    rw [← hL]
    refine .part (ty := ty) (fz := fz) (c := c) (heapS_mem hb) ?_
    have hcl : ∀ i j (hi : i < L.length), j < Enc.k α → c.toList[o + (i * Enc.k α + j)]? = (cells L)[i * Enc.k α + j]? := by
      intro i j hi hj
      have h1 := hget i j hi hj
      rw [add_plain, cellOf hb] at h1
      rw [cells_get L i j hi hj, ← h1]
      simp
    have hcells : ∀ m, m < L.length * Enc.k α → c.toList[o + m]? = (cells L)[m]? := by
      intro m hm
      have h1 := hcl (m / Enc.k α) (m % Enc.k α) ((Nat.div_lt_iff_lt_mul hk).2 hm) (Nat.mod_lt _ hk)
      rwa [show m / Enc.k α * Enc.k α + m % Enc.k α = m from by rw [Nat.mul_comm]; exact Nat.div_add_mod m _] at h1
    apply List.ext_getElem?
    intro m
    by_cases hm : m < L.length * Enc.k α
    · rw [List.getElem?_take_of_lt hm, List.getElem?_drop]; exact hcells m hm
    · rw [List.getElem?_eq_none (by rw [List.length_take]; omega), List.getElem?_eq_none (by rw [cells_length]; omega)]
  · cases h00
end
end Go.Xs
