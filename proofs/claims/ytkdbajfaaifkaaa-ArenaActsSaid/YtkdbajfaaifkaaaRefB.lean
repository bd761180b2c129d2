/- The document's own arena (freshetref6) tells what the program's does. -/
import Derived.Test.YtkdbajfaaifkaaaRefA
namespace Go.Proofs.Ytkdbajfaaifkaaa
open Go.Xs
open Enc (enc)

def blk (i : Nat) : List (Option Bt) → List (Int × Bt)
  | [] => []
  | none :: l => blk (i + 1) l
  | some b :: l => ((i : Int) + 1, b) :: blk (i + 1) l
theorem blk_used : ∀ (D : List (Option Bt)) (i : Nat), ((blk i D).map fun x => costN x.2.length).sum = usedD D
  | [], _ => rfl
  | none :: l, i => by rw [usedD_cons, blk, blk_used l]; simp [wgt]
  | some b :: l, i => by rw [usedD_cons, blk, List.map_cons, List.sum_cons, blk_used l]; simp [wgt]
theorem blk_len : ∀ (D : List (Option Bt)) (i : Nat), (blk i D).length ≤ D.length
  | [], _ => Nat.le_refl _
  | none :: l, i => by rw [blk]; have := blk_len l (i + 1); simp; omega
  | some b :: l, i => by rw [blk]; have := blk_len l (i + 1); simp; omega
theorem blk_mem : ∀ (D : List (Option Bt)) (i : Nat) (e : Int × Bt), e ∈ blk i D → ∃ k : Nat, D[k]? = some (some e.2)
  | [], _, e, h => by cases h
  | none :: l, i, e, h => by
    obtain ⟨k, hk⟩ := blk_mem l (i + 1) e h
    exact ⟨k + 1, by simpa using hk⟩
  | some b :: l, i, e, h => by
    rcases List.mem_cons.1 h with rfl | h
    · exact ⟨0, rfl⟩
    · obtain ⟨k, hk⟩ := blk_mem l (i + 1) e h
      exact ⟨k + 1, by simpa using hk⟩
theorem blk_hlist : ∀ (D : List (Option Bt)) (i : Nat), hlist i D = (blk i D).map fun x => (x.1, (x.2.length : Int))
  | [], _ => rfl
  | none :: l, i => by rw [blk, hlist, blk_hlist l]
  | some b :: l, i => by rw [blk, hlist, blk_hlist l]; rfl
def fb (h : Int) : List (Int × Bt) → Option (Nat × Bt)
  | [] => none
  | x :: l => if x.1 = h then some (0, x.2) else (fb h l).map fun y => (y.1 + 1, y.2)
theorem rix_fb (h : Int) : ∀ L : List RB, (rix h L = none ∧ fb h (told L) = none) ∨ (∃ i x, rix h L = some i ∧ L[i]? = some x ∧ x.h = h ∧ fb h (told L) = some (i, x.b))
  | [] => .inl ⟨rfl, rfl⟩
  | x :: l => by
    by_cases hx : x.h = h
    · exact .inr ⟨0, x, by rw [rix, if_pos hx], rfl, hx, by show (if x.h = h then _ else _) = _; rw [if_pos hx]⟩
    · have e : fb h (told (x :: l)) = (fb h (told l)).map fun y => (y.1 + 1, y.2) := by show (if x.h = h then _ else _) = _; rw [if_neg hx]; rfl
      rcases rix_fb h l with ⟨h1, h2⟩ | ⟨i, y, h1, h2, h3, h4⟩
      · exact .inl ⟨by rw [rix, if_neg hx, h1]; rfl, by rw [e, h2]; rfl⟩
      · exact .inr ⟨i + 1, y, by rw [rix, if_neg hx, h1]; rfl, by simpa using h2, h3, by rw [e, h4]; rfl⟩
theorem fb_above : ∀ (D : List (Option Bt)) (i : Nat) (h : Int), h ≤ i → fb h (blk i D) = none
  | [], _, _, _ => rfl
  | none :: l, i, h, hh => by rw [blk]; exact fb_above l (i + 1) h (by omega)
  | some b :: l, i, h, hh => by
    rw [blk, fb, if_neg (by simp only; omega), fb_above l (i + 1) h (by omega)]; rfl
theorem blk_get : ∀ (D : List (Option Bt)) (i k : Nat), (fb ((i : Int) + k + 1) (blk i D)).map (·.2) = (D[k]?).join
  | [], i, k => by simp [blk, fb]
  | none :: l, i, 0 => by rw [blk, fb_above l (i + 1) _ (by omega)]; rfl
  | none :: l, i, k + 1 => by
    have := blk_get l (i + 1) k
    rw [blk, List.getElem?_cons_succ, ← this]
    congr 2; omega
  | some b :: l, i, 0 => by rw [blk, fb, if_pos (by simp)]; rfl
  | some b :: l, i, k + 1 => by
    have := blk_get l (i + 1) k
    rw [blk, fb, if_neg (by simp only; omega), List.getElem?_cons_succ, ← this, Option.map_map]
    have e : ((i : Int) + ((k + 1 : Nat) : Int) + 1) = (((i + 1 : Nat) : Int) + (k : Int) + 1) := by omega
    rw [e]; rfl
theorem blk_getB (D : List (Option Bt)) (h : Int) : (fb h (blk 0 D)).map (·.2) = getB D h := by
  by_cases h1 : 1 ≤ h
  · obtain ⟨k, rfl⟩ : ∃ k : Nat, h = (k : Int) + 1 := ⟨(h - 1).toNat, by omega⟩
    have := blk_get D 0 k
    rw [getB_idx, ← this]
    congr 2; omega
  · rw [fb_above D 0 h (by omega)]
    unfold getB; rw [if_neg h1]; rfl
theorem blk_set : ∀ (D : List (Option Bt)) (i : Nat) (h : Int) (j : Nat) (b : Bt), fb h (blk i D) = some (j, b) →
    ∃ k : Nat, h = (i : Int) + k + 1 ∧ D[k]? = some (some b) ∧ (∀ Y, blk i (D.set k (some Y)) = (blk i D).set j (h, Y)) ∧ blk i (D.set k none) = (blk i D).eraseIdx j
  | [], i, h, j, b, e => by cases e
  | none :: l, i, h, j, b, e => by
    rw [blk] at e
    obtain ⟨k, h1, h2, h3, h4⟩ := blk_set l (i + 1) h j b e
    exact ⟨k + 1, by omega, by simpa using h2, fun Y => by rw [List.set_cons_succ, blk, blk, h3], by rw [List.set_cons_succ, blk, blk, h4]⟩
  | some c :: l, i, h, j, b, e => by
    rw [blk, fb] at e
    split at e
    · next hx =>
      obtain ⟨rfl, rfl⟩ : 0 = j ∧ c = b := by have := Option.some.inj e; exact ⟨congrArg Prod.fst this, congrArg Prod.snd this⟩
      exact ⟨0, by simp only at hx; omega, rfl, fun Y => by rw [List.set_cons_zero, blk, blk, List.set_cons_zero]; simp only at hx; rw [hx], by rw [List.set_cons_zero, blk, blk]; rfl⟩
    · next hx =>
      cases hf : fb h (blk (i + 1) l) with
      | none => rw [hf] at e; cases e
      | some z =>
        obtain ⟨j2, b2⟩ := z
        rw [hf] at e
        obtain ⟨rfl, rfl⟩ : j2 + 1 = j ∧ b2 = b := by have := Option.some.inj e; exact ⟨congrArg Prod.fst this, congrArg Prod.snd this⟩
        obtain ⟨k, h1, h2, h3, h4⟩ := blk_set l (i + 1) h j2 b2 hf
        exact ⟨k + 1, by omega, by simpa using h2, fun Y => by rw [List.set_cons_succ, blk, blk, h3, List.set_cons_succ], by rw [List.set_cons_succ, blk, blk, h4, List.eraseIdx_cons_succ]⟩
theorem allocD_some (b : Bt) (l : List (Option Bt)) (m : Nat) : allocD (some b :: l) m = some b :: allocD l m := by
  have hp := hnd_pos l
  unfold allocD
  have e : hnd (some b :: l) = hnd l + 1 := rfl
  by_cases h : hnd l ≤ l.length
  · rw [if_pos (by rw [e]; simp; omega), if_pos h, e, show hnd l + 1 - 1 = (hnd l - 1) + 1 from by omega, List.set_cons_succ]
  · rw [if_neg (by rw [e]; simp; omega), if_neg h]; rfl
theorem blk_above : ∀ (D : List (Option Bt)) (i : Nat) (e : Int × Bt), e ∈ blk i D → (i : Int) + 1 ≤ e.1
  | [], _, e, h => by cases h
  | none :: l, i, e, h => by have := blk_above l (i + 1) e h; omega
  | some b :: l, i, e, h => by
    rcases List.mem_cons.1 h with rfl | h
    · simp
    · have := blk_above l (i + 1) e h; omega
theorem blk_alloc (m : Nat) : ∀ (D : List (Option Bt)) (i : Nat), (hnd D - 1 ≤ (blk i D).length) ∧ (∀ q e, q < hnd D - 1 → (blk i D)[q]? = some e → e.1 = (i : Int) + q + 1) ∧ (∀ e, (blk i D)[hnd D - 1]? = some e → e.1 ≠ (i : Int) + (hnd D - 1 : Nat) + 1) ∧
    blk i (allocD D m) = (blk i D).take (hnd D - 1) ++ ((i : Int) + (hnd D - 1 : Nat) + 1, zeros m) :: (blk i D).drop (hnd D - 1)
  | [], i => ⟨Nat.zero_le _, fun q e hq => by simp [hnd] at hq, fun e h => by simp [blk] at h, by simp [allocD, hnd, blk]⟩
  | none :: l, i => by
    refine ⟨Nat.zero_le _, fun q e hq => by simp [hnd] at hq, fun e h => ?_, by simp [allocD, hnd, blk]⟩
    have : e ∈ blk (i + 1) l := List.mem_of_getElem? h
    have := blk_above l (i + 1) e this
    simp [hnd]; omega
  | some b :: l, i => by
    obtain ⟨h0, h1, h2, h3⟩ := blk_alloc m l (i + 1)
    have hp := hnd_pos l
    have e1 : hnd (some b :: l) - 1 = (hnd l - 1) + 1 := by show hnd l + 1 - 1 = _; omega
    rw [e1, blk]
    refine ⟨by simp; omega, fun q e hq he => ?_, fun e he => ?_, ?_⟩
    · cases q with
      | zero => obtain rfl := Option.some.inj he; simp
      | succ q => have := h1 q e (by omega) (by simpa using he); omega
    · have := h2 e (by simpa using he); omega
    · rw [allocD_some, blk, h3, List.take_succ_cons, List.drop_succ_cons, List.cons_append]
      congr 3
      · congr 1; congr 1; omega
/-- what one knows of an arena's blocks -/
structure Dok (N : Nat) (D : List (Option Bt)) : Prop where
  used : usedD D ≤ N
  big : 1024 ≤ N ∧ N ≤ 1048576
  len : D.length * 16 ≤ N
  each : ∀ (i : Nat) (b : Bt), D[i]? = some (some b) → b.length ≤ 4096
theorem Ar.ok {ab N : Nat} {D : List (Option Bt)} {H : List Chunk} (h : Ar ab N D H) : Dok N D := by
  obtain ⟨h1, h2, h3, h4⟩ := h.used_le
  obtain ⟨bb, kv, HK, T, B, used, top, hI, rfl, hK, rfl⟩ := h
  refine ⟨h1, ⟨h2, h3⟩, h4, fun i b hb => ?_⟩
  unfold dof at hb
  rw [List.getElem?_map] at hb
  cases ht : T[i]? with
  | none => rw [ht] at hb; cases hb
  | some x =>
    cases x with
    | none => rw [ht] at hb; cases hb
    | some x =>
      rw [ht] at hb
      obtain rfl : x.2 = b := Option.some.inj (Option.some.inj hb)
      exact (hI.inn i x.1 x.2 ht).1

/-- the document's arena, as one piece of memory, beside what is read -/
def Rf (rb N : Nat) (D : List (Option Bt)) (S1 : Segs) (T : List Chunk) : Prop :=
  ∃ (kv : Value) (L : List RB) (HB : List Chunk), Slc 53 kv L HB ∧ told L = blk 0 D ∧ (∀ x ∈ L, Src S1 x.v x.b ∧ x.b.length ≤ x.c) ∧ T = rseg rb N kv ++ HB
theorem map_erase {α β : Type} (f : α → β) : ∀ (L : List α) (i : Nat), (L.eraseIdx i).map f = (L.map f).eraseIdx i
  | [], _ => rfl
  | a :: L, 0 => rfl
  | a :: L, i + 1 => by rw [List.eraseIdx_cons_succ, List.map_cons, map_erase f L i, List.map_cons, List.eraseIdx_cons_succ]
theorem slc_cap {α : Type} [Enc α] {ty : TypeId} {v : Value} {L : List α} {H : List Chunk} (h : Slc ty v L H) : ∀ a n c, v = .slice a n c → n ≤ c := by
  intro a n c e
  cases h with
  | nil => cases e; exact Nat.le_refl _
  | row _ => cases e; omega
theorem told_usedR (L : List RB) : usedR L = ((told L).map fun x => costN x.2.length).sum := by simp [usedR, told]; rfl
theorem told_ok {N : Nat} {D : List (Option Bt)} {L : List RB} (h : told L = blk 0 D) (hD : Dok N D) : RSm N L ∧ usedR L = usedD D ∧ ∀ x ∈ L, x.b.length ≤ 4096 := by
  have hl : L.length = (blk 0 D).length := by rw [← h]; simp [told]
  have hb := blk_len D 0
  have hu : usedR L = usedD D := by rw [told_usedR, h, blk_used]
  have hl2 := hD.len
  have hb2 := hD.big
  have he : ∀ x ∈ L, x.b.length ≤ 4096 := fun x hx => by
    have : (x.h, x.b) ∈ blk 0 D := by rw [← h]; exact List.mem_map.2 ⟨x, hx, rfl⟩
    obtain ⟨k, hk⟩ := blk_mem D 0 _ this
    exact hD.each k _ hk
  exact ⟨⟨by omega, by omega, he, by rw [hu]; exact hD.used⟩, hu, he⟩
theorem Rf.mono {rb N : Nat} {D : List (Option Bt)} {S1 S2 : Segs} {T : List Chunk} (h : Rf rb N D S1 T) (hs : ∀ s ∈ S1, s ∈ S2) : Rf rb N D S2 T := by
  obtain ⟨kv, L, HB, h1, h2, h3, h4⟩ := h
  exact ⟨kv, L, HB, h1, h2, fun x hx => ⟨(h3 x hx).1.mono hs, (h3 x hx).2⟩, h4⟩
theorem Junk.join2 {a b : List Chunk} {S1 : Segs} : Junk (a :: b :: S1) ((a ++ b) :: S1) := ⟨[], by simp⟩
theorem Tri.split2 {f : FuncId} {args : Array Value} {a b : List Chunk} {S0 : Segs} {R : Value → Segs → Prop} (h : Tri Try.prog f args (a :: b :: S0) R) : Tri Try.prog f args ((a ++ b) :: S0) R := h.perm (by simp)

theorem rdUsed {rb N : Nat} {D : List (Option Bt)} {S1 : Segs} {T : List Chunk} (hR : Rf rb N D S1 T) (hD : Dok N D) : Tri Try.prog 62 #[.pointer (some ⟨rb, 0, none⟩)] [T] (fun r S => r = .int .i64 (usedD D : Nat) ∧ S = [T]) := by
  obtain ⟨kv, L, HB, hL, ht, hS, rfl⟩ := hR
  obtain ⟨hs, hu, he⟩ := told_ok ht hD
  refine Tri.forget (Tri.split2 ((rfUsed (rb := rb) hL hs).mono fun r S h => ?_))
  obtain ⟨rfl, rfl⟩ := h
  exact ⟨_, Junk.join2, by rw [hu], rfl⟩
theorem rdLeft {rb N : Nat} {D : List (Option Bt)} {S1 : Segs} {T : List Chunk} (hR : Rf rb N D S1 T) (hD : Dok N D) : Tri Try.prog 27 #[.pointer (some ⟨rb, 0, none⟩)] [T] (fun r S => r = .int .i64 ((N - usedD D : Nat) : Int) ∧ S = [T]) := by
  obtain ⟨kv, L, HB, hL, ht, hS, rfl⟩ := hR
  obtain ⟨hs, hu, he⟩ := told_ok ht hD
  refine Tri.forget (Tri.split2 ((rfLeft (rb := rb) hL hs).mono fun r S h => ?_))
  obtain ⟨rfl, rfl⟩ := h
  exact ⟨_, Junk.join2, by rw [hu], rfl⟩
theorem rdFree {rb N : Nat} {D : List (Option Bt)} {S1 : Segs} {T : List Chunk} (hR : Rf rb N D S1 T) (hD : Dok N D) (h : Int) : Tri Try.prog 23 #[.pointer (some ⟨rb, 0, none⟩), .int .i64 h] [T] (fun r S => r = .int .i64 (freeR D h) ∧ ∃ T', Rf rb N (freeD D h) S1 T' ∧ S = [T']) := by
  obtain ⟨kv, L, HB, hL, ht, hS, rfl⟩ := hR
  obtain ⟨hs, hu, he⟩ := told_ok ht hD
  have hg := blk_getB D h
  refine Tri.forget (Tri.split2 ((rfFree (rb := rb) (N := (N : Int)) hL hs.len h).mono fun r S h => ?_))
  rcases h with ⟨h1, rfl, rfl⟩ | ⟨i, kv', HB', h1, rfl, hL', rfl⟩
  · rcases rix_fb h L with ⟨_, h2⟩ | ⟨i, x, h2, _⟩
    · rw [← ht, h2] at hg
      have hn : getB D h = none := hg.symm
      refine ⟨_, Junk.join2, by unfold freeR; rw [hn]; rfl, _, ⟨kv, L, HB, hL, ?_, hS, rfl⟩, rfl⟩
      unfold freeD; rw [hn]; exact ht
    · rw [h1] at h2; cases h2
  · rcases rix_fb h L with ⟨h2, _⟩ | ⟨j, x, h2, h3, h4, h5⟩
    · rw [h1] at h2; cases h2
    · rw [h1] at h2
      obtain rfl := Option.some.inj h2
      rw [ht] at h5
      obtain ⟨k, e1, e2, e3, e4⟩ := blk_set D 0 h i x.b h5
      rw [h5] at hg
      have hn : getB D h = some x.b := hg.symm
      refine ⟨_, Junk.join2, by unfold freeR; rw [hn]; rfl, _, ⟨kv', L.eraseIdx i, HB', hL', ?_, fun y hy => hS y ((List.eraseIdx_sublist L i).subset hy), rfl⟩, rfl⟩
      unfold freeD
      rw [hn, if_pos (show (some x.b).isSome = true from rfl), show (h - 1).toNat = k from by omega, e4, ← ht]
      unfold told
      exact (map_erase (fun x : RB => (x.h, x.b)) L i)
theorem rdAlloc {rb N : Nat} {D : List (Option Bt)} {S1 : Segs} {T : List Chunk} (hR : Rf rb N D S1 T) (hD : Dok N D) (n : Int) : Tri Try.prog 21 #[.pointer (some ⟨rb, 0, none⟩), .int .i64 n] [T] (fun r S =>
    (allocE N D n ≠ 0 ∧ r = .tuple #[.int .i64 0, .int .i64 (allocE N D n)] ∧ S = [T]) ∨ (allocE N D n = 0 ∧ ∃ (m : Nat) (T' x : List Chunk), n = m ∧ r = .tuple #[.int .i64 (hnd D : Nat), .int .i64 0] ∧ Rf rb N (allocD D m) (x :: S1) T' ∧ S = [x, T'])) := by
  obtain ⟨kv, L, HB, hL, ht, hS, rfl⟩ := hR
  obtain ⟨hs, hu, he⟩ := told_ok ht hD
  refine Tri.forget (Tri.split2 ((rfAlloc (rb := rb) hL hs n).mono fun r S h => ?_))
  rw [hu] at h
  rcases h with ⟨e, h1, h2, rfl, rfl⟩ | ⟨k, m, y, kv', HN, HB', rfl, hlead, hnext, hc0, hcu, rfl, hyh, hyb, hyc, hL', hyS, rfl⟩
  · have hE : allocE N D n = e := h2.symm
    exact ⟨_, Junk.join2, .inl ⟨by rw [hE]; exact h1, by rw [hE], rfl⟩⟩
  · have hE : allocE N D m = 0 := by unfold allocE; rw [if_neg hc0, if_neg hcu]
    obtain ⟨b0, b1, b2, b3⟩ := blk_alloc m D 0
    have hp := hnd_pos D
    have hget : ∀ (q : Nat) (x : RB), L[q]? = some x → (blk 0 D)[q]? = some (x.h, x.b) := fun q x hq => by rw [← ht]; unfold told; rw [List.getElem?_map, hq]; rfl
    have hll : L.length = (blk 0 D).length := by rw [← ht]; simp [told]
    have hkl := hlead.le
    have hk : k = hnd D - 1 := by
      rcases Nat.lt_trichotomy k (hnd D - 1) with h | h | h
      · have hlt : k < L.length := by omega
        have hxk : L[k]? = some L[k] := List.getElem?_eq_getElem hlt
        have := b1 k _ h (hget k _ hxk)
        have := hnext _ hxk
        simp only at *; omega
      · exact h
      · have hlt : hnd D - 1 < L.length := by omega
        have hxk : L[hnd D - 1]? = some L[hnd D - 1] := List.getElem?_eq_getElem hlt
        have := b2 _ (hget _ _ hxk)
        have := hlead.is _ _ h hxk
        simp only at *; omega
    refine ⟨[HN, rseg rb N kv' ++ HB'], ⟨[], by simp⟩, .inr ⟨hE, m, _, HN, rfl, ?_, ⟨kv', _, HB', hL', ?_, fun x hx => ?_, rfl⟩, rfl⟩⟩
    · rw [show k + 1 = hnd D from by omega]
    · rw [b3, ← ht, ← hk]
      unfold told
      rw [List.map_append, List.map_cons, List.map_take, List.map_drop, hyh, hyb]
      congr 3; omega
    · rcases List.mem_append.1 hx with hx | hx
      · have := hS x (List.mem_of_mem_take hx)
        exact ⟨this.1.mono fun s hs => List.mem_cons_of_mem _ hs, this.2⟩
      · rcases List.mem_cons.1 hx with rfl | hx
        · exact ⟨hyS.src List.mem_cons_self, by rw [hyb, hyc, zlen]; exact Nat.le_refl _⟩
        · have := hS x (List.mem_of_mem_drop hx)
          exact ⟨this.1.mono fun s hs => List.mem_cons_of_mem _ hs, this.2⟩
theorem rdRead {rb N : Nat} {D : List (Option Bt)} {S1 : Segs} {T : List Chunk} (hR : Rf rb N D S1 T) (hD : Dok N D) (h at_ n : Int) : Tri Try.prog 24 #[.pointer (some ⟨rb, 0, none⟩), .int .i64 h, .int .i64 at_, .int .i64 n] (T :: S1) (fun r S => ∃ v Ho, r = .tuple #[v, .int .i64 (partE D h at_ n)] ∧ Slc 5 v (readB D h at_ n) Ho ∧ S = Ho :: T :: S1) := by
  obtain ⟨kv, L, HB, hL, ht, hS, rfl⟩ := hR
  obtain ⟨hs, hu, he⟩ := told_ok ht hD
  have hg := blk_getB D h
  refine Tri.forget (Tri.split2 ((rfRead (rb := rb) (N := (N : Int)) hL hs.len (fun x hx => ⟨(hS x hx).1, (hS x hx).2, he x hx⟩) h at_ n).mono fun r S hh => ?_))
  have hx : ∀ (i : Nat) (x : RB), L[i]? = some x → rix h L = some i → getB D h = some x.b := fun i x h2 h1 => by
    rcases rix_fb h L with ⟨h3, _⟩ | ⟨j, y, h3, h4, h5, h6⟩
    · rw [h1] at h3; cases h3
    · rw [h1] at h3
      obtain rfl := Option.some.inj h3
      rw [h2] at h4
      obtain rfl := Option.some.inj h4
      rw [← ht, h6] at hg; exact hg.symm
  have hpe : ∀ (b : Bt), getB D h = some b → partE D h at_ n = readE b at_ n := fun b hb => by
    unfold partE readE
    rw [hb]
    simp only
    by_cases hc : at_ < 0 ∨ n < 0 ∨ (b.length : Int) < at_ ∨ (b.length : Int) - at_ < n
    · rw [if_pos hc, if_pos (by omega)]
    · rw [if_neg hc, if_neg (by omega)]
  rcases hh with ⟨h1, rfl, rfl⟩ | ⟨i, x, h1, h2, h3, rfl, rfl⟩ | ⟨i, x, v, Ho, h1, h2, h3, rfl, hv, rfl⟩
  · have hn : getB D h = none := by
      rcases rix_fb h L with ⟨_, h2⟩ | ⟨j, y, h3, _⟩
      · rw [← ht, h2] at hg; exact hg.symm
      · rw [h1] at h3; cases h3
    have hp : partE D h at_ n = 5 := by unfold partE; rw [hn]
    refine ⟨[] :: (rseg rb N kv ++ HB) :: S1, ⟨[], by simp⟩, _, [], by rw [hp], ?_, rfl⟩
    unfold readB; rw [hp, if_neg (by decide)]; exact .nil
  · have hp : partE D h at_ n = 1 := by rw [hpe _ (hx i x h1 h2), h3]
    refine ⟨[] :: (rseg rb N kv ++ HB) :: S1, ⟨[], by simp⟩, _, [], by rw [hp], ?_, rfl⟩
    unfold readB; rw [hp, if_neg (by decide)]; exact .nil
  · have hp : partE D h at_ n = 0 := by rw [hpe _ (hx i x h1 h2), h3]
    refine ⟨Ho :: (rseg rb N kv ++ HB) :: S1, ⟨[], by simp⟩, _, Ho, by rw [hp], ?_, rfl⟩
    unfold readB; rw [hp, if_pos rfl, hx i x h1 h2]; exact hv
theorem rdWrite {rb N : Nat} {D : List (Option Bt)} {S1 : Segs} {T : List Chunk} (hR : Rf rb N D S1 T) (hD : Dok N D) (h at_ : Int) {v : Value} {Y : Bt} (hY : Src S1 v Y) (hYl : Y.length ≤ maxLen) : Tri Try.prog 25 #[.pointer (some ⟨rb, 0, none⟩), .int .i64 h, .int .i64 at_, v] (T :: S1) (fun r S => r = .int .i64 (partE D h at_ (Y.length : Nat)) ∧ ∃ x T', Rf rb N (writeD D h at_ Y) (x :: S1) T' ∧ S = T' :: x :: S1) := by
  obtain ⟨kv, L, HB, hL, ht, hS, rfl⟩ := hR
  obtain ⟨hs, hu, he⟩ := told_ok ht hD
  have hg := blk_getB D h
  refine Tri.forget (Tri.split2 ((rfWrite (rb := rb) (N := (N : Int)) hL hs.len (fun x hx => ⟨(hS x hx).1, (hS x hx).2, he x hx⟩) h at_ hY hYl).mono fun r S hh => ?_))
  have hx : ∀ (i : Nat) (x : RB), L[i]? = some x → rix h L = some i → getB D h = some x.b ∧ x.h = h ∧ fb h (blk 0 D) = some (i, x.b) := fun i x h2 h1 => by
    rcases rix_fb h L with ⟨h3, _⟩ | ⟨j, y, h3, h4, h5, h6⟩
    · rw [h1] at h3; cases h3
    · rw [h1] at h3
      obtain rfl := Option.some.inj h3
      rw [h2] at h4
      obtain rfl := Option.some.inj h4
      rw [ht] at h6
      rw [h6] at hg; exact ⟨hg.symm, h5, h6⟩
  have hpe : ∀ (b : Bt), getB D h = some b → partE D h at_ (Y.length : Nat) = writeE b at_ Y.length := fun b hb => by
    unfold partE writeE
    rw [hb]
    simp only
    by_cases hc : at_ < 0 ∨ (b.length : Int) < at_ ∨ (b.length : Int) - at_ < (Y.length : Nat)
    · rw [if_pos hc, if_pos (by omega)]
    · rw [if_neg hc, if_neg (by omega)]
  have hkeep : Rf rb N D ([] :: S1) (rseg rb N kv ++ HB) := ⟨kv, L, HB, hL, ht, fun x hx => ⟨(hS x hx).1.mono fun s hs => List.mem_cons_of_mem _ hs, (hS x hx).2⟩, rfl⟩
  rcases hh with ⟨h1, rfl, rfl⟩ | ⟨i, x, h1, h2, h3, rfl, rfl⟩ | ⟨i, x, kv', HB', HN, a, c, h1, h2, h3, rfl, hL', hN, rfl⟩
  · have hn : getB D h = none := by
      rcases rix_fb h L with ⟨_, h2⟩ | ⟨j, y, h3, _⟩
      · rw [← ht, h2] at hg; exact hg.symm
      · rw [h1] at h3; cases h3
    have hp : partE D h at_ (Y.length : Nat) = 5 := by unfold partE; rw [hn]
    refine ⟨(rseg rb N kv ++ HB) :: [] :: S1, ⟨[], by simp⟩, by rw [hp], [], _, ?_, rfl⟩
    unfold writeD; rw [hp, if_neg (by decide)]; exact hkeep
  · have hp : partE D h at_ (Y.length : Nat) = 1 := by rw [hpe _ (hx i x h1 h2).1, h3]
    refine ⟨(rseg rb N kv ++ HB) :: [] :: S1, ⟨[], by simp⟩, by rw [hp], [], _, ?_, rfl⟩
    unfold writeD; rw [hp, if_neg (by decide)]; exact hkeep
  · obtain ⟨g1, g2, g3⟩ := hx i x h1 h2
    have hp : partE D h at_ (Y.length : Nat) = 0 := by rw [hpe _ g1, h3]
    obtain ⟨k, e1, e2, e3, e4⟩ := blk_set D 0 h i x.b g3
    refine ⟨(rseg rb N kv' ++ HB') :: HN :: S1, ⟨[], by simp⟩, by rw [hp], HN, _, ⟨kv', _, HB', hL', ?_, fun y hy => ?_, rfl⟩, rfl⟩
    · unfold writeD
      rw [hp, if_pos rfl, g1, show (h - 1).toNat = k from by omega]
      show _ = blk 0 (D.set k (some (spl x.b at_.toNat Y)))
      rw [e3, ← ht]
      unfold told
      rw [List.map_set, g2]
    · rcases List.mem_or_eq_of_mem_set hy with hy | rfl
      · exact ⟨(hS y hy).1.mono fun s hs => List.mem_cons_of_mem _ hs, (hS y hy).2⟩
      · refine ⟨hN.src List.mem_cons_self, ?_⟩
        exact slc_cap hN _ _ _ rfl
end Go.Proofs.Ytkdbajfaaifkaaa
