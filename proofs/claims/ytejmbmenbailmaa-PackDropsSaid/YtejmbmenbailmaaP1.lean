/- Records (chapter 3), plainly: where names stand in data, and what data may be. Names added and dropped, one behind the other: how often each is used, and what they cost. Sets (chapter 8), plainly: what may be, its names, its size, its block's bytes. Names that live: each is used as often as numbers of it are held; arenas that are alike. A set's block (chapter 8), plainly: data with names in other letters, or with numbers in their places. Parts of strings, strings put together, as lists of bytes. Records (chapter 3): what data may be, and its names. A range over the names in data. -/
import Derived.Test.YtejmbmenbailmaaN1
import Derived.Test.YtejmbmenbailmaaI1
import Derived.Test.YtejmbmenbailmaaFPack
namespace Go.Proofs.Ytejmbmenbailmaa
open Go.Xs
open Enc (enc)

/-! ### what a text begins with -/
theorem ldF_bd : ∀ (f : Nat) (Y : Bs) (a n : Nat), ldF f Y a = (n, true) → a < n ∧ n ≤ Y.length
  | 0, _, _, _, h => by simp [ldF] at h
  | f + 1, Y, a, n, h => by
    unfold ldF at h
    cases hy : Y[a]? with
    | none => rw [hy] at h; simp at h
    | some b =>
      have hlt := (List.getElem?_eq_some_iff.1 hy).1
      rw [hy] at h
      simp only at h
      split at h
      · simp at h
      · split at h
        · obtain rfl : a + 1 = n := (Prod.mk.inj h).1
          omega
        · split at h
          · simp at h
          · have := ldF_bd f Y _ n h
            omega
theorem ldF_take : ∀ (f : Nat) (Y : Bs) (a n m : Nat), ldF f Y a = (n, true) → n ≤ m → ldF f (Y.take m) a = (n, true)
  | 0, _, _, _, _, h, _ => by simp [ldF] at h
  | f + 1, Y, a, n, m, h, hm => by
    have hb := ldF_bd (f + 1) Y a n h
    have hg : (Y.take m)[a]? = Y[a]? := List.getElem?_take_of_lt (by omega)
    unfold ldF at h ⊢
    rw [hg]
    cases hy : Y[a]? with
    | none => rw [hy] at h; simp at h
    | some b =>
      rw [hy] at h
      simp only at h ⊢
      split at h
      · simp at h
      · next h0 =>
        rw [if_neg h0]
        split at h
        · next h1 => rw [if_pos h1]; exact h
        · next h1 =>
          rw [if_neg h1]
          split at h
          · simp at h
          · next h2 => rw [if_neg h2]; exact ldF_take f Y _ n m h hm
theorem ldF_untake : ∀ (f : Nat) (Y : Bs) (a n m : Nat), ldF f (Y.take m) a = (n, true) → ldF f Y a = (n, true)
  | 0, _, _, _, _, h => by simp [ldF] at h
  | f + 1, Y, a, n, m, h => by
    have hb := ldF_bd (f + 1) _ a n h
    have hg : (Y.take m)[a]? = Y[a]? := List.getElem?_take_of_lt (by have := List.length_take_le m Y; omega)
    unfold ldF at h ⊢
    rw [hg] at h
    cases hy : Y[a]? with
    | none => rw [hy] at h; simp at h
    | some b =>
      rw [hy] at h
      simp only at h ⊢
      split at h
      · simp at h
      · next h0 =>
        rw [if_neg h0]
        split at h
        · next h1 => rw [if_pos h1]; exact h
        · next h1 =>
          rw [if_neg h1]
          split at h
          · simp at h
          · next h2 => rw [if_neg h2]; exact ldF_untake f Y _ n m h
/-- a text begins with a name of n bytes: its first n bytes are one -/
theorem lead_iff {Y : Bs} {n : Nat} : lead Y = (n, true) ↔ n ≤ Y.length ∧ vld (Y.take n) = true := by
  unfold vld lead
  constructor
  · intro h
    have hb := ldF_bd _ _ _ _ h
    rw [ldF_take _ _ _ _ n h (Nat.le_refl _), List.length_take, Nat.min_eq_left hb.2]
    exact ⟨hb.2, by simp⟩
  · rintro ⟨h1, h2⟩
    rw [Bool.and_eq_true] at h2
    have hlen : (Y.take n).length = n := by rw [List.length_take]; omega
    have h3 : (ldF 256 (Y.take n) 0).1 = n := by have := h2.2; rw [hlen] at this; simpa using this
    exact ldF_untake 256 Y 0 n n (Prod.ext h3 h2.1)
theorem lead_pos {Y : Bs} {n : Nat} (h : lead Y = (n, true)) : 1 ≤ n ∧ n ≤ 255 ∧ n ≤ Y.length := by
  have hb := ldF_bd _ _ _ _ h
  have := ldF_le 256 Y 0
  unfold lead at h
  rw [h] at this
  exact ⟨by omega, this, hb.2⟩
/-- ahead of anything -/
theorem lead_app {Y Z : Bs} (h : vld Y = true) : lead (Y ++ Z) = (Y.length, true) := lead_iff.2 ⟨by simp, by rw [List.take_left]; exact h⟩

/-! ### where names stand -/
structure Pl where
  at_ : Nat
  n : Nat
instance : Enc Pl := ⟨fun x => [.int .i64 (x.at_ : Int), .int .i64 (x.n : Int)], 2, fun _ => rfl, fun _ => rfl⟩
def shapeR (t : Int) : Option (Nat × Nat × Nat) := if t = 2 ∨ t = 5 ∨ t = 12 then some (0, 1, 0) else if t = 15 then some (2, 1, 0) else if t = 33 then some (6, 1, 0) else if t = 6 then some (0, 2, 20) else none
/-- names, one behind the other -/
def plc (d : Bs) : Nat → Nat → Option (List Pl × Nat)
  | 0, a => some ([], a)
  | k + 1, a => if (lead (d.drop a)).2 = true then (plc d k (a + (lead (d.drop a)).1)).map fun x => (⟨a, (lead (d.drop a)).1⟩ :: x.1, x.2) else none
def pls (t : Int) (d : Bs) : Option (List Pl) := match shapeR t with
  | none => some []
  | some (a, k, b) => if d.length < a then none else match plc d k a with
    | some (l, e) => if d.length = e + b then some l else none
    | none => none
/-- texts -/
def txF : Nat → Bs → Nat → Bool
  | 0, _, _ => false
  | f + 1, d, a => match d[a]? with
    | some b => txF f d (a + 1 + b.toNat)
    | none => a == d.length
def txt (d : Bs) : Bool := d != [] && txF (d.length + 1) d 0
def dataOk (t : Int) (d : Bs) : Bool := if 1000 < d.length then false else if t = 1 then d.length == 4 else if t = 28 then d.length == 16 else if t = 16 then txt d else (pls t d).isSome
def prt (t : Int) (d : Bs) : List Pl := if dataOk t d = true then (pls t d).getD [] else []
theorem plc_le {d : Bs} : ∀ {k a : Nat} {l : List Pl} {e : Nat}, plc d k a = some (l, e) → a ≤ d.length → e ≤ d.length ∧ a ≤ e ∧ l.length = k
  | 0, a, l, e, h, ha => by
    obtain ⟨rfl, rfl⟩ := Prod.mk.inj (Option.some.inj h)
    exact ⟨ha, Nat.le_refl _, rfl⟩
  | k + 1, a, l, e, h, ha => by
    unfold plc at h
    split at h
    · next h2 =>
      have hl : lead (d.drop a) = ((lead (d.drop a)).1, true) := by rw [← h2]
      have hp := lead_pos hl
      rw [List.length_drop] at hp
      cases hx : plc d k (a + (lead (d.drop a)).1) with
      | none => rw [hx] at h; cases h
      | some x =>
        obtain ⟨l2, e2⟩ := x
        rw [hx] at h
        obtain ⟨rfl, rfl⟩ := Prod.mk.inj (Option.some.inj h)
        have := plc_le hx (by omega)
        exact ⟨this.1, by omega, by simp [this.2.2]⟩
    · cases h
/-- places, one behind the other, from a on -/
def Row (d : Bs) : Nat → List Pl → Prop
  | a, [] => a ≤ d.length
  | a, p :: l => p.at_ = a ∧ lead (d.drop a) = (p.n, true) ∧ Row d (a + p.n) l
theorem plc_row {d : Bs} : ∀ {k a : Nat} {l : List Pl} {e : Nat}, plc d k a = some (l, e) → a ≤ d.length → Row d a l
  | 0, a, l, e, h, ha => by
    obtain ⟨rfl, rfl⟩ := Prod.mk.inj (Option.some.inj h)
    exact ha
  | k + 1, a, l, e, h, ha => by
    unfold plc at h
    split at h
    · next h2 =>
      have hl : lead (d.drop a) = ((lead (d.drop a)).1, true) := by rw [← h2]
      have hp := lead_pos hl
      rw [List.length_drop] at hp
      cases hx : plc d k (a + (lead (d.drop a)).1) with
      | none => rw [hx] at h; cases h
      | some x =>
        obtain ⟨l2, e2⟩ := x
        rw [hx] at h
        obtain ⟨rfl, rfl⟩ := Prod.mk.inj (Option.some.inj h)
        exact ⟨rfl, hl, plc_row hx (show a + (lead (d.drop a)).1 ≤ d.length from by omega)⟩
    · cases h
theorem pls_row {t : Int} {d : Bs} {l : List Pl} (h : pls t d = some l) : l = [] ∨ ∃ a k b e, shapeR t = some (a, k, b) ∧ a ≤ d.length ∧ plc d k a = some (l, e) ∧ d.length = e + b := by
  unfold pls at h
  split at h
  · exact .inl (Option.some.inj h).symm
  · next a k b hs =>
    split at h
    · cases h
    · split at h
      · next l2 e hp =>
        split at h
        · next he =>
          obtain rfl := Option.some.inj h
          exact .inr ⟨a, k, b, e, hs, by omega, hp, he⟩
        · cases h
      · cases h
theorem shapeR_not' {t : Int} {x : Nat × Nat × Nat} (h : shapeR t = some x) : t ≠ 1 ∧ t ≠ 28 ∧ t ≠ 16 := by
  unfold shapeR at h
  refine ⟨fun e => ?_, fun e => ?_, fun e => ?_⟩ <;> (subst e; simp at h)
theorem shapeR_le {t : Int} {x : Nat × Nat × Nat} (h : shapeR t = some x) : x.1 ≤ 6 ∧ x.2.1 ≤ 2 ∧ x.2.2 ≤ 20 := by
  unfold shapeR at h
  split at h
  · obtain rfl := Option.some.inj h; decide
  · split at h
    · obtain rfl := Option.some.inj h; decide
    · split at h
      · obtain rfl := Option.some.inj h; decide
      · split at h
        · obtain rfl := Option.some.inj h; decide
        · cases h
theorem pls_len {t : Int} {d : Bs} {l : List Pl} (h : pls t d = some l) : l.length ≤ 2 := by
  rcases pls_row h with rfl | ⟨a, k, b, e, hs, ha, hp, _⟩
  · exact Nat.zero_le _
  · have h1 := (shapeR_le hs).2.1
    have h2 := (plc_le hp ha).2.2
    simp only at h1
    omega
end Go.Proofs.Ytejmbmenbailmaa
namespace Go.Proofs.Ytejmbmenbailmaa
open Go.Xs
open Enc (enc)

/-! ### Drop, and one use more, step by step -/
def drp : List Nm → Int → List Nm
  | [], _ => []
  | e :: l, i => if e.id = i then (if e.u = 1 then l else ⟨e.id, e.n, e.u - 1⟩ :: l) else e :: drp l i
def inc : List Nm → Int → List Nm
  | [], _ => []
  | e :: l, i => if e.id = i then ⟨e.id, e.n, e.u + 1⟩ :: l else e :: inc l i
theorem dropL_drp : ∀ (L : List Nm) (i : Int), dropL L i = drp L i
  | [], _ => rfl
  | e :: l, i => by
    have ih := dropL_drp l i
    unfold dropL at ih ⊢
    unfold drp nixI
    by_cases h : e.id = i
    · rw [if_pos h, if_pos h]
      simp only [List.getElem?_cons_zero, List.eraseIdx_cons_zero]
      unfold reuse
      rw [List.set_cons_zero]
    · rw [if_neg h, if_neg h, ← ih]
      cases hx : nixI i l with
      | none => rfl
      | some k =>
        obtain ⟨x, h1, _⟩ := nixI_at hx
        simp only [Option.map_some, List.getElem?_cons_succ, h1, List.eraseIdx_cons_succ]
        unfold reuse
        rw [List.set_cons_succ]
        split <;> rfl
theorem reuse_inc : ∀ {L : List Nm} {j : Nat} {e : Nm}, (L.map (·.id)).Nodup → L[j]? = some e → reuse L j e (e.u + 1) = inc L e.id
  | [], _, _, _, h => by simp at h
  | x :: l, 0, e, _, h => by
    obtain rfl : x = e := by simpa using h
    unfold inc reuse
    rw [if_pos rfl, List.set_cons_zero]
  | x :: l, j + 1, e, hd, h => by
    rw [List.map_cons, List.nodup_cons] at hd
    have hl : l[j]? = some e := by simpa using h
    have hne : x.id ≠ e.id := fun h2 => hd.1 (h2 ▸ List.mem_map.2 ⟨e, List.mem_of_getElem? hl, rfl⟩)
    have ih := reuse_inc hd.2 hl
    unfold reuse at ih ⊢
    unfold inc
    rw [if_neg hne, List.set_cons_succ, ih]

/-! ### a list of names, each used so often more -/
def bmp : List Nm → (Int → Nat) → List Nm
  | [], _ => []
  | e :: l, c => if e.u + c e.id = 0 then bmp l c else ⟨e.id, e.n, e.u + c e.id⟩ :: bmp l c
theorem bmp_cons (e : Nm) (l : List Nm) (c : Int → Nat) : bmp (e :: l) c = if e.u + c e.id = 0 then bmp l c else ⟨e.id, e.n, e.u + c e.id⟩ :: bmp l c := rfl
theorem bmp_congr : ∀ {L : List Nm} {c c' : Int → Nat}, (∀ e ∈ L, c e.id = c' e.id) → bmp L c = bmp L c'
  | [], _, _, _ => rfl
  | e :: l, c, c', h => by
    unfold bmp
    rw [h e (by simp), bmp_congr fun x hx => h x (List.mem_cons_of_mem _ hx)]
theorem bmp_append (c : Int → Nat) : ∀ (L M : List Nm), bmp (L ++ M) c = bmp L c ++ bmp M c
  | [], _ => rfl
  | e :: l, M => by
    rw [List.cons_append, bmp_cons, bmp_cons, bmp_append c l M]
    split
    · rfl
    · rfl
theorem bmp_pos : ∀ {L : List Nm}, Pos L → bmp L (fun _ => 0) = L
  | [], _ => rfl
  | e :: l, h => by
    unfold bmp
    have := h e (by simp)
    rw [if_neg (by omega), bmp_pos fun x hx => h x (List.mem_cons_of_mem _ hx)]
    rfl
theorem bmp_none : ∀ {L : List Nm} {c : Int → Nat}, (∀ e ∈ L, e.u + c e.id = 0) → bmp L c = []
  | [], _, _ => rfl
  | e :: l, c, h => by
    unfold bmp
    rw [if_pos (h e (by simp))]
    exact bmp_none fun x hx => h x (List.mem_cons_of_mem _ hx)
theorem bmp_mem : ∀ {L : List Nm} {c : Int → Nat} {x : Nm}, x ∈ bmp L c ↔ ∃ e ∈ L, x = ⟨e.id, e.n, e.u + c e.id⟩ ∧ x.u ≠ 0
  | [], c, x => by unfold bmp; simp
  | e :: l, c, x => by
    unfold bmp
    split
    · next h0 =>
      rw [bmp_mem]
      constructor
      · rintro ⟨y, hy, h1, h2⟩; exact ⟨y, List.mem_cons_of_mem _ hy, h1, h2⟩
      · rintro ⟨y, hy, h1, h2⟩
        rcases List.mem_cons.1 hy with rfl | hy
        · rw [h1] at h2; exact absurd h0 h2
        · exact ⟨y, hy, h1, h2⟩
    · next h0 =>
      rw [List.mem_cons, bmp_mem]
      constructor
      · rintro (rfl | ⟨y, hy, h1, h2⟩)
        · exact ⟨e, by simp, rfl, h0⟩
        · exact ⟨y, List.mem_cons_of_mem _ hy, h1, h2⟩
      · rintro ⟨y, hy, h1, h2⟩
        rcases List.mem_cons.1 hy with rfl | hy
        · exact .inl h1
        · exact .inr ⟨y, hy, h1, h2⟩
theorem bmp_sub (c : Int → Nat) : ∀ (L : List Nm), List.Sublist ((bmp L c).map (·.id)) (L.map (·.id)) ∧ List.Sublist ((bmp L c).map (·.n)) (L.map (·.n))
  | [] => ⟨.slnil, .slnil⟩
  | e :: l => by
    have ih := bmp_sub c l
    unfold bmp
    split
    · exact ⟨.cons _ ih.1, .cons _ ih.2⟩
    · exact ⟨.cons_cons _ ih.1, .cons_cons _ ih.2⟩
theorem bmp_dis {L : List Nm} (c : Int → Nat) (h : Dis L) : Dis (bmp L c) := ⟨(bmp_sub c L).1.nodup h.ids, (bmp_sub c L).2.nodup h.ns⟩
theorem bmp_drop {c : Int → Nat} {i : Int} : ∀ {L : List Nm}, (L.map (·.id)).Nodup → (∃ e ∈ L, e.id = i) → 1 ≤ c i → drp (bmp L c) i = bmp L (fun k => if k = i then c k - 1 else c k)
  | [], _, h, _ => by simp at h
  | e :: l, hd, h, hc => by
    rw [List.map_cons, List.nodup_cons] at hd
    unfold bmp
    by_cases he : e.id = i
    · have htl : bmp l c = bmp l (fun k => if k = i then c k - 1 else c k) := bmp_congr fun x hx => by
        have hne : x.id ≠ i := fun h2 => hd.1 (he ▸ h2 ▸ List.mem_map.2 ⟨x, hx, rfl⟩)
        show c x.id = if x.id = i then c x.id - 1 else c x.id
        rw [if_neg hne]
      rw [if_neg (by rw [he]; omega)]
      unfold drp
      rw [if_pos he]
      simp only [he, if_true]
      by_cases h1 : e.u + c i = 1
      · rw [if_pos h1, if_pos (by omega), htl]
      · rw [if_neg h1, if_neg (by omega), ← htl, show e.u + c i - 1 = e.u + (c i - 1) from by omega]
    · have h2 : ∃ e ∈ l, e.id = i := by
        obtain ⟨x, hx, hxi⟩ := h
        rcases List.mem_cons.1 hx with rfl | hx
        · exact absurd hxi he
        · exact ⟨x, hx, hxi⟩
      have ih := bmp_drop hd.2 h2 hc
      simp only [if_neg he]
      by_cases h0 : e.u + c e.id = 0
      · rw [if_pos h0, if_pos h0]; exact ih
      · rw [if_neg h0, if_neg h0]
        show drp (_ :: _) i = _
        unfold drp
        rw [if_neg (show ¬ (⟨e.id, e.n, e.u + c e.id⟩ : Nm).id = i from he), ih]
theorem bmp_inc {c : Int → Nat} {i : Int} : ∀ {L : List Nm}, (L.map (·.id)).Nodup → (∀ e ∈ L, 1 ≤ e.u + c e.id) → inc (bmp L c) i = bmp L (fun k => if k = i then c k + 1 else c k)
  | [], _, _ => rfl
  | e :: l, hd, h => by
    rw [List.map_cons, List.nodup_cons] at hd
    have h1 := h e (by simp)
    unfold bmp
    rw [if_neg (by omega)]
    show inc (_ :: _) i = _
    unfold inc
    by_cases he : e.id = i
    · have htl : bmp l c = bmp l (fun k => if k = i then c k + 1 else c k) := bmp_congr fun x hx => by
        have hne : x.id ≠ i := fun h2 => hd.1 (he ▸ h2 ▸ List.mem_map.2 ⟨x, hx, rfl⟩)
        show c x.id = if x.id = i then c x.id + 1 else c x.id
        rw [if_neg hne]
      rw [if_pos (show (⟨e.id, e.n, e.u + c e.id⟩ : Nm).id = i from he)]
      simp only [he, if_true]
      rw [if_neg (by omega), ← htl]; rfl
    · have ih := bmp_inc (c := c) (i := i) hd.2 fun x hx => h x (List.mem_cons_of_mem _ hx)
      rw [if_neg (show ¬ (⟨e.id, e.n, e.u + c e.id⟩ : Nm).id = i from he)]
      simp only [if_neg he]
      rw [if_neg (by omega), ih]

/-! ### drops -/
def drops (L : List Nm) (ids : List Int) : List Nm := ids.foldl dropL L
theorem drops_bmp : ∀ {ids : List Int} {L : List Nm} {c : Int → Nat}, (L.map (·.id)).Nodup → (∀ i ∈ ids, ∃ e ∈ L, e.id = i) → drops (bmp L fun k => c k + ids.count k) ids = bmp L c
  | [], L, c, _, _ => by unfold drops; simp
  | i :: ids, L, c, hd, h => by
    have h1 := bmp_drop (c := fun k => c k + (i :: ids).count k) (i := i) hd (h i (by simp)) (by simp; omega)
    have h2 : (bmp L fun k => if k = i then c k + (i :: ids).count k - 1 else c k + (i :: ids).count k) = bmp L fun k => c k + ids.count k := bmp_congr fun e _ => by
      show (if e.id = i then c e.id + (i :: ids).count e.id - 1 else c e.id + (i :: ids).count e.id) = c e.id + ids.count e.id
      rw [List.count_cons]
      by_cases he : e.id = i
      · subst he; simp
      · have : (i == e.id) = false := by simpa using fun h3 : i = e.id => he h3.symm
        rw [if_neg he, this]; simp
    show (ids.foldl dropL (dropL (bmp L fun k => c k + (i :: ids).count k) i)) = _
    rw [dropL_drp, h1, h2]
    exact drops_bmp hd fun j hj => h j (List.mem_cons_of_mem _ hj)

/-! ### adds -/
structure Ad where
  D : List (Option Bt)
  L : List Nm
  ids : List Int
  e : Int
def ads (N : Nat) : List (Option Bt) → List Nm → List Bs → Ad
  | D, L, [] => ⟨D, L, [], 0⟩
  | D, L, n :: l => if addE N D L n = 0 then ⟨(ads N (addD D L (foldB n)) (addL D L (foldB n)) l).D, (ads N (addD D L (foldB n)) (addL D L (foldB n)) l).L, addI D L (foldB n) :: (ads N (addD D L (foldB n)) (addL D L (foldB n)) l).ids, (ads N (addD D L (foldB n)) (addL D L (foldB n)) l).e⟩ else ⟨D, L, [], addE N D L n⟩
theorem byN_iff {L : List Nm} {m : Bs} : (byN L m).isSome = true ↔ ∃ e ∈ L, e.n = m := by
  constructor
  · intro h
    obtain ⟨e, he⟩ := Option.isSome_iff_exists.1 h
    obtain ⟨j, _, h2, h3⟩ := byN_some he
    exact ⟨e, List.mem_of_getElem? h2, h3⟩
  · rintro ⟨e, he, rfl⟩
    exact byN_of_mem he
theorem addL_has {D : List (Option Bt)} {L : List Nm} {n m : Bs} : (byN (addL D L n) m).isSome = true ↔ m = n ∨ (byN L m).isSome = true := by
  rw [byN_iff, byN_iff]
  cases hb : byN L n with
  | some x =>
    obtain ⟨j, h1, h2, rfl⟩ := byN_some hb
    have : addL D L x.n = reuse L j x (x.u + 1) := by unfold addL; rw [h1]; simp only [h2]
    rw [this]
    constructor
    · rintro ⟨e, he, rfl⟩
      obtain ⟨y, hy, _, h4⟩ := mem_reuse h2 he
      exact .inr ⟨y, hy, h4⟩
    · rintro (rfl | ⟨y, hy, rfl⟩)
      · obtain ⟨z, hz, _, h4⟩ := reuse_mem (u := x.u + 1) h2 (List.mem_of_getElem? h2)
        exact ⟨z, hz, h4⟩
      · obtain ⟨z, hz, _, h4⟩ := reuse_mem (u := x.u + 1) h2 hy
        exact ⟨z, hz, h4⟩
  | none =>
    have : addL D L n = L ++ [⟨((hnd D : Nat) : Int), n, 1⟩] := by unfold addL; rw [byN_none hb]
    rw [this]
    constructor
    · rintro ⟨e, he, rfl⟩
      rcases List.mem_append.1 he with he | he
      · exact .inr ⟨e, he, rfl⟩
      · rw [List.mem_singleton.1 he]; exact .inl rfl
    · rintro (rfl | ⟨y, hy, rfl⟩)
      · exact ⟨⟨((hnd D : Nat) : Int), m, 1⟩, by simp, rfl⟩
      · exact ⟨y, List.mem_append.2 (.inl hy), rfl⟩
theorem hnd_free (D : List (Option Bt)) : getB D ((hnd D : Nat) : Int) = none := by
  have := hnd_none D
  have hp := hnd_pos D
  rw [show ((hnd D : Nat) : Int) = ((hnd D - 1 : Nat) : Int) + 1 from by omega, getB_idx]; exact this
/-- what adds leave: the elder names, new ones behind them, each used as often as its number was told -/
theorem ads_bmp (N : Nat) : ∀ (l : List Bs) (D : List (Option Bt)) (L : List Nm) (c : Int → Nat), Dis L → (∀ e ∈ L, (getB D e.id).isSome = true) → (∀ e ∈ L, 1 ≤ e.u + c e.id) → (∀ i, (∀ e ∈ L, e.id ≠ i) → c i = 0) →
    ∃ M : List Nm, (∀ e ∈ M, e.u = 0) ∧ Dis (L ++ M) ∧ (ads N D (bmp L c) l).L = bmp (L ++ M) (fun k => c k + (ads N D (bmp L c) l).ids.count k) ∧ (∀ i ∈ (ads N D (bmp L c) l).ids, ∃ e ∈ L ++ M, e.id = i) ∧
      (∀ e ∈ L ++ M, (getB (ads N D (bmp L c) l).D e.id).isSome = true) ∧ (∀ e ∈ M, getB D e.id = none)
  | [], D, L, c, hd, hD, _, _ => ⟨[], fun e he => by simp at he, by rw [List.append_nil]; exact hd, by unfold ads; simp, fun i hi => by unfold ads at hi; simp at hi, by rw [List.append_nil]; exact hD, fun e he => by simp at he⟩
  | n :: l, D, L, c, hd, hD, hu, hc => by
    unfold ads
    by_cases hE : addE N D (bmp L c) n = 0
    · rw [if_pos hE]
      have hcount : ∀ (i k : Int) (ids : List Int), (i :: ids).count k = ids.count k + if k = i then 1 else 0 := fun i k ids => by
        rw [List.count_cons]
        by_cases h : k = i
        · subst h; simp
        · have : (i == k) = false := by simpa using fun h3 : i = k => h h3.symm
          rw [if_neg h, this]; simp
      cases hb : byN (bmp L c) (foldB n) with
      | some x =>
        obtain ⟨j, h1, h2, h3⟩ := byN_some hb
        have hxm := List.mem_of_getElem? h2
        obtain ⟨e, heL, hxe, _⟩ := bmp_mem.1 hxm
        have hL : addL D (bmp L c) (foldB n) = bmp L (fun k => if k = x.id then c k + 1 else c k) := by
          unfold addL; rw [h1]; simp only [h2]
          rw [reuse_inc (bmp_dis c hd).ids h2, bmp_inc hd.ids hu]
        have hDD : addD D (bmp L c) (foldB n) = D := by unfold addD; rw [hb]; rfl
        have hI : addI D (bmp L c) (foldB n) = x.id := by unfold addI; rw [hb]; rfl
        rw [hL, hDD, hI]
        have hxid : x.id = e.id := by rw [hxe]
        obtain ⟨M, i1, i2, i3, i4, i5, i6⟩ := ads_bmp N l D L (fun k => if k = x.id then c k + 1 else c k) hd hD (fun y hy => by
          have := hu y hy
          show 1 ≤ y.u + if y.id = x.id then c y.id + 1 else c y.id
          split <;> omega) (fun i hi => by
          show (if i = x.id then c i + 1 else c i) = 0
          rw [if_neg fun h4 => hi e heL (by rw [h4, hxid])]; exact hc i hi)
        refine ⟨M, i1, i2, ?_, fun i hi => ?_, i5, i6⟩
        · rw [i3]
          refine bmp_congr fun y _ => ?_
          show (if y.id = x.id then c y.id + 1 else c y.id) + _ = c y.id + _
          rw [hcount]
          split <;> omega
        · rcases List.mem_cons.1 hi with rfl | hi
          · exact ⟨e, List.mem_append.2 (.inl heL), hxid.symm⟩
          · exact i4 i hi
      | none =>
        have hL0 : addL D (bmp L c) (foldB n) = bmp L c ++ [⟨((hnd D : Nat) : Int), foldB n, 1⟩] := by unfold addL; rw [byN_none hb]
        have hDD : addD D (bmp L c) (foldB n) = allocD D (8 + (foldB n).length) := by unfold addD; rw [hb]; rfl
        have hI : addI D (bmp L c) (foldB n) = ((hnd D : Nat) : Int) := by unfold addI; rw [hb]; rfl
        have hno := hnd_free D
        have hidn : ∀ y ∈ L, y.id ≠ ((hnd D : Nat) : Int) := fun y hy h => by
          have := hD y hy
          rw [h, hno] at this; cases this
        have hnn : ∀ y ∈ L, y.n ≠ foldB n := fun y hy h => by
          have hm : (⟨y.id, y.n, y.u + c y.id⟩ : Nm) ∈ bmp L c := bmp_mem.2 ⟨y, hy, rfl, by have := hu y hy; show y.u + c y.id ≠ 0; omega⟩
          exact nixN_none (byN_none hb) _ hm h
        have hL : addL D (bmp L c) (foldB n) = bmp (L ++ [⟨((hnd D : Nat) : Int), foldB n, 0⟩]) (fun k => if k = ((hnd D : Nat) : Int) then 1 else c k) := by
          rw [hL0, bmp_append]
          congr 1
          · refine bmp_congr fun y hy => ?_
            show c y.id = if y.id = ((hnd D : Nat) : Int) then 1 else c y.id
            rw [if_neg (hidn y hy)]
          · unfold bmp
            simp [bmp]
        rw [hL, hDD, hI]
        have hd2 : Dis (L ++ [⟨((hnd D : Nat) : Int), foldB n, 0⟩]) := hd.add hidn hnn
        obtain ⟨M, i1, i2, i3, i4, i5, i6⟩ := ads_bmp N l (allocD D (8 + (foldB n).length)) (L ++ [⟨((hnd D : Nat) : Int), foldB n, 0⟩]) (fun k => if k = ((hnd D : Nat) : Int) then 1 else c k) hd2 (fun y hy => by
            rcases List.mem_append.1 hy with hy | hy
            · rw [alloc_getB_ne (hidn y hy)]; exact hD y hy
            · rw [List.mem_singleton.1 hy]; show (getB _ ((hnd D : Nat) : Int)).isSome = true; rw [alloc_getB]; rfl) (fun y hy => by
            show 1 ≤ y.u + if y.id = ((hnd D : Nat) : Int) then 1 else c y.id
            rcases List.mem_append.1 hy with hy | hy
            · rw [if_neg (hidn y hy)]; exact hu y hy
            · rw [List.mem_singleton.1 hy]; simp) (fun i hi => by
            show (if i = ((hnd D : Nat) : Int) then 1 else c i) = 0
            have h5 : ¬ i = ((hnd D : Nat) : Int) := fun h => hi ⟨((hnd D : Nat) : Int), foldB n, 0⟩ (by simp) h.symm
            rw [if_neg h5]
            exact hc i fun y hy => hi y (List.mem_append.2 (.inl hy)))
        rw [List.append_assoc] at i2 i3 i4 i5
        refine ⟨[⟨((hnd D : Nat) : Int), foldB n, 0⟩] ++ M, fun y hy => ?_, i2, ?_, fun i hi => ?_, i5, fun y hy => ?_⟩
        · rcases List.mem_append.1 hy with hy | hy
          · rw [List.mem_singleton.1 hy]
          · exact i1 y hy
        · rw [i3]
          refine bmp_congr fun y _ => ?_
          show (if y.id = ((hnd D : Nat) : Int) then 1 else c y.id) + _ = c y.id + _
          rw [hcount]
          by_cases h6 : y.id = ((hnd D : Nat) : Int)
          · rw [if_pos h6, if_pos h6, h6, hc _ hidn]; omega
          · rw [if_neg h6, if_neg h6]; omega
        · rcases List.mem_cons.1 hi with rfl | hi
          · exact ⟨⟨((hnd D : Nat) : Int), foldB n, 0⟩, by simp, rfl⟩
          · exact i4 i hi
        · rcases List.mem_append.1 hy with hy | hy
          · rw [List.mem_singleton.1 hy]; exact hno
          · have h7 := i6 y hy
            have hne : y.id ≠ ((hnd D : Nat) : Int) := fun h => by rw [h, alloc_getB] at h7; cases h7
            rw [alloc_getB_ne hne] at h7; exact h7
    · rw [if_neg hE]
      exact ⟨[], fun e he => by simp at he, by rw [List.append_nil]; exact hd, by simp, fun i hi => by simp at hi, by rw [List.append_nil]; exact hD, fun e he => by simp at he⟩
/-- all adds undone -/
theorem ads_drops {N : Nat} {l : List Bs} {D : List (Option Bt)} {L : List Nm} (hd : Dis L) (hp : Pos L) (hD : ∀ e ∈ L, (getB D e.id).isSome = true) : drops (ads N D L l).L (ads N D L l).ids = L := by
  have h0 := bmp_pos hp
  obtain ⟨M, i1, i2, i3, i4, _, _⟩ := ads_bmp N l D L (fun _ => 0) hd hD (fun e he => by have := hp e he; omega) (fun _ _ => rfl)
  rw [h0] at i3 i4
  rw [i3, drops_bmp i2.ids i4, bmp_append, h0, bmp_none (fun e he => by rw [i1 e he]), List.append_nil]

/-! ### what they cost -/
def costL (L : List Nm) : List Bs → List Bs → Nat
  | _, [] => 0
  | seen, n :: l => (if foldB n ∈ seen ∨ (byN L (foldB n)).isSome = true then 0 else costN (8 + n.length)) + costL L (foldB n :: seen) l
theorem costL_congr {L : List Nm} : ∀ {l : List Bs} {s s' : List Bs}, (∀ m, m ∈ s ↔ m ∈ s') → costL L s l = costL L s' l
  | [], _, _, _ => rfl
  | n :: l, s, s', h => by
    unfold costL
    rw [costL_congr (s := foldB n :: s) (s' := foldB n :: s') fun m => by rw [List.mem_cons, List.mem_cons, h m]]
    simp only [h (foldB n)]
theorem costL_has {L L' : List Nm} {x : Bs} (hL : ∀ m, (byN L' m).isSome = true ↔ m = x ∨ (byN L m).isSome = true) : ∀ {l : List Bs} {s : List Bs}, costL L' s l = costL L (x :: s) l
  | [], _ => rfl
  | n :: l, s => by
    unfold costL
    rw [costL_has hL (l := l) (s := foldB n :: s), costL_congr (s := x :: foldB n :: s) (s' := foldB n :: x :: s) fun m => by simp only [List.mem_cons]; exact ⟨fun h => by rcases h with h | h | h <;> simp [h], fun h => by rcases h with h | h | h <;> simp [h]⟩]
    congr 1
    have hiff : (foldB n ∈ s ∨ (byN L' (foldB n)).isSome = true) ↔ (foldB n ∈ x :: s ∨ (byN L (foldB n)).isSome = true) := by
      rw [hL, List.mem_cons]
      exact ⟨fun h => by rcases h with h | h | h <;> simp [h], fun h => by rcases h with (h | h) | h <;> simp [h]⟩
    simp only [hiff]
theorem costN_ge (k : Nat) : 16 ≤ costN k := by
  unfold costN
  (repeat' split) <;> omega
theorem ads_cost {N : Nat} : ∀ {l : List Bs} {D : List (Option Bt)} {L : List Nm}, (∀ n ∈ l, vld n = true) → usedD D ≤ N →
    (usedD D + costL L [] l ≤ N → (ads N D L l).e = 0 ∧ usedD (ads N D L l).D = usedD D + costL L [] l) ∧ (N < usedD D + costL L [] l → (ads N D L l).e = 4)
  | [], D, L, _, hN => ⟨fun _ => ⟨rfl, rfl⟩, fun h => absurd h (Nat.not_lt.2 hN)⟩
  | n :: l, D, L, hv, hN => by
    have hvn := hv n (by simp)
    have h255 := vld_len hvn
    have hfl := foldB_len n
    have hstep : costL L [foldB n] l = costL (addL D L (foldB n)) [] l := (costL_has fun m => addL_has).symm
    have hcc : cost (8 + (n.length : Int)) = (costN (8 + n.length) : Nat) := by
      unfold cost; rw [if_neg (by omega)]; congr 1
    have h16 := costN_ge (8 + n.length)
    unfold ads costL
    rw [hstep]
    have hnil : ¬ foldB n ∈ ([] : List Bs) := by simp
    cases hb : (byN L (foldB n)).isSome with
    | true =>
      have hE : addE N D L n = 0 := by unfold addE; rw [if_neg (by rw [hvn]; decide), hb]; rfl
      have hDD : addD D L (foldB n) = D := by unfold addD; rw [hb]; rfl
      rw [if_pos hE, if_pos (.inr rfl), Nat.zero_add, hDD]
      exact ads_cost (fun m hm => hv m (List.mem_cons_of_mem _ hm)) hN
    | false =>
      have hEa : addE N D L n = if (N : Int) - usedD D < (costN (8 + n.length) : Nat) then 4 else 0 := by
        unfold addE allocE
        rw [if_neg (by rw [hvn]; decide), hb, if_neg (by decide), hcc, if_neg (by omega)]
      have hDD : addD D L (foldB n) = allocD D (8 + n.length) := by unfold addD; rw [hb, hfl]; rfl
      rw [if_neg (show ¬ (foldB n ∈ ([] : List Bs) ∨ false = true) from by simp)]
      by_cases hroom : usedD D + costN (8 + n.length) ≤ N
      · have hE : addE N D L n = 0 := by rw [hEa, if_neg (by omega)]
        rw [if_pos hE]
        have hu := alloc_used D (8 + n.length)
        rw [← hDD] at hu
        have ih := ads_cost (N := N) (l := l) (D := addD D L (foldB n)) (L := addL D L (foldB n)) (fun m hm => hv m (List.mem_cons_of_mem _ hm)) (by omega)
        rw [hu] at ih
        refine ⟨fun h => ?_, fun h => ih.2 (by omega)⟩
        obtain ⟨h1, h2⟩ := ih.1 (by omega)
        exact ⟨h1, by rw [← Nat.add_assoc]; exact h2⟩
      · have hE : addE N D L n = 4 := by rw [hEa, if_pos (by omega)]
        rw [if_neg (by rw [hE]; decide)]
        exact ⟨fun h => by omega, fun _ => hE⟩
end Go.Proofs.Ytejmbmenbailmaa
namespace Go.Proofs.Ytejmbmenbailmaa
open Go.Xs
open Enc (enc)

structure RR where
  n : Bs
  t : Int
  c : Int
  ttl : Int
  d : Bs
instance : Enc RR := ⟨fun x => [sv x.n, .int .i64 x.t, .int .i64 x.c, .int .i64 x.ttl, sv x.d], 5, fun _ => rfl, fun _ => rfl⟩
structure St where
  name : Bs
  typ : Int
  kind : Int
  zone : Bs
  rrs : List RR
def St.v (s : St) (w : Value) : Value := .agg #[sv s.name, .int .i64 s.typ, w, .int .i64 s.kind, sv s.zone]

def sameN (a b : Bs) : Bool := vld a && vld b && (a.map low == b.map low)
def rrOk (s : St) (r : RR) : Bool := sameN r.n s.name && decide (r.t = s.typ) && decide (r.c = 1) && dataOk r.t r.d
def mayS (s : St) : Bool := vld s.name && vld s.zone && decide (1 ≤ s.typ ∧ s.typ ≤ 65535 ∧ 0 ≤ s.kind ∧ s.kind ≤ 2) && decide (s.rrs.length ≤ 32) && (decide (0 < s.rrs.length) == decide (s.kind = 0)) && s.rrs.all (rrOk s)
def cutP (d : Bs) (p : Pl) : Bs := (d.drop p.at_).take p.n
def nmsR (r : RR) : List Bs := (prt r.t r.d).map (cutP r.d)
def nmsS (s : St) : List Bs := s.name :: s.zone :: (s.rrs.map nmsR).flatten
def sumI (l : List Int) : Int := l.foldr (· + ·) 0
def sizR (r : RR) : Int := 2 + (r.d.length : Int) + sumI ((prt r.t r.d).map fun p => 4 - (p.n : Int))
def sizS (s : St) : Int := 16 + sumI (s.rrs.map sizR)
def errS (s : St) : Int := if mayS s = false then 1 else if 4096 < sizS s then 3 else 0
def szOf (s : St) : Int := if errS s = 0 then sizS s else 0
/-- data with other bytes in the names' places -/
def splice (d : Bs) : Nat → List Pl → List Bs → Bs
  | a, p :: l, x :: xs => (d.drop a).take (p.at_ - a) ++ x ++ splice d (p.at_ + p.n) l xs
  | a, _, _ => d.drop a
def foldD (t : Int) (d : Bs) : Bs := splice d 0 (prt t d) ((prt t d).map fun p => foldB (cutP d p))
def folS (s : St) : St := ⟨foldB s.name, s.typ, s.kind, foldB s.zone, s.rrs.map fun r => ⟨foldB s.name, r.t, 1, 0, foldD r.t r.d⟩⟩
/-- a number's bytes, the least first -/
def leN : Nat → Nat → Bs
  | 0, _ => []
  | k + 1, n => UInt8.ofNat (n % 256) :: leN k (n / 256)
theorem leN_len : ∀ (k n : Nat), (leN k n).length = k
  | 0, _ => rfl
  | k + 1, n => by show (leN k (n / 256)).length + 1 = k + 1; rw [leN_len k]
def idB (i : Int) : Bs := leN 4 i.toNat
def datB (r : RR) (ids : List Int) : Bs := splice r.d 0 (prt r.t r.d) (ids.map idB)
def rrsB : List RR → List Int → Bs
  | [], _ => []
  | r :: l, ids => leN 2 (datB r ids).length ++ datB r ids ++ rrsB l (ids.drop (prt r.t r.d).length)
def blkS (s : St) (ids : List Int) : Bs := idB (ids.getD 0 0) ++ leN 2 s.typ.toNat ++ leN 2 s.kind.toNat ++ idB (ids.getD 1 0) ++ leN 4 0x5e7b10c5 ++ rrsB s.rrs (ids.drop 2)

theorem sumI_cons (a : Int) (l : List Int) : sumI (a :: l) = a + sumI l := rfl
theorem sumI_append (l m : List Int) : sumI (l ++ m) = sumI l + sumI m := by
  induction l with
  | nil => show sumI m = 0 + sumI m; omega
  | cons a l ih => rw [List.cons_append, sumI_cons, sumI_cons, ih]; omega
theorem prt_row (t : Int) (d : Bs) : prt t d = [] ∨ ∃ a k b e, shapeR t = some (a, k, b) ∧ a ≤ d.length ∧ plc d k a = some (prt t d, e) ∧ d.length = e + b := by
  unfold prt
  split
  · next h =>
    cases hp : pls t d with
    | none => exact .inl rfl
    | some l => exact pls_row hp
  · exact .inl rfl
/-- names are names -/
theorem row_vld {d : Bs} : ∀ {a : Nat} {l : List Pl}, Row d a l → ∀ p ∈ l, vld (cutP d p) = true ∧ (cutP d p).length = p.n ∧ p.at_ + p.n ≤ d.length
  | _, [], _, p, hp => by simp at hp
  | a, q :: l, ⟨h1, h2, h3⟩, p, hp => by
    rcases List.mem_cons.1 hp with rfl | hp
    · subst h1
      have hb := lead_pos h2
      rw [List.length_drop] at hb
      exact ⟨(lead_iff.1 h2).2, by unfold cutP; rw [List.length_take, List.length_drop]; omega, by omega⟩
    · exact row_vld h3 p hp
theorem prt_vld {t : Int} {d : Bs} {p : Pl} (hp : p ∈ prt t d) : vld (cutP d p) = true ∧ (cutP d p).length = p.n ∧ p.at_ + p.n ≤ d.length := by
  rcases prt_row t d with h | ⟨a, k, b, e, _, ha, hc, _⟩
  · rw [h] at hp; simp at hp
  · exact row_vld (plc_row hc ha) p hp
theorem mayS_vld {s : St} (h : mayS s = true) : ∀ n ∈ nmsS s, vld n = true := fun n hn => by
  unfold mayS at h
  simp only [Bool.and_eq_true] at h
  obtain ⟨⟨⟨⟨⟨h1, h2⟩, _⟩, _⟩, _⟩, _⟩ := h
  unfold nmsS at hn
  rcases List.mem_cons.1 hn with rfl | hn
  · exact h1
  rcases List.mem_cons.1 hn with rfl | hn
  · exact h2
  obtain ⟨l, hl, hn⟩ := List.mem_flatten.1 hn
  obtain ⟨r, _, rfl⟩ := List.mem_map.1 hl
  unfold nmsR at hn
  obtain ⟨p, hp, rfl⟩ := List.mem_map.1 hn
  exact (prt_vld hp).1
end Go.Proofs.Ytejmbmenbailmaa
namespace Go.Proofs.Ytejmbmenbailmaa
open Go.Xs
open Enc (enc)

/-! ### numbers beside names -/
inductive Al (L : List Nm) : List Int → List Bs → Prop
  | nil : Al L [] []
  | cons {i : Int} {n : Bs} {ids : List Int} {ns : List Bs} (h : ∃ e ∈ L, e.id = i ∧ e.n = n) (t : Al L ids ns) : Al L (i :: ids) (n :: ns)
theorem Al.mono {L L' : List Nm} (h : ∀ e ∈ L, ∃ e' ∈ L', e'.id = e.id ∧ e'.n = e.n) : ∀ {ids : List Int} {ns : List Bs}, Al L ids ns → Al L' ids ns
  | _, _, .nil => .nil
  | _, _, .cons ⟨e, he, h1, h2⟩ t => by
    obtain ⟨e', he', h3, h4⟩ := h e he
    exact .cons ⟨e', he', h3.trans h1, h4.trans h2⟩ (Al.mono h t)
theorem addL_keep {D : List (Option Bt)} {L : List Nm} {n : Bs} {e : Nm} (he : e ∈ L) : ∃ e' ∈ addL D L n, e'.id = e.id ∧ e'.n = e.n := by
  cases hb : byN L n with
  | some x =>
    obtain ⟨j, h1, h2, rfl⟩ := byN_some hb
    have : addL D L x.n = reuse L j x (x.u + 1) := by unfold addL; rw [h1]; simp only [h2]
    rw [this]
    exact reuse_mem h2 he
  | none =>
    have : addL D L n = L ++ [⟨((hnd D : Nat) : Int), n, 1⟩] := by unfold addL; rw [byN_none hb]
    rw [this]
    exact ⟨e, List.mem_append.2 (.inl he), rfl, rfl⟩
theorem addL_self {D : List (Option Bt)} {L : List Nm} {n : Bs} : ∃ e ∈ addL D L n, e.id = addI D L n ∧ e.n = n := by
  cases hb : byN L n with
  | some x =>
    obtain ⟨j, h1, h2, rfl⟩ := byN_some hb
    have : addL D L x.n = reuse L j x (x.u + 1) := by unfold addL; rw [h1]; simp only [h2]
    rw [this]
    obtain ⟨e, he, h3, h4⟩ := reuse_mem (u := x.u + 1) h2 (List.mem_of_getElem? h2)
    exact ⟨e, he, by rw [h3]; unfold addI; rw [hb]; rfl, h4⟩
  | none =>
    have : addL D L n = L ++ [⟨((hnd D : Nat) : Int), n, 1⟩] := by unfold addL; rw [byN_none hb]
    rw [this]
    exact ⟨⟨((hnd D : Nat) : Int), n, 1⟩, by simp, by unfold addI; rw [hb]; rfl, rfl⟩
theorem ads_cons {N : Nat} {D : List (Option Bt)} {L : List Nm} {n : Bs} {l : List Bs} (h : addE N D L n = 0) : ads N D L (n :: l) = ⟨(ads N (addD D L (foldB n)) (addL D L (foldB n)) l).D, (ads N (addD D L (foldB n)) (addL D L (foldB n)) l).L, addI D L (foldB n) :: (ads N (addD D L (foldB n)) (addL D L (foldB n)) l).ids, (ads N (addD D L (foldB n)) (addL D L (foldB n)) l).e⟩ := by
  rw [ads, if_pos h]
theorem ads_no {N : Nat} {D : List (Option Bt)} {L : List Nm} {n : Bs} {l : List Bs} (h : addE N D L n ≠ 0) : ads N D L (n :: l) = ⟨D, L, [], addE N D L n⟩ := by
  rw [ads, if_neg h]
theorem ads_keep {N : Nat} : ∀ {l : List Bs} {D : List (Option Bt)} {L : List Nm} {e : Nm}, e ∈ L → ∃ e' ∈ (ads N D L l).L, e'.id = e.id ∧ e'.n = e.n
  | [], _, _, e, he => ⟨e, he, rfl, rfl⟩
  | n :: l, D, L, e, he => by
    by_cases hE : addE N D L n = 0
    · rw [ads_cons hE]
      obtain ⟨e1, h1, h2, h3⟩ := addL_keep (D := D) (n := foldB n) he
      obtain ⟨e2, h4, h5, h6⟩ := ads_keep (N := N) (l := l) (D := addD D L (foldB n)) h1
      exact ⟨e2, h4, h5.trans h2, h6.trans h3⟩
    · rw [ads_no hE]; exact ⟨e, he, rfl, rfl⟩
theorem ads_al {N : Nat} : ∀ {l : List Bs} {D : List (Option Bt)} {L : List Nm}, (ads N D L l).e = 0 → Al (ads N D L l).L (ads N D L l).ids (l.map foldB)
  | [], _, _, _ => .nil
  | n :: l, D, L, h => by
    by_cases hE : addE N D L n = 0
    · rw [ads_cons hE] at h ⊢
      obtain ⟨e1, h1, h2, h3⟩ := addL_self (D := D) (L := L) (n := foldB n)
      obtain ⟨e2, h4, h5, h6⟩ := ads_keep (N := N) (l := l) (D := addD D L (foldB n)) h1
      exact .cons ⟨e2, h4, h5.trans h2, h6.trans h3⟩ (ads_al h)
    · rw [ads_no hE] at h; exact absurd h hE

/-! ### names that live by the numbers that are held -/
structure Liv (L : List Nm) (A : List Int) : Prop where
  dis : Dis L
  us : ∀ e ∈ L, e.u = A.count e.id
  pos : Pos L
  ids : ∀ i ∈ A, ∃ e ∈ L, e.id = i
theorem Liv.nil : Liv [] [] := ⟨⟨List.nodup_nil, List.nodup_nil⟩, fun e he => by simp at he, Pos.nil, fun i hi => by simp at hi⟩
def zer (L : List Nm) : List Nm := L.map fun e => ⟨e.id, e.n, 0⟩
theorem zer_ids (L : List Nm) : (zer L).map (·.id) = L.map (·.id) := by unfold zer; rw [List.map_map]; rfl
theorem zer_ns (L : List Nm) : (zer L).map (·.n) = L.map (·.n) := by unfold zer; rw [List.map_map]; rfl
theorem zer_mem {L : List Nm} {e : Nm} (h : e ∈ zer L) : e.u = 0 ∧ ∃ x ∈ L, x.id = e.id ∧ x.n = e.n := by
  unfold zer at h
  obtain ⟨x, hx, rfl⟩ := List.mem_map.1 h
  exact ⟨rfl, x, hx, rfl, rfl⟩
theorem mem_zer {L : List Nm} {e : Nm} (h : e ∈ L) : (⟨e.id, e.n, 0⟩ : Nm) ∈ zer L := List.mem_map.2 ⟨e, h, rfl⟩
theorem zer_dis {L : List Nm} (h : Dis L) : Dis (zer L) := ⟨by rw [zer_ids]; exact h.ids, by rw [zer_ns]; exact h.ns⟩
theorem bmp_zer {c : Int → Nat} : ∀ {L : List Nm}, (∀ e ∈ L, e.u = c e.id) → Pos L → bmp (zer L) c = L
  | [], _, _ => rfl
  | e :: l, h, hp => by
    have h1 := h e (by simp)
    have h2 := hp e (by simp)
    show bmp (⟨e.id, e.n, 0⟩ :: zer l) c = _
    rw [bmp_cons, bmp_zer (fun x hx => h x (List.mem_cons_of_mem _ hx)) fun x hx => hp x (List.mem_cons_of_mem _ hx)]
    simp only
    rw [if_neg (by omega), Nat.zero_add, ← h1]
theorem Liv.bmp {L : List Nm} {A : List Int} (h : Liv L A) : bmp (zer L) (fun k => A.count k) = L := bmp_zer h.us h.pos
theorem Liv.of {M : List Nm} {A : List Int} (hd : Dis M) (h0 : ∀ e ∈ M, e.u = 0) (hi : ∀ i ∈ A, ∃ e ∈ M, e.id = i) : Liv (Proofs.Ytejmbmenbailmaa.bmp M fun k => A.count k) A := by
  refine ⟨bmp_dis _ hd, fun e he => ?_, fun e he => ?_, fun i hA => ?_⟩
  · obtain ⟨x, hx, rfl, _⟩ := bmp_mem.1 he
    show x.u + A.count x.id = A.count x.id
    rw [h0 x hx, Nat.zero_add]
  · obtain ⟨x, hx, rfl, h1⟩ := bmp_mem.1 he
    exact Nat.pos_of_ne_zero h1
  · obtain ⟨e, he, rfl⟩ := hi i hA
    refine ⟨_, bmp_mem.2 ⟨e, he, rfl, ?_⟩, rfl⟩
    have := List.count_pos_iff.2 hA
    show e.u + A.count e.id ≠ 0
    omega
theorem Liv.adds {N : Nat} {l : List Bs} {D : List (Option Bt)} {L : List Nm} {A : List Int} (h : Liv L A) (hD : ∀ e ∈ L, (getB D e.id).isSome = true) : Liv (ads N D L l).L (A ++ (ads N D L l).ids) := by
  obtain ⟨M, i1, i2, i3, i4, _, _⟩ := ads_bmp N l D (zer L) (fun k => A.count k) (zer_dis h.dis) (fun e he => by
      obtain ⟨_, x, hx, h1, _⟩ := zer_mem he
      rw [← h1]; exact hD x hx) (fun e he => by
      obtain ⟨_, x, hx, h1, _⟩ := zer_mem he
      have := h.us x hx
      have := h.pos x hx
      show 1 ≤ e.u + A.count e.id
      rw [← h1]; omega) (fun i hi => by
      refine List.count_eq_zero.2 fun hA => ?_
      obtain ⟨e, he, rfl⟩ := h.ids i hA
      exact hi _ (mem_zer he) rfl)
  rw [h.bmp] at i3 i4
  rw [i3]
  have hc : (fun k => A.count k + (ads N D L l).ids.count k) = fun k => (A ++ (ads N D L l).ids).count k := by
    funext k; rw [List.count_append]
  rw [hc]
  refine Liv.of i2 (fun e he => ?_) (fun i hi => ?_)
  · rcases List.mem_append.1 he with he | he
    · exact (zer_mem he).1
    · exact i1 e he
  · rcases List.mem_append.1 hi with hi | hi
    · obtain ⟨e, he, h1⟩ := h.ids i hi
      exact ⟨_, List.mem_append.2 (.inl (mem_zer he)), h1⟩
    · exact i4 i hi
/-- numbers are given back -/
theorem Liv.drops {L : List Nm} {A ids R : List Int} (h : Liv L A) (hA : ∀ k, A.count k = R.count k + ids.count k) : Liv (drops L ids) R ∧ ∀ e ∈ L, e.id ∈ R → ∃ e' ∈ Proofs.Ytejmbmenbailmaa.drops L ids, e'.id = e.id ∧ e'.n = e.n := by
  have hb := h.bmp
  have hmem : ∀ i, i ∈ R ∨ i ∈ ids → i ∈ A := fun i hi => by
    rw [← List.count_pos_iff, hA]
    rcases hi with hi | hi
    · have := List.count_pos_iff.2 hi; omega
    · have := List.count_pos_iff.2 hi; omega
  have hfun : (fun k => A.count k) = fun k => R.count k + ids.count k := funext hA
  have hd : Proofs.Ytejmbmenbailmaa.drops L ids = Proofs.Ytejmbmenbailmaa.bmp (zer L) (fun k => R.count k) := by
    rw [← hb, hfun]
    have := drops_bmp (ids := ids) (L := zer L) (c := fun k => R.count k) (zer_dis h.dis).ids (fun i hi => by
      obtain ⟨e, he, h1⟩ := h.ids i (hmem i (.inr hi))
      exact ⟨_, mem_zer he, h1⟩)
    rw [hfun] at hb
    rw [hb] at this ⊢
    exact this
  rw [hd]
  refine ⟨Liv.of (zer_dis h.dis) (fun e he => (zer_mem he).1) (fun i hi => ?_), fun e he hR => ?_⟩
  · obtain ⟨e, he, h1⟩ := h.ids i (hmem i (.inl hi))
    exact ⟨_, mem_zer he, h1⟩
  · refine ⟨_, bmp_mem.2 ⟨_, mem_zer he, rfl, ?_⟩, rfl, rfl⟩
    have := List.count_pos_iff.2 hR
    show 0 + R.count e.id ≠ 0
    omega
theorem Liv.empty {L : List Nm} (h : Liv L []) : L = [] := by
  cases L with
  | nil => rfl
  | cons e l =>
    have h1 := h.us e (by simp)
    have h2 := h.pos e (by simp)
    simp at h1; omega

/-! ### arenas that are alike -/
def Sim (D D' : List (Option Bt)) : Prop := ∀ i, (getB D i).map List.length = (getB D' i).map List.length
theorem Sim.symm {D D' : List (Option Bt)} (h : Sim D D') : Sim D' D := fun i => (h i).symm
theorem Sim.trans {D D' D'' : List (Option Bt)} (h : Sim D D') (k : Sim D' D'') : Sim D D'' := fun i => (h i).trans (k i)
theorem Sim.refl (D : List (Option Bt)) : Sim D D := fun _ => rfl
theorem Sim.stand {D D' : List (Option Bt)} (h : Sim D D') (i : Int) : (getB D i).isSome = (getB D' i).isSome := by
  have := congrArg Option.isSome (h i)
  simpa using this
theorem sim_at {D D' : List (Option Bt)} (h : Sim D D') (i : Nat) : ((D[i]?).join).map List.length = ((D'[i]?).join).map List.length := by
  have := h ((i : Int) + 1)
  rwa [getB_idx, getB_idx] at this
theorem shp_sim {D D' : List (Option Bt)} (h : shp D = shp D') : Sim D D' := fun i => by
  unfold getB
  split
  · have h1 := congrArg (fun l => (l[(i - 1).toNat]?).join) h
    simp only [shp, List.getElem?_map] at h1
    cases h2 : D[(i - 1).toNat]? with
    | none =>
      rw [h2] at h1
      cases h3 : D'[(i - 1).toNat]? with
      | none => rfl
      | some y => rw [h3] at h1; simpa using h1
    | some x =>
      rw [h2] at h1
      cases h3 : D'[(i - 1).toNat]? with
      | none => rw [h3] at h1; simpa using h1
      | some y => rw [h3] at h1; simpa using h1
  · rfl
theorem sim_hnd {D D' : List (Option Bt)} (h : Sim D D') : hnd D = hnd D' := by
  refine hnd_uniq (hnd_pos D) (fun i hi => ?_) ?_
  · obtain ⟨b, hb⟩ := hnd_some D i hi
    have := sim_at h i
    rw [hb] at this
    cases h2 : D'[i]? with
    | none => rw [h2] at this; simp at this
    | some x =>
      cases x with
      | none => rw [h2] at this; simp at this
      | some c => exact ⟨c, rfl⟩
  · have := sim_at h (hnd D - 1)
    rw [hnd_none D] at this
    cases h2 : (D'[hnd D - 1]?).join with
    | none => rfl
    | some c => rw [h2] at this; simp at this
theorem used_zero : ∀ {D : List (Option Bt)}, (∀ i : Nat, (D[i]?).join = none) → usedD D = 0
  | [], _ => rfl
  | a :: l, h => by
    have h0 := h 0
    simp only [List.getElem?_cons_zero, Option.join_some] at h0
    subst h0
    have ih := used_zero (D := l) fun i => by simpa using h (i + 1)
    unfold usedD at ih ⊢
    rw [List.map_cons, List.sum_cons, ih]; rfl
theorem used_at : ∀ {D D' : List (Option Bt)}, (∀ i : Nat, ((D[i]?).join).map List.length = ((D'[i]?).join).map List.length) → usedD D = usedD D'
  | [], D', h => (used_zero (D := D') fun i => by
      have := h i
      cases h2 : (D'[i]?).join with
      | none => rfl
      | some c => rw [h2] at this; simp at this).symm
  | a :: l, [], h => used_zero (D := a :: l) fun i => by
      have := h i
      cases h2 : ((a :: l)[i]?).join with
      | none => rfl
      | some c => rw [h2] at this; simp at this
  | a :: l, b :: m, h => by
    have h0 := h 0
    have ih := used_at (D := l) (D' := m) fun i => by simpa using h (i + 1)
    simp only [List.getElem?_cons_zero, Option.join_some] at h0
    unfold usedD at ih ⊢
    rw [List.map_cons, List.sum_cons, List.map_cons, List.sum_cons, ih]
    congr 1
    cases a with
    | none =>
      cases b with
      | none => rfl
      | some y => simp at h0
    | some x =>
      cases b with
      | none => simp at h0
      | some y =>
        have : x.length = y.length := by simpa using h0
        show costN x.length = costN y.length
        rw [this]
theorem sim_used {D D' : List (Option Bt)} (h : Sim D D') : usedD D = usedD D' := used_at (sim_at h)
theorem sim_allocE {D D' : List (Option Bt)} (h : Sim D D') (N : Nat) (n : Int) : allocE N D n = allocE N D' n := by unfold allocE; rw [sim_used h]
theorem sim_alloc {D D' : List (Option Bt)} (h : Sim D D') (m : Nat) : Sim (allocD D m) (allocD D' m) := fun i => by
  by_cases hi : i = ((hnd D : Nat) : Int)
  · have h2 := alloc_getB D' m
    rw [← sim_hnd h] at h2
    rw [hi, alloc_getB, h2]
  · rw [alloc_getB_ne hi, alloc_getB_ne (by rw [← sim_hnd h]; exact hi)]; exact h i
theorem free_self (D : List (Option Bt)) (i : Int) : getB (freeD D i) i = none := by
  cases hb : getB D i with
  | some b => exact free_getB hb
  | none => unfold freeD; rw [hb, if_neg (by decide)]; exact hb
theorem sim_free {D D' : List (Option Bt)} (h : Sim D D') (i : Int) : Sim (freeD D i) (freeD D' i) := fun k => by
  by_cases hk : k = i
  · rw [hk, free_self, free_self]
  · rw [free_getB_ne hk, free_getB_ne hk]; exact h k
theorem sim_set {D : List (Option Bt)} {h : Int} {b Y : Bt} (hg : getB D h = some b) (hl : Y.length = b.length) : Sim (D.set (h - 1).toNat (some Y)) D := shp_sim (shp_set hg hl)
theorem Inn.stand {D : List (Option Bt)} {L : List Nm} {B : List (Int × Bs)} (h : Inn D L B) : ∀ e ∈ L, (getB D e.id).isSome = true := fun e he => by rw [h.blk e he]; rfl
theorem Inn.empty {D : List (Option Bt)} (h : Inn D [] []) : usedD D = 0 := by
  refine used_zero fun i => ?_
  cases hb : (D[i]?).join with
  | none => rfl
  | some b =>
    rw [← getB_idx] at hb
    rcases h.all _ b hb with ⟨e, he, _⟩ | ⟨x, hx, _⟩
    · simp at he
    · simp at hx
/-- a block more, of others -/
theorem Inn.alloc {D : List (Option Bt)} {L : List Nm} {B : List (Int × Bs)} (h : Inn D L B) (m : Nat) : Inn (allocD D m) L ((((hnd D : Nat) : Int), zeros m) :: B) := by
  have hno := hnd_free D
  have hid : ∀ e ∈ L, e.id ≠ ((hnd D : Nat) : Int) := fun x hx e => by
    have := h.blk x hx
    rw [e, hno] at this; cases this
  refine ⟨h.dis, fun e he => by rw [alloc_getB_ne (hid e he)]; exact h.blk e he, fun x hx => ?_, fun i b hib => ?_, h.us, h.fold⟩
  · rcases List.mem_cons.1 hx with rfl | hx
    · exact ⟨alloc_getB D m, hid⟩
    · obtain ⟨h1, h2⟩ := h.oth x hx
      have hne : x.1 ≠ ((hnd D : Nat) : Int) := fun e => by rw [e, hno] at h1; cases h1
      exact ⟨by rw [alloc_getB_ne hne]; exact h1, h2⟩
  · by_cases hi : i = ((hnd D : Nat) : Int)
    · exact .inr ⟨_, List.mem_cons_self, hi.symm⟩
    · rw [alloc_getB_ne hi] at hib
      rcases h.all i b hib with hx | ⟨x, hx, hxi⟩
      · exact .inl hx
      · exact .inr ⟨x, List.mem_cons_of_mem _ hx, hxi⟩
/-- handles of others are told once -/
def Hs (B : List (Int × Bs)) : Prop := (B.map (·.1)).Nodup
theorem Inn.write {D : List (Option Bt)} {L : List Nm} {B : List (Int × Bs)} {k : Int} {b Y : Bs} (h : Inn D L ((k, b) :: B)) (hh : Hs ((k, b) :: B)) : Inn (D.set (k - 1).toNat (some Y)) L ((k, Y) :: B) := by
  obtain ⟨h1, h2⟩ := h.oth (k, b) (by simp)
  have hg : getB D k = some b := h1
  have hne : ∀ x ∈ B, x.1 ≠ k := fun x hx e => (List.nodup_cons.1 hh).1 (List.mem_map.2 ⟨x, hx, e⟩)
  refine ⟨h.dis, fun e he => by rw [set_getB hg, if_neg (h2 e he)]; exact h.blk e he, fun x hx => ?_, fun i c hib => ?_, h.us, h.fold⟩
  · rcases List.mem_cons.1 hx with rfl | hx
    · exact ⟨by rw [set_getB hg, if_pos rfl], h2⟩
    · obtain ⟨h3, h4⟩ := h.oth x (List.mem_cons_of_mem _ hx)
      exact ⟨by rw [set_getB hg, if_neg (hne x hx)]; exact h3, h4⟩
  · rw [set_getB hg] at hib
    by_cases hi : i = k
    · exact .inr ⟨_, List.mem_cons_self, hi.symm⟩
    · rw [if_neg hi] at hib
      rcases h.all i c hib with hx | ⟨x, hx, hxi⟩
      · exact .inl hx
      · rcases List.mem_cons.1 hx with rfl | hx
        · exact absurd hxi.symm hi
        · exact .inr ⟨x, List.mem_cons_of_mem _ hx, hxi⟩
/-- a block of others goes -/
theorem Inn.free {D : List (Option Bt)} {L : List Nm} {B B' : List (Int × Bs)} {k : Int} {b : Bs} (h : Inn D L B) (hm : (k, b) ∈ B) (hB : ∀ x, x ∈ B' ↔ x ∈ B ∧ x.1 ≠ k) : Inn (freeD D k) L B' := by
  obtain ⟨h1, h2⟩ := h.oth (k, b) hm
  refine ⟨h.dis, fun e he => by rw [free_getB_ne (h2 e he)]; exact h.blk e he, fun x hx => ?_, fun i c hib => ?_, h.us, h.fold⟩
  · obtain ⟨h3, h4⟩ := (hB x).1 hx
    obtain ⟨h5, h6⟩ := h.oth x h3
    exact ⟨by rw [free_getB_ne h4]; exact h5, h6⟩
  · by_cases hi : i = k
    · rw [hi, free_self] at hib; cases hib
    · rw [free_getB_ne hi] at hib
      rcases h.all i c hib with hx | ⟨x, hx, hxi⟩
      · exact .inl hx
      · exact .inr ⟨x, (hB x).2 ⟨hx, by rw [hxi]; exact hi⟩, hxi⟩
end Go.Proofs.Ytejmbmenbailmaa
namespace Go.Proofs.Ytejmbmenbailmaa
open Go.Xs
open Enc (enc)

def mkP : Nat → List Bs → List Pl
  | _, [] => []
  | a, x :: xs => ⟨a, x.length⟩ :: mkP (a + x.length) xs
theorem mkP_len : ∀ (a : Nat) (xs : List Bs), (mkP a xs).length = xs.length
  | _, [] => rfl
  | a, x :: xs => by show (mkP _ xs).length + 1 = xs.length + 1; rw [mkP_len]
theorem mkP_same : ∀ {a : Nat} {xs zs : List Bs}, xs.map List.length = zs.map List.length → mkP a xs = mkP a zs
  | _, [], [], _ => rfl
  | _, [], _ :: _, h => by simp at h
  | _, _ :: _, [], h => by simp at h
  | a, x :: xs, y :: zs, h => by
    rw [List.map_cons, List.map_cons, List.cons.injEq] at h
    show (⟨a, x.length⟩ : Pl) :: mkP (a + x.length) xs = ⟨a, y.length⟩ :: mkP (a + y.length) zs
    rw [h.1, mkP_same h.2]
theorem plc_app : ∀ (xs : List Bs) (P Z : Bs), (∀ x ∈ xs, vld x = true) → plc (P ++ xs.flatten ++ Z) xs.length P.length = some (mkP P.length xs, P.length + xs.flatten.length)
  | [], P, Z, _ => rfl
  | x :: xs, P, Z, h => by
    have hx := h x (by simp)
    have hd : (P ++ (x :: xs).flatten ++ Z).drop P.length = x ++ (xs.flatten ++ Z) := by
      rw [List.flatten_cons, List.append_assoc, List.append_assoc, List.drop_left]
    have hl := lead_app (Z := xs.flatten ++ Z) hx
    have ih := plc_app xs (P ++ x) Z (fun y hy => h y (List.mem_cons_of_mem _ hy))
    have e : P ++ (x :: xs).flatten ++ Z = P ++ x ++ xs.flatten ++ Z := by rw [List.flatten_cons, List.append_assoc P x]
    rw [List.length_append] at ih
    show plc _ (xs.length + 1) P.length = _
    unfold plc
    rw [hd, hl, e]
    simp only [if_true, ih, Option.map_some]
    show some (_, _) = some (_, _)
    rw [List.flatten_cons, List.length_append, Nat.add_assoc]; rfl
theorem plc_form {d : Bs} : ∀ {k a : Nat} {l : List Pl} {e : Nat}, plc d k a = some (l, e) → a ≤ d.length → ∃ xs : List Bs, xs.length = k ∧ (∀ x ∈ xs, vld x = true) ∧ l = mkP a xs ∧ d.drop a = xs.flatten ++ d.drop e ∧ l.map (cutP d) = xs ∧ e = a + xs.flatten.length
  | 0, a, l, e, h, ha => by
    obtain ⟨rfl, rfl⟩ := Prod.mk.inj (Option.some.inj h)
    exact ⟨[], rfl, fun x hx => by simp at hx, rfl, rfl, rfl, rfl⟩
  | k + 1, a, l, e, h, ha => by
    unfold plc at h
    split at h
    · next h2 =>
      have hl : lead (d.drop a) = ((lead (d.drop a)).1, true) := by rw [← h2]
      have hp := lead_pos hl
      have hv := (lead_iff.1 hl).2
      rw [List.length_drop] at hp
      cases hx : plc d k (a + (lead (d.drop a)).1) with
      | none => rw [hx] at h; cases h
      | some x =>
        obtain ⟨l2, e2⟩ := x
        rw [hx] at h
        obtain ⟨rfl, rfl⟩ := Prod.mk.inj (Option.some.inj h)
        obtain ⟨xs, i1, i2, i3, i4, i5, i6⟩ := plc_form hx (by omega)
        have hlen : ((d.drop a).take (lead (d.drop a)).1).length = (lead (d.drop a)).1 := by rw [List.length_take, List.length_drop]; omega
        refine ⟨(d.drop a).take (lead (d.drop a)).1 :: xs, by rw [List.length_cons, i1], fun y hy => ?_, ?_, ?_, ?_, ?_⟩
        · rcases List.mem_cons.1 hy with rfl | hy
          · exact hv
          · exact i2 y hy
        · show _ = (⟨a, _⟩ : Pl) :: mkP _ xs
          rw [hlen, i3]
        · rw [List.flatten_cons, List.append_assoc, ← i4, ← List.drop_drop, List.take_append_drop]
        · rw [List.map_cons, i5]; rfl
        · rw [List.flatten_cons, List.length_append, hlen, i6, Nat.add_assoc]
    · cases h
theorem shapeR_not {t : Int} {x : Nat × Nat × Nat} (h : shapeR t = some x) : t ≠ 1 ∧ t ≠ 28 ∧ t ≠ 16 ∧ 1 ≤ x.2.1 := by
  unfold shapeR at h
  split at h
  · obtain rfl := Option.some.inj h; exact ⟨by omega, by omega, by omega, Nat.le_refl _⟩
  · split at h
    · obtain rfl := Option.some.inj h; exact ⟨by omega, by omega, by omega, Nat.le_refl _⟩
    · split at h
      · obtain rfl := Option.some.inj h; exact ⟨by omega, by omega, by omega, Nat.le_refl _⟩
      · split at h
        · obtain rfl := Option.some.inj h; exact ⟨by omega, by omega, by omega, by decide⟩
        · cases h
/-- data in three parts: bytes, names, bytes -/
structure Form (t : Int) (d : Bs) (P : Bs) (xs : List Bs) (Z : Bs) : Prop where
  shape : shapeR t = some (P.length, xs.length, Z.length)
  eq : d = P ++ xs.flatten ++ Z
  vld : ∀ x ∈ xs, vld x = true
theorem Form.pls {t : Int} {d P : Bs} {xs : List Bs} {Z : Bs} (h : Form t d P xs Z) : pls t d = some (mkP P.length xs) := by
  unfold Proofs.Ytejmbmenbailmaa.pls
  rw [h.shape]
  have := plc_app xs P Z h.vld
  rw [← h.eq] at this
  have hl : d.length = P.length + xs.flatten.length + Z.length := by rw [h.eq, List.length_append, List.length_append]
  simp only
  rw [if_neg (by omega), this]
  simp only
  rw [if_pos hl]
theorem Form.ok {t : Int} {d P : Bs} {xs : List Bs} {Z : Bs} (h : Form t d P xs Z) (hd : d.length ≤ 1000) : dataOk t d = true ∧ prt t d = mkP P.length xs := by
  have hk := shapeR_not h.shape
  have h1 : dataOk t d = true := by
    unfold dataOk
    rw [if_neg (by omega), if_neg hk.1, if_neg hk.2.1, if_neg hk.2.2.1, h.pls]; rfl
  refine ⟨h1, ?_⟩
  unfold prt
  rw [if_pos h1, h.pls]; rfl
theorem dataOk_len {t : Int} {d : Bs} (h : dataOk t d = true) : d.length ≤ 1000 := by
  unfold dataOk at h
  split at h
  · cases h
  · omega
theorem form_of {t : Int} {d : Bs} (h : dataOk t d = true) {x : Nat × Nat × Nat} (hs : shapeR t = some x) : ∃ P xs Z, Form t d P xs Z ∧ (prt t d).map (cutP d) = xs := by
  have hk := shapeR_not hs
  have h0 := h
  have hlen := dataOk_len h
  unfold dataOk at h
  rw [if_neg (by omega), if_neg hk.1, if_neg hk.2.1, if_neg hk.2.2.1] at h
  have hprt : ∀ l, pls t d = some l → prt t d = l := fun l hl => by unfold prt; rw [if_pos h0, hl]; rfl
  obtain ⟨a, k, b⟩ := x
  unfold pls at h hprt
  rw [hs] at h hprt
  simp only at h hprt
  split at h
  · cases h
  · next ha =>
    rw [if_neg ha] at hprt
    split at h
    · next l e hp =>
      rw [hp] at hprt
      split at h
      · next he =>
        obtain ⟨xs, i1, i2, i3, i4, i5, i6⟩ := plc_form hp (by omega)
        have hpe := hprt l (by simp only; rw [if_pos he])
        refine ⟨d.take a, xs, d.drop e, ⟨?_, ?_, i2⟩, by rw [hpe]; exact i5⟩
        · rw [hs, i1, List.length_take, List.length_drop]
          congr 2
          · omega
          · congr 1; omega
        · rw [List.append_assoc, ← i4, List.take_append_drop]
      · cases h
    · cases h
theorem prt_none {t : Int} {d : Bs} (hs : shapeR t = none) : prt t d = [] := by
  unfold prt pls
  rw [hs]
  split <;> rfl
theorem splice_mk : ∀ (xs zs : List Bs) (P Z : Bs), zs.length = xs.length → splice (P ++ xs.flatten ++ Z) P.length (mkP P.length xs) zs = zs.flatten ++ Z
  | [], zs, P, Z, h => by
    have : zs = [] := List.length_eq_zero_iff.1 h
    subst this
    show (P ++ [] ++ Z).drop P.length = [] ++ Z
    rw [List.append_nil, List.drop_left]; rfl
  | x :: xs, [], P, Z, h => by simp at h
  | x :: xs, y :: zs, P, Z, h => by
    have ih := splice_mk xs zs (P ++ x) Z (by simpa using h)
    have e : P ++ (x :: xs).flatten ++ Z = P ++ x ++ xs.flatten ++ Z := by rw [List.flatten_cons, List.append_assoc P x]
    rw [List.length_append] at ih
    rw [e]
    show ((P ++ x ++ xs.flatten ++ Z).drop P.length).take (P.length - P.length) ++ y ++ splice (P ++ x ++ xs.flatten ++ Z) (P.length + x.length) (mkP (P.length + x.length) xs) zs = _
    rw [ih, Nat.sub_self, List.take_zero, List.nil_append, List.flatten_cons, List.append_assoc]
theorem Form.splice {t : Int} {d P : Bs} {xs : List Bs} {Z : Bs} (h : Form t d P xs Z) {zs : List Bs} (hy : zs.length = xs.length) : splice d 0 (mkP P.length xs) zs = P ++ zs.flatten ++ Z := by
  have hk := (shapeR_not h.shape).2.2.2
  have := splice_mk xs zs P Z hy
  rw [← h.eq] at this
  cases xs with
  | nil => simp at hk
  | cons x xs =>
    cases zs with
    | nil => simp at hy
    | cons y zs =>
      have e1 : Proofs.Ytejmbmenbailmaa.splice d P.length (mkP P.length (x :: xs)) (y :: zs) = y ++ Proofs.Ytejmbmenbailmaa.splice d (P.length + x.length) (mkP (P.length + x.length) xs) zs := by
        show (d.drop P.length).take (P.length - P.length) ++ y ++ _ = _
        rw [Nat.sub_self, List.take_zero]; rfl
      rw [e1] at this
      show (d.drop 0).take (P.length - 0) ++ y ++ Proofs.Ytejmbmenbailmaa.splice d (P.length + x.length) (mkP (P.length + x.length) xs) zs = _
      rw [List.append_assoc, this, List.drop_zero, Nat.sub_zero, List.append_assoc]
      congr 1
      rw [h.eq, List.append_assoc, List.take_left]
/-- folded -/
theorem Form.fold {t : Int} {d P : Bs} {xs : List Bs} {Z : Bs} (h : Form t d P xs Z) : Form t (P ++ (xs.map foldB).flatten ++ Z) P (xs.map foldB) Z := by
  refine ⟨by rw [List.length_map]; exact h.shape, rfl, fun x hx => ?_⟩
  obtain ⟨y, hy, rfl⟩ := List.mem_map.1 hx
  rw [vld_fold]; exact h.vld y hy
theorem fold_lens (xs : List Bs) : (xs.map foldB).map List.length = xs.map List.length := by
  rw [List.map_map]; exact List.map_congr_left fun x _ => foldB_len x
theorem flat_len (xs zs : List Bs) (h : xs.map List.length = zs.map List.length) : xs.flatten.length = zs.flatten.length := by
  rw [List.length_flatten, List.length_flatten, h]
theorem Form.cut {t : Int} {d P : Bs} {xs : List Bs} {Z : Bs} (h : Form t d P xs Z) (hd : d.length ≤ 1000) : (prt t d).map (cutP d) = xs := by
  rw [(h.ok hd).2]
  have := plc_app xs P Z h.vld
  rw [← h.eq] at this
  obtain ⟨zs, _, _, i3, i4, i5, i6⟩ := plc_form this (by rw [h.eq, List.length_append, List.length_append]; omega)
  rw [i5]
  have hm : mkP P.length xs = mkP P.length zs := i3
  -- the same lengths, the same bytes
  have key : ∀ (a : Nat) (xs zs : List Bs) (Z Z' : Bs), mkP a xs = mkP a zs → xs.flatten ++ Z = zs.flatten ++ Z' → xs = zs := by
    intro a xs
    induction xs generalizing a with
    | nil =>
      intro zs Z Z' h1 _
      cases zs with
      | nil => rfl
      | cons y zs => cases h1
    | cons x xs ih =>
      intro zs Z Z' h1 h2
      cases zs with
      | nil => cases h1
      | cons y zs =>
        have h3 : (⟨a, x.length⟩ : Pl) :: mkP (a + x.length) xs = ⟨a, y.length⟩ :: mkP (a + y.length) zs := h1
        obtain ⟨h4, h5⟩ := List.cons.inj h3
        have hl : x.length = y.length := congrArg Pl.n h4
        rw [List.flatten_cons, List.flatten_cons, List.append_assoc, List.append_assoc] at h2
        obtain ⟨h6, h7⟩ := List.append_inj h2 hl
        rw [h6, ih _ _ _ _ (by rw [hl] at h5; rw [← hl] at h5; rw [h5, hl]) h7]
  refine (key P.length xs zs Z (d.drop (P.length + xs.flatten.length)) hm ?_).symm
  rw [← i4, h.eq, List.append_assoc, List.drop_left]
theorem Form.fold_len {t : Int} {d P : Bs} {xs : List Bs} {Z : Bs} (h : Form t d P xs Z) : (P ++ (xs.map foldB).flatten ++ Z).length = d.length := by
  rw [h.eq, List.length_append, List.length_append, List.length_append, List.length_append, flat_len _ _ (fold_lens xs)]
theorem foldD_form {t : Int} {d P : Bs} {xs : List Bs} {Z : Bs} (h : Form t d P xs Z) (hd : d.length ≤ 1000) : foldD t d = P ++ (xs.map foldB).flatten ++ Z := by
  have h1 := h.cut hd
  unfold foldD
  have : ((prt t d).map fun p => foldB (cutP d p)) = xs.map foldB := by rw [← h1, List.map_map]; rfl
  rw [this, (h.ok hd).2]
  exact h.splice (by rw [List.length_map])
theorem foldD_none {t : Int} {d : Bs} (hs : shapeR t = none) : foldD t d = d := by
  unfold foldD
  rw [prt_none hs]; rfl
/-- data folded is as good -/
theorem foldD_ok {t : Int} {d : Bs} (h : dataOk t d = true) : dataOk t (foldD t d) = true ∧ prt t (foldD t d) = prt t d ∧ (foldD t d).length = d.length := by
  cases hs : shapeR t with
  | none => rw [foldD_none hs]; exact ⟨h, rfl, rfl⟩
  | some x =>
    have hd := dataOk_len h
    obtain ⟨P, xs, Z, hf, _⟩ := form_of h hs
    rw [foldD_form hf hd]
    have hl := hf.fold_len
    obtain ⟨h1, h2⟩ := hf.fold.ok (by omega)
    exact ⟨h1, by rw [h2, (hf.ok hd).2, mkP_same (fold_lens xs)], hl⟩
theorem datB_form {r : RR} {P : Bs} {xs : List Bs} {Z : Bs} (h : Form r.t r.d P xs Z) (hd : r.d.length ≤ 1000) {ids : List Int} (hi : ids.length = xs.length) : datB r ids = P ++ (ids.map idB).flatten ++ Z := by
  unfold datB
  rw [(h.ok hd).2]
  exact h.splice (by rw [List.length_map, hi])
theorem datB_none {r : RR} (hs : shapeR r.t = none) (ids : List Int) : datB r ids = r.d := by
  unfold datB
  rw [prt_none hs]
  cases ids <;> rfl
theorem ids_len : ∀ (ids : List Int), (ids.map idB).flatten.length = 4 * ids.length
  | [] => rfl
  | i :: l => by rw [List.map_cons, List.flatten_cons, List.length_append, ids_len l, List.length_cons, idB, leN_len]; omega
theorem sumI_mk : ∀ (a : Nat) (xs : List Bs), sumI ((mkP a xs).map fun p => 4 - (p.n : Int)) = 4 * (xs.length : Int) - (xs.flatten.length : Int)
  | _, [] => rfl
  | a, x :: xs => by
    show sumI ((4 - (x.length : Int)) :: (mkP (a + x.length) xs).map fun p => 4 - (p.n : Int)) = _
    rw [sumI_cons, sumI_mk, List.flatten_cons, List.length_append, List.length_cons]
    push_cast
    omega
theorem datB_len {r : RR} (h : dataOk r.t r.d = true) {ids : List Int} (hi : ids.length = (prt r.t r.d).length) : ((datB r ids).length : Int) = sizR r - 2 := by
  unfold sizR
  cases hs : shapeR r.t with
  | none => rw [datB_none hs, prt_none hs]; show (r.d.length : Int) = 2 + r.d.length + 0 - 2; omega
  | some x =>
    have hd := dataOk_len h
    obtain ⟨P, xs, Z, hf, _⟩ := form_of h hs
    have hp := (hf.ok hd).2
    rw [hp, mkP_len] at hi
    rw [datB_form hf hd hi, hp, sumI_mk, hf.eq]
    rw [List.length_append, List.length_append, List.length_append, List.length_append, ids_len, hi]
    push_cast
    omega
theorem sizR_ge {r : RR} (h : dataOk r.t r.d = true) : 2 ≤ sizR r := by
  have := datB_len h (ids := List.replicate (prt r.t r.d).length 0) (by simp)
  omega
theorem rrsB_len : ∀ {l : List RR} {ids : List Int}, (∀ r ∈ l, dataOk r.t r.d = true) → ids.length = ((l.map nmsR).flatten).length → ((rrsB l ids).length : Int) = sumI (l.map sizR)
  | [], _, _, _ => rfl
  | r :: l, ids, h, hi => by
    rw [List.map_cons, List.flatten_cons, List.length_append, nmsR, List.length_map] at hi
    have hd : datB r ids = datB r (ids.take (prt r.t r.d).length) := by
      unfold datB
      have key : ∀ (d : Bs) (l : List Pl) (a : Nat) (xs : List Bs), splice d a l xs = splice d a l (xs.take l.length) := by
        intro d l
        induction l with
        | nil => intro a xs; cases xs <;> rfl
        | cons p l ih =>
          intro a xs
          cases xs with
          | nil => rfl
          | cons x xs =>
            show _ = splice d a (p :: l) (x :: xs.take l.length)
            show (d.drop a).take (p.at_ - a) ++ x ++ splice d (p.at_ + p.n) l xs = (d.drop a).take (p.at_ - a) ++ x ++ splice d (p.at_ + p.n) l (xs.take l.length)
            rw [← ih]
      rw [key, List.map_take]
    have h1 := datB_len (h r (by simp)) (ids := ids.take (prt r.t r.d).length) (by rw [List.length_take]; omega)
    have ih := rrsB_len (l := l) (ids := ids.drop (prt r.t r.d).length) (fun x hx => h x (List.mem_cons_of_mem _ hx)) (by rw [List.length_drop]; omega)
    show ((leN 2 (datB r ids).length ++ datB r ids ++ rrsB l (ids.drop (prt r.t r.d).length)).length : Int) = _
    rw [List.length_append, List.length_append, leN_len, List.map_cons, sumI_cons, ← ih]
    rw [← hd] at h1
    push_cast
    omega
theorem blkS_len {s : St} {ids : List Int} (h : ∀ r ∈ s.rrs, dataOk r.t r.d = true) (hi : ids.length = (nmsS s).length) : ((blkS s ids).length : Int) = sizS s := by
  have h1 : ids.length = ((s.rrs.map nmsR).flatten).length + 2 := by rw [hi]; rfl
  have := rrsB_len (l := s.rrs) (ids := ids.drop 2) h (by rw [List.length_drop]; omega)
  unfold blkS sizS idB
  simp only [List.length_append, leN_len]
  rw [← this]
  push_cast
  omega
theorem mayS_data {s : St} (h : mayS s = true) : ∀ r ∈ s.rrs, dataOk r.t r.d = true ∧ r.t = s.typ := fun r hr => by
  unfold mayS at h
  simp only [Bool.and_eq_true] at h
  have := List.all_eq_true.1 h.2 r hr
  unfold rrOk at this
  simp only [Bool.and_eq_true, decide_eq_true_eq] at this
  exact ⟨this.2, this.1.1.2⟩
theorem mayS_nums {s : St} (h : mayS s = true) : vld s.name = true ∧ vld s.zone = true ∧ 1 ≤ s.typ ∧ s.typ ≤ 65535 ∧ 0 ≤ s.kind ∧ s.kind ≤ 2 ∧ s.rrs.length ≤ 32 ∧ (0 < s.rrs.length ↔ s.kind = 0) := by
  unfold mayS at h
  simp only [Bool.and_eq_true, decide_eq_true_eq, beq_iff_eq] at h
  obtain ⟨⟨⟨⟨⟨h1, h2⟩, h3⟩, h4⟩, h5⟩, _⟩ := h
  exact ⟨h1, h2, h3.1, h3.2.1, h3.2.2.1, h3.2.2.2, h4, decide_eq_decide.1 h5⟩
theorem folS_may {s : St} (h : mayS s = true) : mayS (folS s) = true ∧ sizS (folS s) = sizS s := by
  have hn := mayS_nums h
  have hd := mayS_data h
  constructor
  · unfold mayS folS
    simp only [Bool.and_eq_true, decide_eq_true_eq, beq_iff_eq, List.length_map]
    refine ⟨⟨⟨⟨⟨by rw [vld_fold]; exact hn.1, by rw [vld_fold]; exact hn.2.1⟩, ⟨hn.2.2.1, hn.2.2.2.1, hn.2.2.2.2.1, hn.2.2.2.2.2.1⟩⟩, hn.2.2.2.2.2.2.1⟩, decide_eq_decide.2 hn.2.2.2.2.2.2.2⟩, List.all_eq_true.2 fun r hr => ?_⟩
    obtain ⟨x, hx, rfl⟩ := List.mem_map.1 hr
    obtain ⟨h1, h2⟩ := hd x hx
    unfold rrOk sameN
    simp only [Bool.and_eq_true, decide_eq_true_eq, beq_self_eq_true, vld_fold, hn.1, and_self, true_and]
    exact ⟨⟨h2, trivial⟩, (foldD_ok h1).1⟩
  · unfold sizS folS
    simp only [List.map_map]
    congr 2
    refine List.map_congr_left fun r hr => ?_
    obtain ⟨h2, h3, h4⟩ := foldD_ok (hd r hr).1
    show sizR ⟨foldB s.name, r.t, 1, 0, foldD r.t r.d⟩ = sizR r
    unfold sizR
    simp only
    rw [h3, h4]
end Go.Proofs.Ytejmbmenbailmaa
namespace Go.Proofs.Ytejmbmenbailmaa
open Go.Xs
open Enc (enc)

theorem ext_sv (Y : Bs) (j k : Nat) : (⟨Y.toArray⟩ : ByteArray).extract j k = ⟨((Y.drop j).take (k - j)).toArray⟩ := by
  apply ByteArray.ext
  rw [ByteArray.data_extract]
  apply Array.toList_inj.1
  simp
theorem app_sv (Y Z : Bs) : (⟨Y.toArray⟩ : ByteArray) ++ (⟨Z.toArray⟩ : ByteArray) = ⟨(Y ++ Z).toArray⟩ := by
  apply ByteArray.ext
  rw [ByteArray.data_append]
  simp
theorem pSvFrom {E : Env} {x i : Operand} {Y : Bs} {j : Nat} {q : IntKind} (h1 : ev E x = sv Y) (h2 : ev E i = .int q (j : Int)) (h : j ≤ Y.length) : pstep (ev E) (.sslc x (some i) none) = some (sv (Y.drop j)) := by
  rw [pSsFrom (s := ⟨Y.toArray⟩) h1 h2 h, szS, ext_sv, List.take_of_length_le (by rw [List.length_drop]; omega)]
theorem pSvTo {E : Env} {x i : Operand} {Y : Bs} {j : Nat} {q : IntKind} (h1 : ev E x = sv Y) (h2 : ev E i = .int q (j : Int)) (h : j ≤ Y.length) : pstep (ev E) (.sslc x none (some i)) = some (sv (Y.take j)) := by
  rw [pSsTo (s := ⟨Y.toArray⟩) h1 h2 h, ext_sv, List.drop_zero, Nat.sub_zero]
theorem pSvFT {E : Env} {x i i' : Operand} {Y : Bs} {j k : Nat} {q q' : IntKind} (h1 : ev E x = sv Y) (h2 : ev E i = .int q (j : Int)) (h2' : ev E i' = .int q' (k : Int)) (h : j ≤ k ∧ k ≤ Y.length) : pstep (ev E) (.sslc x (some i) (some i')) = some (sv ((Y.drop j).take (k - j))) := by
  rw [pSsFT (s := ⟨Y.toArray⟩) h1 h2 h2' h, ext_sv]
theorem pCat {E : Env} {x y : Operand} {Y Z : Bs} (h1 : ev E x = sv Y) (h2 : ev E y = sv Z) (h : Y.length + Z.length ≤ 9223372036854775807) : pstep (ev E) (.bin .add x y) = some (sv (Y ++ Z)) := by
  simp only [pstep, h1, h2, xbin, xstr, szS]
  rw [if_pos h, app_sv]
theorem sv_inj {Y Z : Bs} : (⟨Y.toArray⟩ : ByteArray) = ⟨Z.toArray⟩ ↔ Y = Z := ⟨fun h => by have := congrArg (fun b : ByteArray => b.data.toList) h; simpa using this, fun h => by rw [h]⟩
theorem res4 {E : Env} {S : Segs} {t u s q : Tmp} {v v' v'' v3 : Value} (hv : E t = v) (hv' : E u = v') (hv'' : E s = v'') (hv3 : E q = v3) : Res Try.prog #[.tmp t, .tmp u, .tmp s, .tmp q] E S (.tuple #[v, v', v'', v3]) := fun fn F w tmps h _ he => by
  rw [← hv, ← hv', ← hv'', ← hv3, ← he]
  simp [results, h, Sem.run_bind, Sem.run, Result.andThen, pure]
/-- append(b, s...) -/
theorem yappS {r : Option Nat} {n : Nat} {K : Env → Segs → Prop} {E : Env} {S G : Segs} {d : Option Tmp} {e bytes : Nat} {z : List Value} {s x : Operand} {v : Value} {L Y : Bs} {H : List Chunk} [hp : Pick S H G] (hs : ev E s = v) (hx : ev E x = sv Y) (hL : Slc e v L H)
    (hz : enc (0 : UInt8) = z) (hb : (L.length + Y.length) * bytes ≤ 140737488355328) (hl : L.length + Y.length ≤ 9223372036854775807)
    (h : ∀ v' H', Slc e v' (L ++ Y) H' → K (putE d v' E) (H' :: G)) : YO Try.prog r n d (.app e 1 bytes z s x) K E S := by
  refine yappX (α := UInt8) hs hx hL (fun F w _ => ⟨?_, ?_⟩) rfl (0 : UInt8) hz hb hl h
  · show (pure (⟨Y.toArray⟩ : ByteArray).size : Sem Nat).run Try.prog w = _
    simp [pure, szS]
  · show (pure (((⟨Y.toArray⟩ : ByteArray).extract 0 Y.length).data.map fun b => Value.int .u8 b.toNat) : Sem (Array Value)).run Try.prog w = _
    rw [ext_sv, List.drop_zero, Nat.sub_zero, List.take_length]
    have : (Y.toArray.map fun b => Value.int .u8 b.toNat) = (cells Y).toArray := by
      apply Array.toList_inj.1
      rw [cells_bytes]; simp
    rw [this]; rfl
end Go.Proofs.Ytejmbmenbailmaa
namespace Go.Proofs.Ytejmbmenbailmaa
open Go.Xs
open Enc (enc)

def shpV (t : Int) : Value := match shapeR t with
  | some (a, k, b) => .tuple #[.int .i64 (a : Int), .int .i64 (k : Int), .int .i64 (b : Int), .bool true]
  | none => .tuple #[.int .i64 0, .int .i64 0, .int .i64 0, .bool false]
theorem rcShape (t : Int) : Tri Try.prog 70 #[.int .i64 t] [] (fun r S => r = shpV t ∧ S = []) := by
  refine Tri.forget (ycallee Try.fx70 (Nat.le_of_ble_eq_true rfl) ?_)
  unfold Try.x70
  unfold shpV shapeR
  refine yseq (yregion (yp pC (yp pC (yp pC (yp pC (ynil (tnorm (yseq (yseq (yregion (yp (pI rfl) (ynil (tnorm (yblock (yseq (yseq (yregion (yp (pEq rfl rfl) (yp (pB rfl) (ynil (tnorm ?_)))))))))))))))))))))
  by_cases h1 : t = 2
  · rw [decide_eq_true h1, if_pos (.inl h1)]
    refine ycondT rfl (yskip (tnorm (ycondT rfl (yseq (yregion (yp pC (yp pC (yp pC (yp pC (ynil (tnorm (yret (bret (tret ?_))))))))))))))
    exact yfin (res4 rfl rfl rfl rfl) ⟨_, .of, rfl, rfl⟩
  rw [decide_eq_false h1]
  refine ycondF rfl (yseq (yregion (yp (pEq rfl rfl) (yp (pB rfl) (ynil (tnorm ?_))))))
  by_cases h2 : t = 5
  · rw [decide_eq_true h2, if_pos (.inr (.inl h2))]
    refine ycondT rfl (yskip (tnorm (ycondT rfl (yseq (yregion (yp pC (yp pC (yp pC (yp pC (ynil (tnorm (yret (bret (tret ?_))))))))))))))
    exact yfin (res4 rfl rfl rfl rfl) ⟨_, .of, rfl, rfl⟩
  rw [decide_eq_false h2]
  refine ycondF rfl (yregion (yp (pEq rfl rfl) (yp (pB rfl) (ynil (tnorm ?_)))))
  by_cases h3 : t = 12
  · rw [decide_eq_true h3, if_pos (.inr (.inr h3))]
    refine ycondT rfl (yseq (yregion (yp pC (yp pC (yp pC (yp pC (ynil (tnorm (yret (bret (tret ?_)))))))))))
    exact yfin (res4 rfl rfl rfl rfl) ⟨_, .of, rfl, rfl⟩
  rw [decide_eq_false h3, if_neg (show ¬ (t = 2 ∨ t = 5 ∨ t = 12) from by omega)]
  refine ycondF rfl (yseq (yregion (yp (pEq rfl rfl) (yp (pB rfl) (ynil (tnorm ?_))))))
  by_cases h4 : t = 15
  · rw [decide_eq_true h4, if_pos h4]
    refine ycondT rfl (yseq (yregion (yp pC (yp pC (yp pC (yp pC (ynil (tnorm (yret (bret (tret ?_)))))))))))
    exact yfin (res4 rfl rfl rfl rfl) ⟨_, .of, rfl, rfl⟩
  rw [decide_eq_false h4, if_neg h4]
  refine ycondF rfl (yseq (yregion (yp (pEq rfl rfl) (yp (pB rfl) (ynil (tnorm ?_))))))
  by_cases h5 : t = 33
  · rw [decide_eq_true h5, if_pos h5]
    refine ycondT rfl (yseq (yregion (yp pC (yp pC (yp pC (yp pC (ynil (tnorm (yret (bret (tret ?_)))))))))))
    exact yfin (res4 rfl rfl rfl rfl) ⟨_, .of, rfl, rfl⟩
  rw [decide_eq_false h5, if_neg h5]
  refine ycondF rfl (yseq (yregion (yp (pEq rfl rfl) (yp (pB rfl) (ynil (tnorm ?_))))))
  by_cases h6 : t = 6
  · rw [decide_eq_true h6, if_pos h6]
    refine ycondT rfl (yseq (yregion (yp pC (yp pC (yp pC (yp pC (ynil (tnorm (yret (bret (tret ?_)))))))))))
    exact yfin (res4 rfl rfl rfl rfl) ⟨_, .of, rfl, rfl⟩
  rw [decide_eq_false h6, if_neg h6]
  refine ycondF rfl (yskip (bnorm (tnorm (yseq (yregion (yp pC (yp pC (yp pC (yp pC (ynil (tnorm (yret ?_))))))))))))
  exact yfin (res4 rfl rfl rfl rfl) ⟨_, .of, rfl, rfl⟩

theorem rcPlaces (t : Int) (d : Bs) (hd : d.length < 2 ^ 40) : Tri Try.prog 49 #[.int .i64 t, sv d] [] (fun r S => ∃ v L H, r = .tuple #[v, .bool (pls t d).isSome] ∧ Slc 97 v (L : List Pl) H ∧ (∀ l, pls t d = some l → L = l) ∧ S = [H]) := by
  refine Tri.forget (ycallee Try.fx49 (Nat.le_of_ble_eq_true rfl) ?_)
  unfold Try.x49
  refine yseq (yregion (yp pC (yp pC (ynil (tnorm (yseq (yregion (yp (pI rfl) ?_))))))))
  refine ycons (ycall (rcShape t) rfl rfl fun r S' h => ?_)
  obtain ⟨rfl, rfl⟩ := h
  have hno : ∀ {v : Value}, (pls t d) = none → v = .tuple #[.slice none 0 0, .bool false] → ∀ S, ∃ S'', Junk S S'' ∧ ∃ w L H, v = .tuple #[w, .bool (pls t d).isSome] ∧ Slc 97 w (L : List Pl) H ∧ (∀ l, pls t d = some l → L = l) ∧ S'' = [H] := fun h hv S => ⟨[[]], ⟨S.flatten, by simp⟩, _, [], [], by rw [h]; exact hv, .nil, fun l hl => by (rw [h] at hl; cases hl), rfl⟩
  unfold shpV
  cases hs : shapeR t with
  | none =>
    have hp : pls t d = some [] := by unfold pls; rw [hs]
    simp only
    refine yp (pU rfl) (yp (pExt rfl rfl) (yp (pExt rfl rfl) (yp (pExt rfl rfl) (yp (pExt rfl rfl) (yp (pI rfl) (yp (pI rfl) (yp (pI rfl) (yp (pB rfl) (ynil (tnorm (yseq (yseq (yregion (yp (pB rfl) (yp (pNot rfl) (ynil (tnorm (ycondT rfl (yseq (yregion (yp pC (yp pC (ynil (tnorm (yret (tret ?_))))))))))))))))))))))))))
    exact yfin (rSB rfl rfl) ⟨[[]], ⟨[], by simp⟩, _, [], [], by rw [hp]; rfl, .nil, fun l hl => by rw [hp] at hl; exact Option.some.inj hl, rfl⟩
  | some x =>
    obtain ⟨a, k, b⟩ := x
    have hp : pls t d = if d.length < a then none else match plc d k a with
      | some (l, e) => if d.length = e + b then some l else none
      | none => none := by unfold pls; rw [hs]; try rfl
    have hab : a ≤ 6 ∧ k ≤ 2 ∧ b ≤ 20 := shapeR_le hs
    simp only
    refine yp (pU rfl) (yp (pExt rfl rfl) (yp (pExt rfl rfl) (yp (pExt rfl rfl) (yp (pExt rfl rfl) (yp (pI rfl) (yp (pI rfl) (yp (pI rfl) (yp (pB rfl) (ynil (tnorm (yseq (yseq (yregion (yp (pB rfl) (yp (pNot rfl) (ynil (tnorm (ycondF rfl (yskip (tnorm (yseq (yseq (yregion (yp (pT rfl) (yp (pLenS rfl) (yp (pI rfl) (yp (pLt rfl rfl) (ynil (tnorm ?_)))))))))))))))))))))))))))))
    rw [szS]
    by_cases h1 : d.length < a
    · rw [decide_eq_true (show (d.length : Int) < (a : Int) from by omega)]
      rw [if_pos h1] at hp
      refine ycondT rfl (yseq (yregion (yp pC (yp pC (ynil (tnorm (yret (tret ?_))))))))
      exact yfin (rSB rfl rfl) (hno hp rfl _)
    rw [decide_eq_false (show ¬ (d.length : Int) < (a : Int) from by omega)]
    rw [if_neg h1] at hp
    refine ycondF rfl (yskip (tnorm (yseq (yregion (yp (pI rfl) (yp (pI rfl) (ynil (tnorm (yseq (yseq (yregion (yp (pI rfl) (yp pC (ynil (tnorm (yblock ?_))))))))))))))))
    refine yloop (σ := Nat) (fun i E S => ∃ (v : Value) (L : List Pl) (H : List Chunk) (e : Nat), Has E [(1, sv d), (8, .int .i64 (b : Int)), (10, .int .i64 (e : Int)), (27, .int .i64 (k : Int)), (28, .int .i64 (i : Int))] ∧ E 4 = v ∧ Slc 97 v L H ∧ L.length = i ∧ i ≤ k ∧ e ≤ d.length ∧ plc d k a = (plc d (k - i) e).map (fun x => (L ++ x.1, x.2)) ∧ Junk S [H]) (fun i => k - i) 0
      ⟨_, [], [], a, ⟨rfl, rfl, rfl, rfl, rfl, trivial⟩, rfl, .nil, rfl, Nat.zero_le _, by omega, by cases plc d (k - 0) a <;> rfl, ⟨[], by simp⟩⟩ fun i E S ⟨v, L, H, e, hE, hE4, hL, hLl, hi, he, hx, hJ⟩ => ?_
    obtain ⟨la, lc, rfl⟩ := hL.isSlice
    have hE2 : Has E [(1, sv d), (4, .slice la L.length lc), (8, .int .i64 (b : Int)), (10, .int .i64 (e : Int)), (27, .int .i64 (k : Int)), (28, .int .i64 (i : Int))] := ⟨hE.1, hE4, hE.2⟩
    clear hE hE4
    obtain ⟨E0, e0⟩ := has_puts hE2; subst e0; clear hE2
    refine yforget hJ (yseq (yregion (yp (pLt rfl rfl) (ynil (tnorm (yseq ?_))))))
    refine ycondD rfl (fun h2 => ?_) (fun h2 => ?_)
    · obtain ⟨m, hm⟩ : ∃ m, k - i = m + 1 := ⟨k - i - 1, by omega⟩
      rw [hm, plc] at hx
      refine yskip (tnorm (yseq (yblock (yseq (yregion (yp (pT rfl) (yp (pI rfl) (yp (pSvFrom (Y := d) rfl rfl he) ?_))))))))
      skip
      refine ycons (ycall (nmLead (d.drop e) (by rw [List.length_drop]; omega)) rfl rfl fun r S' h => ?_)
      obtain ⟨rfl, rfl⟩ := h
      cases hb : (lead (d.drop e)).2 with
      | false =>
        rw [hb, if_neg (by decide)] at hx
        rw [hx] at hp
        refine yp (pU rfl) (yp (pExt rfl rfl) (yp (pExt rfl rfl) (yp (pI rfl) (yp (pB rfl) (ynil (tnorm (yseq (yseq (yregion (yp (pB rfl) (yp (pNot rfl) (ynil (tnorm (ycondT rfl (yseq (yregion (yp pC (yp pC (ynil (tnorm (yret (tret (bret (tret (tret (bret (tret ?_)))))))))))))))))))))))))))
        exact yfin (rSB rfl rfl) (hno hp rfl _)
      | true =>
        rw [hb, if_pos rfl] at hx
        have hl := lead_pos (show lead (d.drop e) = ((lead (d.drop e)).1, true) from by rw [← hb])
        rw [List.length_drop] at hl
        generalize (lead (d.drop e)).1 = n at hx hl
        refine yp (pU rfl) (yp (pExt rfl rfl) (yp (pExt rfl rfl) (yp (pI rfl) (yp (pB rfl) (ynil (tnorm (yseq (yseq (yregion (yp (pB rfl) (yp (pNot rfl) (ynil (tnorm (ycondF rfl (yskip (tnorm (yseq (yregion (yp (pS rfl) (yp (pI rfl) (yp (pI rfl) (yp (pBuild2 (scI rfl) (scI rfl)) ?_))))))))))))))))))))))
        refine ycons (ybsl1 (⟨e, n⟩ : Pl) rfl rfl (by decide) (by decide) rfl fun p43 => ?_)
        refine ycons (yapp (Y := [(⟨e, n⟩ : Pl)]) rfl rfl hL (.lit (by repeat (first | exact List.mem_cons_self | apply List.mem_cons_of_mem)) rfl) rfl (⟨0, 0⟩ : Pl) rfl (by simp; omega) (by simp; omega) fun v2 H2 hL2 => ?_)
        obtain ⟨la2, lc2, rfl⟩ := hL2.isSlice
        refine yp (pS rfl) (ynil (tnorm (yregion (yp (pI rfl) (yp (pI rfl) (yp (pAddN rfl rfl (by omega)) (yp (pI rfl) (ynil (bnorm (tnorm (yregion (yp (pInc rfl rfl (by omega)) (yp (pI rfl) (ynil (tnorm ?_)))))))))))))))
        refine ⟨i + 1, ⟨.slice la2 (L ++ [(⟨e, n⟩ : Pl)]).length lc2, L ++ [⟨e, n⟩], H2, e + n, ⟨rfl, rfl, rfl, rfl, rfl, trivial⟩, rfl, hL2, by simp [hLl], by omega, by omega, ?_, .of⟩, by omega⟩
        rw [hx, Option.map_map, show k - (i + 1) = m from by omega]
        congr 1
        funext x
        simp
    · obtain rfl : i = k := by omega
      rw [Nat.sub_self, plc] at hx
      rw [hx] at hp
      simp only [Option.map_some, List.append_nil] at hp
      refine yexit (texit (texit (bexit (tnorm (yseq (yregion (yp (pS rfl) (yp (pT rfl) (yp (pLenS rfl) (yp (pI rfl) ?_))))))))))
      rw [szS]
      refine yp (pSub rfl rfl (by omega)) (yp (pI rfl) (yp (pEq rfl rfl) (yp (pS rfl) (yp (pB rfl) (ynil (tnorm (yret ?_)))))))
      by_cases h3 : d.length = e + b
      · rw [if_pos h3] at hp
        rw [decide_eq_true (show (d.length : Int) - (e : Int) = (b : Int) from by omega)]
        exact yfin (rSB rfl rfl) ⟨_, .of, _, L, H, by rw [hp]; rfl, hL, fun l hl => by rw [hp] at hl; exact Option.some.inj hl, rfl⟩
      · rw [if_neg h3] at hp
        rw [decide_eq_false (show ¬ (d.length : Int) - (e : Int) = (b : Int) from by omega)]
        exact yfin (rSB rfl rfl) ⟨_, .of, _, L, H, by rw [hp]; rfl, hL, fun l hl => by (rw [hp] at hl; cases hl), rfl⟩

theorem txF_step {f : Nat} {d : Bs} {a : Nat} {b : UInt8} (h : d[a]? = some b) : txF (f + 1) d a = txF f d (a + 1 + b.toNat) := by rw [txF, h]
theorem txF_end {f : Nat} {d : Bs} {a : Nat} (h : d.length ≤ a) : txF (f + 1) d a = (a == d.length) := by rw [txF, List.getElem?_eq_none h]
theorem svE (Y : Bs) : decide ((⟨Y.toArray⟩ : ByteArray) = ⟨#[]⟩) = decide (Y = []) := by
  refine decide_eq_decide.2 ?_
  exact sv_inj (Z := [])
theorem rcTexts (d : Bs) (hd : d.length < 2 ^ 40) : Tri Try.prog 69 #[sv d] [] (fun r S => r = .bool (txt d) ∧ S = []) := by
  refine Tri.forget (ycallee Try.fx69 (Nat.le_of_ble_eq_true rfl) ?_)
  unfold Try.x69
  refine yseq (yregion (yp pC (ynil (tnorm (yseq (yseq (yregion (yp (pT rfl) (yp (pEqS rfl rfl) (ynil (tnorm ?_)))))))))))
  rw [svE]
  by_cases h0 : d = []
  · rw [decide_eq_true h0]
    subst h0
    refine ycondT rfl (yseq (yregion (yp pC (ynil (tnorm (yret (tret ?_)))))))
    exact yfin (rB rfl) ⟨_, .of, rfl, rfl⟩
  rw [decide_eq_false h0]
  have ht : txt d = txF (d.length + 1) d 0 := by unfold txt; rw [show (d != []) = true from by simpa using h0]; rfl
  refine ycondF rfl (yskip (tnorm (yseq (yblock ?_))))
  refine yloop (σ := Nat) (fun a E S => Has E [(0, sv (d.drop a))] ∧ a ≤ d.length ∧ (∃ f, txt d = txF f d a ∧ d.length + 1 ≤ f + a) ∧ Junk S []) (fun a => d.length - a) 0 ⟨⟨rfl, trivial⟩, Nat.zero_le _, ⟨_, ht, Nat.le_refl _⟩, .of⟩ fun a E S ⟨hE, ha, ⟨f, hf, hfl⟩, hJ⟩ => ?_
  obtain ⟨f, rfl⟩ : ∃ g, f = g + 1 := ⟨f - 1, by omega⟩
  obtain ⟨E0, e0⟩ := has_puts hE; subst e0; clear hE
  refine yforget hJ ?_
  have hdl : (d.drop a).length = d.length - a := List.length_drop
  refine yseq (yseq (yregion (yp (pT rfl) (yp (pNeS rfl rfl) (ynil (tnorm ?_))))))
  rw [svE]
  by_cases h1 : a < d.length
  · have hy : d[a]? = some d[a] := List.getElem?_eq_getElem h1
    have hy0 : (d.drop a)[0]? = some d[a] := by rw [List.getElem?_drop]; exact hy
    generalize d[a] = b at hy hy0
    have hb := b.toNat_lt
    rw [decide_eq_false (show ¬ d.drop a = [] from fun h => by rw [h] at hdl; simp at hdl; omega)]
    rw [txF_step hy] at hf
    refine ycondT rfl (yskip (tnorm (yblock (yseq (yregion (yp (pT rfl) (yp (pSIy (k := 0) rfl rfl hy0) (yp (pCvB rfl) (yp (pAdd rfl rfl (by omega)) (yp (pI rfl) (ynil (tnorm (yseq (yseq (yregion (yp (pI rfl) (yp (pT rfl) (yp (pLenS rfl) (yp (pGt rfl rfl) (ynil (tnorm ?_)))))))))))))))))))))
    rw [szS]
    by_cases h2 : a + 1 + b.toNat ≤ d.length
    · rw [decide_eq_false (show ¬ ((d.drop a).length : Int) < 1 + (b.toNat : Int) from by omega)]
      refine ycondF rfl (yskip (tnorm (yregion (yp (pT rfl) (yp (pI rfl) (yp (pSvFrom (Y := d.drop a) (j := 1 + b.toNat) rfl rfl (by omega)) ?_))))))
      rw [List.drop_drop, show a + (1 + b.toNat) = a + 1 + b.toNat from by omega]
      refine yp (pT rfl) (ynil (bnorm (tnorm ?_)))
      exact ⟨a + 1 + b.toNat, ⟨⟨rfl, trivial⟩, h2, ⟨f, hf, by omega⟩, .of⟩, by omega⟩
    · rw [decide_eq_true (show ((d.drop a).length : Int) < 1 + (b.toNat : Int) from by omega)]
      obtain ⟨f, rfl⟩ : ∃ g, f = g + 1 := ⟨f - 1, by omega⟩
      rw [txF_end (by omega)] at hf
      refine ycondT rfl (yseq (yregion (yp pC (ynil (tnorm (yret (tret (bret (tret (bret (tret ?_)))))))))))
      exact yfin (rB rfl) ⟨_, .of, by rw [hf, beq_eq_false_iff_ne.2 (by omega)], rfl⟩
  · have hda : d.drop a = [] := List.drop_eq_nil_of_le (by omega)
    rw [decide_eq_true hda]
    rw [txF_end (by omega)] at hf
    refine ycondF rfl (yexit (texit (texit (bexit (tnorm (yseq (yregion (yp pC (ynil (tnorm (yret ?_)))))))))))
    exact yfin (rB rfl) ⟨_, .of, by rw [hf, beq_iff_eq.2 (by omega)], rfl⟩
theorem decB4 (n : Nat) : decide ((n : Int) = 4) = (n == 4) := by
  by_cases h : n = 4
  · rw [decide_eq_true (by omega), beq_iff_eq.2 h]
  · rw [decide_eq_false (by omega), beq_eq_false_iff_ne.2 h]
theorem decB16 (n : Nat) : decide ((n : Int) = 16) = (n == 16) := by
  by_cases h : n = 16
  · rw [decide_eq_true (by omega), beq_iff_eq.2 h]
  · rw [decide_eq_false (by omega), beq_eq_false_iff_ne.2 h]
theorem rcData (t : Int) (d : Bs) (hd : d.length < 2 ^ 40) : Tri Try.prog 47 #[.int .i64 t, sv d] [] (fun r S => r = .bool (dataOk t d) ∧ S = []) := by
  refine Tri.forget (ycallee Try.fx47 (Nat.le_of_ble_eq_true rfl) ?_)
  unfold Try.x47
  refine yseq (yregion (yp pC (ynil (tnorm (yseq (yregion (yp (pI rfl) (yp (pT rfl) ?_))))))))
  refine ycons (ycall (rcPlaces t d hd) rfl rfl fun r S' h => ?_)
  obtain ⟨v, L, H, rfl, hL, _, rfl⟩ := h
  obtain ⟨la, lc, rfl⟩ := hL.isSlice
  unfold dataOk
  refine yp (pU rfl) (yp (pExt rfl rfl) (yp (pExt rfl rfl) (yp (pS rfl) (yp (pB rfl) (ynil (tnorm (yseq (yblock (yseq (yregion (yp (pT rfl) (yp (pLenS rfl) (yp (pGt rfl rfl) (yp (pB rfl) (ynil (tnorm ?_))))))))))))))))
  rw [szS]
  by_cases h1 : 1000 < d.length
  · rw [decide_eq_true (show (1000 : Int) < (d.length : Int) from by omega), if_pos h1]
    refine ycondT rfl (yseq (yregion (yp pC (ynil (tnorm (yret (bret (tret ?_))))))))
    exact yfin (rB rfl) ⟨[], ⟨H, by simp⟩, rfl, rfl⟩
  rw [decide_eq_false (show ¬ (1000 : Int) < (d.length : Int) from by omega), if_neg h1]
  refine ycondF rfl (yseq (yregion (yp (pI rfl) (yp (pEq rfl rfl) (yp (pB rfl) (ynil (tnorm ?_)))))))
  by_cases h2 : t = 1
  · rw [decide_eq_true h2, if_pos h2]
    refine ycondT rfl (yseq (yregion (yp (pT rfl) (yp (pLenS rfl) (yp (pEq rfl rfl) (yp (pB rfl) (ynil (tnorm (yret (bret (tret ?_)))))))))))
    rw [szS]
    skip
    exact yfin (rB rfl) ⟨[], ⟨H, by simp⟩, by rw [decB4], rfl⟩
  rw [decide_eq_false h2, if_neg h2]
  refine ycondF rfl (yseq (yregion (yp (pI rfl) (yp (pEq rfl rfl) (yp (pB rfl) (ynil (tnorm ?_)))))))
  by_cases h3 : t = 28
  · rw [decide_eq_true h3, if_pos h3]
    refine ycondT rfl (yseq (yregion (yp (pT rfl) (yp (pLenS rfl) (yp (pEq rfl rfl) (yp (pB rfl) (ynil (tnorm (yret (bret (tret ?_)))))))))))
    rw [szS]
    skip
    exact yfin (rB rfl) ⟨[], ⟨H, by simp⟩, by rw [decB16], rfl⟩
  rw [decide_eq_false h3, if_neg h3]
  refine ycondF rfl (yseq (yregion (yp (pI rfl) (yp (pEq rfl rfl) (yp (pB rfl) (ynil (tnorm ?_)))))))
  by_cases h4 : t = 16
  · rw [decide_eq_true h4, if_pos h4]
    refine ycondT rfl (yseq (yregion (yp (pT rfl) ?_)))
    refine ycons (ycall (rcTexts d hd) rfl rfl fun r S' h => ?_)
    obtain ⟨rfl, rfl⟩ := h
    refine yp (pB rfl) (ynil (tnorm (yret (bret (tret ?_)))))
    exact yfin (rB rfl) ⟨[], ⟨H, by simp⟩, rfl, rfl⟩
  rw [decide_eq_false h4, if_neg h4]
  refine ycondF rfl (yskip (bnorm (tnorm (yseq (yregion (yp (pB rfl) (yp (pB rfl) (ynil (tnorm (yret ?_))))))))))
  exact yfin (rB rfl) ⟨[], ⟨H, by simp⟩, rfl, rfl⟩

/-! ### the walk over the names in data -/
def pv (p : Pl) : Array Value := #[.int .i64 (p.at_ : Int), .int .i64 (p.n : Int)]
abbrev nown (bt bd : Nat) (t : Int) (d : Bs) : Segs := [[(bt, .cells #[.int .i64 t] 3)], [(bd, .cells #[sv d] 9)]]
theorem rcNames (t : Int) (d : Bs) : Tri Try.prog 28 #[.int .i64 t, sv d] [] (fun r S => ∃ bt bd, r = .func (.func 48) #[] #[.pointer (some ⟨bt, 0, none⟩), .pointer (some ⟨bd, 0, none⟩)] ∧ S = nown bt bd t d) := by
  refine Tri.forget (ycallee Try.fx28 (Nat.le_of_ble_eq_true rfl) ?_)
  unfold Try.x28
  refine yseq (yregion ?_)
  refine ycons (ybx (scI rfl) fun p2 => ?_)
  refine ycons (ybx (scT rfl) fun p3 => ?_)
  refine yp pC (ynil (tnorm (yseq (yregion (yp (pFn2 (scP rfl) (scP rfl)) (yp (pF rfl) (ynil (tnorm (yret ?_)))))))))
  exact yfin (rF rfl) ⟨nown p2 p3 t d, ⟨[], by simp; exact List.Perm.swap _ _ _⟩, p2, p3, rfl, rfl⟩
theorem itNames {bt bd : Nat} {t : Int} {d : Bs} {S0 : Segs} (hd : d.length < 2 ^ 40) :
    IterOk Try.prog 48 #[] #[.pointer (some ⟨bt, 0, none⟩), .pointer (some ⟨bd, 0, none⟩)] (nown bt bd t d) S0
      (fun pre x => pre ++ [x] <+: (prt t d).map pv) (fun xs => xs = (prt t d).map pv) := by
  intro l c J Jx hJ0 hround
  have e0 : (#[] ++ #[.func (.yield l) #[] #[]] ++ #[.pointer (some ⟨bt, 0, none⟩), .pointer (some ⟨bd, 0, none⟩)] : Array Value) = #[.func (.yield l) #[] #[], .pointer (some ⟨bt, 0, none⟩), .pointer (some ⟨bd, 0, none⟩)] := rfl
  rw [e0]
  refine Tri.forget (ycallee Try.fx48 (Nat.le_of_ble_eq_true rfl) ?_)
  unfold Try.x48
  refine yseq (yseq (yregion ?_))
  refine ycons (yload1 rfl rfl ?_)
  refine ycons (yload1 rfl rfl ?_)
  refine ycons (ycall (rcData t d hd) rfl rfl fun r S' h => ?_)
  obtain ⟨rfl, rfl⟩ := h
  cases hok : dataOk t d with
  | false =>
    have hp : prt t d = [] := by unfold prt; rw [if_neg (by rw [hok]; decide)]
    refine yp (pNot rfl) (ynil (tnorm (ycondT rfl (yret (tret ?_)))))
    exact yfin res0 ⟨[c] :: S0, ⟨(nown bt bd t d).flatten, by simp; exact List.perm_append_comm (l₁ := [_, _])⟩, .inl ⟨[], by rw [hp]; rfl, hJ0⟩⟩
  | true =>
    have hsome : ∃ l, pls t d = some l := by
      have h0 := hok
      unfold dataOk at h0
      cases hs : shapeR t with
      | none => exact ⟨[], by unfold pls; rw [hs]⟩
      | some x =>
        have hk := shapeR_not' hs
        split at h0
        · cases h0
        · rw [if_neg hk.1, if_neg hk.2.1, if_neg hk.2.2] at h0
          exact Option.isSome_iff_exists.1 h0
    obtain ⟨L0, hp0⟩ := hsome
    have hp : prt t d = L0 := by unfold prt; rw [if_pos hok, hp0]; rfl
    refine yp (pNot rfl) (ynil (tnorm (ycondF rfl (yskip (tnorm (yseq (yregion ?_)))))))
    refine ycons (yload1 rfl rfl ?_)
    refine ycons (yload1 rfl rfl ?_)
    refine ycons (ycall (rcPlaces t d hd) rfl rfl fun r S' h => ?_)
    obtain ⟨v, L, H, rfl, hL, hLe, rfl⟩ := h
    obtain rfl := hLe L0 hp0
    have hL2 := pls_len hp0
    obtain ⟨la, lc, rfl⟩ := hL.isSlice
    rw [hp]
    refine yp (pU rfl) (yp (pExt rfl rfl) (yp (pExt rfl rfl) (yp (pS rfl) (yp (pB rfl) (ynil (tnorm (yseq (yregion (yp (pS rfl) (yp (pLen rfl) (yp pC (ynil (tnorm (yblock ?_))))))))))))))
    refine yloop (σ := Nat) (fun i E S => Has E [(0, .func (.yield l) #[] #[]), (18, .slice la L.length lc), (19, .int .i64 (L.length : Int)), (20, .int .i64 i)] ∧ i ≤ L.length ∧ ∃ T', J ((L.take i).map pv) T' ∧ Junk S (H :: T')) (fun i => L.length - i) 0
      ⟨⟨rfl, rfl, rfl, rfl, trivial⟩, Nat.zero_le _, [c] :: S0, hJ0, ⟨(nown bt bd t d).flatten, ?_⟩⟩ fun i E S ⟨hE, hi, T', hJ, hk⟩ => ?_
    · simp
      exact List.Perm.append_left H ((List.perm_append_comm (l₁ := [_, _])).cons _)
    obtain ⟨E0, e0⟩ := has_puts hE; subst e0; clear hE
    refine yforget hk (yseq (yregion (yp (pLt rfl rfl) (ynil (tnorm (yseq ?_))))))
    refine ycondD rfl (fun h => ?_) (fun h => ?_)
    · have hlt : i < L.length := by omega
      obtain ⟨bb2, sp, fz, hz, rfl, hm, hc, rfl⟩ := hL.at' (by intro h; simp [h] at hlt)
      refine yskip (tnorm (yseq (yblock (yseq (yregion (yp (pIxN rfl rfl (by omega)) ?_))))))
      refine ycons (yloadN (l := enc L[i]) rfl (row_elem hlt rfl) rfl ?_)
      refine ycons (yalloc fun p7 => ?_)
      refine ycons (ystAll (c' := [.int .i64 (L[i].at_ : Int), .int .i64 (L[i].n : Int)]) rfl rfl rfl rfl rfl ?_)
      refine ynil (tnorm (yseq (yregion (yp (pF rfl) (yp (pFadr rfl) ?_)))))
      refine ycons (yload1 rfl rfl ?_)
      refine yp (pFadr rfl) ?_
      refine ycons (yload1 rfl rfl ?_)
      have ht : L.take (i + 1) = L.take i ++ [L[i]] := List.take_succ_eq_append_getElem hlt
      have hV : (L.take i).map pv ++ [pv L[i]] <+: L.map pv := by
        rw [show (L.take i).map pv ++ [pv L[i]] = (L.take (i + 1)).map pv from by rw [ht, List.map_append]; rfl]
        exact (List.take_prefix _ _).map _
      refine ycons (yyieldI (hround _ (pv L[i]) T' (by rw [hp]; exact hV) hJ) rfl rfl fun bl T2 h => ?_)
      rcases h with ⟨rfl, hJ'⟩ | ⟨rfl, hJx⟩
      · refine yp (pNot rfl) (ynil (tnorm (ycondF rfl (yskip (bnorm (tnorm (yregion (yp (pInc rfl rfl (by omega)) (yp (pI rfl) (ynil (tnorm ?_)))))))))))
        refine ⟨i + 1, ⟨⟨rfl, rfl, rfl, rfl, trivial⟩, by omega, T2, ?_, .of⟩, by omega⟩
        rw [ht, List.map_append]; exact hJ'
      · refine yp (pNot rfl) (ynil (tnorm (ycondT rfl (yret (bret (tret (tret (bret ?_))))))))
        exact yfin res0 ⟨T2, .of, .inr ⟨_, hJx⟩⟩
    · refine yexit (texit (texit (bexit ?_)))
      refine yfinN res0 ⟨T', .of, .inl ⟨_, ?_, hJ⟩⟩
      rw [List.take_of_length_le (by omega)]
end Go.Proofs.Ytejmbmenbailmaa
namespace Go.Proofs.Ytejmbmenbailmaa
open Go.Xs
open Enc (enc)
theorem yrNames {n : Nat} {Q : Exit → Env → Segs → Prop} {E : Env} {g : Operand} {p q : Tmp} {xa xb : XCode} {bt bd : Nat} {t : Int} {d : Bs} {S S0 G0 : Segs} [hsub : Sub S0 (nown bt bd t d ++ S) G0] (J : Nat → Segs → Prop)
    (hg : ev E g = .func (.func 48) #[] #[.pointer (some ⟨bt, 0, none⟩), .pointer (some ⟨bd, 0, none⟩)]) (hps : [p, q].all (fun t => Nat.blt t n) = true) (hd : d.length < 2 ^ 40) (hJ0 : J 0 S)
    (hround : ∀ (l k : Nat) (x : Pl) (T : Segs), (prt t d)[k]? = some x → J k T → Y Try.prog (some l) n xa (thenQ (fun E1 S1 => Y Try.prog (some l) n xb (roundQ (fun _ S' => J (k + 1) S') (fun _ _ _ => False) []) E1 S1) (fun _ _ _ => False)) (setPs [p, q] [.int .i64 (x.at_ : Int), .int .i64 (x.n : Int)] E) T)
    (hdone : ∀ S', J (prt t d).length S' → Q .normal E S') : Y Try.prog none n (.range g [p, q] xa xb) Q E S0 := by
  refine yrange (S := S) (own := nown bt bd t d) (G0 := G0) (fun pre T => pre <+: (prt t d).map pv ∧ J pre.length T) (fun _ _ _ => False) hg hps (itNames (bt := bt) (bd := bd) (S0 := S) hd) ⟨List.nil_prefix, hJ0⟩ ?_ ?_ ?_ ?_
  · intro pre x hx
    have : x ∈ (prt t d).map pv := hx.subset (by simp)
    obtain ⟨e, _, rfl⟩ := List.mem_map.1 this
    rfl
  · rintro l pre x T hx ⟨_, hJ⟩
    have hxl : ((prt t d).map pv)[pre.length]? = some x := by
      obtain ⟨u, hu⟩ := hx
      rw [← hu, List.append_assoc, List.getElem?_append_right (Nat.le_refl _), Nat.sub_self]; rfl
    rw [List.getElem?_map] at hxl
    cases he : (prt t d)[pre.length]? with
    | none => rw [he] at hxl; cases hxl
    | some e =>
      rw [he] at hxl
      obtain rfl := (Option.some.inj hxl).symm
      have h := hround l pre.length e T he hJ
      have hx2 : pre ++ [pv e] <+: (prt t d).map pv := hx
      refine Y.mono h ?_
      rintro ex E1 S1 h1
      cases ex with
      | normal =>
        refine Y.mono h1 ?_
        rintro ex2 E2 S2 h2
        cases ex2 with
        | normal => exact ⟨hx2, by rw [List.length_append]; exact h2⟩
        | _ => exact h2
      | _ => exact h1
  · rintro xs S' hx ⟨_, hJ⟩
    rw [hx, List.length_map] at hJ
    exact hdone S' hJ
  · rintro e pre S' _ h
    exact h.elim
end Go.Proofs.Ytejmbmenbailmaa
