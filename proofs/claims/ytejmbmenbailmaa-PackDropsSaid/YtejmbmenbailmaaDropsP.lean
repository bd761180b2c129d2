/- PackDrops, plainly. -/
import Derived.Test.YtejmbmenbailmaaSharesP
namespace Go.Proofs.Ytejmbmenbailmaa
open Go.Xs
open Enc (enc)

theorem nameK_ok (k : Int) : vld (nameK k) = true ∧ foldB (nameK k) = nameK k ∧ (nameK k).length ≤ 5 ∧ nameK k ≠ [0] := by
  have h20 := round_lt k 20 (by decide)
  obtain ⟨j, hj⟩ : ∃ j : Nat, round k 20 = j := ⟨(round k 20).toNat, by omega⟩
  have hj20 : j < 20 := by omega
  have h1 : ∀ j : Nat, j < 20 → (vld [1, by8 (97 + (j : Int)), 0] = true ∧ foldB [1, by8 (97 + (j : Int)), 0] = [1, by8 (97 + (j : Int)), 0]) ∧ (vld [1, by8 (97 + (j : Int)), 1, 122, 0] = true ∧ foldB [1, by8 (97 + (j : Int)), 1, 122, 0] = [1, by8 (97 + (j : Int)), 1, 122, 0]) := by decide +kernel
  obtain ⟨⟨h2, h3⟩, h4, h5⟩ := h1 j hj20
  unfold nameK
  rw [hj]
  split
  · exact ⟨h2, h3, by simp, by simp⟩
  · exact ⟨h4, h5, by simp, by simp⟩
/-- the set of a number -/
def dX (x : Int) : St := ⟨nameK x, 2, 0, [0], [⟨nameK x, 2, 1, 0, nameK (x.tdiv 20)⟩]⟩
theorem dX_ok (x : Int) : errS (dX x) = 0 ∧ sizS (dX x) = 22 ∧ nmsS (dX x) = [nameK x, [0], nameK (x.tdiv 20)] ∧ Sok (dX x) := by
  obtain ⟨h1, _, _, _⟩ := nameK_ok x
  obtain ⟨h2, _, _, _⟩ := nameK_ok (x.tdiv 20)
  exact sh_okz (n := nameK x) (z := [0]) (to := nameK (x.tdiv 20)) (t := 2) (q := 6) (l := [⟨nameK x, 2, 1, 0, nameK (x.tdiv 20)⟩]) h1 (by decide +kernel) (by decide) (by show 1 ≤ 1 ∧ 1 ≤ 8; decide) (by decide) fun r hr => by rw [List.mem_singleton.1 hr]; exact one_ns h2
theorem dX_fold (x : Int) : (folS (dX x)).name = nameK x ∧ (folS (dX x)).rrs = [⟨nameK x, 2, 1, 0, nameK (x.tdiv 20)⟩] := by
  obtain ⟨h1, h1f, _, _⟩ := nameK_ok x
  obtain ⟨h2, h2f, h2l, _⟩ := nameK_ok (x.tdiv 20)
  have hf : Form 2 ([] ++ nameK (x.tdiv 20) ++ []) [] [nameK (x.tdiv 20)] [] := ⟨rfl, by simp, fun y hy => by rw [List.mem_singleton.1 hy]; exact h2⟩
  have h3 := foldD_form hf (by simp; omega)
  refine ⟨h1f, ?_⟩
  unfold folS dX
  simp only [List.map_cons, List.map_nil, h1f]
  simp only [List.nil_append, List.append_nil, List.map_cons, List.map_nil, List.flatten_cons, List.flatten_nil, h2f] at h3
  rw [h3]
theorem dX_fnms (x : Int) : (nmsS (dX x)).map foldB = [nameK x, [0], nameK (x.tdiv 20)] := by
  rw [(dX_ok x).2.2.1]
  simp only [List.map_cons, List.map_nil, (nameK_ok x).2.1, (nameK_ok (x.tdiv 20)).2.1]
  rfl
theorem costL_le {L : List Nm} : ∀ {l s : List Bs}, (∀ m ∈ l, m.length ≤ 100) → costL L s l ≤ 128 * l.length
  | [], _, _ => Nat.le_refl _
  | n :: l, s, h => by
    have h1 := costL_le (L := L) (l := l) (s := foldB n :: s) fun m hm => h m (List.mem_cons_of_mem _ hm)
    have h2 := costN_100 (k := 8 + n.length) (by have := h n (by simp); omega)
    unfold costL
    rw [List.length_cons]
    split <;> omega
theorem dX_cost (L : List Nm) (x : Int) : 0 ≤ costS L (dX x) ∧ costS L (dX x) ≤ 512 := by
  obtain ⟨h1, h2, h3, _⟩ := dX_ok x
  have h4 := cost_small (z := 22) (by decide) (by decide)
  have h5 := costL_le (L := L) (l := nmsS (dX x)) (s := []) fun m hm => by
    rw [h3] at hm
    have := (nameK_ok x).2.2.1
    have := (nameK_ok (x.tdiv 20)).2.2.1
    rcases List.mem_cons.1 hm with rfl | hm
    · omega
    rcases List.mem_cons.1 hm with rfl | hm
    · decide
    rw [List.mem_singleton.1 hm]; omega
  have h6 : (nmsS (dX x)).length = 3 := by rw [h3]; rfl
  rw [h6] at h5
  unfold costS
  rw [if_pos h1, h2]
  omega
/-! ### names by how often -/
theorem nodup_at {α : Type} : ∀ {l : List α}, l.Nodup → ∀ {j k : Nat} {a : α}, l[j]? = some a → l[k]? = some a → j = k
  | [], _, _, _, _, h, _ => by simp at h
  | x :: l, _, 0, 0, _, _, _ => rfl
  | x :: l, h, 0, k + 1, a, h1, h2 => by
    obtain rfl := Option.some.inj h1
    exact absurd (List.mem_of_getElem? (show l[k]? = some x by simpa using h2)) (List.nodup_cons.1 h).1
  | x :: l, h, j + 1, 0, a, h1, h2 => by
    obtain rfl := Option.some.inj h2
    exact absurd (List.mem_of_getElem? (show l[j]? = some x by simpa using h1)) (List.nodup_cons.1 h).1
  | x :: l, h, j + 1, k + 1, a, h1, h2 => by rw [nodup_at (List.nodup_cons.1 h).2 (show l[j]? = some a by simpa using h1) (show l[k]? = some a by simpa using h2)]
theorem Al.cnt {L : List Nm} (hd : Dis L) {e : Nm} (he : e ∈ L) : ∀ {ids : List Int} {ns : List Bs}, Al L ids ns → ids.count e.id = ns.count e.n
  | _, _, .nil => rfl
  | _, _, .cons ⟨x, hx, h1, h2⟩ t => by
    have h3 : (x.id == e.id) = (x.n == e.n) := by
      obtain ⟨j, hj⟩ := List.mem_iff_getElem?.1 he
      obtain ⟨k, hk⟩ := List.mem_iff_getElem?.1 hx
      by_cases hjk : j = k
      · subst hjk
        obtain rfl := Option.some.inj (hj.symm.trans hk)
        simp
      · have a1 : x.id ≠ e.id := fun h => hjk (nodup_at hd.ids (by rw [List.getElem?_map, hj]; rfl) (by rw [List.getElem?_map, hk]; exact congrArg some h))
        have a2 : x.n ≠ e.n := fun h => hjk (nodup_at hd.ns (by rw [List.getElem?_map, hj]; rfl) (by rw [List.getElem?_map, hk]; exact congrArg some h))
        rw [beq_eq_false_iff_ne.2 a1, beq_eq_false_iff_ne.2 a2]
    rw [List.count_cons, List.count_cons, t.cnt hd he, ← h1, ← h2, h3]
theorem PkA_cnt {L : List Nm} (hd : Dis L) {e : Nm} (he : e ∈ L) : ∀ {Z : List LS}, (∀ z ∈ Z, Al L z.ids ((nmsS z.s).map foldB)) → (PkA Z).count e.id = ((Z.map fun z => (nmsS z.s).map foldB).flatten).count e.n
  | [], _ => rfl
  | z :: Z, h => by
    have ih := PkA_cnt hd he (Z := Z) fun y hy => h y (List.mem_cons_of_mem _ hy)
    unfold PkA at ih ⊢
    rw [List.map_cons, List.flatten_cons, List.count_append, ih, List.map_cons, List.flatten_cons, List.count_append, (h z (by simp)).cnt hd he]
theorem Pk.perm {D : List (Option Bt)} {L : List Nm} {Z Z' : List LS} (h : Pk D L Z) (p : Z.Perm Z') : Pk D L Z' := by
  have pB : (PkB Z).Perm (PkB Z') := p.map _
  refine ⟨⟨h.inn.dis, h.inn.blk, fun x hx => h.inn.oth x (pB.mem_iff.2 hx), fun i b hb => (h.inn.all i b hb).imp id fun ⟨x, hx, h2⟩ => ⟨x, pB.mem_iff.1 hx, h2⟩, h.inn.us, h.inn.fold⟩, ⟨h.liv.dis, fun e he => ?_, h.liv.pos, fun i hi => h.liv.ids i ?_⟩, ?_, fun z hz => h.ok z (p.mem_iff.2 hz)⟩
  · rw [h.liv.us e he]
    exact ((p.map _).flatten).count_eq _
  · exact ((p.map _).flatten).mem_iff.2 hi
  · exact (pB.map _).nodup_iff.1 h.hs
/-! ### those that are left -/
def lvs : List LS → List Bool → List LS
  | w :: W, b :: I => if b = true then w :: lvs W I else lvs W I
  | _, _ => []
/-- how often n is a name of one that is left -/
def cntZ (n : Bs) : List Int → List Bool → Nat
  | x :: X, b :: I => (if b = true then (if nameK x = n then 1 else 0) + (if nameK (x.tdiv 20) = n then 1 else 0) else 0) + cntZ n X I
  | _, _ => 0
theorem lvs_all : ∀ (W : List LS), lvs W (List.replicate W.length true) = W
  | [] => rfl
  | w :: W => by rw [List.length_cons, List.replicate_succ, lvs, if_pos rfl, lvs_all W]
theorem lvs_mem : ∀ {W : List LS} {I : List Bool} {z : LS}, z ∈ lvs W I → z ∈ W
  | [], _, _, h => by simp [lvs] at h
  | w :: W, [], _, h => by simp [lvs] at h
  | w :: W, b :: I, z, h => by
    unfold lvs at h
    split at h
    · rcases List.mem_cons.1 h with rfl | h
      · simp
      · exact List.mem_cons_of_mem _ (lvs_mem h)
    · exact List.mem_cons_of_mem _ (lvs_mem h)
theorem lvs_at : ∀ {W : List LS} {I : List Bool} {k : Nat} {w : LS}, W[k]? = some w → I[k]? = some true → w ∈ lvs W I
  | [], _, _, _, h, _ => by simp at h
  | _ :: _, [], _, _, _, h => by simp at h
  | v :: W, b :: I, 0, w, h, h2 => by
    obtain rfl := Option.some.inj h
    obtain rfl := Option.some.inj h2
    unfold lvs
    rw [if_pos rfl]; simp
  | v :: W, b :: I, k + 1, w, h, h2 => by
    have ih := lvs_at (W := W) (I := I) (k := k) (w := w) (by simpa using h) (by simpa using h2)
    unfold lvs
    split
    · exact List.mem_cons_of_mem _ ih
    · exact ih
theorem lvs_drop : ∀ {W : List LS} {I : List Bool} {k : Nat} {w : LS}, (W.map (·.h)).Nodup → W[k]? = some w → I[k]? = some true → outZ (lvs W I) w.h = lvs W (I.set k false)
  | [], _, _, _, _, h, _ => by simp at h
  | _ :: _, [], _, _, _, _, h => by simp at h
  | v :: W, b :: I, 0, w, hn, h, h2 => by
    obtain rfl := Option.some.inj h
    obtain rfl := Option.some.inj h2
    have h3 := (List.nodup_cons.1 hn).1
    rw [lvs, if_pos rfl, List.set_cons_zero, lvs, if_neg (by decide), outZ_eq rfl]
    exact outZ_none fun z hz e => h3 (List.mem_map.2 ⟨z, lvs_mem hz, e⟩)
  | v :: W, b :: I, k + 1, w, hn, h, h2 => by
    have hw : W[k]? = some w := by simpa using h
    have ih := lvs_drop (W := W) (I := I) (k := k) (w := w) (List.nodup_cons.1 hn).2 hw (by simpa using h2)
    have h3 : v.h ≠ w.h := fun e => (List.nodup_cons.1 hn).1 (List.mem_map.2 ⟨w, List.mem_of_getElem? hw, e.symm⟩)
    rw [lvs, List.set_cons_succ, lvs]
    split
    · rw [outZ_ne h3, ih]
    · exact ih
theorem lvs_cnt {n : Bs} (hn : n ≠ [0]) : ∀ {W : List LS} {X : List Int} (I : List Bool), W.map (·.s) = X.map dX → (((lvs W I).map fun z => (nmsS z.s).map foldB).flatten).count n = cntZ n X I
  | [], [], _, _ => by unfold lvs cntZ; rfl
  | [], _ :: _, _, h => by simp at h
  | _ :: _, [], _, h => by simp at h
  | _ :: _, _ :: _, [], _ => by unfold lvs cntZ; rfl
  | w :: W, x :: X, b :: I, h => by
    rw [List.map_cons, List.map_cons] at h
    obtain ⟨h1, h2⟩ := List.cons.inj h
    have ih := lvs_cnt hn (W := W) (X := X) I h2
    have h0 : ([0] == n) = false := beq_eq_false_iff_ne.2 fun e => hn e.symm
    unfold lvs cntZ
    cases b with
    | false => rw [if_neg (by decide), if_neg (by decide), ih, Nat.zero_add]
    | true =>
      rw [if_pos rfl, if_pos rfl, List.map_cons, List.flatten_cons, List.count_append, ih, h1, dX_fnms, List.count_cons, List.count_cons, List.count_cons, h0, List.count_nil]
      by_cases a1 : nameK x = n <;> by_cases a2 : nameK (x.tdiv 20) = n <;> simp [a1, a2]
theorem Pk.find {D : List (Option Bt)} {L : List Nm} {W : List LS} {X : List Int} {I : List Bool} (h : Pk D L (lvs W I)) (hW : W.map (·.s) = X.map dX) {n : Bs} (hn : n ≠ [0]) :
    (byN L n).isSome = decide (0 < cntZ n X I) ∧ ∀ e, byN L n = some e → ((byI L e.id).map (·.u)).getD 0 = cntZ n X I := by
  rw [← lvs_cnt hn I hW]
  have hal : ∀ z ∈ lvs W I, Al L z.ids ((nmsS z.s).map foldB) := fun z hz => (h.ok z hz).2.2
  cases hb : byN L n with
  | none =>
    refine ⟨?_, fun e he => by cases he⟩
    have h0 : ¬ 0 < (((lvs W I).map fun z => (nmsS z.s).map foldB).flatten).count n := fun hp => by
      obtain ⟨l, hl, hnl⟩ := List.mem_flatten.1 (List.count_pos_iff.1 hp)
      obtain ⟨z, hz, rfl⟩ := List.mem_map.1 hl
      have := (hal z hz).has hnl
      rw [hb] at this; cases this
    rw [decide_eq_false h0]; rfl
  | some e =>
    obtain ⟨j, _, hj, rfl⟩ := byN_some hb
    have he := List.mem_of_getElem? hj
    have h1 := PkA_cnt h.liv.dis he hal
    have h2 := h.liv.us e he
    have h3 := h.pos e he
    refine ⟨?_, fun e' he' => ?_⟩
    · rw [decide_eq_true (by omega)]; rfl
    · obtain rfl := Option.some.inj he'
      rw [byI_of h.liv.dis he]
      show e.u = _
      omega
theorem lvs_none : ∀ {W : List LS} {I : List Bool}, I.any id = false → lvs W I = []
  | [], _, _ => by unfold lvs; rfl
  | _ :: _, [], _ => by unfold lvs; rfl
  | w :: W, b :: I, h => by
    rw [List.any_cons, Bool.or_eq_false_iff] at h
    unfold lvs
    rw [if_neg (by rw [show b = false from h.1]; decide)]
    exact lvs_none h.2
theorem lvs_some {W : List LS} {I : List Bool} (hl : I.length = W.length) (h : I.any id = true) : ∃ z, z ∈ lvs W I := by
  obtain ⟨b, hb, hbt⟩ := List.any_eq_true.1 h
  obtain ⟨k, hk⟩ := List.mem_iff_getElem?.1 hb
  have hkl : k < W.length := by rw [← hl]; exact (List.getElem?_eq_some_iff.1 hk).1
  exact ⟨W[k], lvs_at (List.getElem?_eq_getElem hkl) (by rw [hk]; exact congrArg some hbt)⟩
theorem Pk.any {D : List (Option Bt)} {L : List Nm} {W : List LS} {I : List Bool} (h : Pk D L (lvs W I)) (hl : I.length = W.length) : decide (0 < usedD D) = I.any id ∧ decide (0 < L.length) = I.any id := by
  cases ha : I.any id with
  | false =>
    rw [lvs_none ha] at h
    obtain ⟨rfl, h2⟩ := h.none
    rw [h2]
    exact ⟨rfl, rfl⟩
  | true =>
    obtain ⟨z, hz⟩ := lvs_some hl ha
    have hal := (h.ok z hz).2.2
    have : ∃ e, e ∈ L := by
      cases hi : z.ids with
      | nil => rw [hi] at hal; have := hal.len; unfold nmsS at this; simp at this
      | cons i l =>
        obtain ⟨e, he, _⟩ := hal.mem (i := i) (by rw [hi]; simp)
        exact ⟨e, he⟩
    obtain ⟨e, he⟩ := this
    have hb := h.inn.blk e he
    unfold getB at hb
    split at hb
    · obtain ⟨o, ho, rfl⟩ : ∃ o, D[(e.id - 1).toNat]? = some o ∧ o = some (le8 e.u ++ e.n) := by
        cases hx : D[(e.id - 1).toNat]? with
        | none => rw [hx] at hb; cases hb
        | some o => rw [hx] at hb; exact ⟨o, rfl, hb⟩
      have h1 := usedD_mem ho
      have h2 := costN_ge (le8 e.u ++ e.n).length
      have h3 : 16 ≤ usedD D := Nat.le_trans h2 h1
      exact ⟨decide_eq_true (by omega), decide_eq_true (List.length_pos_of_mem he)⟩
    · cases hb
theorem cntZ_step {n : Bs} {X : List Int} {I : List Bool} {k : Nat} {x : Int} {b : Bool} (hx : X[k]? = some x) (hb : I[k]? = some b) : cntZ n (X.drop k) (I.drop k) = (if b = true then (if nameK x = n then 1 else 0) + (if nameK (x.tdiv 20) = n then 1 else 0) else 0) + cntZ n (X.drop (k + 1)) (I.drop (k + 1)) := by
  obtain ⟨h1, rfl⟩ := List.getElem?_eq_some_iff.1 hx
  obtain ⟨h2, rfl⟩ := List.getElem?_eq_some_iff.1 hb
  rw [List.drop_eq_getElem_cons h1, List.drop_eq_getElem_cons h2, cntZ]
theorem cntZ_le (n : Bs) : ∀ (X : List Int) (I : List Bool), cntZ n X I ≤ 2 * X.length
  | [], _ => by unfold cntZ; exact Nat.zero_le _
  | _ :: _, [] => by unfold cntZ; exact Nat.zero_le _
  | x :: X, b :: I => by
    have ih := cntZ_le n X I
    unfold cntZ
    rw [List.length_cons]
    (repeat' split) <;> omega
theorem any_step {I : List Bool} {k : Nat} {b : Bool} (hb : I[k]? = some b) : (I.take (k + 1)).any id = ((I.take k).any id || b) := by
  obtain ⟨h2, rfl⟩ := List.getElem?_eq_some_iff.1 hb
  rw [List.take_succ_eq_append_getElem h2, List.any_append]
  simp
end Go.Proofs.Ytejmbmenbailmaa
