/- The arena (chapter 6): Alloc. -/
import Derived.Test.YtkdbajfaaifkaaaArenaY
namespace Go.Proofs.Ytkdbajfaaifkaaa
open Go.Xs
open Enc (enc)

def zeros (n : Nat) : Bt := List.replicate n 0
def allocE (N : Nat) (D : List (Option Bt)) (n : Int) : Int := if cost n = 0 then 3 else if (N : Int) - usedD D < cost n then 4 else 0
def allocD (D : List (Option Bt)) (n : Nat) : List (Option Bt) := if hnd D ≤ D.length then D.set (hnd D - 1) (some (zeros n)) else D ++ [some (zeros n)]
theorem cost_pos {n : Int} (h : cost n ≠ 0) : ∃ m : Nat, n = m ∧ m ≤ 4096 ∧ cost n = (costN m : Nat) := by
  unfold cost at h ⊢
  by_cases hc : n < 0 ∨ 4096 < n
  · rw [if_pos hc] at h; exact absurd rfl h
  · rw [if_neg hc]; exact ⟨n.toNat, by omega, by omega, rfl⟩
theorem all_used : ∀ (D : List (Option Bt)), (∀ i, i < D.length → ∃ b, D[i]? = some (some b)) → 16 * D.length ≤ usedD D
  | [], _ => by simp [usedD]
  | o :: D, h => by
    have ih := all_used D fun i hi => by
      obtain ⟨b, hb⟩ := h (i + 1) (by simp; omega)
      exact ⟨b, by simpa using hb⟩
    obtain ⟨b, hb⟩ := h 0 (by simp)
    simp at hb; subst hb
    rw [usedD_cons, List.length_cons]
    have : 16 ≤ wgt (some b) := by
      unfold wgt costN
      simp only
      repeat' split
      all_goals omega
    omega
theorem Inv.grow {N : Nat} {T : Tab} {B : Bt} {used top : Nat} (h : Inv N T B used top) (hf : (T.length + 1) * 16 ≤ N) : Inv N (T ++ [none]) B used top := by
  have hg : ∀ (i p : Nat) (b : Bt), (T ++ [none])[i]? = some (some (p, b)) → T[i]? = some (some (p, b)) := fun i p b hi => by
    by_cases hlt : i < T.length
    · rwa [List.getElem?_append_left hlt] at hi
    · rw [List.getElem?_append_right (by omega)] at hi
      cases hk : i - T.length with
      | zero => rw [hk] at hi; simp at hi
      | succ k => rw [hk] at hi; simp at hi
  refine ⟨h.len, h.big, by simpa using hf, h.ut, h.tn, ?_, fun i p b hi => h.inn i p b (hg i p b hi), fun i j p b q c hne hi hj => h.apart i j p b q c hne (hg i p b hi) (hg j q c hj)⟩
  rw [h.sum]
  unfold dof
  rw [List.map_append, usedD_append]
  rfl
theorem Inv.alloc {N : Nat} {T : Tab} {B B' : Bt} {used top i n : Nat} (h : Inv N T B used top) (hi : T[i]? = some none) (hn : n ≤ 4096) (ht : top + costN n ≤ N) (hB : B'.length = N)
    (hout : ∀ x, (x < top ∨ top + 8 + n ≤ x) → B'[x]? = B[x]?) (hin : ∀ x, x < n → B'[top + 8 + x]? = some 0) : Inv N (T.set i (some (top, zeros n))) B' (used + costN n) (top + costN n) := by
  have hc := (costN_is n hn).2.1
  have hz : (zeros n).length = n := by simp [zeros]
  have hd : (dof T)[i]? = some none := by unfold dof; rw [List.getElem?_map, hi]; rfl
  have hu := usedD_set (y := some (zeros n)) hd
  simp only [wgt, hz] at hu
  have hs := h.sum
  have hut := h.ut
  refine ⟨hB, h.big, by rw [List.length_set]; exact h.few, by omega, ht, ?_, fun j q c hj => ?_, fun j k q c q' c' hne hj hk => ?_⟩
  · rw [dof_set]; simp only [Option.map_some]; omega
  · rcases set_get hj with ⟨_, h1⟩ | ⟨hne, h1⟩
    · obtain ⟨rfl, rfl⟩ : q = top ∧ c = zeros n := by simpa using h1
      rw [hz]
      exact ⟨hn, Nat.le_refl _, fun x hx => by rw [hin x hx]; simp [zeros, hx]⟩
    · obtain ⟨h5, h6, h7⟩ := h.inn j q c h1
      have hc2 := (costN_is c.length h5).2.1
      exact ⟨h5, by omega, fun x hx => by rw [hout _ (by omega)]; exact h7 x hx⟩
  · rcases set_get hj with ⟨hji, h1⟩ | ⟨hji, h1⟩ <;> rcases set_get hk with ⟨hki, h2⟩ | ⟨hki, h2⟩
    · omega
    · obtain ⟨rfl, rfl⟩ : q = top ∧ c = zeros n := by simpa using h1
      exact .inr (h.inn k q' c' h2).2.1
    · obtain ⟨rfl, rfl⟩ : q' = top ∧ c' = zeros n := by simpa using h2
      exact .inl (h.inn j q c h1).2.1
    · exact h.apart j k q c q' c' hne h1 h2
set_option maxHeartbeats 1000000 in
theorem arAlloc {ab N : Nat} {D : List (Option Bt)} {H : List Chunk} (hA : Ar ab N D H) (n : Int) :
    Tri Try.prog 16 #[.pointer (some ⟨ab, 0, none⟩), .int .i64 n] [H]
      (fun r S => (allocE N D n ≠ 0 ∧ r = .tuple #[.int .i64 0, .int .i64 (allocE N D n)] ∧ S = [H]) ∨ (allocE N D n = 0 ∧ ∃ (m : Nat) (H' : List Chunk), n = m ∧ r = .tuple #[.int .i64 (hnd D : Nat), .int .i64 0] ∧ Ar ab N (allocD D m) H' ∧ S = [H'])) := by
  obtain ⟨bb, kv, HK, T, B, used, top, hI, rfl, hK, rfl⟩ := hA
  refine Tri.split3 (Tri.forget (ycallee Try.fx16 (Nat.le_of_ble_eq_true rfl) ?_))
  unfold Try.x16
  have hbig := hI.big
  have hsum := hI.sum
  have hut := hI.ut
  have htn := hI.tn
  have hBl := hI.len
  refine yseq ?_
  refine yregion ?_
  refine yp pC ?_
  refine yp pC ?_
  refine ynil ?_
  refine tnorm ?_
  refine yseq ?_
  refine yregion ?_
  refine yp (pI rfl) ?_
  refine ycons (ycall (arCost n) rfl rfl fun r S' h => ?_)
  obtain ⟨rfl, rfl⟩ := h
  refine yp (pI rfl) ?_
  refine ynil ?_
  refine tnorm ?_
  have hend : ∀ e : Int, allocE N (dof T) n = e → e ≠ 0 → (fun (v : Value) (S' : Segs) => ∃ S'', Junk S' S'' ∧ ((allocE N (dof T) n ≠ 0 ∧ v = .tuple #[.int .i64 0, .int .i64 (allocE N (dof T) n)] ∧ S'' = [aseg ab (.slice (some ⟨bb, 0, none⟩) N N) kv (used : Int) (top : Int) ++ bch bb B ++ HK]) ∨
      (allocE N (dof T) n = 0 ∧ ∃ (m : Nat) (H' : List Chunk), n = m ∧ v = .tuple #[.int .i64 (hnd (dof T) : Nat), .int .i64 0] ∧ Ar ab N (allocD (dof T) m) H' ∧ S'' = [H']))) (.tuple #[.int .i64 0, .int .i64 e]) [aseg ab (.slice (some ⟨bb, 0, none⟩) N N) kv (used : Int) (top : Int), bch bb B, HK] :=
    fun e he hne => ⟨_, Junk.join3, .inl ⟨by rw [he]; exact hne, by rw [he], rfl⟩⟩
  by_cases hc0 : cost n = 0
  · refine yseq ?_
    refine yblock ?_
    refine yseq ?_
    refine yregion ?_
    refine yp (pI rfl) ?_
    refine yp (pEq rfl rfl) ?_
    refine yp (pB rfl) ?_
    refine ynil ?_
    refine tnorm ?_
    rw [decide_eq_true hc0]
    refine ycondT rfl ?_
    refine yseq ?_
    refine yregion ?_
    refine yp pC ?_
    refine yp pC ?_
    refine ynil ?_
    refine tnorm ?_
    refine yret ?_
    refine bret ?_
    refine tret ?_
    exact yfin (rII rfl rfl) (hend 3 (by unfold allocE; rw [if_pos hc0]) (by decide))
  obtain ⟨m, rfl, hm, hcm⟩ := cost_pos hc0
  have hcn := costN_is m hm
  refine ycutQ (fun E S => ∃ (T' : Tab) (B : Bt) (kv : Value) (HK : List Chunk) (used top : Nat), Has E [(0, .pointer (some ⟨ab, 0, none⟩)), (1, .int .i64 (m : Int))] ∧ allocE N (dof T) m = 0 ∧ Inv N T' B used top ∧ dof T' = dof T ∧ Slc 89 kv (kof T') HK ∧ top + costN m ≤ N ∧ Junk S [aseg ab (.slice (some ⟨bb, 0, none⟩) N N) kv (used : Int) (top : Int), bch bb B, HK]) ?_ ?_
  · refine yblock ?_
    refine yseq ?_
    refine yregion ?_
    refine yp (pI rfl) ?_
    refine yp (pEq rfl rfl) ?_
    refine yp (pB rfl) ?_
    refine ynil ?_
    refine tnorm ?_
    rw [decide_eq_false hc0]
    refine ycondF rfl ?_
    refine yseq ?_
    refine yregion ?_
    refine yp (pI rfl) ?_
    refine yp (pP rfl) ?_
    refine ycons (ycall (arLeft (ab := ab) (kv := kv) (used := (used : Int)) (top := (top : Int)) (B := B) (H := bch bb B) (bv := .slice (some ⟨bb, 0, none⟩) N N) (by rw [← hBl]; exact Slc.full rfl) (by omega) (by omega)) rfl rfl fun r S' h => ?_)
    obtain ⟨rfl, rfl⟩ := h
    refine yp (pGt rfl rfl) ?_
    refine yp (pB rfl) ?_
    refine ynil ?_
    refine tnorm ?_
    rw [hcm, hBl]
    refine ycondD rfl (fun h1 => ?_) (fun h1 => ?_)
    · refine yseq ?_
      refine yregion ?_
      refine yp pC ?_
      refine yp pC ?_
      refine ynil ?_
      refine tnorm ?_
      refine yret ?_
      refine bret ?_
      refine tret ?_
      exact yfin (rII rfl rfl) (hend 4 (by unfold allocE; rw [if_neg hc0, if_pos (by rw [hcm, ← hsum]; exact h1)]) (by decide))
    have hE0 : allocE N (dof T) (m : Int) = 0 := by unfold allocE; rw [if_neg hc0, if_neg (by rw [hcm, ← hsum]; exact h1)]
    refine yseq ?_
    refine ydraw ?_
    refine ytq (pP rfl) ?_
    refine ytq (pNilc rfl) ?_
    refine ytq (pFadr rfl) ?_
    refine ytl1 rfl rfl ?_
    refine ytq (pI rfl) ?_
    refine ytq (pAddN rfl rfl (by omega)) ?_
    refine ytq (pP rfl) ?_
    refine ytq (pNilc rfl) ?_
    refine ytq (pFadr rfl) ?_
    refine ytl1 rfl rfl ?_
    refine ytq (pLen rfl) ?_
    refine ytq (pGt rfl rfl) ?_
    refine ytq (pB rfl) ?_
    refine ytdone ?_
    refine tnorm ?_
    refine ycondD rfl (fun h2 => ?_) (fun h2 => ?_)
    · refine yregion ?_
      refine yp (pP rfl) ?_
      refine ycons (ycall (arCompactT (ab := ab) (bb := bb) hI hK) rfl rfl fun r S' h => ?_)
      obtain ⟨rfl, kv2, HK2, T2, B2, t, ht, hI2, hd2, hK2, rfl⟩ := h
      refine ynil ?_
      refine bnorm ?_
      refine tnorm ?_
      exact ⟨T2, B2, kv2, HK2, t, t, ⟨rfl, rfl, trivial⟩, hE0, hI2, hd2, hK2, by omega, .of⟩
    · refine yskip ?_
      refine bnorm ?_
      refine tnorm ?_
      exact ⟨T, B, kv, HK, used, top, ⟨rfl, rfl, trivial⟩, hE0, hI, rfl, hK, by omega, .of⟩
  clear hend
  intro E S ⟨T', B', kv', HK', used', top', hE, hE0, hI', hd, hK', ht, hJ⟩
  rw [← hd] at hE0 ⊢
  clear hd hI hK hsum hut htn hBl
  have hsum := hI'.sum
  have hut := hI'.ut
  have htn := hI'.tn
  have hBl := hI'.len
  have hkl := hI'.tlen
  obtain ⟨E0, e0⟩ := has_puts hE; subst e0; clear hE
  refine yforget hJ ?_
  refine yseq ?_
  refine yregion ?_
  refine yp (pP rfl) ?_
  refine ycons (ycall (arHandle (ab := ab) (bv := .slice (some ⟨bb, 0, none⟩) N N) (used := (used' : Int)) (top := (top' : Int)) hK' hkl) rfl rfl fun r S' h => ?_)
  obtain ⟨rfl, rfl⟩ := h
  have hh1 := hnd_pos (dof T')
  have hh2 := hnd_le (dof T')
  have hh3 := hnd_none (dof T')
  rw [dof_len] at hh2
  refine yp (pI rfl) ?_
  refine ynil ?_
  refine tnorm ?_
  refine ycut (fun E S => ∃ (T2 : Tab) (kv : Value) (HK : List Chunk), Has E [(0, .pointer (some ⟨ab, 0, none⟩)), (1, .int .i64 (m : Int)), (7, .int .i64 ((hnd (dof T') : Nat) : Int))] ∧ Inv N T2 B' used' top' ∧ T2[hnd (dof T') - 1]? = some none ∧ dof (T2.set (hnd (dof T') - 1) (some (top', zeros m))) = allocD (dof T') m ∧ Slc 89 kv (kof T2) HK ∧ Junk S [aseg ab (.slice (some ⟨bb, 0, none⟩) N N) kv (used' : Int) (top' : Int), bch bb B', HK]) ?_ fun E S ⟨T2, kv, HK, hE, hI2, hi2, hd2, hK2, hJ⟩ => ?_
  · obtain ⟨a, c, rfl⟩ := hK'.isSlice
    refine yseq ?_
    refine yregion ?_
    refine yp (pI rfl) ?_
    refine yp (pP rfl) ?_
    refine yp (pNilc rfl) ?_
    refine yp (pFadr rfl) ?_
    refine ycons (yload1 rfl rfl ?_)
    refine yp (pLen rfl) ?_
    refine yp (pGt rfl rfl) ?_
    refine ynil ?_
    refine tnorm ?_
    have hkk := kof_len T'
    refine ycondD rfl (fun h1 => ?_) (fun h1 => ?_)
    · have hlen : hnd (dof T') = T'.length + 1 := by omega
      have hall := all_used (dof T') fun i hi => hnd_some _ _ (by rw [dof_len] at hi; omega)
      rw [dof_len] at hall
      have h16 : 16 ≤ costN m := by have := hcn.1; unfold Pow at this; omega
      have hroom : usedD (dof T') + costN m ≤ N := by
        unfold allocE at hE0
        rw [if_neg hc0, hcm] at hE0
        split at hE0
        · cases hE0
        · omega
      have hI2 := hI'.grow (by omega)
      refine yregion ?_
      refine yp (pP rfl) ?_
      refine yp (pP rfl) ?_
      refine yp (pNilc rfl) ?_
      refine yp (pFadr rfl) ?_
      refine ycons (yload1 rfl rfl ?_)
      refine yp pBuild0 ?_
      refine ycons (ybsl1 ((0 : Int), (0 : Int)) rfl rfl (by decide) (by decide) rfl fun p48 => ?_)
      refine ycons (yapp (Y := [((0 : Int), (0 : Int))]) rfl rfl hK' (.lit (by repeat (first | exact List.mem_cons_self | apply List.mem_cons_of_mem)) rfl) rfl ((0 : Int), (0 : Int)) rfl (by simp; omega) (by simp; omega) fun v2 H2 hL2 => ?_)
      obtain ⟨a2, c2, rfl⟩ := hL2.isSlice
      refine yp (pNilc rfl) ?_
      refine yp (pFadr rfl) ?_
      refine ycons (yst4_1 rfl rfl (scS rfl) ?_)
      refine ynil ?_
      refine tnorm ?_
      refine ⟨T' ++ [none], .slice a2 (kof T' ++ [((0 : Int), (0 : Int))]).length c2, H2, ⟨rfl, rfl, rfl, trivial⟩, hI2, ?_, ?_, ?_, .of⟩
      · rw [hlen, Nat.add_sub_cancel, List.getElem?_append_right (Nat.le_refl _)]; simp
      · rw [hlen, Nat.add_sub_cancel, dof_set, allocD, if_neg (by rw [dof_len]; omega)]
        unfold dof
        rw [List.map_append, List.set_append_right _ _ (by simp)]
        simp
      · have : kof (T' ++ [none]) = kof T' ++ [((0 : Int), (0 : Int))] := by unfold kof; rw [List.map_append]; rfl
        rw [this]; exact hL2
    · refine yskip ?_
      refine tnorm ?_
      have hlt : hnd (dof T') - 1 < T'.length := by omega
      refine ⟨T', _, HK', ⟨rfl, rfl, rfl, trivial⟩, hI', ?_, ?_, hK', .of⟩
      · generalize hnd (dof T') - 1 = j at hh3 hlt ⊢
        unfold dof at hh3
        rw [List.getElem?_map, List.getElem?_eq_getElem hlt] at hh3
        rw [List.getElem?_eq_getElem hlt]
        cases hT : T'[j] with
        | none => rfl
        | some x => rw [hT] at hh3; cases hh3
      · rw [dof_set, allocD, if_pos (by rw [dof_len]; omega)]; rfl
  clear hh2 hh3 hkl hK' hI'
  have hkl := hI2.tlen
  have hlt2 : hnd (dof T') - 1 < (kof T2).length := by rw [kof_len]; exact (List.getElem?_eq_some_iff.1 hi2).1
  obtain ⟨E0, e0⟩ := has_puts hE; subst e0; clear hE
  refine yforget hJ ?_
  refine yseq ?_
  refine yregion ?_
  refine yp (pP rfl) ?_
  refine yp (pI rfl) ?_
  refine yp (pI rfl) ?_
  refine ycons (ycall (arPut (ab := ab) (bb := bb) (N := N) (used := used') (top := top') (B := B') hK2 (h := ((hnd (dof T') : Nat) : Int)) (i := hnd (dof T') - 1) (n := m) (by omega) hlt2 hm ht hut hBl (by omega) hkl) rfl rfl fun r S' h => ?_)
  obtain ⟨rfl, B2, HK2, hB2, hx2, hK3, rfl⟩ := h
  refine ynil ?_
  refine tnorm ?_
  refine yseq ?_
  refine yregion ?_
  refine yp (pP rfl) ?_
  refine yp (pI rfl) ?_
  refine ycons (ycall (arData (ab := ab) (bb := bb) (N := N) (used := ((used' + costN m : Nat) : Int)) (top := ((top' + costN m : Nat) : Int)) hK3 (h := ((hnd (dof T') : Nat) : Int)) (i := hnd (dof T') - 1) (q := top' + 8) (n := m) (by omega) (by rw [List.getElem?_set_self hlt2]; simp) (by omega) (by omega) (by rw [List.length_set]; exact hkl)) rfl rfl fun r S' h => ?_)
  obtain ⟨rfl, rfl⟩ := h
  obtain ⟨o, ho⟩ : ∃ o, o = (if m = 0 then 0 else top' + 8) := ⟨_, rfl⟩
  rw [← ho]
  have hoN : o + m ≤ N := by rw [ho]; split <;> omega
  refine ycons (yclr (α := UInt8) (b := bb) (o := o) (m := m) (cap := m) (fz := (0, 0)) rfl 0 rfl (by simp [cells_length, show Enc.k UInt8 = 1 from rfl]; omega) (.inl rfl) ?_)
  have hset : setAll (cells B2).toArray.toList o (cells (List.replicate m (0 : UInt8))) = cells (spl B2 o (zeros m)) := by
    have := setAll_cells B2 o (zeros m) (by simp [zeros]; omega)
    rw [show Enc.k UInt8 = 1 from rfl, Nat.mul_one] at this
    exact this
  rw [hset]
  have hzl : (zeros m).length = m := by simp [zeros]
  have hsp := spl_get (b := B2) (Y := zeros m) (x := o) (by omega)
  have hI3 := hI2.alloc (B' := spl B2 o (zeros m)) hi2 hm ht (by rw [spl_len (by omega)]; exact hB2) (fun z hz => ?_) (fun z hz => ?_)
  rotate_left
  · rw [hsp, hzl]
    rcases Nat.eq_zero_or_pos m with h0 | h0
    · split
      · exact hx2 z (by omega)
      · rw [if_neg (by omega)]; exact hx2 z (by omega)
    · rw [if_neg (by omega)] at ho
      split
      · exact hx2 z (by omega)
      · rw [if_neg (by omega)]; exact hx2 z (by omega)
  · rw [hsp, hzl]
    rw [if_neg (by omega)] at ho
    rw [if_neg (by omega), if_pos (by omega)]
    have : top' + 8 + z - o < m := by omega
    simp [zeros, this]
  refine ynil ?_
  refine tnorm ?_
  refine yseq ?_
  refine yregion ?_
  refine yp (pI rfl) ?_
  refine yp (pI rfl) ?_
  refine yp pC ?_
  refine ynil ?_
  refine tnorm ?_
  refine yret ?_
  exact yfin (rII rfl rfl) ⟨[aseg ab (.slice (some ⟨bb, 0, none⟩) N N) kv ((used' + costN m : Nat) : Int) ((top' + costN m : Nat) : Int) ++ bch bb (spl B2 o (zeros m)) ++ HK2], Junk.join3, .inr ⟨hE0, m, _, rfl, rfl, hd2 ▸ Ar.mk hI3 (by rw [kof_set]; simpa [ent, hzl] using hK3), rfl⟩⟩
end Go.Proofs.Ytkdbajfaaifkaaa
