/- InternActs: what it computes. -/
import Derived.Test.YtkdbajfaaifkaaaRefT2
import Derived.Test.YtkdbajfaaifkaaaCostI
import Derived.Test.YtkdbajfaaifkaaaAlk
namespace Go.Proofs.Ytkdbajfaaifkaaa
open Go.Xs
open Enc (enc)

set_option maxRecDepth 10000 in
set_option maxHeartbeats 1000000 in
theorem shows7 {tb ab rt rb N : Nat} {D D' : List (Option Bt)} {H T Tm TR : List Chunk} {L : List Nm} {S1 : Segs} (hT : Tb tb ab L T) (hA : Ar ab N D H) (hI : Inn D L) (hR : Rt rt rb L TR) (hM : Rf rb N D' S1 Tm) (hs : shp D = shp D') (hlen : L.length < 2 ^ 30) :
    Tri Try.prog 40 #[.pointer (some ⟨tb, 0, none⟩), .pointer (some ⟨ab, 0, none⟩), .pointer (some ⟨rt, 0, none⟩)] [T, H, TR, Tm] (fun r S => r = .bool true ∧ S = [T, H, TR, Tm]) := by
  have hD := hA.ok
  have hD' := hD.shp hs
  obtain ⟨kv, HN, hL, rfl⟩ := hR
  refine Tri.forget (Tri.perm (S := [T, H, rtseg rt rb kv, HN, Tm]) (by simp) (ycallee Try.fx40 (Nat.le_of_ble_eq_true rfl) ?_))
  unfold Try.x40
  obtain ⟨a, c, rfl⟩ := hL.isSlice
  refine yseq ?_
  refine yregion ?_
  refine yp pC ?_
  refine ynil ?_
  refine tnorm ?_
  refine yseq ?_
  refine yseq ?_
  refine ydraw ?_
  refine ytq (pP rfl) ?_
  refine ytq (pP rfl) ?_
  refine ytq (pNilc rfl) ?_
  refine ytq (pFadr rfl) ?_
  refine ytl1 rfl rfl ?_
  refine ytq (pLen rfl) ?_
  refine ytaltC (ycall (tbCount hT) rfl rfl fun r S' h => ?_) ytno
  obtain ⟨rfl, rfl⟩ := h
  refine ⟨by simp, ?_⟩
  refine ytq (pNe rfl rfl) ?_
  refine ytq (pB rfl) ?_
  rw [decide_eq_true rfl]
  refine ytgT rfl ?_
  refine ytq (pP rfl) ?_
  refine ytgT rfl ?_
  refine ytq (pP rfl) ?_
  refine ytgT rfl ?_
  refine ytq (pNilc rfl) ?_
  refine ytgT rfl ?_
  refine ytq (pFadr rfl) ?_
  refine ytgT rfl ?_
  refine ytl1 rfl rfl ?_
  refine ytaltT rfl ?_ ytno
  refine ytaltC (ycall (arUsedA hA) rfl rfl fun r S' h => ?_) ytno
  obtain ⟨rfl, rfl⟩ := h
  refine ⟨by simp, ?_⟩
  refine ytaltT rfl ?_ ytno
  refine ytalt (ycall (rdUsed hM hD') rfl rfl fun r S' h => ?_) ytno
  obtain ⟨rfl, rfl⟩ := h
  rw [← shp_used hs]
  refine ytgT rfl ?_
  refine ytq (pNe rfl rfl) ?_
  refine ytq (pPickF rfl rfl) ?_
  refine ytdone ?_
  refine tnorm ?_
  rw [decide_eq_true rfl]
  refine ycondF rfl ?_
  refine yskip ?_
  refine tnorm ?_
  refine yseq ?_
  refine yseq ?_
  refine yregion ?_
  refine yp pC ?_
  refine ynil ?_
  refine tnorm ?_
  refine yblock ?_
  refine yloop (σ := Nat) (fun i E S => Has E [(0, .pointer (some ⟨tb, 0, none⟩)), (2, .pointer (some ⟨rt, 0, none⟩)), (7, .int .i64 (i : Int))] ∧ i ≤ L.length ∧ Junk S [T, H, rtseg rt rb (.slice a L.length c), HN, Tm]) (fun i => L.length - i) 0
    ⟨⟨rfl, rfl, rfl, trivial⟩, Nat.zero_le _, .of⟩ fun i E S ⟨hE, hi, hJ⟩ => ?_
  obtain ⟨E0, e0⟩ := has_puts hE; subst e0; clear hE
  refine yforget hJ ?_
  refine yseq ?_
  refine yseq ?_
  refine yregion ?_
  refine yp (pI rfl) ?_
  refine yp (pP rfl) ?_
  refine yp (pNilc rfl) ?_
  refine yp (pFadr rfl) ?_
  refine ycons (yload1 rfl rfl ?_)
  refine yp (pLen rfl) ?_
  refine yp (pLt rfl rfl) ?_
  refine ynil ?_
  refine tnorm ?_
  refine ycondD rfl (fun h => ?_) (fun h => ?_)
  · have hlt : i < L.length := by omega
    have hg := List.getElem?_eq_getElem hlt
    obtain ⟨b, sp, fz2, hz, rfl, _, rfl, rfl⟩ := hL.at' (by intro h; simp [h] at hlt)
    have hld0 : ((cells (L ++ sp)).toArray.toList)[0 + i * 3 + 0]? = some (.int .i64 L[i].id) := (row_cell (kk := 3) (j := 0) hlt rfl (by omega)).trans rfl
    have hld1 : ((cells (L ++ sp)).toArray.toList)[0 + i * 3 + 1]? = some (sv L[i].n) := (row_cell (kk := 3) (j := 1) hlt rfl (by omega)).trans rfl
    have hld2 : ((cells (L ++ sp)).toArray.toList)[0 + i * 3 + 2]? = some (.int .i64 (L[i].u : Int)) := (row_cell (kk := 3) (j := 2) hlt rfl (by omega)).trans rfl
    generalize L[i] = e at hg hld0 hld1 hld2
    have hem := List.mem_of_getElem? hg
    have hbyI : byI L e.id = some e := by unfold byI; rw [nixI_of hI.dis.ids hg]; exact hg
    have hbyN : byN L e.n = some e := by unfold byN; rw [nixN_of hI.dis.ns hg]; exact hg
    obtain ⟨hv, hf⟩ := hI.fold e hem
    have h255 := vld_len hv
    refine yskip ?_
    refine tnorm ?_
    refine yseq ?_
    refine yblock ?_
    refine yseq ?_
    refine yregion ?_
    refine yp (pP rfl) ?_
    refine yp (pP rfl) ?_
    refine yp (pNilc rfl) ?_
    refine yp (pFadr rfl) ?_
    refine ycons (yload1 rfl rfl ?_)
    refine yp (pI rfl) ?_
    refine yp (pIxN rfl rfl (by omega)) ?_
    refine yp (pFadr rfl) ?_
    refine ycons (yload1 (v := .int .i64 e.id) rfl hld0 ?_)
    refine ycons (ycall (tbName hT hA hI e.id) rfl rfl fun r S' h => ?_)
    obtain ⟨rfl, rfl⟩ := h
    rw [hbyI]
    simp only [Option.map_some, Option.getD_some, Option.isSome_some]
    refine yp (pU rfl) ?_
    refine yp (pExt rfl rfl) ?_
    refine yp (pExt rfl rfl) ?_
    refine yp (pT rfl) ?_
    refine yp (pB rfl) ?_
    refine ynil ?_
    refine tnorm ?_
    refine yseq ?_
    refine yregion ?_
    refine yp (pP rfl) ?_
    refine yp (pP rfl) ?_
    refine yp (pNilc rfl) ?_
    refine yp (pFadr rfl) ?_
    refine ycons (yload1 rfl rfl ?_)
    refine yp (pI rfl) ?_
    refine yp (pIxN rfl rfl (by omega)) ?_
    refine yp (pFadr rfl) ?_
    refine ycons (yload1 (v := sv e.n) rfl hld1 ?_)
    refine ycons (ycall (tbFind hT e.n (by omega)) rfl rfl fun r S' h => ?_)
    obtain ⟨rfl, rfl⟩ := h
    rw [hf, hbyN]
    simp only [Option.map_some, Option.getD_some, Option.isSome_some]
    refine yp (pU rfl) ?_
    refine yp (pExt rfl rfl) ?_
    refine yp (pExt rfl rfl) ?_
    refine yp (pI rfl) ?_
    refine yp (pB rfl) ?_
    refine ynil ?_
    refine tnorm ?_
    refine yseq ?_
    refine ydraw ?_
    refine ytq (pB rfl) ?_
    refine ytq (pNot rfl) ?_
    refine ytq (pB rfl) ?_
    refine ytgT rfl ?_
    refine ytq (pB rfl) ?_
    refine ytgT rfl ?_
    refine ytq (pNot rfl) ?_
    refine ytq (pPickF rfl rfl) ?_
    refine ytq (pB rfl) ?_
    refine ytgT rfl ?_
    refine ytq (pT rfl) ?_
    refine ytgT rfl ?_
    refine ytq (pP rfl) ?_
    refine ytgT rfl ?_
    refine ytq (pNilc rfl) ?_
    refine ytgT rfl ?_
    refine ytq (pFadr rfl) ?_
    refine ytgT rfl ?_
    refine ytl1 rfl rfl ?_
    refine ytgT rfl ?_
    refine ytq (pI rfl) ?_
    refine ytgT rfl ?_
    refine ytq (pIxN rfl rfl (by omega)) ?_
    refine ytgT rfl ?_
    refine ytq (pFadr rfl) ?_
    refine ytgT rfl ?_
    refine ytl1 (v := sv e.n) rfl hld1 ?_
    refine ytgT rfl ?_
    refine ytq (pNeS rfl rfl) ?_
    refine ytq (pPickF rfl rfl) ?_
    refine ytq (pB rfl) ?_
    rw [decide_eq_true rfl]
    refine ytgT rfl ?_
    refine ytq (pI rfl) ?_
    refine ytgT rfl ?_
    refine ytq (pP rfl) ?_
    refine ytgT rfl ?_
    refine ytq (pNilc rfl) ?_
    refine ytgT rfl ?_
    refine ytq (pFadr rfl) ?_
    refine ytgT rfl ?_
    refine ytl1 rfl rfl ?_
    refine ytgT rfl ?_
    refine ytq (pI rfl) ?_
    refine ytgT rfl ?_
    refine ytq (pIxN rfl rfl (by omega)) ?_
    refine ytgT rfl ?_
    refine ytq (pFadr rfl) ?_
    refine ytgT rfl ?_
    refine ytl1 (v := .int .i64 e.id) rfl hld0 ?_
    refine ytgT rfl ?_
    refine ytq (pNe rfl rfl) ?_
    refine ytq (pPickF rfl rfl) ?_
    refine ytq (pB rfl) ?_
    rw [decide_eq_true rfl]
    refine ytgT rfl ?_
    refine ytq (pP rfl) ?_
    refine ytgT rfl ?_
    refine ytq (pI rfl) ?_
    refine ytgT rfl ?_
    refine ytq (pP rfl) ?_
    refine ytgT rfl ?_
    refine ytq (pNilc rfl) ?_
    refine ytgT rfl ?_
    refine ytq (pFadr rfl) ?_
    refine ytgT rfl ?_
    refine ytl1 rfl rfl ?_
    refine ytgT rfl ?_
    refine ytq (pI rfl) ?_
    refine ytgT rfl ?_
    refine ytq (pIxN rfl rfl (by omega)) ?_
    refine ytgT rfl ?_
    refine ytq (pFadr rfl) ?_
    refine ytgT rfl ?_
    refine ytl1 (v := .int .i64 (e.u : Int)) rfl hld2 ?_
    refine ytaltT rfl ?_ ytno
    refine ytaltC (ycall (tbUses hT hA hI e.id) rfl rfl fun r S' h => ?_) ytno
    obtain ⟨rfl, rfl⟩ := h
    refine ⟨by simp, ?_⟩
    rw [hbyI]
    simp only [Option.map_some, Option.getD_some]
    refine ytgT rfl ?_
    refine ytq (pNe rfl rfl) ?_
    refine ytq (pPickF rfl rfl) ?_
    refine ytdone ?_
    refine tnorm ?_
    rw [decide_eq_true rfl]
    refine ycondF rfl ?_
    refine yskip ?_
    refine bnorm ?_
    refine tnorm ?_
    refine yregion ?_
    refine yp (pI rfl) ?_
    refine yp (pInc rfl rfl (by omega)) ?_
    refine yp (pI rfl) ?_
    refine ynil ?_
    refine tnorm ?_
    exact ⟨i + 1, ⟨⟨rfl, rfl, rfl, trivial⟩, by omega, .of⟩, by omega⟩
  · refine yexit ?_
    refine texit ?_
    refine texit ?_
    refine bexit ?_
    refine tnorm ?_
    refine yseq ?_
    refine yregion ?_
    refine yp pC ?_
    refine ynil ?_
    refine tnorm ?_
    refine yret ?_
    exact yfin (rB rfl) ⟨[T, H, rtseg rt rb (.slice a L.length c) ++ HN, Tm], Junk.re (S1 := [T, H, rtseg rt rb (.slice a L.length c), HN, Tm]) (by simp), rfl, rfl⟩

structure Act7 where
  kind : Int
  s : ByteArray
  n : Int
instance : Enc Act7 := ⟨fun x => [.int .i64 x.kind, .string x.s, .int .i64 x.n], 3, fun _ => rfl, fun _ => rfl⟩
set_option maxRecDepth 10000 in
theorem few7 {S : Segs} {v : Value} {T : List Act7} (hT : Src S v T) (hm : T.length ≤ maxLen) : Tri Try.prog 33 #[v] S (fun r S' => ∃ bl, r = .bool bl ∧ (bl = true → T.length ≤ 60 ∧ ∀ x ∈ T, x.s.size ≤ 300) ∧ S' = S) := by
  refine Tri.forget (ycallee Try.fx33 (Nat.le_of_ble_eq_true rfl) ?_)
  unfold Try.x33
  obtain ⟨ta, tc, rfl⟩ := hT.isSlice
  refine yseq ?_
  refine yregion ?_
  refine yp pC ?_
  refine ynil ?_
  refine tnorm ?_
  refine yseq ?_
  refine yseq ?_
  refine yregion ?_
  refine yp pC ?_
  refine ynil ?_
  refine tnorm ?_
  refine yblock ?_
  refine yloop (σ := Nat) (fun i E S' => Has E [(0, .slice ta T.length tc), (3, .int .i64 (i : Int))] ∧ (i ≤ T.length ∧ ∀ j x, j < i → T[j]? = some x → x.s.size ≤ 300) ∧ Junk S' S) (fun i => T.length - i) 0
    ⟨⟨rfl, rfl, trivial⟩, ⟨Nat.zero_le _, fun j x h => by omega⟩, .of⟩ fun i E S' ⟨hE, ⟨hi, hall⟩, hJ⟩ => ?_
  have hm2 : T.length ≤ 9223372036854775807 := hm
  obtain ⟨E0, e0⟩ := has_puts hE; subst e0; clear hE
  refine yforget hJ ?_
  refine yseq ?_
  refine yseq ?_
  refine yregion ?_
  refine yp (pI rfl) ?_
  refine yp (pS rfl) ?_
  refine yp (pLen rfl) ?_
  refine yp (pLt rfl rfl) ?_
  refine yp (pB rfl) ?_
  have hend : ((T.length : Int) ≤ 60) → (i < T.length → ¬ (i : Int) < 70) → T.length ≤ 60 ∧ ∀ x ∈ T, x.s.size ≤ 300 := fun h1 h2 => by
    refine ⟨by omega, fun x hx => ?_⟩
    obtain ⟨j, hj⟩ := List.mem_iff_getElem?.1 hx
    have := (List.getElem?_eq_some_iff.1 hj).1
    exact hall j x (by omega) hj
  by_cases h1 : i < T.length
  · rw [decide_eq_true (show (i : Int) < (T.length : Int) from by omega)]
    refine ygT rfl ?_
    refine yop (pI rfl) ?_
    refine ygT rfl ?_
    refine yop (pLt rfl rfl) ?_
    refine yp (pPickT rfl rfl) ?_
    refine ynil ?_
    refine tnorm ?_
    by_cases h2 : (i : Int) < 70
    · rw [decide_eq_true h2]
      obtain ⟨b, o, ca, ty, fz, rfl, hm', hmem, hg, _⟩ := hT.get (by intro h; simp [h] at h1)
      have hg0 : ca.toList[o + i * 3 + 1]? = some (.string T[i].s) := hg i 1 h1 (by decide)
      have hgi : T[i]? = some T[i] := List.getElem?_eq_getElem h1
      generalize T[i] = x at hg0 hgi
      refine ycondT rfl ?_
      refine yskip ?_
      refine tnorm ?_
      refine yseq ?_
      refine yblock ?_
      refine yseq ?_
      refine yregion ?_
      refine yp (pS rfl) ?_
      refine yp (pI rfl) ?_
      refine yp (pIxN rfl rfl (by omega)) ?_
      refine yp (pFadr rfl) ?_
      refine ycons (yloadM hmem rfl hg0 ?_)
      refine yp (pLenS rfl) ?_
      refine yp (pGt rfl rfl) ?_
      refine ynil ?_
      refine tnorm ?_
      refine ycondD rfl (fun h => ?_) (fun h => ?_)
      · refine yseq ?_
        refine yregion ?_
        refine yp pC ?_
        refine ynil ?_
        refine tnorm ?_
        refine yret ?_
        refine bret ?_
        refine tret ?_
        refine tret ?_
        refine bret ?_
        refine tret ?_
        exact yfin (rB rfl) ⟨_, .of, false, rfl, (by simp), rfl⟩
      · refine yskip ?_
        refine bnorm ?_
        refine tnorm ?_
        refine yregion ?_
        refine yp (pI rfl) ?_
        refine yp (pInc rfl rfl (by omega)) ?_
        refine yp (pI rfl) ?_
        refine ynil ?_
        refine tnorm ?_
        refine ⟨i + 1, ⟨⟨rfl, rfl, trivial⟩, ⟨by omega, fun j y hj hy => ?_⟩, .of⟩, by omega⟩
        by_cases hji : j = i
        · subst hji; rw [hgi] at hy; obtain rfl := Option.some.inj hy; omega
        · exact hall j y (by omega) hy
    · rw [decide_eq_false h2]
      refine ycondF rfl ?_
      refine yexit ?_
      refine texit ?_
      refine texit ?_
      refine bexit ?_
      refine tnorm ?_
      refine yseq ?_
      refine yregion ?_
      refine yp (pS rfl) ?_
      refine yp (pLen rfl) ?_
      refine yp (pLe rfl rfl) ?_
      refine yp (pB rfl) ?_
      refine ynil ?_
      refine tnorm ?_
      refine yret ?_
      exact yfin (rB rfl) ⟨_, .of, _, rfl, fun h => hend (of_decide_eq_true h) (fun _ => h2), rfl⟩
  · rw [decide_eq_false (show ¬ (i : Int) < (T.length : Int) from by omega)]
    refine ygF rfl ?_
    refine ygF rfl ?_
    refine yp (pPickF rfl rfl) ?_
    refine ynil ?_
    refine tnorm ?_
    refine ycondF rfl ?_
    refine yexit ?_
    refine texit ?_
    refine texit ?_
    refine bexit ?_
    refine tnorm ?_
    refine yseq ?_
    refine yregion ?_
    refine yp (pS rfl) ?_
    refine yp (pLen rfl) ?_
    refine yp (pLe rfl rfl) ?_
    refine yp (pB rfl) ?_
    refine ynil ?_
    refine tnorm ?_
    refine yret ?_
    exact yfin (rB rfl) ⟨_, .of, _, rfl, fun h => hend (of_decide_eq_true h) (fun h3 => absurd h3 h1), rfl⟩
theorem dropL_pos {L : List Nm} {i : Int} (h : Pos L) : Pos (dropL L i) := fun e he => by
  unfold dropL at he
  split at he
  · split at he
    · next x hx =>
      split at he
      · exact h e ((List.eraseIdx_sublist _ _).subset he)
      · next hu =>
        unfold reuse at he
        rcases List.mem_or_eq_of_mem_set he with he | rfl
        · exact h e he
        · have := h x (List.mem_of_getElem? hx); show 1 ≤ x.u - 1; omega
    · exact h e he
  · exact h e he
theorem dropL_u {L : List Nm} {i : Int} {k : Nat} (h : ∀ e ∈ L, e.u ≤ k) : ∀ e ∈ dropL L i, e.u ≤ k := fun e he => by
  unfold dropL at he
  split at he
  · split at he
    · next x hx =>
      split at he
      · exact h e ((List.eraseIdx_sublist _ _).subset he)
      · unfold reuse at he
        rcases List.mem_or_eq_of_mem_set he with he | rfl
        · exact h e he
        · have := h x (List.mem_of_getElem? hx); show x.u - 1 ≤ k; omega
    · exact h e he
  · exact h e he
theorem dropL_len {L : List Nm} {i : Int} : (dropL L i).length ≤ L.length := by
  unfold dropL
  split
  · split
    · split
      · rw [List.length_eraseIdx]; split <;> omega
      · unfold reuse; rw [List.length_set]; exact Nat.le_refl _
    · exact Nat.le_refl _
  · exact Nat.le_refl _
theorem addL_len {D : List (Option Bt)} {L : List Nm} {n : Bs} : (addL D L n).length ≤ L.length + 1 := by
  unfold addL
  split
  · split
    · unfold reuse; rw [List.length_set]; omega
    · omega
  · simp
theorem addL_shp {D D' : List (Option Bt)} (h : shp D = shp D') (L : List Nm) (n : Bs) : addL D L n = addL D' L n ∧ addI D L n = addI D' L n := by
  unfold addL addI
  rw [shp_hnd h]; exact ⟨rfl, rfl⟩
theorem addD_shp {D D' : List (Option Bt)} (h : shp D = shp D') (L : List Nm) (n : Bs) : shp (addD D L n) = shp (addD D' L n) := by
  unfold addD
  split
  · exact h
  · exact shp_alloc h _
theorem addE_shp {D D' : List (Option Bt)} (h : shp D = shp D') (N : Nat) (L : List Nm) (Y : Bs) : addE N D L Y = addE N D' L Y := by
  unfold addE
  rw [shp_allocE h]
theorem dropD_shp {D D' : List (Option Bt)} (h : shp D = shp D') (L : List Nm) (i : Int) : shp (dropD D L i) = shp (dropD D' L i) := by
  unfold dropD
  split
  · split
    · exact shp_free h _
    · exact h
  · exact h
/-- a name that is there is one -/
theorem byN_vld {D : List (Option Bt)} {L : List Nm} (h : Inn D L) {Y : Bs} (hv : vld Y = false) : byN L (foldB Y) = none := by
  cases hb : byN L (foldB Y) with
  | none => rfl
  | some e =>
    obtain ⟨j, _, h2, h3⟩ := byN_some hb
    have := (h.fold e (List.mem_of_getElem? h2)).1
    rw [h3, vld_fold, hv] at this; cases this
end Go.Proofs.Ytkdbajfaaifkaaa
