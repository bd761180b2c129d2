/- The document's own answer (freshetref6): the table's Add and Drop. -/
import Derived.Test.YtkdbajfaaifkaaaRefT
namespace Go.Proofs.Ytkdbajfaaifkaaa
open Go.Xs
open Enc (enc)

theorem Dok.shp {N : Nat} {D D' : List (Option Bt)} (h : Dok N D) (hs : shp D = shp D') : Dok N D' := by
  have hl : D.length = D'.length := by have := congrArg List.length hs; simpa [Proofs.Ytkdbajfaaifkaaa.shp] using this
  refine ⟨by rw [← shp_used hs]; exact h.used, h.big, by rw [← hl]; exact h.len, fun i b hb => ?_⟩
  have h1 := congrArg (fun l => l[i]?) hs
  simp only [Proofs.Ytkdbajfaaifkaaa.shp, List.getElem?_map, hb, Option.map_some] at h1
  cases hd : D[i]? with
  | none => rw [hd] at h1; cases h1
  | some x =>
    cases x with
    | none => rw [hd] at h1; cases h1
    | some c =>
      rw [hd] at h1
      simp only [Option.map_some, Option.some.injEq] at h1
      rw [← h1]; exact h.each i c hd
set_option maxHeartbeats 1000000 in
theorem rtAdd {rt rb N : Nat} {L : List Nm} {T Tm : List Chunk} {D : List (Option Bt)} {S1 : Segs} (hT : Rt rt rb L T) (hR : Rf rb N D S1 Tm) (hD : Dok N D) (hlen : L.length < 2 ^ 30) (hu : ∀ e ∈ L, e.u + 1 < 2 ^ 60) (Y : Bs) (hY : Y.length < 2 ^ 62) :
    Tri Try.prog 37 #[.pointer (some ⟨rt, 0, none⟩), sv Y] [T, Tm] (fun r S =>
      (addE N D L Y ≠ 0 ∧ r = .tuple #[.int .i64 0, .int .i64 (addE N D L Y)] ∧ S = [T, Tm]) ∨
      (addE N D L Y = 0 ∧ ∃ (T' Tm' x : List Chunk), r = .tuple #[.int .i64 (addI D L (foldB Y)), .int .i64 0] ∧ Rt rt rb (addL D L (foldB Y)) T' ∧ Rf rb N (addD D L (foldB Y)) (x :: S1) Tm' ∧ S = [x, T', Tm'])) := by
  obtain ⟨kv, HN, hL, rfl⟩ := hT
  refine Tri.forget (Tri.split2 (ycallee Try.fx37 (Nat.le_of_ble_eq_true rfl) ?_))
  unfold Try.x37
  refine yseq ?_
  refine yregion ?_
  refine yp pC ?_
  refine yp pC ?_
  refine ynil ?_
  refine tnorm ?_
  refine yseq ?_
  refine yseq ?_
  refine yregion ?_
  refine yp (pT rfl) ?_
  refine ycons (ycall (rnValid Y hY) rfl rfl fun r S' h => ?_)
  obtain ⟨rfl, rfl⟩ := h
  cases hv : vld Y with
  | false =>
    have hE : addE N D L Y = 2 := by unfold addE; rw [if_pos hv]
    refine yp (pNot rfl) ?_
    refine ynil ?_
    refine tnorm ?_
    refine ycondT rfl ?_
    refine yseq ?_
    refine yregion ?_
    refine yp pC ?_
    refine yp pC ?_
    refine ynil ?_
    refine tnorm ?_
    refine yret ?_
    refine tret ?_
    exact yfin (rII rfl rfl) ⟨_, Junk.join2, .inl ⟨by rw [hE]; decide, by rw [hE], rfl⟩⟩
  | true =>
  have hfl := foldB_len Y
  have h255 := vld_len hv
  refine yp (pNot rfl) ?_
  refine ynil ?_
  refine tnorm ?_
  refine ycondF rfl ?_
  refine yskip ?_
  refine tnorm ?_
  refine yseq ?_
  refine yregion ?_
  refine yp (pT rfl) ?_
  refine ycons (ycall (rnFold Y hY) rfl rfl fun r S' h => ?_)
  obtain ⟨rfl, rfl⟩ := h
  refine yp (pT rfl) ?_
  refine ynil ?_
  refine tnorm ?_
  refine yseq ?_
  refine yregion ?_
  refine yp (pP rfl) ?_
  refine yp (pT rfl) ?_
  refine ycons (ycall (rtFind (rt := rt) (rb := rb) hL (by omega) (foldB Y)) rfl rfl fun r S' h => ?_)
  obtain ⟨rfl, rfl⟩ := h
  obtain ⟨a, c, rfl⟩ := hL.isSlice
  cases hb : byN L (foldB Y) with
  | some e =>
    obtain ⟨j, h1, h2, h3⟩ := byN_some hb
    obtain ⟨hj, hje⟩ := List.getElem?_eq_some_iff.1 h2
    have hE : addE N D L Y = 0 := by unfold addE; rw [if_neg (by rw [hv]; decide), hb]; rfl
    have hue := hu e (List.mem_of_getElem? h2)
    rw [h1]
    simp only [nixV]
    refine yp (pI rfl) ?_
    refine ynil ?_
    refine tnorm ?_
    refine yseq ?_
    refine yseq ?_
    refine yregion ?_
    refine yp (pI rfl) ?_
    refine yp (pGe rfl rfl) ?_
    refine ynil ?_
    refine tnorm ?_
    refine ycondT rfl ?_
    refine yseq ?_
    refine yregion ?_
    refine yp (pP rfl) ?_
    rw [decide_eq_true (show (0 : Int) ≤ (j : Int) from by omega)]
    skip
    refine ycons (ybsl0 fun p21 => ?_)
    refine yp (pP rfl) ?_
    refine yp (pNilc rfl) ?_
    refine yp (pFadr rfl) ?_
    refine ycons (yload1 rfl rfl ?_)
    refine ycons (yapp (Y := L) rfl rfl Slc.empty (hL.src (by simp)) rfl Nm.z rfl (by simp; omega) (by simp; omega) fun v2 H2 hL2 => ?_)
    rw [List.nil_append] at hL2
    obtain ⟨a2, c2, rfl⟩ := hL2.isSlice
    refine yp (pNilc rfl) ?_
    refine yp (pFadr rfl) ?_
    refine ycons (yst2_1 rfl rfl (scS rfl) ?_)
    refine ynil ?_
    refine tnorm ?_
    refine yseq ?_
    refine yregion ?_
    refine yp (pP rfl) ?_
    refine yp (pNilc rfl) ?_
    refine yp (pFadr rfl) ?_
    refine ycons (yload1 rfl rfl ?_)
    refine yp (pI rfl) ?_
    obtain ⟨b2, sp2, fz2, hz2, hae, _, hce, rfl⟩ := hL2.at' (by intro h; simp [h] at hj)
    subst hae
    have hld2 : ((cells (L ++ sp2)).toArray.toList)[0 + j * 3 + 2]? = some (.int .i64 (e.u : Int)) := (row_cell (kk := 3) (j := 2) hj rfl (by omega)).trans (by rw [hje]; rfl)
    refine yp (pIxN rfl rfl (by omega)) ?_
    refine yp (pFadr rfl) ?_
    refine ycons (yload1 (v := .int .i64 (e.u : Int)) rfl hld2 ?_)
    refine yp (pInc rfl rfl (by omega)) ?_
    refine yp (pIxN rfl rfl (by omega)) ?_
    refine yp (pFadr rfl) ?_
    refine ycons (ystoreC (M := L ++ sp2) (i := j) (j := 2) (y := (⟨e.id, e.n, e.u + 1⟩ : Nm)) (x := .int .i64 ((e.u + 1 : Nat) : Int)) rfl (by simp; omega) rfl (by omega) (scI rfl) ?_ hz2 ?_)
    · rw [List.getElem_append_left hj, hje]; rfl
    have hset := Slc.setAt (ty := 103) (b := b2) (c := c2) (y := (⟨e.id, e.n, e.u + 1⟩ : Nm)) hz2 hj hce
    rw [List.set_append_left _ _ hj] at hset ⊢
    have hjL : (L.set j (⟨e.id, e.n, e.u + 1⟩ : Nm))[j]? = some ⟨e.id, e.n, e.u + 1⟩ := List.getElem?_set_self hj
    have hjl : j < (L.set j (⟨e.id, e.n, e.u + 1⟩ : Nm)).length := by rw [List.length_set]; exact hj
    have hld0 : ((cells (L.set j (⟨e.id, e.n, e.u + 1⟩ : Nm) ++ sp2)).toArray.toList)[0 + j * 3 + 0]? = some (.int .i64 e.id) := (row_cell (kk := 3) (j := 0) hjl rfl (by omega)).trans (by rw [List.getElem_set_self]; rfl)
    refine ynil ?_
    refine tnorm ?_
    refine yseq ?_
    refine yregion ?_
    refine yp (pP rfl) ?_
    refine yp (pNilc rfl) ?_
    refine yp (pFadr rfl) ?_
    refine ycons (yload1 rfl rfl ?_)
    refine yp (pI rfl) ?_
    refine yp (pIxN rfl rfl (by omega)) ?_
    refine yp (pFadr rfl) ?_
    refine ycons (yload1 (v := .int .i64 e.id) rfl hld0 ?_)
    refine yp (pI rfl) ?_
    refine yp pC ?_
    refine ynil ?_
    refine tnorm ?_
    refine yret ?_
    refine tret ?_
    have hLa : addL D L (foldB Y) = L.set j ⟨e.id, e.n, e.u + 1⟩ := by unfold addL reuse; rw [h1]; simp only [h2]
    have hIa : addI D L (foldB Y) = e.id := by unfold addI; rw [hb]; rfl
    have hDa : addD D L (foldB Y) = D := by unfold addD; rw [hb]; rfl
    refine yfin (rII rfl rfl) ⟨[[], rtseg rt rb (.slice (some ⟨b2, 0, none⟩) L.length c2) ++ [(b2, .cells (cells (L.set j (⟨e.id, e.n, e.u + 1⟩ : Nm) ++ sp2)).toArray 103 fz2)], Tm], Junk.re (S1 := [rtseg rt rb (.slice (some ⟨b2, 0, none⟩) L.length c2), [(b2, .cells (cells (L.set j (⟨e.id, e.n, e.u + 1⟩ : Nm) ++ sp2)).toArray 103 fz2)], Tm]) (by simp), .inr ⟨hE, _, Tm, [], by rw [hIa], ⟨_, _, ?_, rfl⟩, ?_, rfl⟩⟩
    · rw [hLa]; exact hset
    · rw [hDa]; exact hR.mono fun s hs => List.mem_cons_of_mem _ hs
  | none =>
    rw [byN_none hb]
    have hEa : addE N D L Y = allocE N D ((8 + (foldB Y).length : Nat) : Int) := by
      unfold addE; rw [if_neg (by rw [hv]; decide), hb, if_neg (by decide), hfl]; congr 1
    simp only [nixV]
    refine yp (pI rfl) ?_
    refine ynil ?_
    refine tnorm ?_
    refine yseq ?_
    refine yseq ?_
    refine yregion ?_
    refine yp (pI rfl) ?_
    refine yp (pGe rfl rfl) ?_
    refine ynil ?_
    refine tnorm ?_
    refine ycondF rfl ?_
    refine yskip ?_
    refine tnorm ?_
    refine yseq ?_
    refine yregion ?_
    refine yp (pP rfl) ?_
    refine yp (pNilc rfl) ?_
    refine yp (pFadr rfl) ?_
    refine ycons (yload1 rfl rfl ?_)
    refine yp (pT rfl) ?_
    refine yp (pLenS rfl) ?_
    rw [szS]
    refine yp (pAdd rfl rfl (by omega)) ?_
    rw [show (((foldB Y).length : Nat) : Int) + 8 = ((8 + (foldB Y).length : Nat) : Int) from by omega]
    refine ycons (ycall (rdAlloc hR hD ((8 + (foldB Y).length : Nat) : Int)) rfl rfl fun r S' h => ?_)
    rcases h with ⟨he, rfl, rfl⟩ | ⟨he, m, Tm2, x, hm, rfl, hR2, rfl⟩
    · rw [← hEa] at he ⊢
      refine yp (pU rfl) ?_
      refine yp (pExt rfl rfl) ?_
      refine yp (pExt rfl rfl) ?_
      refine yp (pI rfl) ?_
      refine yp (pI rfl) ?_
      refine ynil ?_
      refine tnorm ?_
      refine yseq ?_
      refine yseq ?_
      refine yregion ?_
      refine yp (pI rfl) ?_
      refine yp (pNe rfl rfl) ?_
      refine ynil ?_
      refine tnorm ?_
      refine ycondN rfl (fun _ => ?_) (fun h2 => absurd h2 he)
      refine yseq ?_
      refine yregion ?_
      refine yp (pI rfl) ?_
      refine yp pC ?_
      refine yp (pI rfl) ?_
      refine ynil ?_
      refine tnorm ?_
      refine yret ?_
      refine tret ?_
      exact yfin (rII rfl rfl) ⟨[rtseg rt rb (.slice a L.length c) ++ HN, Tm], Junk.re (S1 := [rtseg rt rb (.slice a L.length c), HN, Tm]) (by simp), .inl ⟨he, rfl, rfl⟩⟩
    obtain rfl : m = 8 + (foldB Y).length := by omega
    refine yp (pU rfl) ?_
    refine yp (pExt rfl rfl) ?_
    refine yp (pExt rfl rfl) ?_
    refine yp (pI rfl) ?_
    refine yp (pI rfl) ?_
    refine ynil ?_
    refine tnorm ?_
    refine yseq ?_
    refine yseq ?_
    refine yregion ?_
    refine yp (pI rfl) ?_
    refine yp (pNe rfl rfl) ?_
    refine ynil ?_
    refine tnorm ?_
    refine ycondF rfl ?_
    refine yskip ?_
    refine tnorm ?_
    refine yseq ?_
    refine yregion ?_
    refine yp (pP rfl) ?_
    refine ycons (ybsl0 fun p63 => ?_)
    refine yp (pP rfl) ?_
    refine yp (pNilc rfl) ?_
    refine yp (pFadr rfl) ?_
    refine ycons (yload1 rfl rfl ?_)
    refine ycons (yapp (Y := L) rfl rfl Slc.empty (hL.src (by simp)) rfl Nm.z rfl (by simp; omega) (by simp; omega) fun v2 H2 hL2 => ?_)
    rw [List.nil_append] at hL2
    obtain ⟨a2, c2, rfl⟩ := hL2.isSlice
    refine yp (pI rfl) ?_
    refine yp (pT rfl) ?_
    refine yp (pBuild3 (scI rfl) (scT rfl) (scI rfl)) ?_
    refine ycons (ybsl1 (⟨((hnd D : Nat) : Int), foldB Y, 1⟩ : Nm) rfl rfl (by decide) (by decide) rfl fun p72 => ?_)
    refine ycons (yapp (Y := [(⟨((hnd D : Nat) : Int), foldB Y, 1⟩ : Nm)]) rfl rfl hL2 (.lit (by repeat (first | exact List.mem_cons_self | apply List.mem_cons_of_mem)) rfl) rfl Nm.z rfl (by simp; omega) (by simp; omega) fun v3 H3 hL3 => ?_)
    obtain ⟨a3, c3, rfl⟩ := hL3.isSlice
    refine yp (pNilc rfl) ?_
    refine yp (pFadr rfl) ?_
    refine ycons (yst2_1 rfl rfl (scS rfl) ?_)
    refine ynil ?_
    refine tnorm ?_
    refine yseq ?_
    refine yregion ?_
    refine yp (pI rfl) ?_
    refine yp (pI rfl) ?_
    refine yp pC ?_
    refine ynil ?_
    refine tnorm ?_
    refine yret ?_
    have hLa : addL D L (foldB Y) = L ++ [⟨((hnd D : Nat) : Int), foldB Y, 1⟩] := by unfold addL; rw [byN_none hb]
    have hIa : addI D L (foldB Y) = ((hnd D : Nat) : Int) := by unfold addI; rw [hb]; rfl
    have hDa : addD D L (foldB Y) = allocD D (8 + (foldB Y).length) := by unfold addD; rw [hb]; rfl
    refine yfin (rII rfl rfl) ⟨[x, rtseg rt rb (.slice a3 (L ++ [(⟨((hnd D : Nat) : Int), foldB Y, 1⟩ : Nm)]).length c3) ++ H3, Tm2], Junk.re (S1 := [x, rtseg rt rb (.slice a3 (L ++ [(⟨((hnd D : Nat) : Int), foldB Y, 1⟩ : Nm)]).length c3), H3, Tm2]) (by simp), .inr ⟨by rw [hEa]; exact he, _, Tm2, x, by rw [hIa], ⟨_, H3, ?_, rfl⟩, ?_, rfl⟩⟩
    · rw [hLa]; exact hL3
    · rw [hDa]; exact hR2

theorem erase_cells {L sp : List Nm} {i : Nat} (hi : i < L.length) : setAll (cells (L ++ sp)).toArray.toList (i * 3) (cells (L.drop (i + 1))) = cells (L.eraseIdx i ++ ((L ++ sp).drop (L.length - 1))) := by
  have h1 : i + (L.drop (i + 1)).length ≤ (L ++ sp).length := by simp; omega
  have h2 := setAll_cells (L ++ sp) i (L.drop (i + 1)) h1
  show setAll (cells (L ++ sp)) (i * 3) (cells (L.drop (i + 1))) = _
  rw [show (3 : Nat) = Enc.k Nm from rfl, h2]
  congr 1
  rw [List.eraseIdx_eq_take_drop_succ, List.take_append_of_le_length (by omega), List.append_assoc, List.append_assoc]
  congr 3
  simp; omega
set_option maxHeartbeats 1000000 in
theorem rtDrop {rt rb N : Nat} {L : List Nm} {T Tm : List Chunk} {D : List (Option Bt)} {S1 : Segs} (hT : Rt rt rb L T) (hR : Rf rb N D S1 Tm) (hD : Dok N D) (hlen : L.length < 2 ^ 30) (hu : ∀ e ∈ L, 1 ≤ e.u ∧ e.u < 2 ^ 60) (i : Int) :
    Tri Try.prog 39 #[.pointer (some ⟨rt, 0, none⟩), .int .i64 i] [T, Tm] (fun r S => r = .int .i64 (dropR L i) ∧ ∃ (T' Tm' : List Chunk), Rt rt rb (dropL L i) T' ∧ Rf rb N (dropD D L i) S1 Tm' ∧ S = [T', Tm']) := by
  obtain ⟨kv, HN, hL, rfl⟩ := hT
  refine Tri.forget (Tri.split2 (ycallee Try.fx39 (Nat.le_of_ble_eq_true rfl) ?_))
  unfold Try.x39
  refine yseq ?_
  refine yregion ?_
  refine yp pC ?_
  refine ynil ?_
  refine tnorm ?_
  refine yseq ?_
  refine yregion ?_
  refine yp (pP rfl) ?_
  refine yp (pI rfl) ?_
  refine ycons (ycall (rtAt (rt := rt) (rb := rb) hL (by omega) i) rfl rfl fun r S' h => ?_)
  obtain ⟨rfl, rfl⟩ := h
  cases hb : byI L i with
  | none =>
    have h1 := byI_none hb
    rw [h1]
    simp only [nixV]
    refine yp (pI rfl) ?_
    refine ynil ?_
    refine tnorm ?_
    refine yseq ?_
    refine yseq ?_
    refine yregion ?_
    refine yp (pI rfl) ?_
    refine yp (pLt rfl rfl) ?_
    refine ynil ?_
    refine tnorm ?_
    refine ycondT rfl ?_
    refine yseq ?_
    refine yregion ?_
    refine yp pC ?_
    refine ynil ?_
    refine tnorm ?_
    refine yret ?_
    refine tret ?_
    refine yfin (rI rfl) ⟨_, Junk.join2, by unfold dropR; rw [hb]; rfl, _, Tm, ⟨kv, HN, ?_, rfl⟩, ?_, rfl⟩
    · unfold dropL; rw [h1]; exact hL
    · unfold dropD; rw [hb]; exact hR
  | some e =>
    obtain ⟨j, h1, h2, rfl⟩ := byI_some hb
    obtain ⟨hj, hje⟩ := List.getElem?_eq_some_iff.1 h2
    have hue := hu e (List.mem_of_getElem? h2)
    have hRr : dropR L e.id = 0 := by unfold dropR; rw [hb]; rfl
    have hLd : dropL L e.id = if e.u = 1 then L.eraseIdx j else reuse L j e (e.u - 1) := by unfold dropL; rw [h1]; simp only [h2]
    have hDd : dropD D L e.id = if e.u = 1 then freeD D e.id else D := by unfold dropD; rw [hb]
    rw [h1]
    simp only [nixV]
    obtain ⟨a, c, rfl⟩ := hL.isSlice
    refine yp (pI rfl) ?_
    refine ynil ?_
    refine tnorm ?_
    refine yseq ?_
    refine yseq ?_
    refine yregion ?_
    refine yp (pI rfl) ?_
    refine yp (pLt rfl rfl) ?_
    refine ynil ?_
    refine tnorm ?_
    refine ycondF rfl ?_
    refine yskip ?_
    refine tnorm ?_
    refine yseq ?_
    refine yregion ?_
    refine yp (pP rfl) ?_
    rw [decide_eq_false (show ¬ (j : Int) < 0 from by omega)]
    skip
    refine ycons (ybsl0 fun p12 => ?_)
    refine yp (pP rfl) ?_
    refine yp (pNilc rfl) ?_
    refine yp (pFadr rfl) ?_
    refine ycons (yload1 rfl rfl ?_)
    refine ycons (yapp (Y := L) rfl rfl Slc.empty (hL.src (by simp)) rfl Nm.z rfl (by simp; omega) (by simp; omega) fun v2 H2 hL2 => ?_)
    rw [List.nil_append] at hL2
    obtain ⟨a2, c2, rfl⟩ := hL2.isSlice
    refine yp (pNilc rfl) ?_
    refine yp (pFadr rfl) ?_
    refine ycons (yst2_1 rfl rfl (scS rfl) ?_)
    refine ynil ?_
    refine tnorm ?_
    refine yseq ?_
    refine yregion ?_
    refine yp (pP rfl) ?_
    refine yp (pNilc rfl) ?_
    refine yp (pFadr rfl) ?_
    refine ycons (yload1 rfl rfl ?_)
    refine yp (pI rfl) ?_
    obtain ⟨b2, sp2, fz2, hz2, hae, _, hce, rfl⟩ := hL2.at' (by intro h; simp [h] at hj)
    subst hae
    have hld2 : ((cells (L ++ sp2)).toArray.toList)[0 + j * 3 + 2]? = some (.int .i64 (e.u : Int)) := (row_cell (kk := 3) (j := 2) hj rfl (by omega)).trans (by rw [hje]; rfl)
    refine yp (pIxN rfl rfl (by omega)) ?_
    refine yp (pFadr rfl) ?_
    refine ycons (yload1 (v := .int .i64 (e.u : Int)) rfl hld2 ?_)
    refine yp (pDec rfl rfl (by omega)) ?_
    refine yp (pIxN rfl rfl (by omega)) ?_
    refine yp (pFadr rfl) ?_
    refine ycons (ystoreC (M := L ++ sp2) (i := j) (j := 2) (y := (⟨e.id, e.n, e.u - 1⟩ : Nm)) (x := .int .i64 ((e.u - 1 : Nat) : Int)) rfl (by simp; omega) rfl (by omega) (scI rfl) ?_ hz2 ?_)
    · rw [List.getElem_append_left hj, hje]; rfl
    have hset := Slc.setAt (ty := 103) (b := b2) (c := c2) (y := (⟨e.id, e.n, e.u - 1⟩ : Nm)) hz2 hj hce
    rw [List.set_append_left _ _ hj] at hset ⊢
    have hLl : (L.set j (⟨e.id, e.n, e.u - 1⟩ : Nm)).length = L.length := List.length_set
    have hjl : j < (L.set j (⟨e.id, e.n, e.u - 1⟩ : Nm)).length := by rw [hLl]; exact hj
    have hld3 : ((cells (L.set j (⟨e.id, e.n, e.u - 1⟩ : Nm) ++ sp2)).toArray.toList)[0 + j * 3 + 2]? = some (.int .i64 ((e.u - 1 : Nat) : Int)) := (row_cell (kk := 3) (j := 2) hjl rfl (by omega)).trans (by rw [List.getElem_set_self]; rfl)
    refine ynil ?_
    refine tnorm ?_
    refine yseq ?_
    refine yseq ?_
    refine yregion ?_
    refine yp (pP rfl) ?_
    refine yp (pNilc rfl) ?_
    refine yp (pFadr rfl) ?_
    refine ycons (yload1 rfl rfl ?_)
    refine yp (pI rfl) ?_
    refine yp (pIxN rfl rfl (by omega)) ?_
    refine yp (pFadr rfl) ?_
    refine ycons (yload1 (v := .int .i64 ((e.u - 1 : Nat) : Int)) rfl hld3 ?_)
    refine yp (pEq rfl rfl) ?_
    refine ynil ?_
    refine tnorm ?_
    by_cases hu1 : e.u = 1
    · rw [if_pos hu1] at hLd hDd
      rw [decide_eq_true (show ((e.u - 1 : Nat) : Int) = 0 from by omega)]
      refine ycondT rfl ?_
      refine yseq ?_
      refine yregion ?_
      refine yp (pP rfl) ?_
      refine yp (pNilc rfl) ?_
      refine yp (pFadr rfl) ?_
      refine ycons (yload1 rfl rfl ?_)
      refine yp (pI rfl) ?_
      refine ycons (ycall (rdFree hR hD e.id) rfl rfl fun r S' h => ?_)
      obtain ⟨rfl, Tm2, hR2, rfl⟩ := h
      generalize hM : L.set j (⟨e.id, e.n, e.u - 1⟩ : Nm) = M at hLl hjl
      have hME : M.eraseIdx j = L.eraseIdx j := by
        rw [← hM]
        refine List.ext_getElem? fun q => ?_
        rw [List.getElem?_eraseIdx, List.getElem?_eraseIdx]
        split
        · rw [List.getElem?_set_ne (by omega)]
        · rw [List.getElem?_set_ne (by omega)]
      rw [← hLl] at hce ⊢
      subst hce
      refine ynil (tnorm ?_)
      refine ydrawR (R := [rtseg rt rb (.slice (some ⟨b2, 0, none⟩) M.length (M.length + sp2.length))]) (by simp) ?_
      refine ytq (pP rfl) ?_
      refine ytq (pP rfl) ?_
      refine ytq (pNilc rfl) ?_
      refine ytq (pFadr rfl) ?_
      refine ytl1 rfl rfl ?_
      refine ytq (pI rfl) ?_
      refine ytq (pSlTo (j := j) rfl rfl (by omega)) ?_
      refine ytq (pP rfl) ?_
      refine ytq (pNilc rfl) ?_
      refine ytq (pFadr rfl) ?_
      refine ytl1 rfl rfl ?_
      refine ytq (pI rfl) ?_
      refine ytq (pInc rfl rfl (by omega)) ?_
      refine ytq (pSlFrom (j := j + 1) rfl rfl (by omega)) ?_
      refine ytalt (yappfit (Y := M.drop (j + 1)) rfl rfl (Src.tail (b := b2) (ty := 103) (fz := fz2) (L := M) (sp := sp2) (j := j + 1) (by simp) rfl (by omega)) rfl (by simp; omega) ?_ ?_ ?_) ytno
      · show (j + (M.drop (j + 1)).length) * 3 ≤ (cells (M ++ sp2)).length
        rw [cells_length, List.length_append, List.length_drop]
        show _ ≤ (M.length + sp2.length) * 3
        omega
      · rw [cells_length, List.length_append] at hz2
        show FzOk fz2 (cells (M ++ sp2)).length
        rw [cells_length, List.length_append, hLl]; exact hz2
      have hec := erase_cells (L := M) (sp := sp2) hjl
      rw [show Enc.k Nm = 3 from rfl, hec, show j + (M.drop (j + 1)).length = (M.eraseIdx j).length from by rw [List.length_drop, List.length_eraseIdx, if_pos hjl]; omega]
      refine ytq (pNilc rfl) ?_
      refine ytq (pFadr rfl) ?_
      refine ytalt (yst2_1 rfl rfl (scS rfl) ?_) ytno
      refine ytdone ?_
      refine tnorm ?_
      refine yseq ?_
      refine yregion ?_
      refine yp pC ?_
      refine ynil ?_
      refine tnorm ?_
      refine yret ?_
      have hrow := Slc.row (ty := 103) (b := b2) (L := M.eraseIdx j) (sp := (M ++ sp2).drop (M.length - 1)) (fz := fz2) (by
        rw [cells_length, List.length_append, List.length_eraseIdx, if_pos hjl, List.length_drop, List.length_append]
        rw [cells_length, List.length_append, ← hLl] at hz2
        rw [show M.length - 1 + (M.length + sp2.length - (M.length - 1)) = M.length + sp2.length from by omega]; exact hz2)
      rw [show (M.eraseIdx j).length + ((M ++ sp2).drop (M.length - 1)).length = M.length + sp2.length from by rw [List.length_eraseIdx, if_pos hjl, List.length_drop, List.length_append]; omega] at hrow
      refine yfin (rI rfl) ⟨[rtseg rt rb (.slice (some ⟨b2, 0, none⟩) (M.eraseIdx j).length (M.length + sp2.length)) ++ [(b2, .cells (cells (M.eraseIdx j ++ (M ++ sp2).drop (M.length - 1))).toArray 103 fz2)], Tm2], Junk.re (S1 := [rtseg rt rb (.slice (some ⟨b2, 0, none⟩) (M.eraseIdx j).length (M.length + sp2.length)), [(b2, .cells (cells (M.eraseIdx j ++ (M ++ sp2).drop (M.length - 1))).toArray 103 fz2)], Tm2]) (by simp), by rw [hRr], _, Tm2, ⟨_, _, ?_, rfl⟩, ?_, rfl⟩
      · rw [hLd, ← hME]; exact hrow
      · rw [hDd]; exact hR2
    · rw [if_neg hu1] at hLd hDd
      rw [decide_eq_false (show ¬ ((e.u - 1 : Nat) : Int) = 0 from by omega)]
      refine ycondF rfl ?_
      refine yskip ?_
      refine tnorm ?_
      refine yseq ?_
      refine yregion ?_
      refine yp pC ?_
      refine ynil ?_
      refine tnorm ?_
      refine yret ?_
      refine yfin (rI rfl) ⟨[rtseg rt rb (.slice (some ⟨b2, 0, none⟩) L.length c2) ++ [(b2, .cells (cells (L.set j (⟨e.id, e.n, e.u - 1⟩ : Nm) ++ sp2)).toArray 103 fz2)], Tm], Junk.re (S1 := [rtseg rt rb (.slice (some ⟨b2, 0, none⟩) L.length c2), [(b2, .cells (cells (L.set j (⟨e.id, e.n, e.u - 1⟩ : Nm) ++ sp2)).toArray 103 fz2)], Tm]) (by simp), by rw [hRr], _, Tm, ⟨_, _, ?_, rfl⟩, ?_, rfl⟩
      · rw [hLd]; exact hset
      · rw [hDd]; exact hR
end Go.Proofs.Ytkdbajfaaifkaaa
