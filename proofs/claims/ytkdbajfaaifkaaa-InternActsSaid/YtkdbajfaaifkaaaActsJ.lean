/- InternActs: what it computes. -/
import Derived.Test.YtkdbajfaaifkaaaActsI
namespace Go.Proofs.Ytkdbajfaaifkaaa
open Go.Xs
open Enc (enc)

def aI (N : Nat) (D : List (Option Bt)) (L : List Nm) (Y : Bs) : Int := if addE N D L Y = 0 then addI D L (foldB Y) else 0
def aL (N : Nat) (D : List (Option Bt)) (L : List Nm) (Y : Bs) : List Nm := if addE N D L Y = 0 then addL D L (foldB Y) else L
def aD (N : Nat) (D : List (Option Bt)) (L : List Nm) (Y : Bs) : List (Option Bt) := if addE N D L Y = 0 then addD D L (foldB Y) else D
theorem tbAddU {tb ab N : Nat} {D : List (Option Bt)} {H : List Chunk} {L : List Nm} {T : List Chunk} (hT : Tb tb ab L T) (hA : Ar ab N D H) (hI : Inn D L) (hu : ∀ e ∈ L, e.u + 1 < 2 ^ 60) (Y : Bs) (hY : Y.length < 2 ^ 62) :
    Tri Try.prog 36 #[.pointer (some ⟨tb, 0, none⟩), sv Y] [T, H] (fun r S => r = .tuple #[.int .i64 (aI N D L Y), .int .i64 (addE N D L Y)] ∧ ∃ (T' H' : List Chunk) (D' : List (Option Bt)), Tb tb ab (aL N D L Y) T' ∧ Ar ab N D' H' ∧ Inn D' (aL N D L Y) ∧ shp D' = shp (aD N D L Y) ∧ S = [T', H']) := by
  refine (tbAdd hT hA hI hu Y hY).mono fun r S h => ?_
  unfold aI aL aD
  rcases h with ⟨he, h1, h2⟩ | ⟨he, T', H', D', h1, h2, h3, h4, h5, h6⟩
  · rw [if_neg he, if_neg he, if_neg he]
    exact ⟨h1, T, H, D, hT, hA, hI, rfl, h2⟩
  · rw [if_pos he, if_pos he, if_pos he, he]
    exact ⟨h1, T', H', D', h2, h3, h4, h5, h6⟩
theorem rtAddU {rt rb N : Nat} {L : List Nm} {T Tm : List Chunk} {D : List (Option Bt)} {S1 : Segs} (hT : Rt rt rb L T) (hR : Rf rb N D S1 Tm) (hD : Dok N D) (hlen : L.length < 2 ^ 30) (hu : ∀ e ∈ L, e.u + 1 < 2 ^ 60) (Y : Bs) (hY : Y.length < 2 ^ 62) :
    Tri Try.prog 37 #[.pointer (some ⟨rt, 0, none⟩), sv Y] [T, Tm] (fun r S => r = .tuple #[.int .i64 (aI N D L Y), .int .i64 (addE N D L Y)] ∧ ∃ (T' Tm' x : List Chunk), Rt rt rb (aL N D L Y) T' ∧ Rf rb N (aD N D L Y) (x :: S1) Tm' ∧ S = [x, T', Tm']) := by
  refine Tri.forget ((rtAdd hT hR hD hlen hu Y hY).mono fun r S h => ?_)
  unfold aI aL aD
  rcases h with ⟨he, h1, rfl⟩ | ⟨he, T', Tm', x, h1, h2, h3, h4⟩
  · rw [if_neg he, if_neg he, if_neg he]
    exact ⟨[[], T, Tm], ⟨[], by simp⟩, h1, T, Tm, [], hT, hR.mono fun s hs => List.mem_cons_of_mem _ hs, rfl⟩
  · rw [if_pos he, if_pos he, if_pos he, he]
    exact ⟨S, .self, h1, T', Tm', x, h2, h3, h4⟩
structure IS (tb ab rt rb N k : Nat) (D D' : List (Option Bt)) (L : List Nm) (H TT TR Tm : List Chunk) (S1 S : Segs) : Prop where
  t : Tb tb ab L TT
  a : Ar ab N D H
  i : Inn D L
  p : Pos L
  u : ∀ e ∈ L, e.u ≤ k
  n : L.length ≤ k
  r : Rt rt rb L TR
  m : Rf rb N D' S1 Tm
  s : shp D = shp D'
  b : Bag S1 S
theorem IS.up {tb ab rt rb N k : Nat} {D D' : List (Option Bt)} {L : List Nm} {H TT TR Tm : List Chunk} {S1 S : Segs} (h : IS tb ab rt rb N k D D' L H TT TR Tm S1 S) : IS tb ab rt rb N (k + 1) D D' L H TT TR Tm S1 S :=
  ⟨h.t, h.a, h.i, h.p, fun e he => Nat.le_succ_of_le (h.u e he), Nat.le_succ_of_le h.n, h.r, h.m, h.s, h.b⟩
theorem aL_facts {N : Nat} {D : List (Option Bt)} {L : List Nm} {Y : Bs} {k : Nat} (hp : Pos L) (hu : ∀ e ∈ L, e.u ≤ k) (hn : L.length ≤ k) : Pos (aL N D L Y) ∧ (∀ e ∈ aL N D L Y, e.u ≤ k + 1) ∧ (aL N D L Y).length ≤ k + 1 := by
  unfold aL
  split
  · have := addL_len (D := D) (L := L) (n := foldB Y)
    exact ⟨addL_pos hp, addL_u hu, by omega⟩
  · exact ⟨hp, fun e he => Nat.le_succ_of_le (hu e he), by omega⟩
theorem aX_shp {N : Nat} {D D' : List (Option Bt)} (h : shp D = shp D') (L : List Nm) (Y : Bs) : aI N D L Y = aI N D' L Y ∧ aL N D L Y = aL N D' L Y ∧ shp (aD N D L Y) = shp (aD N D' L Y) ∧ addE N D L Y = addE N D' L Y := by
  obtain ⟨h1, h2⟩ := addL_shp h L (foldB Y)
  have h3 := addE_shp h N L Y
  refine ⟨?_, ?_, ?_, h3⟩
  · unfold aI; rw [h3, h2]
  · unfold aL; rw [h3, h1]
  · unfold aD; rw [h3]; split
    · exact addD_shp h L _
    · exact h
set_option maxRecDepth 10000 in
set_option maxHeartbeats 4000000 in
theorem c9 (budget : Int) (odd : ByteArray) {S : Segs} {v : Value} {T : List Act7} (hT : Src S v T) (hm : T.length ≤ maxLen) (_hq : ∀ a ∈ T, True) :
    Tri Try.prog 9 #[.int .i64 budget, v, .string odd] S (fun r S' => r = .bool true ∧ S' = S) := by
  obtain ⟨Yo, rfl⟩ : ∃ Y : Bs, odd = ⟨Y.toArray⟩ := ⟨odd.data.toList, rfl⟩
  refine Tri.forget (ycallee Try.fx9 (Nat.le_of_ble_eq_true rfl) ?_)
  unfold Try.x9
  have hfew := few7 hT hm
  obtain ⟨ta, tc, rfl⟩ := hT.isSlice
  refine yseq ?_
  refine yregion ?_
  refine yp pC ?_
  refine ynil ?_
  refine tnorm ?_
  refine ycutQ (fun E S' => Has E [(0, .int .i64 budget), (1, .slice ta T.length tc), (2, sv Yo)] ∧ (1024 ≤ budget ∧ budget ≤ 4096 ∧ Yo.length ≤ 300 ∧ T.length ≤ 60 ∧ ∀ x ∈ T, x.s.size ≤ 300) ∧ Junk S' S) ?_ fun E S' ⟨hE, ⟨hb1, hb2, hYo, hT60, hsz⟩, hJ⟩ => ?_
  · refine yseq ?_
    refine yregion ?_
    refine yp (pI rfl) ?_
    refine yp (pLt rfl rfl) ?_
    refine yp (pB rfl) ?_
    by_cases c1 : budget < 1024
    · rw [decide_eq_true c1]
      refine ygF rfl ?_
      refine ygF rfl ?_
      refine yp (pPickT rfl rfl) ?_
      refine yp (pB rfl) ?_
      refine ygF rfl ?_
      refine ygF rfl ?_
      refine ygF rfl ?_
      refine yp (pPickT rfl rfl) ?_
      refine yp (pB rfl) ?_
      refine ygF rfl ?_
      refine ygF rfl ?_
      refine ygF rfl ?_
      refine yp (pPickT rfl rfl) ?_
      refine ynil ?_
      refine tnorm ?_
      refine ycondT rfl ?_
      refine yseq ?_
      refine yregion ?_
      refine ycons (ycall awake7 rfl rfl fun r S' h => ?_)
      obtain ⟨rfl, rfl⟩ := h
      refine yp (pB rfl) ?_
      refine ynil ?_
      refine tnorm ?_
      refine yret ?_
      refine tret ?_
      exact yfin (rB rfl) ⟨_, .of, rfl, rfl⟩
    rw [decide_eq_false c1]
    refine ygT rfl ?_
    refine yop (pI rfl) ?_
    refine ygT rfl ?_
    refine yop (pGt rfl rfl) ?_
    refine yp (pPickF rfl rfl) ?_
    refine yp (pB rfl) ?_
    by_cases c2 : 4096 < budget
    · rw [decide_eq_true c2]
      refine ygF rfl ?_
      refine ygF rfl ?_
      refine ygF rfl ?_
      refine yp (pPickT rfl rfl) ?_
      refine yp (pB rfl) ?_
      refine ygF rfl ?_
      refine ygF rfl ?_
      refine ygF rfl ?_
      refine yp (pPickT rfl rfl) ?_
      refine ynil ?_
      refine tnorm ?_
      refine ycondT rfl ?_
      refine yseq ?_
      refine yregion ?_
      refine ycons (ycall awake7 rfl rfl fun r S' h => ?_)
      obtain ⟨rfl, rfl⟩ := h
      refine yp (pB rfl) ?_
      refine ynil ?_
      refine tnorm ?_
      refine yret ?_
      refine tret ?_
      exact yfin (rB rfl) ⟨_, .of, rfl, rfl⟩
    rw [decide_eq_false c2]
    refine ygT rfl ?_
    refine yop (pS rfl) ?_
    refine ygT rfl ?_
    refine ycall hfew rfl rfl fun r S' h => ?_
    obtain ⟨bl, rfl, hbl, hSS⟩ := h
    have hSS := hSS.symm
    subst hSS
    cases bl with
    | false =>
      refine ygT rfl ?_
      refine yop (pNot rfl) ?_
      refine yp (pPickF rfl rfl) ?_
      refine yp (pB rfl) ?_
      refine ygF rfl ?_
      refine ygF rfl ?_
      refine ygF rfl ?_
      refine yp (pPickT rfl rfl) ?_
      refine ynil ?_
      refine tnorm ?_
      refine ycondT rfl ?_
      refine yseq ?_
      refine yregion ?_
      refine ycons (ycall awake7 rfl rfl fun r S' h => ?_)
      obtain ⟨rfl, rfl⟩ := h
      refine yp (pB rfl) ?_
      refine ynil ?_
      refine tnorm ?_
      refine yret ?_
      refine tret ?_
      exact yfin (rB rfl) ⟨_, .of, rfl, rfl⟩
    | true =>
    obtain ⟨h60, h300⟩ := hbl rfl
    refine ygT rfl ?_
    refine yop (pNot rfl) ?_
    refine yp (pPickF rfl rfl) ?_
    refine yp (pB rfl) ?_
    refine ygT rfl ?_
    refine yop (pT rfl) ?_
    refine ygT rfl ?_
    refine yop (pLenS rfl) ?_
    refine ygT rfl ?_
    refine yop (pGt rfl rfl) ?_
    refine yp (pPickF rfl rfl) ?_
    refine ynil ?_
    refine tnorm ?_
    rw [szS]
    by_cases c3 : 300 < (Yo.length : Int)
    · rw [decide_eq_true c3]
      refine ycondT rfl ?_
      refine yseq ?_
      refine yregion ?_
      refine ycons (ycall awake7 rfl rfl fun r S' h => ?_)
      obtain ⟨rfl, rfl⟩ := h
      refine yp (pB rfl) ?_
      refine ynil ?_
      refine tnorm ?_
      refine yret ?_
      refine tret ?_
      exact yfin (rB rfl) ⟨_, .of, rfl, rfl⟩
    rw [decide_eq_false c3]
    refine ycondF rfl ?_
    refine yskip ?_
    refine tnorm ?_
    exact ⟨⟨rfl, rfl, rfl, trivial⟩, ⟨by omega, by omega, by omega, h60, h300⟩, .of⟩
  clear hfew
  obtain ⟨N, rfl⟩ := Int.eq_ofNat_of_zero_le (show 0 ≤ budget from by omega)
  obtain ⟨E0, e0⟩ := has_puts hE; subst e0; clear hE
  refine yforget hJ ?_
  refine yseq ?_
  refine yregion ?_
  refine yp (pI rfl) ?_
  refine ycons (ycall (arNewA (n := N) (by omega) rfl) rfl rfl fun r S' h => ?_)
  obtain ⟨ab, H, rfl, hA, rfl⟩ := h
  refine yp (pU rfl) ?_
  refine yp (pExt rfl rfl) ?_
  refine yp (pExt rfl rfl) ?_
  refine yp (pP rfl) ?_
  refine yp (pI rfl) ?_
  refine ynil ?_
  refine tnorm ?_
  refine yseq ?_
  refine yregion ?_
  refine yp (pP rfl) ?_
  refine ycons (ycall (tbNew (ab := ab)) rfl rfl fun r S' h => ?_)
  obtain ⟨tb, TT, rfl, hTT, rfl⟩ := h
  refine yp (pP rfl) ?_
  refine ynil ?_
  refine tnorm ?_
  refine yseq ?_
  refine yseq ?_
  refine yregion ?_
  refine yp (pI rfl) ?_
  refine yp (pNe rfl rfl) ?_
  refine yp (pB rfl) ?_
  refine ygT rfl ?_
  refine yop (pP rfl) ?_
  refine ygT rfl ?_
  refine yop (pNilP rfl rfl) ?_
  refine yp (pPickF rfl rfl) ?_
  refine ynil ?_
  refine tnorm ?_
  refine ycondF rfl ?_
  refine yskip ?_
  refine tnorm ?_
  refine yseq ?_
  refine yregion ?_
  refine yp (pI rfl) ?_
  refine yp (v := .agg #[.int .i64 (N : Int), .slice none 0 0]) rfl ?_
  refine ycons (yboxG rfl fun p55 => ?_)
  refine yp (v := .agg #[.pointer (some ⟨p55, 0, none⟩), .slice none 0 0]) rfl ?_
  refine ycons (yboxG rfl fun p57 => ?_)
  refine yp (pP rfl) ?_
  refine ynil ?_
  refine tnorm ?_
  refine yseq ?_
  refine yregion ?_
  refine yp pC ?_
  refine ynil ?_
  refine tnorm ?_
  refine yseq ?_
  refine yseq ?_
  refine yregion ?_
  refine yp pC ?_
  refine ynil ?_
  refine tnorm ?_
  refine yblock ?_
  refine yloop (σ := Nat) (fun i E S' => Has E [(1, .slice ta T.length tc), (2, sv Yo), (7, .pointer (some ⟨ab, 0, none⟩)), (9, .pointer (some ⟨tb, 0, none⟩)), (10, .pointer (some ⟨p57, 0, none⟩)), (12, .int .i64 (i : Int))] ∧ i ≤ T.length ∧ ∃ (ids : List Int) (vi : Value) (Hi : List Chunk) (D D' : List (Option Bt)) (L : List Nm) (H TT TR Tm : List Chunk) (S1 : Segs), E 11 = vi ∧ Slc 3 vi ids Hi ∧ ids.length ≤ i ∧ IS tb ab p57 p55 N (i) D D' L H TT TR Tm S1 S ∧ Junk S' (Hi :: TT :: H :: TR :: Tm :: S1)) (fun i => T.length - i) 0
    ⟨⟨rfl, rfl, rfl, rfl, rfl, rfl, trivial⟩, Nat.zero_le _, [], _, [], [], [], [], H, TT, rtseg p57 p55 (.slice none 0 0), rseg p55 (N : Int) (.slice none 0 0), S, rfl, .nil, Nat.le_refl _, ⟨hTT, hA, .nil, .nil, fun e he => by simp at he, Nat.le_refl _, ⟨_, [], .nil, by simp⟩, .start, rfl, .refl S⟩, .of⟩ fun i E S' ⟨hE, hi, ids, vi, Hi, D, D', L, H, TT, TR, Tm, S1, hE11, hLi, hil, hS, hJ⟩ => ?_
  obtain ⟨ia, ic, rfl⟩ := hLi.isSlice
  have hE2 : Has E [(1, .slice ta T.length tc), (2, sv Yo), (7, .pointer (some ⟨ab, 0, none⟩)), (9, .pointer (some ⟨tb, 0, none⟩)), (10, .pointer (some ⟨p57, 0, none⟩)), (12, .int .i64 (i : Int)), (11, .slice ia ids.length ic)] := ⟨hE.1, hE.2.1, hE.2.2.1, hE.2.2.2.1, hE.2.2.2.2.1, hE.2.2.2.2.2.1, hE11, trivial⟩
  clear hE hE11
  have hDk := hS.a.ok
  have hDk' := hDk.shp hS.s
  have hSn := hS.n
  obtain ⟨E0, e0⟩ := has_puts hE2; subst e0; clear hE2
  refine yforget hJ ?_
  refine yseq ?_
  refine yseq ?_
  refine yregion ?_
  refine yp (pI rfl) ?_
  refine yp (pS rfl) ?_
  refine yp (pLen rfl) ?_
  refine yp (pLt rfl rfl) ?_
  refine ynil ?_
  refine tnorm ?_
  by_cases h : ¬ (i : Int) < (T.length : Int)
  · refine ycondD rfl (fun h2 => absurd h2 h) (fun _ => ?_)
    have hYo2 : Yo.length < 2 ^ 62 := by omega
    refine yexit ?_
    refine texit ?_
    refine texit ?_
    refine bexit ?_
    refine tnorm ?_
    refine yseq ?_
    refine yregion ?_
    refine yp (pP rfl) ?_
    refine yp (pT rfl) ?_
    refine ycons (ycall (tbFind hS.t Yo hYo2) rfl rfl fun r S' h => ?_)
    obtain ⟨rfl, rfl⟩ := h
    refine yp (pU rfl) ?_
    refine yp (pExt rfl rfl) ?_
    refine yp (pExt rfl rfl) ?_
    refine yp (pI rfl) ?_
    refine yp (pB rfl) ?_
    refine ynil ?_
    refine tnorm ?_
    refine yseq ?_
    refine yregion ?_
    refine yp (pP rfl) ?_
    refine yp (pT rfl) ?_
    refine ycons (ycall (rtFindP hS.r (by omega) Yo hYo2) rfl rfl fun r S' h => ?_)
    obtain ⟨rfl, rfl⟩ := h
    have e1 : (if vld Yo then ((byN L (foldB Yo)).map (·.id)).getD 0 else 0) = ((byN L (foldB Yo)).map (·.id)).getD 0 := by
      cases hv : vld Yo with
      | true => rfl
      | false => rw [byN_vld hS.i hv]; rfl
    have e2 : (vld Yo && (byN L (foldB Yo)).isSome) = (byN L (foldB Yo)).isSome := by
      cases hv : vld Yo with
      | true => rfl
      | false => rw [byN_vld hS.i hv]; rfl
    rw [e1, e2]
    refine yp (pU rfl) ?_
    refine yp (pExt rfl rfl) ?_
    refine yp (pExt rfl rfl) ?_
    refine yp (pI rfl) ?_
    refine yp (pB rfl) ?_
    refine ynil ?_
    refine tnorm ?_
    refine yseq ?_
    refine yregion ?_
    refine yp (pI rfl) ?_
    refine yp (pI rfl) ?_
    refine yp (pEq rfl rfl) ?_
    refine yp (pB rfl) ?_
    rw [decide_eq_true rfl]
    refine ygT rfl ?_
    refine yop (pB rfl) ?_
    refine ygT rfl ?_
    refine yop (pB rfl) ?_
    refine ygT rfl ?_
    refine yop (pEqB rfl rfl) ?_
    refine yp (pPickT rfl rfl) ?_
    refine yp (pB rfl) ?_
    rw [show ((byN L (foldB Yo)).isSome == (byN L (foldB Yo)).isSome) = true from by simp]
    refine ygT rfl ?_
    refine yop (pP rfl) ?_
    refine ygT rfl ?_
    refine yop (pT rfl) ?_
    refine ygT rfl ?_
    refine ycall (tbCost hS.t Yo hYo2) rfl rfl fun r S' h => ?_
    obtain ⟨rfl, rfl⟩ := h
    refine ygT rfl ?_
    refine yop (pP rfl) ?_
    refine ygT rfl ?_
    refine yop (pT rfl) ?_
    refine ygT rfl ?_
    refine ycall (rtCost hS.r (by omega) Yo hYo2) rfl rfl fun r S' h => ?_
    obtain ⟨rfl, rfl⟩ := h
    refine ygT rfl ?_
    refine yop (pEq rfl rfl) ?_
    refine yp (pPickT rfl rfl) ?_
    refine yp (pB rfl) ?_
    rw [decide_eq_true rfl]
    refine ygT rfl ?_
    refine ycall awake7 rfl rfl fun r S' h => ?_
    obtain ⟨rfl, rfl⟩ := h
    refine yp (pPickT rfl rfl) ?_
    refine yp (pB rfl) ?_
    refine ynil ?_
    refine tnorm ?_
    refine yret ?_
    exact yfin (rB rfl) ⟨_, Junk.trans (Junk.of (S0 := S1)) hS.b.junk, rfl, rfl⟩
  refine ycondD rfl (fun _ => ?_) (fun h2 => absurd h2 h)
  have hlt : i < T.length := by omega
  obtain ⟨b, o, ca, ty, fz, rfl, hm', hmem, _, hg⟩ := hT.get (by intro h; simp [h] at hlt)
  have hge := hg i hlt
  have hse := hsz _ (List.getElem_mem hlt)
  generalize T[i] = e at hge hse
  obtain ⟨ek, es, en⟩ := e
  obtain ⟨Y, rfl⟩ : ∃ Y : Bs, es = ⟨Y.toArray⟩ := ⟨es.data.toList, rfl⟩
  have hse2 : Y.length ≤ 300 := hse
  have hY2 : Y.length < 2 ^ 62 := by omega
  have hge2 : (ca.toList.drop (o + i * 3)).take 3 = [.int .i64 ek, sv Y, .int .i64 en] := hge
  refine yskip ?_
  refine tnorm ?_
  refine yseq ?_
  refine yblock ?_
  refine yseq ?_
  refine yregion ?_
  refine yp (pS rfl) ?_
  refine yp (pI rfl) ?_
  refine yp (pIxN rfl rfl (by omega)) ?_
  refine ycons (yloadNM (S := Hi :: TT :: H :: TR :: Tm :: S1) (l := [.int .i64 ek, sv Y, .int .i64 en]) (by repeat (first | exact hS.b.mem _ hmem | apply List.mem_cons_of_mem)) rfl hge2 rfl ?_)
  refine ycons (yalloc fun p13 => ?_)
  refine ycons (ystAll (c' := [.int .i64 ek, sv Y, .int .i64 en]) rfl rfl rfl rfl rfl ?_)
  refine ynil ?_
  refine tnorm ?_
  refine ycut (fun E S' => Has E [(1, .slice (some ⟨b, o, none⟩) T.length tc), (2, sv Yo), (7, .pointer (some ⟨ab, 0, none⟩)), (9, .pointer (some ⟨tb, 0, none⟩)), (10, .pointer (some ⟨p57, 0, none⟩)), (12, .int .i64 (i : Int))] ∧ ∃ (ids : List Int) (vi : Value) (Hi : List Chunk) (D D' : List (Option Bt)) (L : List Nm) (H TT TR Tm : List Chunk) (S1 : Segs), E 11 = vi ∧ Slc 3 vi ids Hi ∧ ids.length ≤ i + 1 ∧ IS tb ab p57 p55 N (i + 1) D D' L H TT TR Tm S1 S ∧ Junk S' (Hi :: TT :: H :: TR :: Tm :: S1)) ?_ fun E S' ⟨hE, ids, vi, Hi, D, D', L, H, TT, TR, Tm, S1, hE11, hLi, hil, hS, hJ⟩ => ?_
  · refine yseq ?_
    refine yregion ?_
    refine yp (pFadr rfl) ?_
    refine ycons (yload1 rfl rfl ?_)
    refine ynil ?_
    refine tnorm ?_
    refine yblock ?_
    refine yseq ?_
    refine yregion ?_
    refine yp (pEq rfl rfl) ?_
    refine yp (pB rfl) ?_
    refine ynil ?_
    refine tnorm ?_
    by_cases k1 : ek = 1
    · rw [decide_eq_true k1]
      refine ycondT rfl ?_
      refine yseq ?_
      refine yregion ?_
      refine yp (pP rfl) ?_
      refine yp (pFadr rfl) ?_
      refine ycons (yload1 rfl rfl ?_)
      refine ycons (ycall (tbAddU hS.t hS.a hS.i (fun e he => by have := hS.u e he; omega) Y hY2) rfl rfl fun r S' h => ?_)
      obtain ⟨rfl, TT2, H2, D2, hT2, hA2, hI2, hs2, rfl⟩ := h
      refine yp (pU rfl) ?_
      refine yp (pExt rfl rfl) ?_
      refine yp (pExt rfl rfl) ?_
      refine yp (pI rfl) ?_
      refine yp (pI rfl) ?_
      refine ynil ?_
      refine tnorm ?_
      refine yseq ?_
      refine yregion ?_
      refine yp (pP rfl) ?_
      refine yp (pFadr rfl) ?_
      refine ycons (yload1 rfl rfl ?_)
      refine ycons (ycall (rtAddU hS.r hS.m hDk' (by omega) (fun e he => by have := hS.u e he; omega) Y hY2) rfl rfl fun r S' h => ?_)
      obtain ⟨rfl, TR2, Tm2, x, hR2, hM2, rfl⟩ := h
      obtain ⟨q1, q2, q3, q4⟩ := aX_shp (N := N) hS.s L Y
      rw [← q1, ← q4]
      rw [← q2] at hR2
      refine yp (pU rfl) ?_
      refine yp (pExt rfl rfl) ?_
      refine yp (pExt rfl rfl) ?_
      refine yp (pI rfl) ?_
      refine yp (pI rfl) ?_
      refine ynil ?_
      refine tnorm ?_
      refine yseq ?_
      refine yseq ?_
      refine yregion ?_
      refine yp (pI rfl) ?_
      refine yp (pI rfl) ?_
      refine yp (pNe rfl rfl) ?_
      refine yp (pB rfl) ?_
      rw [decide_eq_true rfl]
      refine ygT rfl ?_
      refine yop (pI rfl) ?_
      refine ygT rfl ?_
      refine yop (pI rfl) ?_
      refine ygT rfl ?_
      refine yop (pNe rfl rfl) ?_
      refine yp (pPickF rfl rfl) ?_
      refine ynil ?_
      refine tnorm ?_
      rw [decide_eq_true rfl]
      refine ycondF rfl ?_
      refine yskip ?_
      refine tnorm ?_
      refine yregion ?_
      refine yp (pS rfl) ?_
      refine yp (pI rfl) ?_
      obtain ⟨f1, f2, f3⟩ := aL_facts (N := N) (D := D) (Y := Y) hS.p hS.u hS.n
      refine ycons (ybsl1 (aI N D L Y) rfl rfl (by decide) (by decide) rfl fun p96 => ?_)
      refine ycons (yapp (Y := [aI N D L Y]) rfl rfl hLi (.lit (by repeat (first | exact List.mem_cons_self | apply List.mem_cons_of_mem)) rfl) rfl 0 rfl (by simp; omega) (by simp; omega) fun v2 H5 hL5 => ?_)
      have hl5 : (ids ++ [aI N D L Y]).length ≤ i + 1 := by simp; omega
      generalize ids ++ [aI N D L Y] = ids2 at hL5 hl5
      obtain ⟨a5, c5, rfl⟩ := hL5.isSlice
      refine yp (pS rfl) ?_
      refine ynil ?_
      refine bnorm ?_
      refine tnorm ?_
      exact ⟨⟨rfl, rfl, rfl, rfl, rfl, rfl, trivial⟩, ids2, _, H5, D2, _, _, H2, TT2, TR2, Tm2, x :: S1, rfl, hL5, hl5, ⟨hT2, hA2, hI2, f1, f2, f3, hR2, hM2, hs2.trans q3, hS.b.cons x⟩, .of⟩
    rw [decide_eq_false k1]
    refine ycondF rfl ?_
    refine yseq ?_
    refine yregion ?_
    refine yp (pEq rfl rfl) ?_
    refine yp (pB rfl) ?_
    refine ynil ?_
    refine tnorm ?_
    by_cases k2 : ek = 2
    · rw [decide_eq_true k2]
      refine ycondT rfl ?_
      refine yseq ?_
      refine yregion ?_
      refine yp (pFadr rfl) ?_
      refine ycons (yload1 rfl rfl ?_)
      refine yp (pI rfl) ?_
      refine ynil ?_
      refine tnorm ?_
      refine ycut (fun E S' => ∃ id : Int, Has E [(1, .slice (some ⟨b, o, none⟩) T.length tc), (2, sv Yo), (7, .pointer (some ⟨ab, 0, none⟩)), (9, .pointer (some ⟨tb, 0, none⟩)), (10, .pointer (some ⟨p57, 0, none⟩)), (11, .slice ia ids.length ic), (12, .int .i64 (i : Int)), (18, .int .i64 id)] ∧ Junk S' (Hi :: TT :: H :: TR :: Tm :: S1)) ?_ fun E S' ⟨id, hE, hJ⟩ => ?_
      · refine yseq ?_
        refine yregion ?_
        refine yp (pS rfl) ?_
        refine yp (pLen rfl) ?_
        refine yp (pGt rfl rfl) ?_
        refine ynil ?_
        refine tnorm ?_
        refine ycondD rfl (fun h3 => ?_) (fun h3 => ?_)
        · refine yregion ?_
          refine yp (pS rfl) ?_
          refine yp (pFadr rfl) ?_
          refine ycons (yload1 rfl rfl ?_)
          refine yp (pS rfl) ?_
          refine yp (pLen rfl) ?_
          refine ycons (ycall (cRound en (ids.length : Int) (by omega)) rfl rfl fun r S' h => ?_)
          obtain ⟨rfl, rfl⟩ := h
          have hr := round_lt en (ids.length : Int) h3
          obtain ⟨q, hq⟩ := Int.eq_ofNat_of_zero_le hr.1
          rw [hq]
          have hql : q < ids.length := by omega
          obtain ⟨b2, sp, fz2, hz2, hae, _, hce, rfl⟩ := hLi.at' (by intro h; rw [h] at hql; simp at hql)
          subst hae
          refine yp (pIxN rfl rfl (by omega)) ?_
          refine ycons (yload1 (v := .int .i64 ids[q]) rfl ((row_cell (kk := 1) (j := 0) hql rfl (by omega)).trans rfl) ?_)
          refine yp (pI rfl) ?_
          refine ynil ?_
          refine tnorm ?_
          exact ⟨ids[q], ⟨rfl, rfl, rfl, rfl, rfl, rfl, rfl, rfl, trivial⟩, .of⟩
        · refine yskip ?_
          refine tnorm ?_
          exact ⟨en, ⟨rfl, rfl, rfl, rfl, rfl, rfl, rfl, rfl, trivial⟩, .of⟩
      have hu60 : ∀ e ∈ L, 1 ≤ e.u ∧ e.u < 2 ^ 60 := fun e he => ⟨hS.p e he, by have := hS.u e he; omega⟩
      obtain ⟨E0, e0⟩ := has_puts hE; subst e0; clear hE
      refine yforget hJ ?_
      refine yseq ?_
      refine yregion ?_
      refine yp (pP rfl) ?_
      refine yp (pI rfl) ?_
      refine ycons (ycall (tbDrop hS.t hS.a hS.i hS.p id) rfl rfl fun r S' h => ?_)
      obtain ⟨rfl, TT2, H2, D2, hT2, hA2, hI2, hs2, rfl⟩ := h
      refine yp (pP rfl) ?_
      refine yp (pI rfl) ?_
      refine ycons (ycall (rtDrop hS.r hS.m hDk' (by omega) hu60 id) rfl rfl fun r S' h => ?_)
      obtain ⟨rfl, TR2, Tm2, hR2, hM2, rfl⟩ := h
      refine yp (pNe rfl rfl) ?_
      refine ynil ?_
      refine tnorm ?_
      rw [decide_eq_true rfl]
      refine ycondF rfl ?_
      refine yskip ?_
      refine bnorm ?_
      refine tnorm ?_
      have hll := dropL_len (L := L) (i := id)
      exact ⟨⟨rfl, rfl, rfl, rfl, rfl, rfl, trivial⟩, ids, _, Hi, D2, _, _, H2, TT2, TR2, Tm2, S1, rfl, hLi, by omega, ⟨hT2, hA2, hI2, dropL_pos hS.p, fun e he => Nat.le_succ_of_le (dropL_u hS.u e he), by omega, hR2, hM2, hs2.trans (dropD_shp hS.s L id), hS.b⟩, .of⟩
    rw [decide_eq_false k2]
    refine ycondF rfl ?_
    refine yskip ?_
    refine bnorm ?_
    refine tnorm ?_
    exact ⟨⟨rfl, rfl, rfl, rfl, rfl, rfl, trivial⟩, ids, _, Hi, D, D', L, H, TT, TR, Tm, S1, rfl, hLi, by omega, hS.up, .of⟩
  obtain ⟨ia, ic, rfl⟩ := hLi.isSlice
  have hE2 : Has E [(1, .slice (some ⟨b, o, none⟩) T.length tc), (2, sv Yo), (7, .pointer (some ⟨ab, 0, none⟩)), (9, .pointer (some ⟨tb, 0, none⟩)), (10, .pointer (some ⟨p57, 0, none⟩)), (12, .int .i64 (i : Int)), (11, .slice ia ids.length ic)] := ⟨hE.1, hE.2.1, hE.2.2.1, hE.2.2.2.1, hE.2.2.2.2.1, hE.2.2.2.2.2.1, hE11, trivial⟩
  clear hE hE11
  have hSn := hS.n
  obtain ⟨E0, e0⟩ := has_puts hE2; subst e0; clear hE2
  refine yforget hJ ?_
  refine yseq ?_
  refine yregion ?_
  refine yp (pP rfl) ?_
  refine yp (pP rfl) ?_
  refine yp (pP rfl) ?_
  refine ycons (ycall (shows7 hS.t hS.a hS.i hS.r hS.m hS.s (by omega)) rfl rfl fun r S' h => ?_)
  obtain ⟨rfl, rfl⟩ := h
  refine yp (pNot rfl) ?_
  refine ynil ?_
  refine tnorm ?_
  refine ycondF rfl ?_
  refine yskip ?_
  refine bnorm ?_
  refine tnorm ?_
  refine yregion ?_
  refine yp (pI rfl) ?_
  refine yp (pInc rfl rfl (by omega)) ?_
  refine yp (pI rfl) ?_
  refine ynil ?_
  refine tnorm ?_
  exact ⟨i + 1, ⟨⟨rfl, rfl, rfl, rfl, rfl, rfl, trivial⟩, by omega, ids, _, Hi, D, D', L, H, TT, TR, Tm, S1, rfl, hLi, hil, hS, .of⟩, by omega⟩
end Go.Proofs.Ytkdbajfaaifkaaa
