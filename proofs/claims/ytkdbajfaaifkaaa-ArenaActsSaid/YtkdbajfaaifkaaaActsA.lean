/- ArenaActs: what it computes. -/
import Derived.Test.YtkdbajfaaifkaaaShowA
import Derived.Test.YtkdbajfaaifkaaaAlk
namespace Go.Proofs.Ytkdbajfaaifkaaa
open Go.Xs
open Enc (enc)

structure Act6 where
  kind : Int
  h : Int
  at_ : Int
  n : Int
  b : Bt
  a : Option Addr
  c : Nat
instance : Enc Act6 := ⟨fun x => [.int .i64 x.kind, .int .i64 x.h, .int .i64 x.at_, .int .i64 x.n, .slice x.a x.b.length x.c], 5, fun _ => rfl, fun _ => rfl⟩
def Act6.v (x : Act6) : Value := .slice x.a x.b.length x.c

theorem few6 {S : Segs} {v : Value} {T : List Act6} (hT : Src S v T) (hm : T.length ≤ maxLen) : Tri Try.prog 19 #[v] S (fun r S' => ∃ bl, r = .bool bl ∧ (bl = true → T.length ≤ 60) ∧ S' = S) := by
  refine Tri.forget (ycallee Try.fx19 (Nat.le_of_ble_eq_true rfl) ?_)
  unfold Try.x19
  obtain ⟨ta, tc, rfl⟩ := hT.isSlice
  refine yseq ?_
  refine yregion ?_
  refine yp pC ?_
  refine ynil ?_
  refine tnorm ?_
  refine yseq ?_
  refine yseq ?_
  refine yregion ?_
  refine yp pC ?_
  refine ynil ?_
  refine tnorm ?_
  refine yblock ?_
  refine yloop (σ := Nat) (fun i E S' => Has E [(0, .slice ta T.length tc), (3, .int .i64 (i : Int))] ∧ i ≤ T.length ∧ Junk S' S) (fun i => T.length - i) 0
    ⟨⟨rfl, rfl, trivial⟩, Nat.zero_le _, .of⟩ fun i E S' ⟨hE, hi, hJ⟩ => ?_
  have hm2 : T.length ≤ 9223372036854775807 := hm
  obtain ⟨E0, e0⟩ := has_puts hE; subst e0; clear hE
  refine yforget hJ ?_
  refine yseq ?_
  refine yseq ?_
  refine yregion ?_
  refine yp (pI rfl) ?_
  refine yp (pS rfl) ?_
  refine yp (pLen rfl) ?_
  refine yp (pLt rfl rfl) ?_
  refine yp (pB rfl) ?_
  have hend : ∀ {n : Nat} {E : Env}, E 2 = .bool (decide ((T.length : Int) ≤ 60)) → Res Try.prog #[.tmp 2] E S (.bool (decide ((T.length : Int) ≤ 60))) := fun h => rB h
  by_cases h1 : i < T.length
  · rw [decide_eq_true (show (i : Int) < (T.length : Int) from by omega)]
    refine ygT rfl ?_
    refine yop (pI rfl) ?_
    refine ygT rfl ?_
    refine yop (pLt rfl rfl) ?_
    refine yp (pPickT rfl rfl) ?_
    refine ynil ?_
    refine tnorm ?_
    by_cases h2 : (i : Int) < 70
    · rw [decide_eq_true h2]
      obtain ⟨b, o, ca, ty, fz, rfl, hm', hmem, hg, _⟩ := hT.get (by intro h; simp [h] at h1)
      have hg0 : ca.toList[o + i * 5 + 4]? = some (.slice T[i].a T[i].b.length T[i].c) := hg i 4 h1 (by decide)
      generalize T[i] = x at hg0
      refine ycondT rfl ?_
      refine yskip ?_
      refine tnorm ?_
      refine yseq ?_
      refine yblock ?_
      refine yseq ?_
      refine yregion ?_
      refine yp (pS rfl) ?_
      refine yp (pI rfl) ?_
      refine yp (pIxN rfl rfl (by omega)) ?_
      refine yp (pFadr rfl) ?_
      refine ycons (yloadM hmem rfl hg0 ?_)
      refine yp (pLen rfl) ?_
      refine yp (pGt rfl rfl) ?_
      refine ynil ?_
      refine tnorm ?_
      refine ycondD rfl (fun h => ?_) (fun h => ?_)
      · refine yseq ?_
        refine yregion ?_
        refine yp pC ?_
        refine ynil ?_
        refine tnorm ?_
        refine yret ?_
        refine bret ?_
        refine tret ?_
        refine tret ?_
        refine bret ?_
        refine tret ?_
        exact yfin (rB rfl) ⟨_, .of, false, rfl, (by simp), rfl⟩
      · refine yskip ?_
        refine bnorm ?_
        refine tnorm ?_
        refine yregion ?_
        refine yp (pI rfl) ?_
        refine yp (pInc rfl rfl (by omega)) ?_
        refine yp (pI rfl) ?_
        refine ynil ?_
        refine tnorm ?_
        exact ⟨i + 1, ⟨⟨rfl, rfl, trivial⟩, by omega, .of⟩, by omega⟩
    · rw [decide_eq_false h2]
      refine ycondF rfl ?_
      refine yexit ?_
      refine texit ?_
      refine texit ?_
      refine bexit ?_
      refine tnorm ?_
      refine yseq ?_
      refine yregion ?_
      refine yp (pS rfl) ?_
      refine yp (pLen rfl) ?_
      refine yp (pLe rfl rfl) ?_
      refine yp (pB rfl) ?_
      refine ynil ?_
      refine tnorm ?_
      refine yret ?_
      exact yfin (rB rfl) ⟨_, .of, _, rfl, fun h => by have := of_decide_eq_true h; omega, rfl⟩
  · rw [decide_eq_false (show ¬ (i : Int) < (T.length : Int) from by omega)]
    refine ygF rfl ?_
    refine ygF rfl ?_
    refine yp (pPickF rfl rfl) ?_
    refine ynil ?_
    refine tnorm ?_
    refine ycondF rfl ?_
    refine yexit ?_
    refine texit ?_
    refine texit ?_
    refine bexit ?_
    refine tnorm ?_
    refine yseq ?_
    refine yregion ?_
    refine yp (pS rfl) ?_
    refine yp (pLen rfl) ?_
    refine yp (pLe rfl rfl) ?_
    refine yp (pB rfl) ?_
    refine ynil ?_
    refine tnorm ?_
    refine yret ?_
    exact yfin (rB rfl) ⟨_, .of, _, rfl, fun h => by have := of_decide_eq_true h; omega, rfl⟩

theorem Rf.start {rb N : Nat} {S1 : Segs} : Rf rb N [] S1 (rseg rb N (.slice none 0 0)) := ⟨.slice none 0 0, [], [], .nil, rfl, fun x hx => by simp at hx, by simp⟩
theorem showsD {ab rb N : Nat} {D : List (Option Bt)} {H T : List Chunk} {S1 : Segs} (hA : Ar ab N D H) (hR : Rf rb N D S1 T) : Tri Try.prog 28 #[.pointer (some ⟨ab, 0, none⟩), .pointer (some ⟨rb, 0, none⟩)] [H, T] (fun r S => r = .bool true ∧ S = [H, T]) := by
  obtain ⟨kv, L, HB, hL, ht, hS, rfl⟩ := hR
  refine Tri.forget (Tri.perm (S := [H, rseg rb N kv, HB]) (by simp) ((showsRaw hA hL ht).mono fun r S h => ?_))
  obtain ⟨rfl, rfl⟩ := h
  exact ⟨_, ⟨[], by simp⟩, rfl, rfl⟩
theorem blk_mem' : ∀ (D : List (Option Bt)) (i : Nat) (e : Int × Bt), e ∈ blk i D → ∃ k : Nat, e.1 = (i : Int) + k + 1 ∧ D[k]? = some (some e.2)
  | [], _, e, h => by cases h
  | none :: l, i, e, h => by
    obtain ⟨k, h1, hk⟩ := blk_mem' l (i + 1) e h
    exact ⟨k + 1, by omega, by simpa using hk⟩
  | some b :: l, i, e, h => by
    rcases List.mem_cons.1 h with rfl | h
    · exact ⟨0, by simp, rfl⟩
    · obtain ⟨k, h1, hk⟩ := blk_mem' l (i + 1) e h
      exact ⟨k + 1, by omega, by simpa using hk⟩

set_option maxRecDepth 10000 in
set_option maxHeartbeats 4000000 in
theorem c5 {S : Segs} {v : Value} (budget : Int) {T : List Act6} (hT : Src S v T) (hm : T.length ≤ maxLen) (hq : ∀ a ∈ T, Src S a.v a.b ∧ a.b.length ≤ maxLen) :
    Tri Try.prog 5 #[.int .i64 budget, v] S (fun r S' => r = .bool true ∧ S' = S) := by
  refine Tri.forget (ycallee Try.fx5 (Nat.le_of_ble_eq_true rfl) ?_)
  unfold Try.x5
  have hfew := few6 hT hm
  obtain ⟨ta, tc, rfl⟩ := hT.isSlice
  refine yseq ?_
  refine yregion ?_
  refine yp pC ?_
  refine ynil ?_
  refine tnorm ?_
  refine yseq ?_
  refine yseq ?_
  refine yregion ?_
  refine yp (pS rfl) ?_
  refine ycons (ycall hfew rfl rfl fun r S' h => ?_)
  obtain ⟨bl, rfl, hbl, hSS⟩ := h
  have hSS := hSS.symm
  subst hSS
  clear hfew
  cases bl with
  | false =>
    refine yp (pNot rfl) ?_
    refine ynil ?_
    refine tnorm ?_
    refine ycondT rfl ?_
    refine yseq ?_
    refine yregion ?_
    refine ycons (ycall awake6 rfl rfl fun r S' h => ?_)
    obtain ⟨rfl, rfl⟩ := h
    refine yp (pB rfl) ?_
    refine ynil ?_
    refine tnorm ?_
    refine yret ?_
    refine tret ?_
    exact yfin (rB rfl) ⟨_, .of, rfl, rfl⟩
  | true =>
  have hT60 := hbl rfl
  refine yp (pNot rfl) ?_
  refine ynil ?_
  refine tnorm ?_
  refine ycondF rfl ?_
  refine yskip ?_
  refine tnorm ?_
  refine yseq ?_
  refine yregion ?_
  refine yp (pI rfl) ?_
  by_cases hb : ¬ (1024 ≤ budget ∧ budget ≤ 1048576)
  · refine ycons (ycall (arNewn (n := budget) (by omega)) rfl rfl fun r S' h => ?_)
    obtain ⟨rfl, rfl⟩ := h
    refine yp (pU rfl) ?_
    refine yp (pExt rfl rfl) ?_
    refine yp (pExt rfl rfl) ?_
    refine yp (pP rfl) ?_
    refine yp (pI rfl) ?_
    refine ynil ?_
    refine tnorm ?_
    refine yseq ?_
    refine yseq ?_
    refine yregion ?_
    refine yp (pI rfl) ?_
    refine ycons (ycall (rfMay budget) rfl rfl fun r S' h => ?_)
    obtain ⟨rfl, rfl⟩ := h
    rw [show (decide (1024 ≤ budget) && decide (budget ≤ 1048576)) = false from by simp; omega]
    refine yp (pNot rfl) ?_
    refine ynil ?_
    refine tnorm ?_
    refine ycondT rfl ?_
    refine yseq ?_
    refine yregion ?_
    refine yp (pI rfl) ?_
    refine yp (pEq rfl rfl) ?_
    refine yp (pB rfl) ?_
    refine ygT rfl ?_
    refine yop (pP rfl) ?_
    refine ygT rfl ?_
    refine yop (pNilP rfl rfl) ?_
    refine yp (pPickT rfl rfl) ?_
    refine yp (pB rfl) ?_
    refine ygT rfl ?_
    refine ycall awake6 rfl rfl fun r S' h => ?_
    obtain ⟨rfl, rfl⟩ := h
    refine yp (pPickT rfl rfl) ?_
    refine yp (pB rfl) ?_
    refine ynil ?_
    refine tnorm ?_
    refine yret ?_
    refine tret ?_
    exact yfin (rB rfl) ⟨_, .of, rfl, rfl⟩
  have hb2 := Classical.not_not.1 hb
  clear hb
  obtain ⟨N, rfl⟩ := Int.eq_ofNat_of_zero_le (show 0 ≤ budget from by omega)
  refine ycons (ycall (arNewA (n := N) (by omega) rfl) rfl rfl fun r S' h => ?_)
  obtain ⟨ab, H, rfl, hA, rfl⟩ := h
  refine yp (pU rfl) ?_
  refine yp (pExt rfl rfl) ?_
  refine yp (pExt rfl rfl) ?_
  refine yp (pP rfl) ?_
  refine yp (pI rfl) ?_
  refine ynil ?_
  refine tnorm ?_
  refine yseq ?_
  refine yseq ?_
  refine yregion ?_
  refine yp (pI rfl) ?_
  refine ycons (ycall (rfMay (N : Int)) rfl rfl fun r S' h => ?_)
  obtain ⟨rfl, rfl⟩ := h
  rw [show (decide (1024 ≤ (N : Int)) && decide ((N : Int) ≤ 1048576)) = true from by simp; omega]
  refine yp (pNot rfl) ?_
  refine ynil ?_
  refine tnorm ?_
  refine ycondF rfl ?_
  refine yskip ?_
  refine tnorm ?_
  refine yseq ?_
  refine yseq ?_
  refine yregion ?_
  refine yp (pI rfl) ?_
  refine yp (pNe rfl rfl) ?_
  refine yp (pB rfl) ?_
  refine ygT rfl ?_
  refine yop (pI rfl) ?_
  refine ygT rfl ?_
  refine yop (pGt rfl rfl) ?_
  refine yp (pPickF rfl rfl) ?_
  refine ynil ?_
  refine tnorm ?_
  by_cases h65 : (65536 : Int) < (N : Int)
  · rw [decide_eq_true h65]
    refine ycondT rfl ?_
    refine yseq ?_
    refine yregion ?_
    refine yp (pI rfl) ?_
    refine yp (pEq rfl rfl) ?_
    refine yp (pB rfl) ?_
    refine ygT rfl ?_
    refine ycall awake6 rfl rfl fun r S' h => ?_
    obtain ⟨rfl, rfl⟩ := h
    refine yp (pPickT rfl rfl) ?_
    refine yp (pB rfl) ?_
    refine ynil ?_
    refine tnorm ?_
    refine yret ?_
    refine tret ?_
    exact yfin (rB rfl) ⟨_, .of, rfl, rfl⟩
  rw [decide_eq_false h65]
  refine ycondF rfl ?_
  refine yskip ?_
  refine tnorm ?_
  refine yseq ?_
  refine yregion ?_
  refine yp (pI rfl) ?_
  refine yp (v := .agg #[.int .i64 (N : Int), .slice none 0 0]) rfl ?_
  refine ycons (yboxG rfl fun p55 => ?_)
  refine yp (pP rfl) ?_
  refine ynil ?_
  refine tnorm ?_
  refine yseq ?_
  refine yseq ?_
  refine yregion ?_
  refine yp pC ?_
  refine ynil ?_
  refine tnorm ?_
  refine yblock ?_
  refine yloop (σ := Nat) (fun i E S' => Has E [(1, .slice ta T.length tc), (5, .pointer (some ⟨ab, 0, none⟩)), (7, .pointer (some ⟨p55, 0, none⟩)), (8, .int .i64 (i : Int))] ∧ i ≤ T.length ∧ ∃ (D : List (Option Bt)) (H Tm : List Chunk) (S1 : Segs), Ar ab N D H ∧ Rf p55 N D S1 Tm ∧ Bag S1 S ∧ Junk S' (H :: Tm :: S1)) (fun i => T.length - i) 0
    ⟨⟨rfl, rfl, rfl, rfl, trivial⟩, Nat.zero_le _, [], H, rseg p55 (N : Int) (.slice none 0 0), S, hA, .start, .refl S, .of⟩ fun i E S' ⟨hE, hi, D, H, Tm, S1, hA, hR, hB, hJ⟩ => ?_
  have hm2 : maxLen = 9223372036854775807 := by decide
  have hD := hA.ok
  obtain ⟨E0, e0⟩ := has_puts hE; subst e0; clear hE
  refine yforget hJ ?_
  refine yseq ?_
  refine yseq ?_
  refine yregion ?_
  refine yp (pI rfl) ?_
  refine yp (pS rfl) ?_
  refine yp (pLen rfl) ?_
  refine yp (pLt rfl rfl) ?_
  refine ynil ?_
  refine tnorm ?_
  by_cases h : ¬ (i : Int) < (T.length : Int)
  · refine ycondD rfl (fun h2 => absurd h2 h) (fun _ => ?_)
    obtain ⟨kv, L, HB, hL, ht, hS, rfl⟩ := hR
    obtain ⟨hs, hu, he⟩ := told_ok ht hD
    have hlen := hs.len
    obtain ⟨la, lc, rfl⟩ := hL.isSlice
    refine yforget (Junk.re (S1 := [H, rseg p55 (N : Int) (.slice la L.length lc) ++ HB] ++ S1) (S2 := [H, rseg p55 (N : Int) (.slice la L.length lc), HB] ++ S1) (by simp)) ?_
    refine yexit ?_
    refine texit ?_
    refine texit ?_
    refine bexit ?_
    refine tnorm ?_
    refine yseq ?_
    refine yseq ?_
    refine yregion ?_
    refine yp pC ?_
    refine ynil ?_
    refine tnorm ?_
    refine yblock ?_
    refine yloop (σ := Nat) (fun j E S' => Has E [(5, .pointer (some ⟨ab, 0, none⟩)), (7, .pointer (some ⟨p55, 0, none⟩)), (18, .int .i64 (j : Int))] ∧ j ≤ L.length ∧ Junk S' (H :: rseg p55 (N : Int) (.slice la L.length lc) :: HB :: S1)) (fun j => L.length - j) 0
      ⟨⟨rfl, rfl, rfl, trivial⟩, Nat.zero_le _, .of⟩ fun j E S' ⟨hE, hj, hJ⟩ => ?_
    obtain ⟨E0, e0⟩ := has_puts hE; subst e0; clear hE
    refine yforget hJ ?_
    refine yseq ?_
    refine yseq ?_
    refine yregion ?_
    refine yp (pI rfl) ?_
    refine yp (pP rfl) ?_
    refine yp (pNilc rfl) ?_
    refine yp (pFadr rfl) ?_
    refine ycons (yload1 rfl rfl ?_)
    refine yp (pLen rfl) ?_
    refine yp (pLt rfl rfl) ?_
    refine ynil ?_
    refine tnorm ?_
    by_cases h3 : ¬ (j : Int) < (L.length : Int)
    · refine ycondD rfl (fun h2 => absurd h2 h3) (fun _ => ?_)
      refine yexit ?_
      refine texit ?_
      refine texit ?_
      refine bexit ?_
      refine tnorm ?_
      refine yseq ?_
      refine yregion ?_
      refine ycons (ycall awake6 rfl rfl fun r S' h => ?_)
      obtain ⟨rfl, rfl⟩ := h
      refine yp (pB rfl) ?_
      refine ynil ?_
      refine tnorm ?_
      refine yret ?_
      exact yfin (rB rfl) ⟨_, Junk.trans (Junk.of (S0 := S1)) hB.junk, rfl, rfl⟩
    refine ycondD rfl (fun _ => ?_) (fun h2 => absurd h2 h3)
    have hlt : j < L.length := by omega
    obtain ⟨hx1, hx2⟩ := hS _ (List.getElem_mem hlt)
    have hx4 := he _ (List.getElem_mem hlt)
    obtain ⟨k, hk1, hk2⟩ := blk_mem' D 0 (L[j].h, L[j].b) (by rw [← ht]; exact List.mem_map.2 ⟨L[j], List.getElem_mem hlt, rfl⟩)
    have hgb : getB D L[j].h = some L[j].b := by
      simp only at hk1 hk2
      rw [hk1, show (((0 : Nat) : Int) + (k : Int) + 1) = (k : Int) + 1 from by omega, getB_idx, hk2]; rfl
    obtain ⟨hr1, hr2⟩ := read_all hgb
    obtain ⟨b, sp, fz2, hz, hae, _, hce, rfl⟩ := hL.at' (by intro h; simp [h] at hlt)
    subst hae
    have hld0 : ((cells (L ++ sp)).toArray.toList)[0 + j * 2 + 0]? = some (.int .i64 L[j].h) := (row_cell (kk := 2) (j := 0) hlt rfl (by omega)).trans rfl
    have hld1 : ((cells (L ++ sp)).toArray.toList)[0 + j * 2 + 1]? = some (.slice L[j].a L[j].b.length L[j].c) := (row_cell (kk := 2) (j := 1) hlt rfl (by omega)).trans rfl
    generalize L[j] = x at hx1 hx2 hx4 hr1 hr2 hld0 hld1
    refine yskip ?_
    refine tnorm ?_
    refine yseq ?_
    refine yblock ?_
    refine yseq ?_
    refine ydraw ?_
    refine ytq (pP rfl) ?_
    refine ytq (pP rfl) ?_
    refine ytq (pNilc rfl) ?_
    refine ytq (pFadr rfl) ?_
    refine ytl1 rfl rfl ?_
    refine ytq (pI rfl) ?_
    refine ytq (pIxN rfl rfl (by omega)) ?_
    refine ytq (pFadr rfl) ?_
    refine ytl1 (v := .int .i64 x.h) rfl hld0 ?_
    refine ytq (pP rfl) ?_
    refine ytq (pNilc rfl) ?_
    refine ytq (pFadr rfl) ?_
    refine ytl1 rfl rfl ?_
    refine ytq (pI rfl) ?_
    refine ytq (pIxN rfl rfl (by omega)) ?_
    refine ytq (pFadr rfl) ?_
    refine ytl1 (v := .slice x.a x.b.length x.c) rfl hld1 ?_
    refine ytq (pLen rfl) ?_
    refine ytalt (ycall (arRead hA x.h 0 (x.b.length : Int)) rfl rfl fun r S' h => ?_) ytno
    obtain ⟨vr, Hr, rfl, hLr, rfl⟩ := h
    rw [hr1]
    rw [hr2] at hLr
    obtain ⟨ra, rc, rfl⟩ := hLr.isSlice
    refine ytq (pU rfl) ?_
    refine ytq (pExt rfl rfl) ?_
    refine ytq (pExt rfl rfl) ?_
    refine ytq (pS rfl) ?_
    refine ytq (pI rfl) ?_
    refine ytdone ?_
    refine tnorm ?_
    refine yseq ?_
    refine ydraw ?_
    refine ytq (pI rfl) ?_
    refine ytq (pNe rfl rfl) ?_
    refine ytq (pB rfl) ?_
    refine ytgT rfl ?_
    refine ytq (pS rfl) ?_
    refine ytgT rfl ?_
    refine ytq (pP rfl) ?_
    refine ytgT rfl ?_
    refine ytq (pNilc rfl) ?_
    refine ytgT rfl ?_
    refine ytq (pFadr rfl) ?_
    refine ytgT rfl ?_
    refine ytl1 rfl rfl ?_
    refine ytgT rfl ?_
    refine ytq (pI rfl) ?_
    refine ytgT rfl ?_
    refine ytq (pIxN rfl rfl (by omega)) ?_
    refine ytgT rfl ?_
    refine ytq (pFadr rfl) ?_
    refine ytgT rfl ?_
    refine ytl1 (v := .slice x.a x.b.length x.c) rfl hld1 ?_
    refine ytaltT rfl (ytaltC (yb2s rfl (hLr.src (by simp)) ⟨by simp, ?_⟩) ytno) (ytaltT rfl (ytaltC (yb2s rfl (Src.mono (show Src S1 (.slice x.a x.b.length x.c) x.b from hx1) (by intro s hs; simp [hs])) ⟨by simp, ?_⟩) ytno) ytno)
    · refine ytaltT rfl (ytalt (yb2s rfl (Src.mono (show Src S1 (.slice x.a x.b.length x.c) x.b from hx1) (by intro s hs; simp [hs])) ?_) ytno) ytno
      refine ytgT rfl ?_
      refine ytq (pNeS rfl rfl) ?_
      rw [decide_eq_true rfl]
      refine ytq (pPickF rfl rfl) ?_
      refine ytdone ?_
      refine tnorm ?_
      refine ycondF rfl ?_
      refine yskip ?_
      refine bnorm ?_
      refine tnorm ?_
      refine yregion ?_
      refine yp (pI rfl) ?_
      refine yp (pInc rfl rfl (by omega)) ?_
      refine yp (pI rfl) ?_
      refine ynil ?_
      refine tnorm ?_
      exact ⟨j + 1, ⟨⟨rfl, rfl, rfl, trivial⟩, by omega, .of⟩, by omega⟩
    · refine ytaltT rfl (ytaltC (yb2s rfl (hLr.src (by simp)) ⟨by simp, ?_⟩) ytno) ytno
      refine ytgT rfl ?_
      refine ytq (pNeS rfl rfl) ?_
      rw [decide_eq_true rfl]
      refine ytq (pPickF rfl rfl) ?_
      refine ytdone ?_
      refine tnorm ?_
      refine ycondF rfl ?_
      refine yskip ?_
      refine bnorm ?_
      refine tnorm ?_
      refine yregion ?_
      refine yp (pI rfl) ?_
      refine yp (pInc rfl rfl (by omega)) ?_
      refine yp (pI rfl) ?_
      refine ynil ?_
      refine tnorm ?_
      exact ⟨j + 1, ⟨⟨rfl, rfl, rfl, trivial⟩, by omega, .of⟩, by omega⟩
  refine ycondD rfl (fun _ => ?_) (fun h2 => absurd h2 h)
  have hlt : i < T.length := by omega
  obtain ⟨b, o, ca, ty, fz, rfl, hm', hmem, _, hg⟩ := hT.get (by intro h; simp [h] at hlt)
  have hge := hg i hlt
  obtain ⟨hqs, hql⟩ := hq _ (List.getElem_mem hlt)
  generalize T[i] = e at hge hqs hql
  have hqs1 : Src S1 e.v e.b := hqs.mono hB.mem
  refine yskip ?_
  refine tnorm ?_
  refine yseq ?_
  refine yblock ?_
  refine yseq ?_
  refine yregion ?_
  refine yp (pS rfl) ?_
  refine yp (pI rfl) ?_
  refine yp (pIxN rfl rfl (by omega)) ?_
  refine ycons (yloadNM (S := H :: Tm :: S1) (l := enc e) (List.mem_cons_of_mem _ (List.mem_cons_of_mem _ (hB.mem _ hmem))) rfl hge rfl ?_)
  refine ycons (yalloc fun p9 => ?_)
  refine ycons (ystAll (c' := enc e) rfl rfl rfl rfl rfl ?_)
  refine ynil ?_
  refine tnorm ?_
  refine ycut (fun E S' => Has E [(1, .slice (some ⟨b, o, none⟩) T.length tc), (5, .pointer (some ⟨ab, 0, none⟩)), (7, .pointer (some ⟨p55, 0, none⟩)), (8, .int .i64 (i : Int))] ∧ ∃ (D : List (Option Bt)) (H Tm : List Chunk) (S1 : Segs), Ar ab N D H ∧ Rf p55 N D S1 Tm ∧ Bag S1 S ∧ Junk S' (H :: Tm :: S1)) ?_ fun E S' ⟨hE, D, H, Tm, S1, hA, hR, hB, hJ⟩ => ?_
  · refine yseq ?_
    refine yregion ?_
    refine yp (pFadr rfl) ?_
    refine ycons (yload1 rfl rfl ?_)
    refine ynil ?_
    refine tnorm ?_
    refine yblock ?_
    refine yseq ?_
    refine yregion ?_
    refine yp (pEq rfl rfl) ?_
    refine yp (pB rfl) ?_
    refine ynil ?_
    refine tnorm ?_
    by_cases k1 : e.kind = 1
    · rw [decide_eq_true k1]
      refine ycondT rfl ?_
      refine yseq ?_
      refine yregion ?_
      refine yp (pP rfl) ?_
      refine yp (pFadr rfl) ?_
      refine ycons (yload1 rfl rfl ?_)
      refine ycons (ycall (arAlloc hA e.n) rfl rfl fun r S' h => ?_)
      rcases h with ⟨he, rfl, rfl⟩ | ⟨he, n', H2, hn', rfl, hA2, rfl⟩
      · refine yp (pU rfl) ?_
        refine yp (pExt rfl rfl) ?_
        refine yp (pExt rfl rfl) ?_
        refine yp (pI rfl) ?_
        refine yp (pI rfl) ?_
        refine ynil ?_
        refine tnorm ?_
        refine yseq ?_
        refine yregion ?_
        refine yp (pP rfl) ?_
        refine yp (pFadr rfl) ?_
        refine ycons (yload1 rfl rfl ?_)
        refine ycons (ycall (rdAlloc hR hD e.n) rfl rfl fun r S' h => ?_)
        rcases h with ⟨_, rfl, rfl⟩ | ⟨he2, _⟩
        · refine yp (pU rfl) ?_
          refine yp (pExt rfl rfl) ?_
          refine yp (pExt rfl rfl) ?_
          refine yp (pI rfl) ?_
          refine yp (pI rfl) ?_
          refine ynil ?_
          refine tnorm ?_
          refine yseq ?_
          refine yregion ?_
          refine yp (pI rfl) ?_
          refine yp (pI rfl) ?_
          refine yp (pNe rfl rfl) ?_
          refine yp (pB rfl) ?_
          refine ygT rfl ?_
          refine yop (pI rfl) ?_
          refine ygT rfl ?_
          refine yop (pI rfl) ?_
          refine ygT rfl ?_
          refine yop (pNe rfl rfl) ?_
          refine yp (pPickF rfl rfl) ?_
          refine ynil ?_
          refine tnorm ?_
          rw [decide_eq_true rfl]
          refine ycondF rfl ?_
          refine yskip ?_
          refine bnorm ?_
          refine tnorm ?_
          exact ⟨⟨rfl, rfl, rfl, rfl, trivial⟩, D, H, Tm, S1, hA, hR, hB, .of⟩
        · exact absurd he2 he
      · refine yp (pU rfl) ?_
        refine yp (pExt rfl rfl) ?_
        refine yp (pExt rfl rfl) ?_
        refine yp (pI rfl) ?_
        refine yp (pI rfl) ?_
        refine ynil ?_
        refine tnorm ?_
        refine yseq ?_
        refine yregion ?_
        refine yp (pP rfl) ?_
        refine yp (pFadr rfl) ?_
        refine ycons (yload1 rfl rfl ?_)
        refine ycons (ycall (rdAlloc hR hD e.n) rfl rfl fun r S' h => ?_)
        rcases h with ⟨he2, _⟩ | ⟨_, m, Tm2, x, hn2, rfl, hR2, rfl⟩
        · exact absurd he he2
        · obtain rfl : n' = m := by omega
          refine yp (pU rfl) ?_
          refine yp (pExt rfl rfl) ?_
          refine yp (pExt rfl rfl) ?_
          refine yp (pI rfl) ?_
          refine yp (pI rfl) ?_
          refine ynil ?_
          refine tnorm ?_
          refine yseq ?_
          refine yregion ?_
          refine yp (pI rfl) ?_
          refine yp (pI rfl) ?_
          refine yp (pNe rfl rfl) ?_
          refine yp (pB rfl) ?_
          rw [decide_eq_true rfl]
          refine ygT rfl ?_
          refine yop (pI rfl) ?_
          refine ygT rfl ?_
          refine yop (pI rfl) ?_
          refine ygT rfl ?_
          refine yop (pNe rfl rfl) ?_
          refine yp (pPickF rfl rfl) ?_
          refine ynil ?_
          refine tnorm ?_
          refine ycondF rfl ?_
          refine yskip ?_
          refine bnorm ?_
          refine tnorm ?_
          exact ⟨⟨rfl, rfl, rfl, rfl, trivial⟩, _, H2, Tm2, x :: S1, hA2, hR2, hB.cons x, .of⟩
    rw [decide_eq_false k1]
    refine ycondF rfl ?_
    refine yseq ?_
    refine yregion ?_
    refine yp (pEq rfl rfl) ?_
    refine yp (pB rfl) ?_
    refine ynil ?_
    refine tnorm ?_
    by_cases k2 : e.kind = 2
    · rw [decide_eq_true k2]
      refine ycondT rfl ?_
      refine yseq ?_
      refine ydrawR (R := [[(p9, .cells (enc e).toArray 43)]]) (by simp) ?_
      refine ytq (pP rfl) ?_
      refine ytq (pFadr rfl) ?_
      refine ytl1 rfl rfl ?_
      refine ytq (pP rfl) ?_
      refine ytq (pFadr rfl) ?_
      refine ytl1 rfl rfl ?_
      refine ytaltC (ycall (arFree hA e.h) rfl rfl fun r S' h => ?_) ytno
      obtain ⟨rfl, H2, hA2, rfl⟩ := h
      refine ⟨by simp, ?_⟩
      skip
      refine ytalt (ycall (rdFree hR hD e.h) rfl rfl fun r S' h => ?_) ytno
      obtain ⟨rfl, Tm2, hR2, rfl⟩ := h
      refine ytq (pNe rfl rfl) ?_
      refine ytdone ?_
      refine tnorm ?_
      rw [decide_eq_true rfl]
      refine ycondF rfl ?_
      refine yskip ?_
      refine bnorm ?_
      refine tnorm ?_
      exact ⟨⟨rfl, rfl, rfl, rfl, trivial⟩, _, H2, Tm2, S1, hA2, hR2, hB, .of⟩
    rw [decide_eq_false k2]
    refine ycondF rfl ?_
    refine yseq ?_
    refine yregion ?_
    refine yp (pEq rfl rfl) ?_
    refine yp (pB rfl) ?_
    refine ynil ?_
    refine tnorm ?_
    by_cases k3 : e.kind = 3
    · rw [decide_eq_true k3]
      refine ycondT rfl ?_
      refine yseq ?_
      refine yregion ?_
      refine yp (pP rfl) ?_
      refine yp (pFadr rfl) ?_
      refine ycons (yload1 rfl rfl ?_)
      refine yp (pFadr rfl) ?_
      refine ycons (yload1 rfl rfl ?_)
      refine yp (pFadr rfl) ?_
      refine ycons (yload1 rfl rfl ?_)
      refine ycons (ycall (arRead hA e.h e.at_ e.n) rfl rfl fun r S' h => ?_)
      obtain ⟨v1, H1, rfl, hL1, rfl⟩ := h
      obtain ⟨a1, c1, rfl⟩ := hL1.isSlice
      refine yp (pU rfl) ?_
      refine yp (pExt rfl rfl) ?_
      refine yp (pExt rfl rfl) ?_
      refine yp (pS rfl) ?_
      refine yp (pI rfl) ?_
      refine ynil ?_
      refine tnorm ?_
      refine yseq ?_
      refine yregion ?_
      refine yp (pP rfl) ?_
      refine yp (pFadr rfl) ?_
      refine ycons (yload1 rfl rfl ?_)
      refine yp (pFadr rfl) ?_
      refine ycons (yload1 rfl rfl ?_)
      refine yp (pFadr rfl) ?_
      refine ycons (yload1 rfl rfl ?_)
      refine ycons (ycall (rdRead hR hD e.h e.at_ e.n) rfl rfl fun r S' h => ?_)
      obtain ⟨v2, H2, rfl, hL2, rfl⟩ := h
      obtain ⟨a2, c2, rfl⟩ := hL2.isSlice
      refine yp (pU rfl) ?_
      refine yp (pExt rfl rfl) ?_
      refine yp (pExt rfl rfl) ?_
      refine yp (pS rfl) ?_
      refine yp (pI rfl) ?_
      refine ynil ?_
      refine tnorm ?_
      refine yseq ?_
      refine yregion ?_
      refine yp (pS rfl) ?_
      refine ycons (yb2s rfl (hL1.src (by simp)) ?_)
      refine yp (pS rfl) ?_
      refine ycons (yb2s rfl (hL2.src (by simp)) ?_)
      refine yp (pNeS rfl rfl) ?_
      refine yp (pB rfl) ?_
      rw [decide_eq_true rfl]
      refine ygT rfl ?_
      refine yop (pI rfl) ?_
      refine ygT rfl ?_
      refine yop (pI rfl) ?_
      refine ygT rfl ?_
      refine yop (pNe rfl rfl) ?_
      refine yp (pPickF rfl rfl) ?_
      refine ynil ?_
      refine tnorm ?_
      rw [decide_eq_true rfl]
      refine ycondF rfl ?_
      refine yskip ?_
      refine bnorm ?_
      refine tnorm ?_
      exact ⟨⟨rfl, rfl, rfl, rfl, trivial⟩, D, H, Tm, S1, hA, hR, hB, .of⟩
    rw [decide_eq_false k3]
    refine ycondF rfl ?_
    refine yseq ?_
    refine yregion ?_
    refine yp (pEq rfl rfl) ?_
    refine yp (pB rfl) ?_
    refine ynil ?_
    refine tnorm ?_
    by_cases k4 : e.kind = 4
    · rw [decide_eq_true k4]
      refine ycondT rfl ?_
      refine yseq ?_
      refine ydrawR (R := [[(p9, .cells (enc e).toArray 43)]]) (by simp) ?_
      refine ytq (pP rfl) ?_
      refine ytq (pFadr rfl) ?_
      refine ytl1 rfl rfl ?_
      refine ytq (pFadr rfl) ?_
      refine ytl1 rfl rfl ?_
      refine ytq (pFadr rfl) ?_
      refine ytl1 rfl rfl ?_
      refine ytq (pP rfl) ?_
      refine ytq (pFadr rfl) ?_
      refine ytl1 rfl rfl ?_
      refine ytq (pFadr rfl) ?_
      refine ytl1 rfl rfl ?_
      refine ytq (pFadr rfl) ?_
      refine ytl1 rfl rfl ?_
      refine ytaltC (ycall (arWrite (S0 := S1) hA e.h e.at_ (Y := e.b) hqs1 hql) rfl rfl fun r S' h => ?_) ytno
      obtain ⟨rfl, H2, hA2, rfl⟩ := h
      refine ⟨by simp, ?_⟩
      skip
      refine ytalt (ycall (rdWrite hR hD e.h e.at_ (Y := e.b) hqs1 hql) rfl rfl fun r S' h => ?_) ytno
      obtain ⟨rfl, x, Tm2, hR2, rfl⟩ := h
      refine ytq (pNe rfl rfl) ?_
      refine ytdone ?_
      refine tnorm ?_
      rw [decide_eq_true rfl]
      refine ycondF rfl ?_
      refine yskip ?_
      refine bnorm ?_
      refine tnorm ?_
      exact ⟨⟨rfl, rfl, rfl, rfl, trivial⟩, _, H2, Tm2, x :: S1, hA2, hR2, hB.cons x, .of⟩
    rw [decide_eq_false k4]
    refine ycondF rfl ?_
    refine yseq ?_
    refine yregion ?_
    refine yp (pEq rfl rfl) ?_
    refine yp (pB rfl) ?_
    refine ynil ?_
    refine tnorm ?_
    by_cases k5 : e.kind = 5
    · rw [decide_eq_true k5]
      refine ycondT rfl ?_
      refine yseq ?_
      refine yregion ?_
      refine yp (pP rfl) ?_
      refine ycons (ycall (arCompact hA) rfl rfl fun r S' h => ?_)
      obtain ⟨rfl, H2, hA2, rfl⟩ := h
      refine yp (pP rfl) ?_
      refine ycons (ycall (rdLeft hR hD) rfl rfl fun r S' h => ?_)
      obtain ⟨rfl, rfl⟩ := h
      refine yp (pNe rfl rfl) ?_
      refine ynil ?_
      refine tnorm ?_
      rw [decide_eq_true rfl]
      refine ycondF rfl ?_
      refine yskip ?_
      refine bnorm ?_
      refine tnorm ?_
      exact ⟨⟨rfl, rfl, rfl, rfl, trivial⟩, D, H2, Tm, S1, hA2, hR, hB, .of⟩
    rw [decide_eq_false k5]
    refine ycondF rfl ?_
    refine yskip ?_
    refine bnorm ?_
    refine tnorm ?_
    exact ⟨⟨rfl, rfl, rfl, rfl, trivial⟩, D, H, Tm, S1, hA, hR, hB, .of⟩
  obtain ⟨E0, e0⟩ := has_puts hE; subst e0; clear hE
  refine yforget hJ ?_
  refine yseq ?_
  refine yregion ?_
  refine yp (pP rfl) ?_
  refine yp (pP rfl) ?_
  refine ycons (ycall (showsD hA hR) rfl rfl fun r S' h => ?_)
  obtain ⟨rfl, rfl⟩ := h
  refine yp (pNot rfl) ?_
  refine ynil ?_
  refine tnorm ?_
  refine ycondF rfl ?_
  refine yskip ?_
  refine bnorm ?_
  refine tnorm ?_
  refine yregion ?_
  refine yp (pI rfl) ?_
  refine yp (pInc rfl rfl (by omega)) ?_
  refine yp (pI rfl) ?_
  refine ynil ?_
  refine tnorm ?_
  exact ⟨i + 1, ⟨⟨rfl, rfl, rfl, rfl, trivial⟩, by omega, D, H, Tm, S1, hA, hR, hB, .of⟩, by omega⟩
end Go.Proofs.Ytkdbajfaaifkaaa
