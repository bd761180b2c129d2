/- ArenaActs: does an arena show what it should? -/
import Derived.Test.YtkdbajfaaifkaaaRefB
import Derived.Test.YtkdbajfaaifkaaaArenaL
namespace Go.Proofs.Ytkdbajfaaifkaaa
open Go.Xs
open Enc (enc)

set_option maxRecDepth 10000 in
set_option maxHeartbeats 1000000 in
theorem showsRaw {ab rb N : Nat} {D : List (Option Bt)} {H : List Chunk} (hA : Ar ab N D H) {kv : Value} {L : List RB} {HB : List Chunk} (hL : Slc 53 kv L HB) (ht : told L = blk 0 D) :
    Tri Try.prog 28 #[.pointer (some ⟨ab, 0, none⟩), .pointer (some ⟨rb, 0, none⟩)] [H, rseg rb N kv, HB] (fun r S => r = .bool true ∧ S = [H, rseg rb N kv, HB]) := by
  have hD := hA.ok
  obtain ⟨hs, hu, he⟩ := told_ok ht hD
  have hlen := hs.len
  have hused := hD.used
  have hbig := hD.big
  refine Tri.forget (ycallee Try.fx28 (Nat.le_of_ble_eq_true rfl) ?_)
  unfold Try.x28
  obtain ⟨a, c, rfl⟩ := hL.isSlice
  refine yseq ?_
  refine yregion ?_
  refine ycons (ybx (scP rfl) fun p3 => ?_)
  refine ycons (yalloc fun p4 => ?_)
  refine ynil ?_
  refine tnorm ?_
  refine yseq ?_
  refine yseq ?_
  refine ydraw ?_
  refine ytq (pP rfl) ?_
  refine ytq (pNilP rfl rfl) ?_
  refine ytq (pB rfl) ?_
  refine ytgT rfl ?_
  refine ytq (pP rfl) ?_
  refine ytgT rfl ?_
  refine ytl1 rfl rfl ?_
  refine ytaltT rfl ?_ ytno
  refine ytaltC (ycall (arUsedA hA) rfl rfl fun r S' h => ?_) ytno
  obtain ⟨rfl, rfl⟩ := h
  refine ⟨by simp, ?_⟩
  refine ytaltT rfl ?_ ytno
  refine ytaltC (ycall (rfUsed (rb := rb) hL hs) rfl rfl fun r S' h => ?_) ytno
  obtain ⟨rfl, rfl⟩ := h
  refine ⟨by simp, ?_⟩
  refine ytgT rfl ?_
  refine ytq (pNe rfl rfl) ?_
  refine ytq (pPickF rfl rfl) ?_
  refine ytq (pB rfl) ?_
  rw [decide_eq_true (show ((usedD D : Nat) : Int) = ((usedR L : Nat) : Int) from by omega)]
  refine ytgT rfl ?_
  refine ytq (pP rfl) ?_
  refine ytgT rfl ?_
  refine ytl1 rfl rfl ?_
  refine ytaltT rfl ?_ ytno
  refine ytaltC (ycall (arLeftA hA) rfl rfl fun r S' h => ?_) ytno
  obtain ⟨rfl, rfl⟩ := h
  refine ⟨by simp, ?_⟩
  refine ytaltT rfl ?_ ytno
  refine ytaltC (ycall (rfLeft (rb := rb) hL hs) rfl rfl fun r S' h => ?_) ytno
  obtain ⟨rfl, rfl⟩ := h
  refine ⟨by simp, ?_⟩
  refine ytgT rfl ?_
  refine ytq (pNe rfl rfl) ?_
  refine ytq (pPickF rfl rfl) ?_
  refine ytq (pB rfl) ?_
  rw [decide_eq_true (show ((N - usedD D : Nat) : Int) = ((N - usedR L : Nat) : Int) from by omega)]
  refine ytgT rfl ?_
  refine ytq (pP rfl) ?_
  refine ytgT rfl ?_
  refine ytl1 rfl rfl ?_
  refine ytgT rfl ?_
  refine ytq (pNilc rfl) ?_
  refine ytgT rfl ?_
  refine ytq (pFadr rfl) ?_
  refine ytgT rfl ?_
  refine ytl1 rfl rfl ?_
  refine ytaltT rfl ?_ ytno
  refine ytaltC (ycall (arBudgetA hA) rfl rfl fun r S' h => ?_) ytno
  obtain ⟨rfl, rfl⟩ := h
  refine ⟨by simp, ?_⟩
  refine ytgT rfl ?_
  refine ytq (pNe rfl rfl) ?_
  refine ytq (pPickF rfl rfl) ?_
  refine ytdone ?_
  refine tnorm ?_
  rw [decide_eq_true rfl]
  refine ycondF rfl ?_
  refine yskip ?_
  refine tnorm ?_
  refine yseq ?_
  refine yregion ?_
  refine yp (pP rfl) ?_
  refine ycons (ycall arHandles rfl rfl fun r S' h => ?_)
  obtain ⟨bx, rfl, rfl⟩ := h
  refine yp (pF rfl) ?_
  refine ynil ?_
  refine tnorm ?_
  refine yseq ?_
  refine yseq ?_
  refine yregion ?_
  refine yp (pF rfl) ?_
  refine yp (v := .bool false) rfl ?_
  refine ynil ?_
  refine tnorm ?_
  refine ycondF rfl ?_
  refine yskip ?_
  refine tnorm ?_
  refine yseq ?_
  refine yregion ?_
  refine ycons (yalloc fun p6 => ?_)
  refine ycons (yst1_0 rfl rfl (scI rfl) ?_)
  refine ynil ?_
  refine tnorm ?_
  refine yseq ?_
  refine yseq ?_
  refine yregion ?_
  refine yp (pF rfl) ?_
  refine ynil ?_
  refine tnorm ?_
  refine yblock ?_
  have hll : L.length = (blk 0 D).length := by rw [← ht]; simp [told]
  have hget : ∀ (q : Nat) (hq : q < L.length), (blk 0 D)[q]? = some (L[q].h, L[q].b) := fun q hq => by rw [← ht]; unfold told; rw [List.getElem?_map, List.getElem?_eq_getElem hq]; rfl
  refine yrange (fun pre S => pre <+: (hlist 0 D).map hv ∧ Junk S [H, [(p6, .cells #[.int .i64 (pre.length : Nat)] 3)], [(p4, .cells #[.bool false] 4)], [(p3, .cells #[.pointer (some ⟨rb, 0, none⟩)] 38)], rseg rb (N : Int) (.slice a L.length c), HB])
    (fun e pre S => False) rfl rfl (itHandles (bx := bx) (S0 := [[(p6, .cells #[.int .i64 0] 3)], [(p4, .cells #[.bool false] 4)], [(p3, .cells #[.pointer (some ⟨rb, 0, none⟩)] 38)], rseg rb (N : Int) (.slice a L.length c), HB]) hA) ⟨List.nil_prefix, .of⟩ ?_ ?_ ?_ ?_
  · intro pre x hx
    have : x ∈ (hlist 0 D).map hv := hx.subset (by simp)
    obtain ⟨e, _, rfl⟩ := List.mem_map.1 this
    rfl
  · rintro l pre x S hx ⟨_, hJ⟩
    have hxl : ((hlist 0 D).map hv)[pre.length]? = some x := by
      obtain ⟨t, ht2⟩ := hx
      rw [← ht2, List.append_assoc, List.getElem?_append_right (Nat.le_refl _), Nat.sub_self]; rfl
    have hpl := hx.length_le
    rw [blk_hlist] at hxl
    simp only [List.length_append, List.length_map, List.length_singleton] at hpl
    rw [blk_hlist, List.length_map] at hpl
    have hplL : pre.length < L.length := by omega
    rw [List.getElem?_map, List.getElem?_map, hget _ hplL] at hxl
    obtain rfl := (Option.some.inj hxl).symm
    obtain ⟨b, sp, fz2, hz, rfl, _, rfl, rfl⟩ := hL.at' (by intro h; simp [h] at hplL)
    have hld0 : ((cells (L ++ sp)).toArray.toList)[0 + pre.length * 2 + 0]? = some (.int .i64 L[pre.length].h) := (row_cell (kk := 2) (j := 0) hplL rfl (by omega)).trans rfl
    have hld1 : ((cells (L ++ sp)).toArray.toList)[0 + pre.length * 2 + 1]? = some (.slice L[pre.length].a L[pre.length].b.length L[pre.length].c) := (row_cell (kk := 2) (j := 1) hplL rfl (by omega)).trans rfl
    generalize L[pre.length] = x at hld0 hld1 hx
    generalize hq : pre.length = q at hld0 hld1 hplL
    rw [hq] at hJ
    refine yforget hJ ?_
    refine yseq ?_
    refine yregion ?_
    refine yp (pI rfl) ?_
    refine ynil ?_
    refine tnorm ?_
    refine yregion ?_
    refine yp (pI rfl) ?_
    refine ynil ?_
    refine tnorm ?_
    refine yblock ?_
    refine yseq ?_
    refine yseq ?_
    refine ydraw ?_
    refine ytl1 rfl rfl ?_
    refine ytl1 rfl rfl ?_
    refine ytq (pNilc rfl) ?_
    refine ytq (pFadr rfl) ?_
    refine ytl1 rfl rfl ?_
    refine ytq (pLen rfl) ?_
    refine ytq (pGe rfl rfl) ?_
    refine ytq (pB rfl) ?_
    rw [decide_eq_false (show ¬ (L.length : Int) ≤ (q : Int) from by omega)]
    refine ytgT rfl ?_
    refine ytq (pI rfl) ?_
    refine ytgT rfl ?_
    refine ytl1 rfl rfl ?_
    refine ytgT rfl ?_
    refine ytq (pNilc rfl) ?_
    refine ytgT rfl ?_
    refine ytq (pFadr rfl) ?_
    refine ytgT rfl ?_
    refine ytl1 rfl rfl ?_
    refine ytgT rfl ?_
    refine ytl1 rfl rfl ?_
    refine ytgT rfl ?_
    refine ytq (pIxN rfl rfl (by omega)) ?_
    refine ytgT rfl ?_
    refine ytq (pFadr rfl) ?_
    refine ytgT rfl ?_
    refine ytl1 (v := .int .i64 x.h) rfl hld0 ?_
    refine ytgT rfl ?_
    refine ytq (pNe rfl rfl) ?_
    refine ytq (pPickF rfl rfl) ?_
    refine ytq (pB rfl) ?_
    rw [decide_eq_true rfl]
    refine ytgT rfl ?_
    refine ytq (pI rfl) ?_
    refine ytgT rfl ?_
    refine ytl1 rfl rfl ?_
    refine ytgT rfl ?_
    refine ytq (pNilc rfl) ?_
    refine ytgT rfl ?_
    refine ytq (pFadr rfl) ?_
    refine ytgT rfl ?_
    refine ytl1 rfl rfl ?_
    refine ytgT rfl ?_
    refine ytl1 rfl rfl ?_
    refine ytgT rfl ?_
    refine ytq (pIxN rfl rfl (by omega)) ?_
    refine ytgT rfl ?_
    refine ytq (pFadr rfl) ?_
    refine ytgT rfl ?_
    refine ytl1 (v := .slice x.a x.b.length x.c) rfl hld1 ?_
    refine ytgT rfl ?_
    refine ytq (pLen rfl) ?_
    refine ytgT rfl ?_
    refine ytq (pNe rfl rfl) ?_
    refine ytq (pPickF rfl rfl) ?_
    refine ytdone ?_
    refine tnorm ?_
    rw [decide_eq_true rfl]
    refine ycondF rfl ?_
    refine yskip ?_
    refine tnorm ?_
    refine yregion ?_
    refine ycons (yload1 rfl rfl ?_)
    refine yp (pInc rfl rfl (by omega)) ?_
    refine ycons (yst1_0 rfl rfl (scI rfl) ?_)
    refine ynil ?_
    refine bnorm ?_
    exact ⟨hx, by simp only [List.length_append, List.length_singleton, hq]; exact .of⟩
  · rintro xs S' hd ⟨_, hJ⟩
    have hxl : xs.length = L.length := by rw [hd, List.length_map, blk_hlist, List.length_map, hll]
    rw [hxl] at hJ
    refine bnorm (tnorm ?_)
    refine yforget hJ ?_
    refine yseq ?_
    refine ydraw ?_
    refine ytl1 rfl rfl ?_
    refine ytl1 rfl rfl ?_
    refine ytq (pNilc rfl) ?_
    refine ytq (pFadr rfl) ?_
    refine ytl1 rfl rfl ?_
    refine ytq (pLen rfl) ?_
    refine ytq (pEq rfl rfl) ?_
    rw [decide_eq_true rfl]
    refine ytalt (yst1_0 rfl rfl (scB rfl) ?_) ytno
    refine ytdone ?_
    refine tnorm ?_
    refine yret ?_
    exact yfin (resL1 (rvC (b := p4) (by kernel_rfl) rfl)) ⟨_, .of, rfl, rfl⟩
  · rintro e pre S' _ h
    exact h.elim
end Go.Proofs.Ytkdbajfaaifkaaa
