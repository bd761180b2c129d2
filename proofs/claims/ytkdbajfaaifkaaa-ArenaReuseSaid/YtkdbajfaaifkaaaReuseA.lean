/- ArenaReuse: what it computes. -/
import Derived.Test.YtkdbajfaaifkaaaArenaM
import Derived.Test.YtkdbajfaaifkaaaAlk
namespace Go.Proofs.Ytkdbajfaaifkaaa
open Go.Xs
open Enc (enc)

def zeds (n : Nat) : Bt := List.replicate n 122
theorem costN_249 {n : Nat} (h : n < 249) : costN n ≤ 512 := by
  unfold costN
  repeat' split
  all_goals omega
theorem costN_248 {n : Nat} (h : n < 249) : costN n ≤ 256 := by
  unfold costN
  repeat' split
  all_goals omega
/-- all blocks are told of in hs -/
def Told (D : List (Option Bt)) (hs : List Int) : Prop := ∀ (j : Nat) (b : Bt), D[j]? = some (some b) → ((j : Int) + 1) ∈ hs
theorem Told.alloc {D : List (Option Bt)} {hs : List Int} {m : Nat} (h : Told D hs) : Told (allocD D m) (hs ++ [((hnd D : Nat) : Int)]) := by
  intro j b hj
  rcases alloc_get hj with ⟨h1, _⟩ | ⟨_, h1⟩
  · simp; right; omega
  · exact List.mem_append.2 (.inl (h j b h1))
theorem Told.set {D : List (Option Bt)} {hs : List Int} {h : Int} {b Y : Bt} (ht : Told D hs) (hg : getB D h = some b) : Told (D.set (h - 1).toNat (some Y)) hs := by
  intro j c hj
  obtain ⟨i, rfl, hi⟩ := getB_get hg
  rw [show ((i : Int) + 1 - 1).toNat = i from by omega] at hj
  rcases set_get' hj with ⟨rfl, _⟩ | ⟨_, h1⟩
  · exact ht _ b hi
  · exact ht j c h1
theorem Told.free {D : List (Option Bt)} {hs : List Int} {h : Int} (ht : Told D hs) : Told (freeD D h) hs := fun j b hj => ht j b (free_get hj).1
theorem Told.drop {D : List (Option Bt)} {hs : List Int} {h : Int} (ht : Told D (h :: hs)) : Told (freeD D h) hs := fun j b hj => by
  obtain ⟨h1, h2⟩ := free_get hj
  rcases List.mem_cons.1 (ht j b h1) with h3 | h3
  · exact absurd h3 h2
  · exact h3
set_option maxRecDepth 10000 in
set_option maxHeartbeats 1000000 in
theorem c8 {S : Segs} {v : Value} (times : Int) {G : List Int} (hG : Src S v G) (_hm : G.length ≤ maxLen) (_hq : ∀ a ∈ G, -9223372036854775808 ≤ a ∧ a ≤ 9223372036854775807) : Tri Try.prog 8 #[v, .int .i64 times] S (fun r S' => r = .bool true ∧ S' = S) := by
  refine Tri.forget (ycallee Try.fx8 (Nat.le_of_ble_eq_true rfl) ?_)
  unfold Try.x8
  obtain ⟨ga, gc, rfl⟩ := hG.isSlice
  refine yseq ?_
  refine yregion ?_
  refine yp pC ?_
  refine ynil ?_
  refine tnorm ?_
  refine ycutQ (fun E S' => Has E [(0, .slice ga G.length gc), (1, .int .i64 times)] ∧ (1 ≤ times ∧ times ≤ 10 ∧ G.length ≤ 12) ∧ Junk S' S) ?_ fun E S' ⟨hE, hn, hJ⟩ => ?_
  · refine yseq ?_
    refine yregion ?_
    refine yp (pS rfl) ?_
    refine yp (pLen rfl) ?_
    refine yp (pGt rfl rfl) ?_
    refine yp (pB rfl) ?_
    by_cases c1 : (12 : Int) < (G.length : Int)
    · rw [decide_eq_true c1]
      refine ygF rfl ?_
      refine ygF rfl ?_
      refine yp (pPickT rfl rfl) ?_
      refine yp (pB rfl) ?_
      refine ygF rfl ?_
      refine ygF rfl ?_
      refine yp (pPickT rfl rfl) ?_
      refine ynil ?_
      refine tnorm ?_
      refine ycondT rfl ?_
      refine yseq ?_
      refine yregion ?_
      refine ycons (ycall awake6 rfl rfl fun r S' h => ?_)
      obtain ⟨rfl, rfl⟩ := h
      refine yp (pB rfl) ?_
      refine ynil ?_
      refine tnorm ?_
      refine yret ?_
      refine tret ?_
      exact yfin (rB rfl) ⟨_, .of, rfl, rfl⟩
    rw [decide_eq_false c1]
    refine ygT rfl ?_
    refine yop (pI rfl) ?_
    refine ygT rfl ?_
    refine yop (pLt rfl rfl) ?_
    refine yp (pPickF rfl rfl) ?_
    refine yp (pB rfl) ?_
    by_cases c2 : times < 1
    · rw [decide_eq_true c2]
      refine ygF rfl ?_
      refine ygF rfl ?_
      refine yp (pPickT rfl rfl) ?_
      refine ynil ?_
      refine tnorm ?_
      refine ycondT rfl ?_
      refine yseq ?_
      refine yregion ?_
      refine ycons (ycall awake6 rfl rfl fun r S' h => ?_)
      obtain ⟨rfl, rfl⟩ := h
      refine yp (pB rfl) ?_
      refine ynil ?_
      refine tnorm ?_
      refine yret ?_
      refine tret ?_
      exact yfin (rB rfl) ⟨_, .of, rfl, rfl⟩
    rw [decide_eq_false c2]
    refine ygT rfl ?_
    refine yop (pI rfl) ?_
    refine ygT rfl ?_
    refine yop (pGt rfl rfl) ?_
    refine yp (pPickF rfl rfl) ?_
    refine ynil ?_
    refine tnorm ?_
    by_cases c3 : 10 < times
    · rw [decide_eq_true c3]
      refine ycondT rfl ?_
      refine yseq ?_
      refine yregion ?_
      refine ycons (ycall awake6 rfl rfl fun r S' h => ?_)
      obtain ⟨rfl, rfl⟩ := h
      refine yp (pB rfl) ?_
      refine ynil ?_
      refine tnorm ?_
      refine yret ?_
      refine tret ?_
      exact yfin (rB rfl) ⟨_, .of, rfl, rfl⟩
    rw [decide_eq_false c3]
    refine ycondF rfl ?_
    refine yskip ?_
    refine tnorm ?_
    exact ⟨⟨rfl, rfl, trivial⟩, by omega, .of⟩
  obtain ⟨m, rfl⟩ := Int.eq_ofNat_of_zero_le (show 0 ≤ times from by omega)
  have hm2 : m ≤ 10 := by omega
  have hG12 := hn.2.2
  clear hn
  obtain ⟨E0, e0⟩ := has_puts hE; subst e0; clear hE
  refine yforget hJ ?_
  refine yseq ?_
  refine yregion ?_
  refine ycons (ycall (arNewA (n := 4096) (by decide) rfl) rfl rfl fun r S' h => ?_)
  obtain ⟨ab, H, rfl, hA, rfl⟩ := h
  refine yp (pU rfl) ?_
  refine yp (pExt rfl rfl) ?_
  refine yp (pExt rfl rfl) ?_
  refine yp (pP rfl) ?_
  refine yp (pI rfl) ?_
  refine ynil ?_
  refine tnorm ?_
  refine yseq ?_
  refine yseq ?_
  refine yregion ?_
  refine yp (pI rfl) ?_
  refine yp (pNe rfl rfl) ?_
  refine yp (pB rfl) ?_
  refine ygT rfl ?_
  refine yop (pP rfl) ?_
  refine ygT rfl ?_
  refine yop (pNilP rfl rfl) ?_
  refine yp (pPickF rfl rfl) ?_
  refine ynil ?_
  refine tnorm ?_
  refine ycondF rfl ?_
  refine yskip ?_
  refine tnorm ?_
  refine yseq ?_
  refine yseq ?_
  refine yregion ?_
  refine yp pC ?_
  refine ynil ?_
  refine tnorm ?_
  refine yblock ?_
  refine yloop (σ := Nat) (fun t E S' => Has E [(0, .slice ga G.length gc), (1, .int .i64 (m : Int)), (5, .pointer (some ⟨ab, 0, none⟩)), (7, .int .i64 (t : Int))] ∧ t ≤ m ∧ ∃ (D : List (Option Bt)) (H : List Chunk), Ar ab 4096 D H ∧ Told D [] ∧ Junk S' (H :: S)) (fun t => m - t) 0
    ⟨⟨rfl, rfl, rfl, rfl, trivial⟩, Nat.zero_le _, [], H, hA, fun j b hj => by simp at hj, .of⟩ fun t E S' ⟨hE, ht, D, H, hA, hT, hJ⟩ => ?_
  obtain ⟨E0, e0⟩ := has_puts hE; subst e0; clear hE
  refine yforget hJ ?_
  refine yseq ?_
  refine yseq ?_
  refine yregion ?_
  refine yp (pI rfl) ?_
  refine yp (pI rfl) ?_
  refine yp (pLt rfl rfl) ?_
  refine ynil ?_
  refine tnorm ?_
  by_cases h : ¬ (t : Int) < (m : Int)
  · refine ycondD rfl (fun h2 => absurd h2 h) (fun _ => ?_)
    refine yexit ?_
    refine texit ?_
    refine texit ?_
    refine bexit ?_
    refine tnorm ?_
    refine yseq ?_
    refine yregion ?_
    refine ycons (ycall awake6 rfl rfl fun r S' h => ?_)
    obtain ⟨rfl, rfl⟩ := h
    refine yp (pB rfl) ?_
    refine ynil ?_
    refine tnorm ?_
    refine yret ?_
    exact yfin (rB rfl) ⟨_, .of, rfl, rfl⟩
  refine ycondD rfl (fun _ => ?_) (fun h2 => absurd h2 h)
  have hu0 : usedD D = 0 := used_none fun j b hj => by have := hT j b hj; simp at this
  refine yskip ?_
  refine tnorm ?_
  refine yseq ?_
  refine yblock ?_
  refine yseq ?_
  refine yregion ?_
  refine yp pC ?_
  refine ynil ?_
  refine tnorm ?_
  refine yseq ?_
  refine yregion ?_
  refine yp pC ?_
  refine ynil ?_
  refine tnorm ?_
  refine ycut (fun E S' => Has E [(0, .slice ga G.length gc), (1, .int .i64 (m : Int)), (5, .pointer (some ⟨ab, 0, none⟩)), (7, .int .i64 (t : Int))] ∧ ∃ (hs : List Int) (vh : Value) (Hh : List Chunk) (D : List (Option Bt)) (H : List Chunk), E 8 = vh ∧ E 9 = .int .i64 ((usedD D : Nat) : Int) ∧ hs.length = G.length ∧ Slc 3 vh hs Hh ∧ Ar ab 4096 D H ∧ Told D hs ∧ usedD D ≤ 256 * G.length ∧ Junk S' (Hh :: H :: S)) ?_ fun E S' ⟨hE, hs, vh, Hh, D, H, hE8, hE9, hhl, hLh, hA, hT, hu, hJ⟩ => ?_
  · refine yseq ?_
    refine yregion ?_
    refine yp pC ?_
    refine ynil ?_
    refine tnorm ?_
    refine yblock ?_
    refine yloop (σ := Nat) (fun i E S' => Has E [(0, .slice ga G.length gc), (1, .int .i64 (m : Int)), (5, .pointer (some ⟨ab, 0, none⟩)), (7, .int .i64 (t : Int)), (10, .int .i64 (i : Int))] ∧ i ≤ G.length ∧ ∃ (hs : List Int) (vh : Value) (Hh : List Chunk) (D : List (Option Bt)) (H : List Chunk), E 8 = vh ∧ E 9 = .int .i64 ((usedD D : Nat) : Int) ∧ hs.length = i ∧ Slc 3 vh hs Hh ∧ Ar ab 4096 D H ∧ Told D hs ∧ usedD D ≤ 256 * i ∧ Junk S' (Hh :: H :: S)) (fun i => G.length - i) 0
      ⟨⟨rfl, rfl, rfl, rfl, rfl, trivial⟩, Nat.zero_le _, [], _, [], D, H, rfl, by rw [hu0]; rfl, rfl, .nil, hA, hT, by rw [hu0]; exact Nat.zero_le _, .of⟩ fun i E S' ⟨hE, hi, hs, vh, Hh, D, H, hE8, hE9, hhl, hLh, hA, hT, hu, hJ⟩ => ?_
    have hE2 : Has E [(0, .slice ga G.length gc), (1, .int .i64 (m : Int)), (5, .pointer (some ⟨ab, 0, none⟩)), (7, .int .i64 (t : Int)), (10, .int .i64 (i : Int)), (8, vh), (9, .int .i64 ((usedD D : Nat) : Int))] := ⟨hE.1, hE.2.1, hE.2.2.1, hE.2.2.2.1, hE.2.2.2.2.1, hE8, hE9, trivial⟩
    clear hE hE8 hE9
    obtain ⟨ha, hc, rfl⟩ := hLh.isSlice
    obtain ⟨E0, e0⟩ := has_puts hE2; subst e0; clear hE2
    refine yforget hJ ?_
    refine yseq ?_
    refine yseq ?_
    refine yregion ?_
    refine yp (pI rfl) ?_
    refine yp (pS rfl) ?_
    refine yp (pLen rfl) ?_
    refine yp (pLt rfl rfl) ?_
    refine ynil ?_
    refine tnorm ?_
    refine ycondD rfl (fun h => ?_) (fun h => ?_)
    · have hlt : i < G.length := by omega
      obtain ⟨b, o, ca, ty, fz, rfl, hm', hmem, hg, _⟩ := hG.get (by intro h; simp [h] at hlt)
      have hg0 := hg i 0 hlt (by decide)
      generalize G[i] = z at hg0
      refine yskip ?_
      refine tnorm ?_
      refine yseq ?_
      refine yblock ?_
      refine yseq ?_
      refine yregion ?_
      refine yp (pS rfl) ?_
      refine yp (pI rfl) ?_
      refine yp (pIxN rfl rfl (by omega)) ?_
      refine ycons (yloadM (S := Hh :: H :: S) (v := .int .i64 z) (by repeat (first | exact hmem | apply List.mem_cons_of_mem)) rfl hg0 ?_)
      refine ycons (ycall (cRound z 249 (by decide)) rfl rfl fun r S' h => ?_)
      obtain ⟨rfl, rfl⟩ := h
      have hr := round_lt z 249 (by decide)
      generalize round z 249 = k0 at hr
      obtain ⟨k, rfl⟩ := Int.eq_ofNat_of_zero_le hr.1
      have hk : k < 249 := by omega
      have hck := costN_248 hk
      have hcc : cost (k : Int) = (costN k : Nat) := by unfold cost; rw [if_neg (by omega), Int.toNat_natCast]
      have hcp := (costN_is k (by omega)).2.1
      refine yp (pI rfl) ?_
      refine ynil ?_
      refine tnorm ?_
      refine yseq ?_
      refine yregion ?_
      refine yp (pP rfl) ?_
      refine yp (pI rfl) ?_
      refine ycons (ycall (arAllocOk hA (m := k) rfl ?_) rfl rfl fun r S' h => ?_)
      · unfold allocE
        rw [hcc, if_neg (by omega), if_neg (by omega)]
      obtain ⟨rfl, H2, hA2, rfl⟩ := h
      have hT2 := hT.alloc (m := k)
      have hg2 := alloc_getB D k
      have hu2 := alloc_used D k
      have hh := hnd_pos D
      have hhl2 := hnd_le D
      have hDl := hA.used_le.2.2.2
      generalize hhd : hnd D = hd at hA2 hT2 hg2 hh hhl2
      generalize allocD D k = D2 at hA2 hT2 hg2 hu2
      obtain ⟨hr1, hr2⟩ := read_all hg2
      rw [zlen] at hr1 hr2
      refine yp (pU rfl) ?_
      refine yp (pExt rfl rfl) ?_
      refine yp (pExt rfl rfl) ?_
      refine yp (pI rfl) ?_
      refine yp (pI rfl) ?_
      refine ynil ?_
      refine tnorm ?_
      refine yseq ?_
      refine yseq ?_
      refine yregion ?_
      refine yp (pI rfl) ?_
      refine yp (pNe rfl rfl) ?_
      refine ynil ?_
      refine tnorm ?_
      refine ycondF rfl ?_
      refine yskip ?_
      refine tnorm ?_
      refine yseq ?_
      refine yregion ?_
      refine yp (pP rfl) ?_
      refine yp (pI rfl) ?_
      refine yp (pI rfl) ?_
      refine ycons (ycall (arRead hA2 (hd : Int) 0 (k : Int)) rfl rfl fun r S' h => ?_)
      obtain ⟨vr, Hr, rfl, hLr, rfl⟩ := h
      rw [hr1]
      rw [hr2] at hLr
      have hzk : (zeros k).length = k := zlen k
      generalize hz : zeros k = zk at hLr hzk hg2
      obtain ⟨ra, rc, rfl⟩ := hLr.isSlice
      refine yp (pU rfl) ?_
      refine yp (pExt rfl rfl) ?_
      refine yp (pExt rfl rfl) ?_
      refine yp (pS rfl) ?_
      refine yp (pI rfl) ?_
      refine ynil ?_
      refine tnorm ?_
      refine ycut (fun E S' => Has E [(0, .slice (some ⟨b, o, none⟩) G.length gc), (1, .int .i64 (m : Int)), (5, .pointer (some ⟨ab, 0, none⟩)), (7, .int .i64 (t : Int)), (10, .int .i64 (i : Int)), (8, .slice ha hs.length hc), (9, .int .i64 ((usedD D : Nat) : Int)), (11, .int .i64 (k : Int)), (12, .int .i64 (hd : Int)), (14, .slice ra zk.length rc)] ∧ Junk S' (Hr :: Hh :: H2 :: S)) ?_ fun E S' ⟨hE, hJ⟩ => ?_
      · refine ykeep [(0, .slice (some ⟨b, o, none⟩) G.length gc), (1, .int .i64 (m : Int)), (5, .pointer (some ⟨ab, 0, none⟩)), (7, .int .i64 (t : Int)), (10, .int .i64 (i : Int)), (8, .slice ha hs.length hc), (9, .int .i64 ((usedD D : Nat) : Int)), (11, .int .i64 (k : Int)), (12, .int .i64 (hd : Int)), (14, .slice ra zk.length rc), (15, .int .i64 0)] ⟨rfl, rfl, rfl, rfl, rfl, rfl, rfl, rfl, rfl, rfl, rfl, trivial⟩ fun E0 => ?_
        refine yseq ?_
        refine ydraw ?_
        refine ytq (pI rfl) ?_
        refine ytq (pNe rfl rfl) ?_
        refine ytq (pB rfl) ?_
        refine ytgT rfl ?_
        refine ytq (pS rfl) ?_
        refine ytgT rfl ?_
        refine ytq (pI rfl) ?_
        have hmk : ∀ (K : Env → Segs → Prop) (E : Env) (S : Segs) (d : Option Tmp) (u : Operand), ev E u = .int .i64 (k : Int) → (∀ b, K (putE d (.slice (some ⟨b, 0, none⟩) k k) E) ([(b, .cells (cells zk).toArray 5)] :: S)) → YO Try.prog none 155 d (.mksl 5 1 1 [(.int .u8 0)] u u) K E S := fun K E S d u hu hK => by
          refine ymksl (m := k) (cap := k) hu hu (Nat.le_refl _) rfl (by omega) (by omega) fun b2 => ?_
          rw [replicate_cells (z := [.int .u8 0]) k (0 : UInt8) rfl, show List.replicate k (0 : UInt8) = zk from hz]
          exact hK b2
        refine ytaltT rfl (ytalt (yb2s rfl (hLr.src (by simp)) ?_) ytno) (ytaltT rfl (ytalt (hmk _ _ _ _ _ rfl fun b2 => ?_) ytno) ytno)
        · refine ytaltT rfl (ytalt (hmk _ _ _ _ _ rfl fun b2 => ?_) ytno) ytno
          refine ytaltT rfl (ytalt (yb2s rfl (Src.lit (b := b2) (e := 5) (Y := zk) (by simp) hzk.symm) ?_) ytno) ytno
          refine ytgT rfl ?_
          refine ytq (pNeS rfl rfl) ?_
          rw [decide_eq_true rfl]
          refine ytq (pPickF rfl rfl) ?_
          refine ytdone ?_
          refine tnorm ?_
          refine ycondF rfl ?_
          refine yskip ?_
          refine tnorm ?_
          exact ⟨⟨rfl, rfl, rfl, rfl, rfl, rfl, rfl, rfl, rfl, rfl, trivial⟩, .of⟩
        · refine ytaltT rfl (ytalt (yb2s rfl (hLr.src (by simp)) ?_) ytno) (ytaltT rfl (ytalt (yb2s rfl (Src.lit (b := b2) (e := 5) (Y := zk) (by simp) hzk.symm) ?_) ytno) ytno)
          · refine ytaltT rfl (ytalt (yb2s rfl (Src.lit (b := b2) (e := 5) (Y := zk) (by simp) hzk.symm) ?_) ytno) ytno
            refine ytgT rfl ?_
            refine ytq (pNeS rfl rfl) ?_
            rw [decide_eq_true rfl]
            refine ytq (pPickF rfl rfl) ?_
            refine ytdone ?_
            refine tnorm ?_
            refine ycondF rfl ?_
            refine yskip ?_
            refine tnorm ?_
            exact ⟨⟨rfl, rfl, rfl, rfl, rfl, rfl, rfl, rfl, rfl, rfl, trivial⟩, .of⟩
          · refine ytaltT rfl (ytalt (yb2s rfl (hLr.src (by simp)) ?_) ytno) ytno
            refine ytgT rfl ?_
            refine ytq (pNeS rfl rfl) ?_
            rw [decide_eq_true rfl]
            refine ytq (pPickF rfl rfl) ?_
            refine ytdone ?_
            refine tnorm ?_
            refine ycondF rfl ?_
            refine yskip ?_
            refine tnorm ?_
            exact ⟨⟨rfl, rfl, rfl, rfl, rfl, rfl, rfl, rfl, rfl, rfl, trivial⟩, .of⟩
      obtain ⟨E0, e0⟩ := has_puts hE; subst e0; clear hE
      refine yforget hJ ?_
      refine ycut (fun E S' => Has E [(0, .slice (some ⟨b, o, none⟩) G.length gc), (1, .int .i64 (m : Int)), (5, .pointer (some ⟨ab, 0, none⟩)), (7, .int .i64 (t : Int)), (10, .int .i64 (i : Int)), (8, .slice ha hs.length hc), (9, .int .i64 ((usedD D : Nat) : Int)), (11, .int .i64 (k : Int)), (12, .int .i64 (hd : Int))] ∧ ∃ (X : Bt) (Hr : List Chunk) (vr : Value), E 14 = vr ∧ X.length = k ∧ Slc 5 vr X Hr ∧ Junk S' (Hr :: Hh :: H2 :: S)) ?_ fun E S' ⟨hE, X, Hr, vr, hE14, hXl, hLX, hJ⟩ => ?_
      · refine yseq ?_
        refine yregion ?_
        refine yp pC ?_
        refine ynil ?_
        refine tnorm ?_
        refine yblock ?_
        refine yloop (σ := Nat) (fun q E S' => Has E [(0, .slice (some ⟨b, o, none⟩) G.length gc), (1, .int .i64 (m : Int)), (5, .pointer (some ⟨ab, 0, none⟩)), (7, .int .i64 (t : Int)), (10, .int .i64 (i : Int)), (8, .slice ha hs.length hc), (9, .int .i64 ((usedD D : Nat) : Int)), (11, .int .i64 (k : Int)), (12, .int .i64 (hd : Int)), (16, .int .i64 (q : Int))] ∧ q ≤ k ∧ ∃ (X : Bt) (Hr : List Chunk) (vr : Value), E 14 = vr ∧ X.length = k ∧ Slc 5 vr X Hr ∧ Junk S' (Hr :: Hh :: H2 :: S)) (fun q => k - q) 0
          ⟨⟨rfl, rfl, rfl, rfl, rfl, rfl, rfl, rfl, rfl, rfl, trivial⟩, Nat.zero_le _, zk, Hr, _, rfl, hzk, hLr, .of⟩ fun q E S' ⟨hE, hq, X, Hr, vr, hE14, hXl, hLX, hJ⟩ => ?_
        have hE2 : Has E [(0, .slice (some ⟨b, o, none⟩) G.length gc), (1, .int .i64 (m : Int)), (5, .pointer (some ⟨ab, 0, none⟩)), (7, .int .i64 (t : Int)), (10, .int .i64 (i : Int)), (8, .slice ha hs.length hc), (9, .int .i64 ((usedD D : Nat) : Int)), (11, .int .i64 (k : Int)), (12, .int .i64 (hd : Int)), (16, .int .i64 (q : Int)), (14, vr)] := ⟨hE.1, hE.2.1, hE.2.2.1, hE.2.2.2.1, hE.2.2.2.2.1, hE.2.2.2.2.2.1, hE.2.2.2.2.2.2.1, hE.2.2.2.2.2.2.2.1, hE.2.2.2.2.2.2.2.2.1, hE.2.2.2.2.2.2.2.2.2.1, hE14, trivial⟩
        clear hE hE14
        obtain ⟨xa, xc, rfl⟩ := hLX.isSlice
        obtain ⟨E0, e0⟩ := has_puts hE2; subst e0; clear hE2
        refine yforget hJ ?_
        refine yseq ?_
        refine yseq ?_
        refine yregion ?_
        refine yp (pI rfl) ?_
        refine yp (pI rfl) ?_
        refine yp (pLt rfl rfl) ?_
        refine ynil ?_
        refine tnorm ?_
        refine ycondD rfl (fun h => ?_) (fun h => ?_)
        · have hqX : q < X.length := by omega
          obtain ⟨b2, sp, fz2, hz2, rfl, _, rfl, rfl⟩ := hLX.at' (by intro h; rw [h] at hqX; simp at hqX)
          refine yskip ?_
          refine tnorm ?_
          refine yseq ?_
          refine yblock ?_
          refine yregion ?_
          refine yp (pS rfl) ?_
          refine yp (pI rfl) ?_
          refine yp (pIxN rfl rfl (by omega)) ?_
          refine ycons (ystoreE (M := X ++ sp) (y := (122 : UInt8)) rfl (by simp; omega) rfl rfl hz2 ?_)
          refine ynil ?_
          refine bnorm ?_
          refine tnorm ?_
          refine yregion ?_
          refine yp (pI rfl) ?_
          refine yp (pInc rfl rfl (by omega)) ?_
          refine yp (pI rfl) ?_
          refine ynil ?_
          refine tnorm ?_
          exact ⟨q + 1, ⟨⟨rfl, rfl, rfl, rfl, rfl, rfl, rfl, rfl, rfl, rfl, trivial⟩, by omega, X.set q 122, _, _, rfl, by simpa using hXl, Slc.setRow (ty := 5) (b := b2) (y := (122 : UInt8)) hz2 hqX rfl, .of⟩, by omega⟩
        · refine yexit ?_
          refine texit ?_
          refine texit ?_
          refine bexit ?_
          refine tnorm ?_
          exact ⟨⟨rfl, rfl, rfl, rfl, rfl, rfl, rfl, rfl, rfl, trivial⟩, X, Hr, _, rfl, hXl, hLX, .of⟩
      have hE2 : Has E [(0, .slice (some ⟨b, o, none⟩) G.length gc), (1, .int .i64 (m : Int)), (5, .pointer (some ⟨ab, 0, none⟩)), (7, .int .i64 (t : Int)), (10, .int .i64 (i : Int)), (8, .slice ha hs.length hc), (9, .int .i64 ((usedD D : Nat) : Int)), (11, .int .i64 (k : Int)), (12, .int .i64 (hd : Int)), (14, vr)] := ⟨hE.1, hE.2.1, hE.2.2.1, hE.2.2.2.1, hE.2.2.2.2.1, hE.2.2.2.2.2.1, hE.2.2.2.2.2.2.1, hE.2.2.2.2.2.2.2.1, hE.2.2.2.2.2.2.2.2.1, hE14, trivial⟩
      clear hE hE14
      obtain ⟨xa, xc, rfl⟩ := hLX.isSlice
      obtain ⟨hw1, hw2⟩ := write_all (Y := X) hg2 (by omega)
      obtain ⟨E0, e0⟩ := has_puts hE2; subst e0; clear hE2
      refine yforget hJ ?_
      refine yseq ?_
      refine yseq ?_
      refine yregion ?_
      refine yp (pP rfl) ?_
      refine yp (pI rfl) ?_
      refine yp (pS rfl) ?_
      refine ycons (ycall (arWrite (S0 := [Hr]) hA2 (hd : Int) 0 (Y := X) (hLX.src (by simp)) (by show X.length ≤ 9223372036854775807; omega)) rfl rfl fun r S' h => ?_)
      obtain ⟨rfl, H3, hA3, rfl⟩ := h
      rw [hw1]
      rw [hw2] at hA3
      refine yp (pNe rfl rfl) ?_
      refine ynil ?_
      refine tnorm ?_
      refine ycondF rfl ?_
      refine yskip ?_
      refine tnorm ?_
      refine yseq ?_
      refine yregion ?_
      refine yp (pI rfl) ?_
      refine yp (pI rfl) ?_
      refine ycons (ycall (arCost (k : Int)) rfl rfl fun r S' h => ?_)
      obtain ⟨rfl, rfl⟩ := h
      rw [hcc]
      refine yp (pAddN rfl rfl (by omega)) ?_
      refine yp (pI rfl) ?_
      refine ynil ?_
      refine tnorm ?_
      refine yregion ?_
      refine yp (pS rfl) ?_
      refine yp (pI rfl) ?_
      refine ycons (ybsl1 (hd : Int) rfl rfl (by decide) (by decide) rfl fun p102 => ?_)
      refine ycons (yapp (Y := [(hd : Int)]) rfl rfl hLh (.lit (by repeat (first | exact List.mem_cons_self | apply List.mem_cons_of_mem)) rfl) rfl 0 rfl (by simp; omega) (by simp; omega) fun v2 H5 hL5 => ?_)
      have hl5 : (hs ++ [(hd : Int)]).length = i + 1 := by simp [hhl]
      generalize hs ++ [(hd : Int)] = hs2 at hL5 hT2 hl5
      obtain ⟨a5, c5, rfl⟩ := hL5.isSlice
      refine yp (pS rfl) ?_
      refine ynil ?_
      refine bnorm ?_
      refine tnorm ?_
      refine yregion ?_
      refine yp (pI rfl) ?_
      refine yp (pInc rfl rfl (by omega)) ?_
      refine yp (pI rfl) ?_
      refine ynil ?_
      refine tnorm ?_
      have hus := set_used (Y := X) hg2 (by omega)
      exact ⟨i + 1, ⟨⟨rfl, rfl, rfl, rfl, rfl, trivial⟩, by omega, hs2, _, H5, _, H3, rfl, congrArg (Value.int .i64) (by rw [hus, hu2]), hl5, hL5, hA3, hT2.set hg2, by rw [hus, hu2]; omega, .of⟩, by omega⟩
    · have hiG : i = G.length := by omega
      rw [hiG] at hhl hu
      refine yexit ?_
      refine texit ?_
      refine texit ?_
      refine bexit ?_
      refine tnorm ?_
      exact ⟨⟨rfl, rfl, rfl, rfl, trivial⟩, hs, _, Hh, D, H, rfl, rfl, hhl, hLh, hA, hT, hu, .of⟩
  have hE2 : Has E [(0, .slice ga G.length gc), (1, .int .i64 (m : Int)), (5, .pointer (some ⟨ab, 0, none⟩)), (7, .int .i64 (t : Int)), (8, vh), (9, .int .i64 ((usedD D : Nat) : Int))] := ⟨hE.1, hE.2.1, hE.2.2.1, hE.2.2.2.1, hE8, hE9, trivial⟩
  clear hE hE8 hE9
  obtain ⟨ha, hc, rfl⟩ := hLh.isSlice
  have hub := hA.used_le
  obtain ⟨E0, e0⟩ := has_puts hE2; subst e0; clear hE2
  refine yforget hJ ?_
  refine yseq ?_
  refine yseq ?_
  refine yregion ?_
  refine yp (pP rfl) ?_
  refine ycons (ycall (arUsedA hA) rfl rfl fun r S' h => ?_)
  obtain ⟨rfl, rfl⟩ := h
  refine yp (pI rfl) ?_
  refine yp (pNe rfl rfl) ?_
  refine yp (pB rfl) ?_
  rw [decide_eq_true rfl]
  refine ygT rfl ?_
  refine yop (pP rfl) ?_
  refine ygT rfl ?_
  refine ycall (arLeftA hA) rfl rfl fun r S' h => ?_
  obtain ⟨rfl, rfl⟩ := h
  refine ygT rfl ?_
  refine yop (pI rfl) ?_
  refine ygT rfl ?_
  refine yop (pSub rfl rfl (by omega)) ?_
  refine ygT rfl ?_
  refine yop (pNe rfl rfl) ?_
  refine yp (pPickF rfl rfl) ?_
  refine ynil ?_
  refine tnorm ?_
  rw [decide_eq_true (show ((4096 - usedD D : Nat) : Int) = 4096 - ((usedD D : Nat) : Int) from by omega)]
  refine ycondF rfl ?_
  refine yskip ?_
  refine tnorm ?_
  refine ycut (fun E S' => Has E [(0, .slice ga G.length gc), (1, .int .i64 (m : Int)), (5, .pointer (some ⟨ab, 0, none⟩)), (7, .int .i64 (t : Int)), (8, .slice ha hs.length hc)] ∧ ∃ (D : List (Option Bt)) (H : List Chunk), Ar ab 4096 D H ∧ Told D hs ∧ Junk S' (Hh :: H :: S)) ?_ fun E S' ⟨hE, D, H, hA, hT, hJ⟩ => ?_
  · refine yseq ?_
    refine yregion ?_
    refine yp pC ?_
    refine ynil ?_
    refine tnorm ?_
    refine yblock ?_
    refine yloop (σ := Nat) (fun i E S' => Has E [(0, .slice ga G.length gc), (1, .int .i64 (m : Int)), (5, .pointer (some ⟨ab, 0, none⟩)), (7, .int .i64 (t : Int)), (8, .slice ha hs.length hc), (17, .int .i64 (i : Int))] ∧ i ≤ hs.length ∧ ∃ (D : List (Option Bt)) (H : List Chunk), Ar ab 4096 D H ∧ Told D hs ∧ Junk S' (Hh :: H :: S)) (fun i => hs.length - i) 0
      ⟨⟨rfl, rfl, rfl, rfl, rfl, rfl, trivial⟩, Nat.zero_le _, D, H, hA, hT, .of⟩ fun i E S' ⟨hE, hi, D, H, hA, hT, hJ⟩ => ?_
    obtain ⟨E0, e0⟩ := has_puts hE; subst e0; clear hE
    refine yforget hJ ?_
    refine yseq ?_
    refine yseq ?_
    refine yregion ?_
    refine yp (pI rfl) ?_
    refine yp (pS rfl) ?_
    refine yp (pLen rfl) ?_
    refine yp (pLt rfl rfl) ?_
    refine ynil ?_
    refine tnorm ?_
    refine ycondD rfl (fun h => ?_) (fun h => ?_)
    · have hlt : i < hs.length := by omega
      refine yskip ?_
      refine tnorm ?_
      refine yseq ?_
      refine yblock ?_
      refine yseq ?_
      refine yregion ?_
      refine yp (pI rfl) ?_
      refine yp (pMulN (j := i) (k := 7) rfl rfl (by omega)) ?_
      refine yp (pI rfl) ?_
      refine yp (pAddN rfl rfl (by omega)) ?_
      refine yp (pS rfl) ?_
      refine yp (pLen rfl) ?_
      refine yp (pRem rfl rfl (by omega)) ?_
      obtain ⟨q, hq, hqe⟩ : ∃ q : Nat, q < hs.length ∧ (((i * 7 + t : Nat) : Int).tmod ((hs.length : Nat) : Int)) = (q : Int) := ⟨(i * 7 + t) % hs.length, Nat.mod_lt _ (by omega), by
        rw [Int.tmod_eq_emod_of_nonneg (by omega)]; norm_cast⟩
      rw [hqe]
      obtain ⟨b2, sp, fz2, hz2, hae, _, hce, rfl⟩ := hLh.at' (by intro h; rw [h] at hlt; simp at hlt)
      subst hae
      refine yp (pI rfl) ?_
      refine ynil ?_
      refine tnorm ?_
      refine yregion ?_
      refine yp (pP rfl) ?_
      refine yp (pS rfl) ?_
      refine yp (pI rfl) ?_
      refine yp (pIxN rfl rfl (by omega)) ?_
      refine ycons (yload1 (v := .int .i64 hs[q]) rfl ((row_cell (kk := 1) (j := 0) hq rfl (by omega)).trans rfl) ?_)
      refine ycons (ycall (arFree hA hs[q]) rfl rfl fun r S' h => ?_)
      obtain ⟨rfl, H2, hA2, rfl⟩ := h
      refine ynil ?_
      refine bnorm ?_
      refine tnorm ?_
      refine yregion ?_
      refine yp (pI rfl) ?_
      refine yp (pInc rfl rfl (by omega)) ?_
      refine yp (pI rfl) ?_
      refine ynil ?_
      refine tnorm ?_
      exact ⟨i + 1, ⟨⟨rfl, rfl, rfl, rfl, rfl, rfl, trivial⟩, by omega, _, H2, hA2, hT.free, .of⟩, by omega⟩
    · refine yexit ?_
      refine texit ?_
      refine texit ?_
      refine bexit ?_
      refine tnorm ?_
      exact ⟨⟨rfl, rfl, rfl, rfl, rfl, trivial⟩, D, H, hA, hT, .of⟩
  obtain ⟨E0, e0⟩ := has_puts hE; subst e0; clear hE
  refine yforget hJ ?_
  refine ycut (fun E S' => Has E [(0, .slice ga G.length gc), (1, .int .i64 (m : Int)), (5, .pointer (some ⟨ab, 0, none⟩)), (7, .int .i64 (t : Int))] ∧ ∃ (D : List (Option Bt)) (H : List Chunk), Ar ab 4096 D H ∧ Told D [] ∧ Junk S' (H :: S)) ?_ fun E S' ⟨hE, D, H, hA, hT, hJ⟩ => ?_
  · refine yseq ?_
    refine yregion ?_
    refine yp pC ?_
    refine ynil ?_
    refine tnorm ?_
    refine yblock ?_
    refine yloop (σ := Nat) (fun i E S' => Has E [(0, .slice ga G.length gc), (1, .int .i64 (m : Int)), (5, .pointer (some ⟨ab, 0, none⟩)), (7, .int .i64 (t : Int)), (8, .slice ha hs.length hc), (19, .int .i64 (i : Int))] ∧ i ≤ hs.length ∧ ∃ (D : List (Option Bt)) (H : List Chunk), Ar ab 4096 D H ∧ Told D (hs.drop i) ∧ Junk S' (Hh :: H :: S)) (fun i => hs.length - i) 0
      ⟨⟨rfl, rfl, rfl, rfl, rfl, rfl, trivial⟩, Nat.zero_le _, D, H, hA, hT, .of⟩ fun i E S' ⟨hE, hi, D, H, hA, hT, hJ⟩ => ?_
    obtain ⟨E0, e0⟩ := has_puts hE; subst e0; clear hE
    refine yforget hJ ?_
    refine yseq ?_
    refine yseq ?_
    refine yregion ?_
    refine yp (pI rfl) ?_
    refine yp (pS rfl) ?_
    refine yp (pLen rfl) ?_
    refine yp (pLt rfl rfl) ?_
    refine ynil ?_
    refine tnorm ?_
    refine ycondD rfl (fun h => ?_) (fun h => ?_)
    · have hlt : i < hs.length := by omega
      rw [List.drop_eq_getElem_cons hlt] at hT
      obtain ⟨b2, sp, fz2, hz2, hae, _, hce, rfl⟩ := hLh.at' (by intro h; rw [h] at hlt; simp at hlt)
      subst hae
      refine yskip ?_
      refine tnorm ?_
      refine yseq ?_
      refine yblock ?_
      refine yregion ?_
      refine yp (pP rfl) ?_
      refine yp (pS rfl) ?_
      refine yp (pI rfl) ?_
      refine yp (pIxN rfl rfl (by omega)) ?_
      refine ycons (yload1 (v := .int .i64 hs[i]) rfl ((row_cell (kk := 1) (j := 0) hlt rfl (by omega)).trans rfl) ?_)
      refine ycons (ycall (arFree hA hs[i]) rfl rfl fun r S' h => ?_)
      obtain ⟨rfl, H2, hA2, rfl⟩ := h
      refine ynil ?_
      refine bnorm ?_
      refine tnorm ?_
      refine yregion ?_
      refine yp (pI rfl) ?_
      refine yp (pInc rfl rfl (by omega)) ?_
      refine yp (pI rfl) ?_
      refine ynil ?_
      refine tnorm ?_
      exact ⟨i + 1, ⟨⟨rfl, rfl, rfl, rfl, rfl, rfl, trivial⟩, by omega, _, H2, hA2, hT.drop, .of⟩, by omega⟩
    · rw [List.drop_eq_nil_of_le (by omega)] at hT
      refine yexit ?_
      refine texit ?_
      refine texit ?_
      refine bexit ?_
      refine tnorm ?_
      exact ⟨⟨rfl, rfl, rfl, rfl, trivial⟩, D, H, hA, hT, .of⟩
  have hu0 : usedD D = 0 := used_none fun j b hj => by have := hT j b hj; simp at this
  obtain ⟨E0, e0⟩ := has_puts hE; subst e0; clear hE
  refine yforget hJ ?_
  refine yseq ?_
  refine yregion ?_
  refine yp (pP rfl) ?_
  refine ycons (ycall (arUsedA hA) rfl rfl fun r S' h => ?_)
  obtain ⟨rfl, rfl⟩ := h
  rw [hu0]
  refine yp (pNe rfl rfl) ?_
  refine yp (pB rfl) ?_
  refine ygT rfl ?_
  refine yop (pP rfl) ?_
  refine ygT rfl ?_
  refine ycall (arCompact hA) rfl rfl fun r S' h => ?_
  obtain ⟨rfl, H2, hA2, rfl⟩ := h
  rw [hu0, Nat.sub_zero]
  refine ygT rfl ?_
  refine yop (pNe rfl rfl) ?_
  refine yp (pPickF rfl rfl) ?_
  refine ynil ?_
  refine tnorm ?_
  refine ycondF rfl ?_
  refine yskip ?_
  refine bnorm ?_
  refine tnorm ?_
  refine yregion ?_
  refine yp (pI rfl) ?_
  refine yp (pInc rfl rfl (by omega)) ?_
  refine yp (pI rfl) ?_
  refine ynil ?_
  refine tnorm ?_
  exact ⟨t + 1, ⟨⟨rfl, rfl, rfl, rfl, trivial⟩, by omega, D, H2, hA2, hT, .of⟩, by omega⟩
end Go.Proofs.Ytkdbajfaaifkaaa
