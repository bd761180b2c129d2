/- ArenaMoves: what it computes. -/
import Derived.Test.YtkdbajfaaifkaaaArenaM
import Derived.Test.YtkdbajfaaifkaaaAlk
namespace Go.Proofs.Ytkdbajfaaifkaaa
open Go.Xs
open Enc (enc)

/-- the bytes of the block that came as such a one -/
def fillB (n q : Nat) : Bt := List.replicate n (UInt8.ofNat (97 + q))
theorem fillB_len (n q : Nat) : (fillB n q).length = n := by simp [fillB]
def goneq (G : List Bool) (q : Nat) : Bool := (G[q]?).getD false
/-- those of the blocks that p speaks of hold what was written -/
structure MI (D : List (Option Bt)) (hs ns : List Int) (p : Nat → Prop) : Prop where
  len : ns.length = hs.length
  nd : ∀ (q r : Nat) (x : Int), hs[q]? = some x → hs[r]? = some x → q = r
  ns0 : ∀ x ∈ ns, 0 ≤ x ∧ x < 120
  at_ : ∀ (q : Nat) (x y : Int), p q → hs[q]? = some x → ns[q]? = some y → getB D x = some (fillB y.toNat q)
theorem MI.add {D : List (Option Bt)} {hs ns : List Int} (h : MI D hs ns (fun _ => True)) {n : Nat} (hn : n < 120) : MI ((allocD D n).set (hnd D - 1) (some (fillB n hs.length))) (hs ++ [((hnd D : Nat) : Int)]) (ns ++ [(n : Int)]) (fun _ => True) := by
  have hno : getB D ((hnd D : Nat) : Int) = none := by
    have := hnd_none D
    have hp := hnd_pos D
    rw [show ((hnd D : Nat) : Int) = ((hnd D - 1 : Nat) : Int) + 1 from by omega, getB_idx]; exact this
  have hset := fun k => set_getB (Y := fillB n hs.length) (alloc_getB D n) k
  rw [show (((hnd D : Nat) : Int) - 1).toNat = hnd D - 1 from by have := hnd_pos D; omega] at hset
  have hnew : ∀ (q : Nat) (x : Int), hs[q]? = some x → x ≠ ((hnd D : Nat) : Int) := fun q x hq e => by
    obtain ⟨y, hy⟩ : ∃ y, ns[q]? = some y := by
      have := (List.getElem?_eq_some_iff.1 hq).1
      exact ⟨_, List.getElem?_eq_getElem (by rw [h.len]; exact this)⟩
    have := h.at_ q x y trivial hq hy
    rw [e, hno] at this; cases this
  refine ⟨by simp [h.len], fun q r x hq hr => ?_, fun x hx => ?_, fun q x y _ hq hy => ?_⟩
  · rw [List.getElem?_append] at hq hr
    split at hq <;> split at hr
    · exact h.nd q r x hq hr
    · next h1 h2 =>
      have : x = ((hnd D : Nat) : Int) := by
        cases hk : r - hs.length with
        | zero => rw [hk] at hr; simpa using hr.symm
        | succ k => rw [hk] at hr; simp at hr
      exact absurd this (hnew q x hq)
    · next h1 h2 =>
      have : x = ((hnd D : Nat) : Int) := by
        cases hk : q - hs.length with
        | zero => rw [hk] at hq; simpa using hq.symm
        | succ k => rw [hk] at hq; simp at hq
      exact absurd this (hnew r x hr)
    · next h1 h2 =>
      cases hk : q - hs.length with
      | zero =>
        cases hk2 : r - hs.length with
        | zero => omega
        | succ k => rw [hk2] at hr; simp at hr
      | succ k => rw [hk] at hq; simp at hq
  · rcases List.mem_append.1 hx with hx | hx
    · exact h.ns0 x hx
    · rw [List.mem_singleton.1 hx]; omega
  · rw [hset]
    rw [List.getElem?_append] at hq hy
    split at hq
    · next h1 =>
      rw [if_pos (by rw [h.len]; exact h1)] at hy
      rw [if_neg (hnew q x hq), alloc_getB_ne (hnew q x hq)]
      exact h.at_ q x y trivial hq hy
    · next h1 =>
      rw [if_neg (by rw [h.len]; exact h1)] at hy
      cases hk : q - hs.length with
      | zero =>
        rw [hk] at hq
        rw [h.len, hk] at hy
        simp at hq hy
        subst hq; subst hy
        rw [if_pos rfl, show q = hs.length from by omega]; rfl
      | succ k => rw [hk] at hq; simp at hq
theorem MI.free {D : List (Option Bt)} {hs ns : List Int} {p p' : Nat → Prop} (h : MI D hs ns p) {i : Nat} {x : Int} (hi : hs[i]? = some x) (hp : ∀ q, p' q → p q ∧ q ≠ i) : MI (freeD D x) hs ns p' := by
  refine ⟨h.len, h.nd, h.ns0, fun q z y hq hz hy => ?_⟩
  obtain ⟨h1, h2⟩ := hp q hq
  rw [free_getB_ne (fun e => h2 (h.nd q i x (by rw [← e]; exact hz) hi))]
  exact h.at_ q z y h1 hz hy
theorem MI.mono {D : List (Option Bt)} {hs ns : List Int} {p p' : Nat → Prop} (h : MI D hs ns p) (hp : ∀ q, p' q → p q) : MI D hs ns p' :=
  ⟨h.len, h.nd, h.ns0, fun q z y hq hz hy => h.at_ q z y (hp q hq) hz hy⟩
theorem MI.alloc {D : List (Option Bt)} {hs ns : List Int} {p : Nat → Prop} (h : MI D hs ns p) (n : Nat) : MI (allocD D n) hs ns p := by
  refine ⟨h.len, h.nd, h.ns0, fun q z y hq hz hy => ?_⟩
  have h1 := h.at_ q z y hq hz hy
  rw [alloc_getB_ne]
  · exact h1
  · intro e
    have := hnd_none D
    have hp := hnd_pos D
    rw [e, show ((hnd D : Nat) : Int) = ((hnd D - 1 : Nat) : Int) + 1 from by omega, getB_idx, this] at h1
    cases h1
theorem u8_97 {q : Nat} (_hq : q < 60) : IntKind.u8.wrap (97 + (q : Int)) = ((UInt8.ofNat (97 + q)).toNat : Int) := by
  have : IntKind.u8.wrap (97 + (q : Int)) = (97 + (q : Int)) % 256 := by simp [IntKind.wrap, IntKind.signed, IntKind.bits]
  rw [this]
  have : (UInt8.ofNat (97 + q)).toNat = (97 + q) % 256 := by simp
  omega
theorem pCv8' {E : Env} {x : Operand} {k : IntKind} {a : Int} (h1 : ev E x = .int k a) : pstep (ev E) (.conv .u8 x) = some (.int .u8 (IntKind.u8.wrap a)) := by
  simp [pstep, h1]
set_option maxRecDepth 10000 in
set_option maxHeartbeats 2000000 in
theorem c6 {S : Segs} {v w : Value} (big : Int) {Z : List Int} (hZ : Src S v Z) (_hm : Z.length ≤ maxLen) (_hq : ∀ a ∈ Z, -9223372036854775808 ≤ a ∧ a ≤ 9223372036854775807) {G : List Bool} (hG : Src S w G) (_hm2 : G.length ≤ maxLen) (_hq2 : ∀ a ∈ G, True) :
    Tri Try.prog 6 #[v, w, .int .i64 big] S (fun r S' => r = .bool true ∧ S' = S) := by
  refine Tri.forget (ycallee Try.fx6 (Nat.le_of_ble_eq_true rfl) ?_)
  unfold Try.x6
  obtain ⟨za, zc, rfl⟩ := hZ.isSlice
  obtain ⟨ga, gc, rfl⟩ := hG.isSlice
  refine yseq ?_
  refine yregion ?_
  refine yp pC ?_
  refine ynil ?_
  refine tnorm ?_
  refine ycutQ (fun E S' => Has E [(0, .slice za Z.length zc), (1, .slice ga G.length gc), (2, .int .i64 big)] ∧ (Z.length ≤ 60 ∧ G.length ≤ 80) ∧ Junk S' S) ?_ fun E S' ⟨hE, ⟨hZ60, hG80⟩, hJ⟩ => ?_
  · refine yseq ?_
    refine yregion ?_
    refine yp (pS rfl) ?_
    refine yp (pLen rfl) ?_
    refine yp (pGt rfl rfl) ?_
    refine yp (pB rfl) ?_
    by_cases c1 : (60 : Int) < (Z.length : Int)
    · rw [decide_eq_true c1]
      refine ygF rfl ?_
      refine ygF rfl ?_
      refine ygF rfl ?_
      refine yp (pPickT rfl rfl) ?_
      refine ynil ?_
      refine tnorm ?_
      refine ycondT rfl ?_
      refine yseq ?_
      refine yregion ?_
      refine ycons (ycall awake6 rfl rfl fun r S' h => ?_)
      obtain ⟨rfl, rfl⟩ := h
      refine yp (pB rfl) ?_
      refine ynil ?_
      refine tnorm ?_
      refine yret ?_
      refine tret ?_
      exact yfin (rB rfl) ⟨_, .of, rfl, rfl⟩
    rw [decide_eq_false c1]
    refine ygT rfl ?_
    refine yop (pS rfl) ?_
    refine ygT rfl ?_
    refine yop (pLen rfl) ?_
    refine ygT rfl ?_
    refine yop (pGt rfl rfl) ?_
    refine yp (pPickF rfl rfl) ?_
    refine ynil ?_
    refine tnorm ?_
    by_cases c2 : (80 : Int) < (G.length : Int)
    · rw [decide_eq_true c2]
      refine ycondT rfl ?_
      refine yseq ?_
      refine yregion ?_
      refine ycons (ycall awake6 rfl rfl fun r S' h => ?_)
      obtain ⟨rfl, rfl⟩ := h
      refine yp (pB rfl) ?_
      refine ynil ?_
      refine tnorm ?_
      refine yret ?_
      refine tret ?_
      exact yfin (rB rfl) ⟨_, .of, rfl, rfl⟩
    rw [decide_eq_false c2]
    refine ycondF rfl ?_
    refine yskip ?_
    refine tnorm ?_
    exact ⟨⟨rfl, rfl, rfl, trivial⟩, by omega, .of⟩
  obtain ⟨E0, e0⟩ := has_puts hE; subst e0; clear hE
  refine yforget hJ ?_
  refine yseq ?_
  refine yregion ?_
  refine ycons (ycall (arNewA (n := 2048) (by decide) rfl) rfl rfl fun r S' h => ?_)
  obtain ⟨ab, H, rfl, hA, rfl⟩ := h
  refine yp (pU rfl) ?_
  refine yp (pExt rfl rfl) ?_
  refine yp (pExt rfl rfl) ?_
  refine yp (pP rfl) ?_
  refine yp (pI rfl) ?_
  refine ynil ?_
  refine tnorm ?_
  refine yseq ?_
  refine yseq ?_
  refine yregion ?_
  refine yp (pI rfl) ?_
  refine yp (pNe rfl rfl) ?_
  refine yp (pB rfl) ?_
  refine ygT rfl ?_
  refine yop (pP rfl) ?_
  refine ygT rfl ?_
  refine yop (pNilP rfl rfl) ?_
  refine yp (pPickF rfl rfl) ?_
  refine ynil ?_
  refine tnorm ?_
  refine ycondF rfl ?_
  refine yskip ?_
  refine tnorm ?_
  refine yseq ?_
  refine yregion ?_
  refine yp pC ?_
  refine yp pC ?_
  refine ynil ?_
  refine tnorm ?_
  refine ycut (fun E S' => Has E [(0, .slice za Z.length zc), (1, .slice ga G.length gc), (2, .int .i64 big), (7, .pointer (some ⟨ab, 0, none⟩))] ∧ ∃ (hs ns : List Int) (vh vn : Value) (Hh Hn : List Chunk) (D : List (Option Bt)) (H : List Chunk), E 9 = vh ∧ E 10 = vn ∧ hs.length ≤ 60 ∧ Slc 3 vh hs Hh ∧ Slc 3 vn ns Hn ∧ Ar ab 2048 D H ∧ MI D hs ns (fun _ => True) ∧ Junk S' (Hh :: Hn :: H :: S)) ?_ fun E S' ⟨hE, hs, ns, vh, vn, Hh, Hn, D, H, hE9, hE10, hhl, hLh, hLn, hA, hM, hJ⟩ => ?_
  · refine yseq ?_
    refine yregion ?_
    refine yp pC ?_
    refine ynil ?_
    refine tnorm ?_
    refine yblock ?_
    refine yloop (σ := Nat) (fun i E S' => Has E [(0, .slice za Z.length zc), (1, .slice ga G.length gc), (2, .int .i64 big), (7, .pointer (some ⟨ab, 0, none⟩)), (11, .int .i64 (i : Int))] ∧ i ≤ Z.length ∧ ∃ (hs ns : List Int) (vh vn : Value) (Hh Hn : List Chunk) (D : List (Option Bt)) (H : List Chunk), E 9 = vh ∧ E 10 = vn ∧ hs.length = i ∧ Slc 3 vh hs Hh ∧ Slc 3 vn ns Hn ∧ Ar ab 2048 D H ∧ MI D hs ns (fun _ => True) ∧ Junk S' (Hh :: Hn :: H :: S)) (fun i => Z.length - i) 0
      ⟨⟨rfl, rfl, rfl, rfl, rfl, trivial⟩, Nat.zero_le _, [], [], _, _, [], [], [], H, rfl, rfl, rfl, .nil, .nil, hA, ⟨rfl, fun q r x hq => by simp at hq, fun x hx => by simp at hx, fun q x y _ hq => by simp at hq⟩, .of⟩ fun i E S' ⟨hE, hi, hs, ns, vh, vn, Hh, Hn, D, H, hE9, hE10, hhl, hLh, hLn, hA, hM, hJ⟩ => ?_
    have hE2 : Has E [(0, .slice za Z.length zc), (1, .slice ga G.length gc), (2, .int .i64 big), (7, .pointer (some ⟨ab, 0, none⟩)), (11, .int .i64 (i : Int)), (9, vh), (10, vn)] := ⟨hE.1, hE.2.1, hE.2.2.1, hE.2.2.2.1, hE.2.2.2.2.1, hE9, hE10, trivial⟩
    clear hE hE9 hE10
    have hnl := hM.len
    obtain ⟨ha, hc, rfl⟩ := hLh.isSlice
    obtain ⟨na, nc, rfl⟩ := hLn.isSlice
    obtain ⟨E0, e0⟩ := has_puts hE2; subst e0; clear hE2
    refine yforget hJ ?_
    refine yseq ?_
    refine yseq ?_
    refine yregion ?_
    refine yp (pI rfl) ?_
    refine yp (pS rfl) ?_
    refine yp (pLen rfl) ?_
    refine yp (pLt rfl rfl) ?_
    refine ynil ?_
    refine tnorm ?_
    refine ycondD rfl (fun h => ?_) (fun h => ?_)
    · have hlt : i < Z.length := by omega
      obtain ⟨b, o, ca, ty, fz, rfl, hm', hmem, hg, _⟩ := hZ.get (by intro h; simp [h] at hlt)
      have hg0 := hg i 0 hlt (by decide)
      generalize Z[i] = z at hg0
      refine yskip ?_
      refine tnorm ?_
      refine yseq ?_
      refine yblock ?_
      refine yseq ?_
      refine yregion ?_
      refine yp (pS rfl) ?_
      refine yp (pI rfl) ?_
      refine yp (pIxN rfl rfl (by omega)) ?_
      refine ycons (yloadM (S := Hh :: Hn :: H :: S) (v := .int .i64 z) (by repeat (first | exact hmem | apply List.mem_cons_of_mem)) rfl hg0 ?_)
      refine ycons (ycall (cRound z 120 (by decide)) rfl rfl fun r S' h => ?_)
      obtain ⟨rfl, rfl⟩ := h
      have hr := round_lt z 120 (by decide)
      generalize round z 120 = k0 at hr
      obtain ⟨n, rfl⟩ := Int.eq_ofNat_of_zero_le hr.1
      have hn : n < 120 := by omega
      refine yp (pI rfl) ?_
      refine ynil ?_
      refine tnorm ?_
      refine yseq ?_
      refine yregion ?_
      refine yp (pP rfl) ?_
      refine yp (pI rfl) ?_
      refine ycons (ycall (arAlloc hA (n : Int)) rfl rfl fun r S' h => ?_)
      rcases h with ⟨he, rfl, rfl⟩ | ⟨he, n', H2, hn', rfl, hA2, rfl⟩
      · have he4 : allocE 2048 D (n : Int) ≠ 0 := he
        refine yp (pU rfl) ?_
        refine yp (pExt rfl rfl) ?_
        refine yp (pExt rfl rfl) ?_
        refine yp (pI rfl) ?_
        refine yp (pI rfl) ?_
        refine ynil ?_
        refine tnorm ?_
        refine yseq ?_
        refine yseq ?_
        refine yregion ?_
        refine yp (pI rfl) ?_
        refine yp (pNe rfl rfl) ?_
        refine ynil ?_
        refine tnorm ?_
        refine ycondN rfl (fun _ => ?_) (fun h2 => absurd h2 he4)
        refine yexit ?_
        refine texit ?_
        refine bexitN rfl ?_
        refine texit ?_
        refine texit ?_
        refine bexit ?_
        refine tnorm ?_
        exact ⟨⟨rfl, rfl, rfl, rfl, trivial⟩, hs, ns, _, _, Hh, Hn, D, H, rfl, rfl, by omega, hLh, hLn, hA, hM, .of⟩
      obtain rfl : n = n' := by omega
      have hM2 := hM.add hn
      have hg2 := alloc_getB D n
      have hh := hnd_pos D
      have hDl := hA.used_le.2.2.2
      have hhl2 := hnd_le D
      generalize hnd D = hd at hA2 hM2 hg2 hh hhl2
      generalize allocD D n = D2 at hA2 hM2 hg2
      refine yp (pU rfl) ?_
      refine yp (pExt rfl rfl) ?_
      refine yp (pExt rfl rfl) ?_
      refine yp (pI rfl) ?_
      refine yp (pI rfl) ?_
      refine ynil ?_
      refine tnorm ?_
      refine yseq ?_
      refine yseq ?_
      refine yregion ?_
      refine yp (pI rfl) ?_
      refine yp (pNe rfl rfl) ?_
      refine ynil ?_
      refine tnorm ?_
      refine ycondF rfl ?_
      refine yskip ?_
      refine tnorm ?_
      refine yseq ?_
      refine yregion ?_
      refine yp (pI rfl) ?_
      refine ycons (ymksl (m := n) (cap := n) rfl rfl (Nat.le_refl _) rfl (by omega) (by omega) fun bb => ?_)
      rw [replicate_cells (z := [.int .u8 0]) n (0 : UInt8) rfl]
      refine yp (pS rfl) ?_
      refine ynil ?_
      refine tnorm ?_
      refine ycut (fun E S' => Has E [(0, .slice (some ⟨b, o, none⟩) Z.length zc), (1, .slice ga G.length gc), (2, .int .i64 big), (7, .pointer (some ⟨ab, 0, none⟩)), (11, .int .i64 (i : Int)), (9, .slice ha hs.length hc), (10, .slice na ns.length nc), (12, .int .i64 (n : Int)), (13, .int .i64 (hd : Int)), (15, .slice (some ⟨bb, 0, none⟩) n n)] ∧ Junk S' ([(bb, .cells (cells (fillB n i)).toArray 5)] :: Hh :: Hn :: H2 :: S)) ?_ fun E S' ⟨hE, hJ⟩ => ?_
      · refine yseq ?_
        refine yregion ?_
        refine yp pC ?_
        refine ynil ?_
        refine tnorm ?_
        refine yblock ?_
        refine yloop (σ := Nat) (fun q E S' => Has E [(0, .slice (some ⟨b, o, none⟩) Z.length zc), (1, .slice ga G.length gc), (2, .int .i64 big), (7, .pointer (some ⟨ab, 0, none⟩)), (11, .int .i64 (i : Int)), (9, .slice ha hs.length hc), (10, .slice na ns.length nc), (12, .int .i64 (n : Int)), (13, .int .i64 (hd : Int)), (15, .slice (some ⟨bb, 0, none⟩) n n), (16, .int .i64 (q : Int))] ∧ q ≤ n ∧ ∃ L : Bt, L.length = n ∧ (∀ k, k < q → L[k]? = some (UInt8.ofNat (97 + i))) ∧ Junk S' ([(bb, .cells (cells L).toArray 5)] :: Hh :: Hn :: H2 :: S)) (fun q => n - q) 0
          ⟨⟨rfl, rfl, rfl, rfl, rfl, rfl, rfl, rfl, rfl, rfl, rfl, trivial⟩, Nat.zero_le _, List.replicate n 0, by simp, fun k h => by omega, .of⟩ fun q E S' ⟨hE, hq, L, hL, hk, hJ⟩ => ?_
        obtain ⟨E0, e0⟩ := has_puts hE; subst e0; clear hE
        refine yforget hJ ?_
        refine yseq ?_
        refine yseq ?_
        refine yregion ?_
        refine yp (pI rfl) ?_
        refine yp (pI rfl) ?_
        refine yp (pLt rfl rfl) ?_
        refine ynil ?_
        refine tnorm ?_
        refine ycondD rfl (fun h => ?_) (fun h => ?_)
        · refine yskip ?_
          refine tnorm ?_
          refine yseq ?_
          refine yblock ?_
          refine yregion ?_
          refine yp (pS rfl) ?_
          refine yp (pI rfl) ?_
          refine yp (pI rfl) ?_
          refine yp (pAdd rfl rfl (by omega)) ?_
          refine yp (pCv8' rfl) ?_
          rw [u8_97 (by omega)]
          refine yp (pIxN rfl rfl (by omega)) ?_
          refine ycons (ystoreE (M := L) (y := UInt8.ofNat (97 + i)) rfl (by omega) rfl rfl (.inl rfl) ?_)
          refine ynil ?_
          refine bnorm ?_
          refine tnorm ?_
          refine yregion ?_
          refine yp (pI rfl) ?_
          refine yp (pInc rfl rfl (by omega)) ?_
          refine yp (pI rfl) ?_
          refine ynil ?_
          refine tnorm ?_
          refine ⟨q + 1, ⟨⟨rfl, rfl, rfl, rfl, rfl, rfl, rfl, rfl, rfl, rfl, rfl, trivial⟩, by omega, L.set q (UInt8.ofNat (97 + i)), by simpa using hL, fun k h2 => ?_, .of⟩, by omega⟩
          rw [List.getElem?_set]
          split
          · next hjk => rw [if_pos (by omega)]
          · exact hk k (by omega)
        · have hLx : L = fillB n i := by
            refine List.ext_getElem? fun k => ?_
            by_cases hks : k < n
            · rw [hk k (by omega), fillB, List.getElem?_replicate, if_pos hks]
            · rw [List.getElem?_eq_none (by omega), List.getElem?_eq_none (by rw [fillB_len]; omega)]
          subst hLx
          refine yexit ?_
          refine texit ?_
          refine texit ?_
          refine bexit ?_
          refine tnorm ?_
          exact ⟨⟨rfl, rfl, rfl, rfl, rfl, rfl, rfl, rfl, rfl, rfl, trivial⟩, .of⟩
      obtain ⟨hw1, hw2⟩ := write_all (Y := fillB n i) hg2 (by rw [fillB_len, zlen])
      rw [fillB_len] at hw1
      obtain ⟨E0, e0⟩ := has_puts hE; subst e0; clear hE
      refine yforget hJ ?_
      refine yseq ?_
      refine yseq ?_
      refine yregion ?_
      refine yp (pP rfl) ?_
      refine yp (pI rfl) ?_
      refine yp (pS rfl) ?_
      refine ycons (ycall (arWrite (S0 := [[(bb, .cells (cells (fillB n i)).toArray 5)]]) hA2 (hd : Int) 0 (Y := fillB n i) (.litF List.mem_cons_self (fillB_len n i).symm) (by show (fillB n i).length ≤ 9223372036854775807; rw [fillB_len]; omega)) rfl rfl fun r S' h => ?_)
      obtain ⟨rfl, H3, hA3, rfl⟩ := h
      rw [fillB_len, hw1]
      rw [hw2, show ((hd : Int) - 1).toNat = hd - 1 from by omega] at hA3
      rw [hhl] at hM2
      refine yp (pNe rfl rfl) ?_
      refine ynil ?_
      refine tnorm ?_
      refine ycondF rfl ?_
      refine yskip ?_
      refine tnorm ?_
      refine yseq ?_
      refine yregion ?_
      refine yp (pS rfl) ?_
      refine yp (pI rfl) ?_
      refine ycons (ybsl1 (hd : Int) rfl rfl (by decide) (by decide) rfl fun p86 => ?_)
      refine ycons (yapp (Y := [(hd : Int)]) rfl rfl hLh (.lit (by repeat (first | exact List.mem_cons_self | apply List.mem_cons_of_mem)) rfl) rfl 0 rfl (by simp; omega) (by simp; omega) fun v2 H5 hL5 => ?_)
      have hl5 : (hs ++ [(hd : Int)]).length = i + 1 := by simp [hhl]
      generalize hs ++ [(hd : Int)] = hs2 at hL5 hM2 hl5
      obtain ⟨a5, c5, rfl⟩ := hL5.isSlice
      refine yp (pS rfl) ?_
      refine ynil ?_
      refine tnorm ?_
      refine yregion ?_
      refine yp (pS rfl) ?_
      refine yp (pI rfl) ?_
      refine ycons (ybsl1 (n : Int) rfl rfl (by decide) (by decide) rfl fun p90 => ?_)
      refine ycons (yapp (Y := [(n : Int)]) rfl rfl hLn (.lit (by repeat (first | exact List.mem_cons_self | apply List.mem_cons_of_mem)) rfl) rfl 0 rfl (by simp; omega) (by simp; omega) fun v2 H6 hL6 => ?_)
      generalize ns ++ [(n : Int)] = ns2 at hL6 hM2
      obtain ⟨a6, c6, rfl⟩ := hL6.isSlice
      refine yp (pS rfl) ?_
      refine ynil ?_
      refine bnorm ?_
      refine tnorm ?_
      refine yregion ?_
      refine yp (pI rfl) ?_
      refine yp (pInc rfl rfl (by omega)) ?_
      refine yp (pI rfl) ?_
      refine ynil ?_
      refine tnorm ?_
      exact ⟨i + 1, ⟨⟨rfl, rfl, rfl, rfl, rfl, trivial⟩, by omega, hs2, ns2, _, _, H5, H6, _, H3, rfl, rfl, hl5, hL5, hL6, hA3, hM2, .of⟩, by omega⟩
    · refine yexit ?_
      refine texit ?_
      refine texit ?_
      refine bexit ?_
      refine tnorm ?_
      exact ⟨⟨rfl, rfl, rfl, rfl, trivial⟩, hs, ns, _, _, Hh, Hn, D, H, rfl, rfl, by omega, hLh, hLn, hA, hM, .of⟩
  have hE2 : Has E [(0, .slice za Z.length zc), (1, .slice ga G.length gc), (2, .int .i64 big), (7, .pointer (some ⟨ab, 0, none⟩)), (9, vh), (10, vn)] := ⟨hE.1, hE.2.1, hE.2.2.1, hE.2.2.2.1, hE9, hE10, trivial⟩
  clear hE hE9 hE10
  have hnl := hM.len
  obtain ⟨ha, hc, rfl⟩ := hLh.isSlice
  obtain ⟨na, nc, rfl⟩ := hLn.isSlice
  obtain ⟨E0, e0⟩ := has_puts hE2; subst e0; clear hE2
  refine yforget hJ ?_
  refine ycut (fun E S' => Has E [(0, .slice za Z.length zc), (1, .slice ga G.length gc), (2, .int .i64 big), (7, .pointer (some ⟨ab, 0, none⟩)), (9, .slice ha hs.length hc), (10, .slice na ns.length nc)] ∧ ∃ (D : List (Option Bt)) (H : List Chunk), Ar ab 2048 D H ∧ MI D hs ns (fun q => goneq G q = false) ∧ Junk S' (Hh :: Hn :: H :: S)) ?_ fun E S' ⟨hE, D, H, hA, hM, hJ⟩ => ?_
  · refine yseq ?_
    refine yregion ?_
    refine yp pC ?_
    refine ynil ?_
    refine tnorm ?_
    refine yblock ?_
    refine yloop (σ := Nat) (fun i E S' => Has E [(0, .slice za Z.length zc), (1, .slice ga G.length gc), (2, .int .i64 big), (7, .pointer (some ⟨ab, 0, none⟩)), (9, .slice ha hs.length hc), (10, .slice na ns.length nc), (17, .int .i64 (i : Int))] ∧ i ≤ hs.length ∧ ∃ (D : List (Option Bt)) (H : List Chunk), Ar ab 2048 D H ∧ MI D hs ns (fun q => ¬ (q < i ∧ goneq G q = true)) ∧ Junk S' (Hh :: Hn :: H :: S)) (fun i => hs.length - i) 0
      ⟨⟨rfl, rfl, rfl, rfl, rfl, rfl, rfl, trivial⟩, Nat.zero_le _, D, H, hA, hM.mono fun _ _ => trivial, .of⟩ fun i E S' ⟨hE, hi, D, H, hA, hM, hJ⟩ => ?_
    obtain ⟨E0, e0⟩ := has_puts hE; subst e0; clear hE
    refine yforget hJ ?_
    refine yseq ?_
    refine yseq ?_
    refine yregion ?_
    refine yp (pI rfl) ?_
    refine yp (pS rfl) ?_
    refine yp (pLen rfl) ?_
    refine yp (pLt rfl rfl) ?_
    refine ynil ?_
    refine tnorm ?_
    by_cases h : ¬ (i : Int) < (hs.length : Int)
    · refine ycondD rfl (fun h2 => absurd h2 h) (fun _ => ?_)
      refine yexit ?_
      refine texit ?_
      refine texit ?_
      refine bexit ?_
      refine tnorm ?_
      refine ⟨⟨rfl, rfl, rfl, rfl, rfl, rfl, trivial⟩, D, H, hA, ⟨hM.len, hM.nd, hM.ns0, fun q x y hq hx hy => hM.at_ q x y (fun hc => ?_) hx hy⟩, .of⟩
      rw [hc.2] at hq; cases hq
    refine ycondD rfl (fun _ => ?_) (fun h2 => absurd h2 h)
    have hlt : i < hs.length := by omega
    have hxi : hs[i]? = some hs[i] := List.getElem?_eq_getElem hlt
    have hyi : ns[i]? = some (ns[i]'(by omega)) := List.getElem?_eq_getElem _
    have hgb := hM.at_ i _ _ (fun hc => by omega) hxi hyi
    have hstay : goneq G i = false → MI D hs ns (fun q => ¬ (q < i + 1 ∧ goneq G q = true)) := fun hgo => ⟨hM.len, hM.nd, hM.ns0, fun q x y hq hx hy => hM.at_ q x y (fun hc => hq ⟨by omega, hc.2⟩) hx hy⟩
    have hfre : MI (freeD D hs[i]) hs ns (fun q => ¬ (q < i + 1 ∧ goneq G q = true)) ∨ goneq G i = false := by
      cases hgo : goneq G i with
      | false => exact .inr rfl
      | true => exact .inl (hM.free hxi fun q hq => ⟨fun hc => hq ⟨by omega, hc.2⟩, fun e => hq ⟨by omega, by rw [e]; exact hgo⟩⟩)
    refine yskip ?_
    refine tnorm ?_
    refine yseq ?_
    refine yblock ?_
    refine yseq ?_
    refine yregion ?_
    refine yp (pI rfl) ?_
    refine yp (pS rfl) ?_
    refine yp (pLen rfl) ?_
    refine yp (pLt rfl rfl) ?_
    refine yp (pB rfl) ?_
    by_cases hgl : i < G.length
    · rw [decide_eq_true (show (i : Int) < (G.length : Int) from by omega)]
      obtain ⟨b, o, ca, ty, fz, hgae, hm', hmem, hg, _⟩ := hG.get (by intro h; simp [h] at hgl)
      subst hgae
      have hg0 := hg i 0 hgl (by decide)
      have hgq : goneq G i = G[i] := by unfold goneq; rw [List.getElem?_eq_getElem hgl]; rfl
      rw [hgq] at hstay hfre
      have hg1 : ca.toList[o + i * 1 + 0]? = some (.bool G[i]) := hg0
      generalize G[i] = gi at hg1 hstay hfre hgq
      clear hg0
      refine ygT rfl ?_
      refine yop (pS rfl) ?_
      refine ygT rfl ?_
      refine yop (pI rfl) ?_
      refine ygT rfl ?_
      refine yop (pIxN rfl rfl (by omega)) ?_
      refine ygT rfl ?_
      refine yloadM (S := Hh :: Hn :: H :: S) (v := .bool gi) (by repeat (first | exact hmem | apply List.mem_cons_of_mem)) rfl hg1 ?_
      cases gi with
      | true =>
        obtain ⟨b2, sp, fz2, hz2, hae, _, hce, rfl⟩ := hLh.at' (by intro h; rw [h] at hlt; simp at hlt)
        subst hae
        refine yp (pPickT rfl rfl) ?_
        refine yp (pB rfl) ?_
        refine ygT rfl ?_
        refine yop (pP rfl) ?_
        refine ygT rfl ?_
        refine yop (pS rfl) ?_
        refine ygT rfl ?_
        refine yop (pI rfl) ?_
        refine ygT rfl ?_
        refine yop (pIxN rfl rfl (by omega)) ?_
        refine ygT rfl ?_
        refine yload1 (v := .int .i64 hs[i]) rfl ((row_cell (kk := 1) (j := 0) hlt rfl (by omega)).trans rfl) ?_
        refine ygT rfl ?_
        refine ycall (arFree hA hs[i]) rfl rfl fun r S' h => ?_
        obtain ⟨rfl, H2, hA2, rfl⟩ := h
        rw [show freeR D hs[i] = 0 from by unfold freeR; rw [hgb]; rfl]
        refine ygT rfl ?_
        refine yop (pNe rfl rfl) ?_
        refine yp (pPickT rfl rfl) ?_
        refine ynil ?_
        refine tnorm ?_
        refine ycondF rfl ?_
        refine yskip ?_
        refine bnorm ?_
        refine tnorm ?_
        refine yregion ?_
        refine yp (pI rfl) ?_
        refine yp (pInc rfl rfl (by omega)) ?_
        refine yp (pI rfl) ?_
        refine ynil ?_
        refine tnorm ?_
        exact ⟨i + 1, ⟨⟨rfl, rfl, rfl, rfl, rfl, rfl, rfl, trivial⟩, by omega, _, H2, hA2, hfre.resolve_right (by simp), .of⟩, by omega⟩
      | false =>
        refine yp (pPickT rfl rfl) ?_
        refine yp (pB rfl) ?_
        refine ygF rfl ?_
        refine ygF rfl ?_
        refine ygF rfl ?_
        refine ygF rfl ?_
        refine ygF rfl ?_
        refine ygF rfl ?_
        refine ygF rfl ?_
        refine yp (pPickF rfl rfl) ?_
        refine ynil ?_
        refine tnorm ?_
        refine ycondF rfl ?_
        refine yskip ?_
        refine bnorm ?_
        refine tnorm ?_
        refine yregion ?_
        refine yp (pI rfl) ?_
        refine yp (pInc rfl rfl (by omega)) ?_
        refine yp (pI rfl) ?_
        refine ynil ?_
        refine tnorm ?_
        exact ⟨i + 1, ⟨⟨rfl, rfl, rfl, rfl, rfl, rfl, rfl, trivial⟩, by omega, D, H, hA, hstay rfl, .of⟩, by omega⟩
    · rw [decide_eq_false (show ¬ (i : Int) < (G.length : Int) from by omega)]
      have hgq : goneq G i = false := by unfold goneq; rw [List.getElem?_eq_none (by omega)]; rfl
      refine ygF rfl ?_
      refine ygF rfl ?_
      refine ygF rfl ?_
      refine ygF rfl ?_
      refine yp (pPickF rfl rfl) ?_
      refine yp (pB rfl) ?_
      refine ygF rfl ?_
      refine ygF rfl ?_
      refine ygF rfl ?_
      refine ygF rfl ?_
      refine ygF rfl ?_
      refine ygF rfl ?_
      refine ygF rfl ?_
      refine yp (pPickF rfl rfl) ?_
      refine ynil ?_
      refine tnorm ?_
      refine ycondF rfl ?_
      refine yskip ?_
      refine bnorm ?_
      refine tnorm ?_
      refine yregion ?_
      refine yp (pI rfl) ?_
      refine yp (pInc rfl rfl (by omega)) ?_
      refine yp (pI rfl) ?_
      refine ynil ?_
      refine tnorm ?_
      exact ⟨i + 1, ⟨⟨rfl, rfl, rfl, rfl, rfl, rfl, rfl, trivial⟩, by omega, D, H, hA, hstay hgq, .of⟩, by omega⟩
  have hub := hA.used_le
  obtain ⟨E0, e0⟩ := has_puts hE; subst e0; clear hE
  refine yforget hJ ?_
  refine yseq ?_
  refine yregion ?_
  refine yp (pI rfl) ?_
  refine ycons (ycall (cRound big 2040 (by decide)) rfl rfl fun r S' h => ?_)
  obtain ⟨rfl, rfl⟩ := h
  have hr := round_lt big 2040 (by decide)
  generalize round big 2040 = k0 at hr
  obtain ⟨n, rfl⟩ := Int.eq_ofNat_of_zero_le hr.1
  have hn : n < 2040 := by omega
  have hcc : cost (n : Int) = (costN n : Nat) := by unfold cost; rw [if_neg (by omega), Int.toNat_natCast]
  have hcp := (costN_is n (by omega)).2.1
  refine yp (pI rfl) ?_
  refine ynil ?_
  refine tnorm ?_
  refine yseq ?_
  refine yregion ?_
  refine yp (pP rfl) ?_
  refine ycons (ycall (arLeftA hA) rfl rfl fun r S' h => ?_)
  obtain ⟨rfl, rfl⟩ := h
  have hal : allocE 2048 D (n : Int) = if (2048 : Int) - usedD D < (costN n : Nat) then 4 else 0 := by
    unfold allocE; rw [hcc, if_neg (by omega)]; rfl
  refine yp (pI rfl) ?_
  refine ynil ?_
  refine tnorm ?_
  refine ycut3 (fun E S' => Has E [(0, .slice za Z.length zc), (1, .slice ga G.length gc), (2, .int .i64 big), (7, .pointer (some ⟨ab, 0, none⟩)), (9, .slice ha hs.length hc), (10, .slice na ns.length nc)] ∧ ∃ (D : List (Option Bt)) (H : List Chunk), Ar ab 2048 D H ∧ MI D hs ns (fun q => goneq G q = false) ∧ Junk S' (Hh :: Hn :: H :: S)) ?_ fun E S' ⟨hE, D, H, hA, hM, hJ⟩ => ?_
  · refine yregion ?_
    refine yp (pP rfl) ?_
    refine yp (pI rfl) ?_
    refine ycons (ycall (arAlloc hA (n : Int)) rfl rfl fun r S' h => ?_)
    rcases h with ⟨he, rfl, rfl⟩ | ⟨he, n', H2, hn', rfl, hA2, rfl⟩
    · have he4 : (2048 : Int) - usedD D < (costN n : Nat) := Classical.byContradiction fun hc => he (by rw [hal, if_neg hc])
      rw [hal, if_pos he4]
      refine yp (pU rfl) ?_
      refine yp (pExt rfl rfl) ?_
      refine yp (pExt rfl rfl) ?_
      refine yp (pI rfl) ?_
      refine yp (pI rfl) ?_
      refine ynil ?_
      refine tnorm ?_
      refine yseq ?_
      refine yregion ?_
      refine yp (pI rfl) ?_
      refine yp (pEq rfl rfl) ?_
      refine yp (pI rfl) ?_
      refine ycons (ycall (arCost (n : Int)) rfl rfl fun r S' h => ?_)
      obtain ⟨rfl, rfl⟩ := h
      rw [hcc]
      refine yp (pI rfl) ?_
      refine yp (pLe rfl rfl) ?_
      refine yp (pNeB rfl rfl) ?_
      refine yp (pB rfl) ?_
      rw [decide_eq_false (show ¬ ((costN n : Nat) : Int) ≤ ((2048 - usedD D : Nat) : Int) from by omega)]
      refine ygT rfl ?_
      refine yop (pI rfl) ?_
      refine ygT rfl ?_
      refine yop (pNe rfl rfl) ?_
      refine ygT rfl ?_
      refine yop (pB rfl) ?_
      refine ygT rfl ?_
      refine yop (pI rfl) ?_
      refine ygT rfl ?_
      refine yop (pNe rfl rfl) ?_
      refine ygT rfl ?_
      refine yop (pPickT rfl rfl) ?_
      refine yp (pPickF rfl rfl) ?_
      refine ynil ?_
      refine tnorm ?_
      refine ycondF rfl ?_
      refine yskip ?_
      refine tnorm ?_
      refine yseq ?_
      refine yregion ?_
      refine yp (pI rfl) ?_
      refine yp (pEq rfl rfl) ?_
      refine ynil ?_
      refine tnorm ?_
      refine ycondF rfl ?_
      refine yskip ?_
      refine tnorm ?_
      exact ⟨⟨rfl, rfl, rfl, rfl, rfl, rfl, trivial⟩, D, H, hA, hM, .of⟩
    · have he4 : ¬ (2048 : Int) - usedD D < (costN n : Nat) := fun hc => by rw [hal, if_pos hc] at he; cases he
      obtain rfl : n = n' := by omega
      have hu2 := alloc_used D n
      have hub2 := hA2.used_le
      obtain ⟨hr1, hr2⟩ := read_all (alloc_getB D n)
      rw [zlen] at hr1 hr2
      have hleft : ((2048 - usedD (allocD D n) : Nat) : Int) = ((2048 - usedD D : Nat) : Int) - ((costN n : Nat) : Int) := by omega
      have hM2 := hM.alloc n
      generalize hD2 : allocD D n = D2 at hA2 hu2 hub2 hr1 hr2 hleft hM2
      generalize hnd D = hd at hr1 hr2
      refine yp (pU rfl) ?_
      refine yp (pExt rfl rfl) ?_
      refine yp (pExt rfl rfl) ?_
      refine yp (pI rfl) ?_
      refine yp (pI rfl) ?_
      refine ynil ?_
      refine tnorm ?_
      refine yseq ?_
      refine yregion ?_
      refine yp (pI rfl) ?_
      refine yp (pEq rfl rfl) ?_
      refine yp (pI rfl) ?_
      refine ycons (ycall (arCost (n : Int)) rfl rfl fun r S' h => ?_)
      obtain ⟨rfl, rfl⟩ := h
      rw [hcc]
      refine yp (pI rfl) ?_
      refine yp (pLe rfl rfl) ?_
      refine yp (pNeB rfl rfl) ?_
      refine yp (pB rfl) ?_
      rw [decide_eq_true (show ((costN n : Nat) : Int) ≤ ((2048 - usedD D : Nat) : Int) from by omega)]
      refine ygT rfl ?_
      refine yop (pI rfl) ?_
      refine ygT rfl ?_
      refine yop (pNe rfl rfl) ?_
      refine ygT rfl ?_
      refine yop (pB rfl) ?_
      refine ygF rfl ?_
      refine ygF rfl ?_
      refine ygT rfl ?_
      refine yop (pPickF rfl rfl) ?_
      refine yp (pPickF rfl rfl) ?_
      refine ynil ?_
      refine tnorm ?_
      refine ycondF rfl ?_
      refine yskip ?_
      refine tnorm ?_
      refine yseq ?_
      refine yregion ?_
      refine yp (pI rfl) ?_
      refine yp (pEq rfl rfl) ?_
      refine ynil ?_
      refine tnorm ?_
      refine ycondT rfl ?_
      refine yseq ?_
      refine yregion ?_
      refine yp (pP rfl) ?_
      refine yp (pI rfl) ?_
      refine yp (pI rfl) ?_
      refine ycons (ycall (arRead hA2 (hd : Int) 0 (n : Int)) rfl rfl fun r S' h => ?_)
      obtain ⟨vr, Hr, rfl, hLr, rfl⟩ := h
      rw [hr1]
      rw [hr2] at hLr
      have hzk : (zeros n).length = n := zlen n
      generalize hz : zeros n = zk at hLr hzk
      obtain ⟨ra, rc, rfl⟩ := hLr.isSlice
      refine yp (pU rfl) ?_
      refine yp (pExt rfl rfl) ?_
      refine yp (pExt rfl rfl) ?_
      refine yp (pS rfl) ?_
      refine yp (pI rfl) ?_
      refine ynil ?_
      refine tnorm ?_
      refine ykeep [(0, .slice za Z.length zc), (1, .slice ga G.length gc), (2, .int .i64 big), (7, .pointer (some ⟨ab, 0, none⟩)), (9, .slice ha hs.length hc), (10, .slice na ns.length nc), (18, .int .i64 (n : Int)), (19, .int .i64 ((2048 - usedD D : Nat) : Int)), (22, .slice ra zk.length rc), (23, .int .i64 0)] ⟨rfl, rfl, rfl, rfl, rfl, rfl, rfl, rfl, rfl, rfl, trivial⟩ fun E0 => ?_
      refine yseq ?_
      refine ydraw ?_
      refine ytq (pI rfl) ?_
      refine ytq (pNe rfl rfl) ?_
      refine ytq (pB rfl) ?_
      refine ytgT rfl ?_
      refine ytq (pS rfl) ?_
      refine ytgT rfl ?_
      refine ytq (pI rfl) ?_
      have hmk : ∀ (K : Env → Segs → Prop) (E : Env) (S : Segs) (d : Option Tmp) (u : Operand), ev E u = .int .i64 (n : Int) → (∀ b, K (putE d (.slice (some ⟨b, 0, none⟩) n n) E) ([(b, .cells (cells zk).toArray 5)] :: S)) → YO Try.prog none 235 d (.mksl 5 1 1 [(.int .u8 0)] u u) K E S := fun K E S d u hu hK => by
        refine ymksl (m := n) (cap := n) hu hu (Nat.le_refl _) rfl (by omega) (by omega) fun b2 => ?_
        rw [replicate_cells (z := [.int .u8 0]) n (0 : UInt8) rfl, show List.replicate n (0 : UInt8) = zk from hz]
        exact hK b2
      refine ytaltT rfl (ytalt (yb2s rfl (hLr.src (by simp)) ?_) ytno) (ytaltT rfl (ytalt (hmk _ _ _ _ _ rfl fun b2 => ?_) ytno) ytno)
      · refine ytaltT rfl (ytalt (hmk _ _ _ _ _ rfl fun b2 => ?_) ytno) ytno
        refine ytaltT rfl (ytalt (yb2s rfl (Src.lit (b := b2) (e := 5) (Y := zk) (by simp) hzk.symm) ?_) ytno) ytno
        refine ytgT rfl ?_
        refine ytq (pNeS rfl rfl) ?_
        rw [decide_eq_true rfl]
        refine ytq (pPickF rfl rfl) ?_
        refine ytq (pB rfl) ?_
        refine ytgT rfl ?_
        refine ytq (pP rfl) ?_
        refine ytgT rfl ?_
        refine ytq (pI rfl) ?_
        refine ytgT rfl ?_
        refine ytq (pI rfl) ?_
        refine ytaltT rfl ?_ ytno
        refine ytalt (ycall (arLeftA hA2) rfl rfl fun r S' h => ?_) ytno
        obtain ⟨rfl, rfl⟩ := h
        refine ytaltT rfl ?_ ytno
        refine ytalt (ycall (arCost (n : Int)) rfl rfl fun r S' h => ?_) ytno
        obtain ⟨rfl, rfl⟩ := h
        rw [hcc]
        refine ytgT rfl ?_
        refine ytq (pSub rfl rfl (by omega)) ?_
        refine ytgT rfl ?_
        refine ytq (pNe rfl rfl) ?_
        refine ytq (pPickF rfl rfl) ?_
        refine ytdone ?_
        refine tnorm ?_
        rw [decide_eq_true hleft]
        refine ycondF rfl ?_
        refine yskip ?_
        refine tnorm ?_
        exact ⟨⟨rfl, rfl, rfl, rfl, rfl, rfl, trivial⟩, D2, H2, hA2, hM2, .of⟩
      · refine ytaltT rfl (ytalt (yb2s rfl (hLr.src (by simp)) ?_) ytno) (ytaltT rfl (ytalt (yb2s rfl (Src.lit (b := b2) (e := 5) (Y := zk) (by simp) hzk.symm) ?_) ytno) ytno)
        · refine ytaltT rfl (ytalt (yb2s rfl (Src.lit (b := b2) (e := 5) (Y := zk) (by simp) hzk.symm) ?_) ytno) ytno
          refine ytgT rfl ?_
          refine ytq (pNeS rfl rfl) ?_
          rw [decide_eq_true rfl]
          refine ytq (pPickF rfl rfl) ?_
          refine ytq (pB rfl) ?_
          refine ytgT rfl ?_
          refine ytq (pP rfl) ?_
          refine ytgT rfl ?_
          refine ytq (pI rfl) ?_
          refine ytgT rfl ?_
          refine ytq (pI rfl) ?_
          refine ytaltT rfl ?_ ytno
          refine ytalt (ycall (arLeftA hA2) rfl rfl fun r S' h => ?_) ytno
          obtain ⟨rfl, rfl⟩ := h
          refine ytaltT rfl ?_ ytno
          refine ytalt (ycall (arCost (n : Int)) rfl rfl fun r S' h => ?_) ytno
          obtain ⟨rfl, rfl⟩ := h
          rw [hcc]
          refine ytgT rfl ?_
          refine ytq (pSub rfl rfl (by omega)) ?_
          refine ytgT rfl ?_
          refine ytq (pNe rfl rfl) ?_
          refine ytq (pPickF rfl rfl) ?_
          refine ytdone ?_
          refine tnorm ?_
          rw [decide_eq_true hleft]
          refine ycondF rfl ?_
          refine yskip ?_
          refine tnorm ?_
          exact ⟨⟨rfl, rfl, rfl, rfl, rfl, rfl, trivial⟩, D2, H2, hA2, hM2, .of⟩
        · refine ytaltT rfl (ytalt (yb2s rfl (hLr.src (by simp)) ?_) ytno) ytno
          refine ytgT rfl ?_
          refine ytq (pNeS rfl rfl) ?_
          rw [decide_eq_true rfl]
          refine ytq (pPickF rfl rfl) ?_
          refine ytq (pB rfl) ?_
          refine ytgT rfl ?_
          refine ytq (pP rfl) ?_
          refine ytgT rfl ?_
          refine ytq (pI rfl) ?_
          refine ytgT rfl ?_
          refine ytq (pI rfl) ?_
          refine ytaltT rfl ?_ ytno
          refine ytalt (ycall (arLeftA hA2) rfl rfl fun r S' h => ?_) ytno
          obtain ⟨rfl, rfl⟩ := h
          refine ytaltT rfl ?_ ytno
          refine ytalt (ycall (arCost (n : Int)) rfl rfl fun r S' h => ?_) ytno
          obtain ⟨rfl, rfl⟩ := h
          rw [hcc]
          refine ytgT rfl ?_
          refine ytq (pSub rfl rfl (by omega)) ?_
          refine ytgT rfl ?_
          refine ytq (pNe rfl rfl) ?_
          refine ytq (pPickF rfl rfl) ?_
          refine ytdone ?_
          refine tnorm ?_
          rw [decide_eq_true hleft]
          refine ycondF rfl ?_
          refine yskip ?_
          refine tnorm ?_
          exact ⟨⟨rfl, rfl, rfl, rfl, rfl, rfl, trivial⟩, D2, H2, hA2, hM2, .of⟩
  obtain ⟨E0, e0⟩ := has_puts hE; subst e0; clear hE
  refine yforget hJ ?_
  refine ycut (fun E S' => Has E [(0, .slice za Z.length zc), (1, .slice ga G.length gc), (2, .int .i64 big), (7, .pointer (some ⟨ab, 0, none⟩))] ∧ Junk S' (H :: S)) ?_ fun E S' ⟨hE, hJ⟩ => ?_
  · refine yseq ?_
    refine yregion ?_
    refine yp pC ?_
    refine ynil ?_
    refine tnorm ?_
    refine yblock ?_
    refine yloop (σ := Nat) (fun i E S' => Has E [(0, .slice za Z.length zc), (1, .slice ga G.length gc), (2, .int .i64 big), (7, .pointer (some ⟨ab, 0, none⟩)), (9, .slice ha hs.length hc), (10, .slice na ns.length nc), (24, .int .i64 (i : Int))] ∧ i ≤ hs.length ∧ Junk S' (Hh :: Hn :: H :: S)) (fun i => hs.length - i) 0
      ⟨⟨rfl, rfl, rfl, rfl, rfl, rfl, rfl, trivial⟩, Nat.zero_le _, .of⟩ fun i E S' ⟨hE, hi, hJ⟩ => ?_
    obtain ⟨E0, e0⟩ := has_puts hE; subst e0; clear hE
    refine yforget hJ ?_
    refine yseq ?_
    refine yseq ?_
    refine yregion ?_
    refine yp (pI rfl) ?_
    refine yp (pS rfl) ?_
    refine yp (pLen rfl) ?_
    refine yp (pLt rfl rfl) ?_
    refine ynil ?_
    refine tnorm ?_
    by_cases h : ¬ (i : Int) < (hs.length : Int)
    · refine ycondD rfl (fun h2 => absurd h2 h) (fun _ => ?_)
      refine yexit ?_
      refine texit ?_
      refine texit ?_
      refine bexit ?_
      refine tnorm ?_
      exact ⟨⟨rfl, rfl, rfl, rfl, trivial⟩, .of⟩
    refine ycondD rfl (fun _ => ?_) (fun h2 => absurd h2 h)
    have hlt : i < hs.length := by omega
    have hltn : i < ns.length := by omega
    refine yskip ?_
    refine tnorm ?_
    refine yseq ?_
    refine yblock ?_
    refine ycutQ (fun E S' => Has E [(0, .slice za Z.length zc), (1, .slice ga G.length gc), (2, .int .i64 big), (7, .pointer (some ⟨ab, 0, none⟩)), (9, .slice ha hs.length hc), (10, .slice na ns.length nc), (24, .int .i64 (i : Int))] ∧ goneq G i = false ∧ Junk S' (Hh :: Hn :: H :: S)) ?_ fun E S' ⟨hE, hgo, hJ⟩ => ?_
    · refine yseq ?_
      refine yregion ?_
      refine yp (pI rfl) ?_
      refine yp (pS rfl) ?_
      refine yp (pLen rfl) ?_
      refine yp (pLt rfl rfl) ?_
      refine yp (pB rfl) ?_
      by_cases hgl : i < G.length
      · rw [decide_eq_true (show (i : Int) < (G.length : Int) from by omega)]
        obtain ⟨b, o, ca, ty, fz, hgae, hm', hmem, hg, _⟩ := hG.get (by intro h; simp [h] at hgl)
        subst hgae
        have hg0 := hg i 0 hgl (by decide)
        have hgq : goneq G i = G[i] := by unfold goneq; rw [List.getElem?_eq_getElem hgl]; rfl
        have hg1 : ca.toList[o + i * 1 + 0]? = some (.bool G[i]) := hg0
        generalize G[i] = gi at hg1 hgq
        clear hg0
        refine ygT rfl ?_
        refine yop (pS rfl) ?_
        refine ygT rfl ?_
        refine yop (pI rfl) ?_
        refine ygT rfl ?_
        refine yop (pIxN rfl rfl (by omega)) ?_
        refine ygT rfl ?_
        refine yloadM (S := Hh :: Hn :: H :: S) (v := .bool gi) (by repeat (first | exact hmem | apply List.mem_cons_of_mem)) rfl hg1 ?_
        cases gi with
        | true =>
          refine yp (pPickT rfl rfl) ?_
          refine ynil ?_
          refine tnorm ?_
          refine ycondT rfl ?_
          refine yexit ?_
          refine texit ?_
          refine bexit ?_
          refine tnorm ?_
          refine yregion ?_
          refine yp (pI rfl) ?_
          refine yp (pInc rfl rfl (by omega)) ?_
          refine yp (pI rfl) ?_
          refine ynil ?_
          refine tnorm ?_
          exact ⟨i + 1, ⟨⟨rfl, rfl, rfl, rfl, rfl, rfl, rfl, trivial⟩, by omega, .of⟩, by omega⟩
        | false =>
          refine yp (pPickT rfl rfl) ?_
          refine ynil ?_
          refine tnorm ?_
          refine ycondF rfl ?_
          refine yskip ?_
          refine tnorm ?_
          exact ⟨⟨rfl, rfl, rfl, rfl, rfl, rfl, rfl, trivial⟩, hgq, .of⟩
      · rw [decide_eq_false (show ¬ (i : Int) < (G.length : Int) from by omega)]
        have hgq : goneq G i = false := by unfold goneq; rw [List.getElem?_eq_none (by omega)]; rfl
        refine ygF rfl ?_
        refine ygF rfl ?_
        refine ygF rfl ?_
        refine ygF rfl ?_
        refine yp (pPickF rfl rfl) ?_
        refine ynil ?_
        refine tnorm ?_
        refine ycondF rfl ?_
        refine yskip ?_
        refine tnorm ?_
        exact ⟨⟨rfl, rfl, rfl, rfl, rfl, rfl, rfl, trivial⟩, hgq, .of⟩
    have hgb := hM.at_ i _ _ hgo (List.getElem?_eq_getElem hlt) (List.getElem?_eq_getElem hltn)
    have hn0 := hM.ns0 _ (List.getElem_mem hltn)
    obtain ⟨b2, sp, fz2, hz2, hae, _, hce, hHe⟩ := hLh.at' (by intro h; rw [h] at hlt; simp at hlt)
    obtain ⟨b3, sp3, fz3, hz3, hae3, _, hce3, hHe3⟩ := hLn.at' (by intro h; rw [h] at hltn; simp at hltn)
    subst hae hae3 hHe hHe3
    have hld1 : ((cells (hs ++ sp)).toArray.toList)[0 + i * 1 + 0]? = some (.int .i64 hs[i]) := (row_cell (kk := 1) (j := 0) hlt rfl (by omega)).trans rfl
    have hld2 : ((cells (ns ++ sp3)).toArray.toList)[0 + i * 1 + 0]? = some (.int .i64 ns[i]) := (row_cell (kk := 1) (j := 0) hltn rfl (by omega)).trans rfl
    generalize hs[i] = x at hgb hld1
    generalize ns[i] = y at hgb hn0 hld2
    obtain ⟨k, rfl⟩ := Int.eq_ofNat_of_zero_le hn0.1
    rw [Int.toNat_natCast] at hgb
    obtain ⟨hr1, hr2⟩ := read_all hgb
    have hfl := fillB_len k i
    have hfg : ∀ q, q < k → (fillB k i)[q]? = some (UInt8.ofNat (97 + i)) := fun q hq => by rw [fillB, List.getElem?_replicate, if_pos hq]
    rw [hfl] at hr1 hr2
    generalize fillB k i = fb at hr2 hfl hfg
    obtain ⟨E0, e0⟩ := has_puts hE; subst e0; clear hE
    refine yforget hJ ?_
    refine yseq ?_
    refine ydraw ?_
    refine ytq (pP rfl) ?_
    refine ytq (pS rfl) ?_
    refine ytq (pI rfl) ?_
    refine ytq (pIxN rfl rfl (by omega)) ?_
    refine ytl1 (v := .int .i64 x) rfl hld1 ?_
    refine ytq (pS rfl) ?_
    refine ytq (pI rfl) ?_
    refine ytq (pIxN rfl rfl (by omega)) ?_
    refine ytl1 (v := .int .i64 (k : Int)) rfl hld2 ?_
    refine ytalt (ycall (arRead hA x 0 (k : Int)) rfl rfl fun r S' h => ?_) ytno
    obtain ⟨vr, Hr, rfl, hLr, rfl⟩ := h
    rw [hr1]
    rw [hr2] at hLr
    obtain ⟨ra, rc, rfl⟩ := hLr.isSlice
    refine ytq (pU rfl) ?_
    refine ytq (pExt rfl rfl) ?_
    refine ytq (pExt rfl rfl) ?_
    refine ytq (pS rfl) ?_
    refine ytq (pI rfl) ?_
    refine ytdone ?_
    refine tnorm ?_
    refine yseq ?_
    refine yseq ?_
    refine yregion ?_
    refine yp (pI rfl) ?_
    refine yp (pNe rfl rfl) ?_
    refine yp (pB rfl) ?_
    refine ygT rfl ?_
    refine yop (pS rfl) ?_
    refine ygT rfl ?_
    refine yop (pLen rfl) ?_
    refine ygT rfl ?_
    refine yop (pS rfl) ?_
    refine ygT rfl ?_
    refine yop (pI rfl) ?_
    refine ygT rfl ?_
    refine yop (pIxN rfl rfl (by omega)) ?_
    refine ygT rfl ?_
    refine yload1 (v := .int .i64 (k : Int)) rfl hld2 ?_
    refine ygT rfl ?_
    refine yop (pNe rfl rfl) ?_
    refine yp (pPickF rfl rfl) ?_
    refine ynil ?_
    refine tnorm ?_
    rw [decide_eq_true (show (fb.length : Int) = (k : Int) from by omega)]
    refine ycondF rfl ?_
    refine yskip ?_
    refine tnorm ?_
    refine yseq ?_
    refine yregion ?_
    refine yp pC ?_
    refine ynil ?_
    refine tnorm ?_
    refine yblock ?_
    refine yloop (σ := Nat) (fun q E S' => Has E [(0, .slice za Z.length zc), (1, .slice ga G.length gc), (2, .int .i64 big), (7, .pointer (some ⟨ab, 0, none⟩)), (9, .slice (some ⟨b2, 0, none⟩) hs.length hc), (10, .slice (some ⟨b3, 0, none⟩) ns.length nc), (24, .int .i64 (i : Int)), (25, .slice ra fb.length rc), (27, .int .i64 (q : Int))] ∧ q ≤ k ∧ Junk S' (Hr :: [(b2, .cells (cells (hs ++ sp)).toArray 3 fz2)] :: [(b3, .cells (cells (ns ++ sp3)).toArray 3 fz3)] :: H :: S)) (fun q => k - q) 0
      ⟨⟨rfl, rfl, rfl, rfl, rfl, rfl, rfl, rfl, rfl, trivial⟩, Nat.zero_le _, .of⟩ fun q E S' ⟨hE, hq, hJ⟩ => ?_
    obtain ⟨E0, e0⟩ := has_puts hE; subst e0; clear hE
    refine yforget hJ ?_
    refine yseq ?_
    refine yseq ?_
    refine yregion ?_
    refine yp (pI rfl) ?_
    refine yp (pS rfl) ?_
    refine yp (pI rfl) ?_
    refine yp (pIxN rfl rfl (by omega)) ?_
    refine ycons (yload1 (v := .int .i64 (k : Int)) rfl hld2 ?_)
    refine yp (pLt rfl rfl) ?_
    refine ynil ?_
    refine tnorm ?_
    refine ycondD rfl (fun h => ?_) (fun h => ?_)
    · have hqk : q < k := by omega
      have hqf : q < fb.length := by omega
      have hfq := hfg q hqk
      obtain ⟨b4, sp4, fz4, hz4, hae4, _, hce4, hHe4⟩ := hLr.at' (by intro h; rw [h] at hqf; simp at hqf)
      subst hae4 hHe4
      have hld4 : ((cells (fb ++ sp4)).toArray.toList)[0 + q * 1 + 0]? = some (.int .u8 ((UInt8.ofNat (97 + i)).toNat : Int)) := (row_cell (kk := 1) (j := 0) hqf rfl (by omega)).trans (by rw [List.getElem?_eq_getElem hqf] at hfq; rw [Option.some.inj hfq]; rfl)
      refine yskip ?_
      refine tnorm ?_
      refine yseq ?_
      refine yblock ?_
      refine yseq ?_
      refine yregion ?_
      refine yp (pS rfl) ?_
      refine yp (pI rfl) ?_
      refine yp (pIxN rfl rfl (by omega)) ?_
      refine ycons (yload1 (v := .int .u8 ((UInt8.ofNat (97 + i)).toNat : Int)) rfl hld4 ?_)
      refine yp (pI rfl) ?_
      refine yp (pAdd rfl rfl (by omega)) ?_
      refine yp (pCv8' rfl) ?_
      rw [u8_97 (by omega)]
      refine yp (pNe rfl rfl) ?_
      refine ynil ?_
      refine tnorm ?_
      rw [decide_eq_true rfl]
      refine ycondF rfl ?_
      refine yskip ?_
      refine bnorm ?_
      refine tnorm ?_
      refine yregion ?_
      refine yp (pI rfl) ?_
      refine yp (pInc rfl rfl (by omega)) ?_
      refine yp (pI rfl) ?_
      refine ynil ?_
      refine tnorm ?_
      exact ⟨q + 1, ⟨⟨rfl, rfl, rfl, rfl, rfl, rfl, rfl, rfl, rfl, trivial⟩, by omega, .of⟩, by omega⟩
    · refine yexit ?_
      refine texit ?_
      refine texit ?_
      refine bexit ?_
      refine bnorm ?_
      refine tnorm ?_
      refine yregion ?_
      refine yp (pI rfl) ?_
      refine yp (pInc rfl rfl (by omega)) ?_
      refine yp (pI rfl) ?_
      refine ynil ?_
      refine tnorm ?_
      exact ⟨i + 1, ⟨⟨rfl, rfl, rfl, rfl, rfl, rfl, rfl, trivial⟩, by omega, .of⟩, by omega⟩
  have hub3 := hA.used_le
  obtain ⟨E0, e0⟩ := has_puts hE; subst e0; clear hE
  refine yforget hJ ?_
  refine yseq ?_
  refine yregion ?_
  refine yp (pP rfl) ?_
  refine ycons (ycall (arUsedA hA) rfl rfl fun r S' h => ?_)
  obtain ⟨rfl, rfl⟩ := h
  refine yp (pP rfl) ?_
  refine ycons (ycall (arLeftA hA) rfl rfl fun r S' h => ?_)
  obtain ⟨rfl, rfl⟩ := h
  refine yp (pAddN rfl rfl (by omega)) ?_
  refine yp (pEq rfl rfl) ?_
  refine yp (pB rfl) ?_
  rw [decide_eq_true (show ((usedD D + (2048 - usedD D) : Nat) : Int) = 2048 from by omega)]
  refine ygT rfl ?_
  refine ycall awake6 rfl rfl fun r S' h => ?_
  obtain ⟨rfl, rfl⟩ := h
  refine yp (pPickT rfl rfl) ?_
  refine yp (pB rfl) ?_
  refine ynil ?_
  refine tnorm ?_
  refine yret ?_
  exact yfin (rB rfl) ⟨_, .of, rfl, rfl⟩
end Go.Proofs.Ytkdbajfaaifkaaa
