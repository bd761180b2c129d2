/- PackDrops: the walk. -/
import Derived.Test.YtejmbmenbailmaaDropsP
namespace Go.Proofs.Ytejmbmenbailmaa
open Go.Xs
open Enc (enc)

theorem rep_set (i m : Nat) : (List.replicate i true ++ List.replicate (m + 1) false).set i true = List.replicate (i + 1) true ++ List.replicate m false := by
  rw [List.set_append_right _ _ (by simp), List.length_replicate, Nat.sub_self, List.replicate_succ (n := m), List.set_cons_zero, List.replicate_succ' (n := i), List.append_assoc]
  rfl
theorem dec_sv (A B : Bs) : decide ((⟨A.toArray⟩ : ByteArray) = ⟨B.toArray⟩) = decide (A = B) := by
  by_cases h : A = B
  · rw [h, decide_eq_true rfl, decide_eq_true rfl]
  · rw [decide_eq_false h, decide_eq_false fun e => h (by have := congrArg (fun x : ByteArray => x.data.toList) e; simpa using this)]
set_option maxRecDepth 10000 in
set_option maxHeartbeats 4000000 in
theorem c5 {S : Segs} {v w : Value} {X : List Int} (hX : Src S v X) (_hm : X.length ≤ maxLen) (hq : ∀ a ∈ X, -9223372036854775808 ≤ a ∧ a ≤ 9223372036854775807) {Y : List Int} (hY : Src S w Y) (_hm2 : Y.length ≤ maxLen) (_hq2 : ∀ a ∈ Y, -9223372036854775808 ≤ a ∧ a ≤ 9223372036854775807) :
    Tri Try.prog 5 #[v, w] S (fun r S' => r = .bool true ∧ S' = S) := by
  refine Tri.forget (ycallee Try.fx5 (Nat.le_of_ble_eq_true rfl) ?_)
  unfold Try.x5
  obtain ⟨xa, xc, rfl⟩ := hX.isSlice
  obtain ⟨ya, yc, rfl⟩ := hY.isSlice
  refine yseq (yregion (yp pC (ynil (tnorm ?_))))
  refine ycutQ (fun E S' => Has E [(0, .slice xa X.length xc), (1, .slice ya Y.length yc)] ∧ (1 ≤ X.length ∧ X.length ≤ 10 ∧ Y.length ≤ 20) ∧ Junk S' S) ?_ fun E S' ⟨hE, ⟨h1, h10, hY20⟩, hJ⟩ => ?_
  · refine yseq (yregion (yp (pS rfl) (yp (pLen rfl) (yp (pLt rfl rfl) (yp (pB rfl) ?_)))))
    by_cases c1 : (X.length : Int) < 1
    · rw [decide_eq_true c1]
      refine ygF rfl (ygF rfl (ygF rfl (yp (pPickT rfl rfl) (yp (pB rfl) (ygF rfl (ygF rfl (ygF rfl (yp (pPickT rfl rfl) (ynil (tnorm (ycondT rfl (yseq (yregion ?_)))))))))))))
      refine ycons (ycall awake8 rfl rfl fun r S' h => ?_)
      obtain ⟨rfl, rfl⟩ := h
      refine yp (pB rfl) (ynil (tnorm (yret (tret ?_))))
      exact yfin (rB rfl) ⟨_, .of, rfl, rfl⟩
    rw [decide_eq_false c1]
    refine ygT rfl (yop (pS rfl) (ygT rfl (yop (pLen rfl) (ygT rfl (yop (pGt rfl rfl) (yp (pPickF rfl rfl) (yp (pB rfl) ?_)))))))
    by_cases c2 : (10 : Int) < (X.length : Int)
    · rw [decide_eq_true c2]
      refine ygF rfl (ygF rfl (ygF rfl (yp (pPickT rfl rfl) (ynil (tnorm (ycondT rfl (yseq (yregion ?_))))))))
      refine ycons (ycall awake8 rfl rfl fun r S' h => ?_)
      obtain ⟨rfl, rfl⟩ := h
      refine yp (pB rfl) (ynil (tnorm (yret (tret ?_))))
      exact yfin (rB rfl) ⟨_, .of, rfl, rfl⟩
    rw [decide_eq_false c2]
    refine ygT rfl (yop (pS rfl) (ygT rfl (yop (pLen rfl) (ygT rfl (yop (pGt rfl rfl) (yp (pPickF rfl rfl) (ynil (tnorm ?_))))))))
    by_cases c3 : (20 : Int) < (Y.length : Int)
    · rw [decide_eq_true c3]
      refine ycondT rfl (yseq (yregion ?_))
      refine ycons (ycall awake8 rfl rfl fun r S' h => ?_)
      obtain ⟨rfl, rfl⟩ := h
      refine yp (pB rfl) (ynil (tnorm (yret (tret ?_))))
      exact yfin (rB rfl) ⟨_, .of, rfl, rfl⟩
    rw [decide_eq_false c3]
    refine ycondF rfl (yskip (tnorm ?_))
    exact ⟨⟨rfl, rfl, trivial⟩, by omega, .of⟩
  obtain ⟨E0, e0⟩ := has_puts hE; subst e0; clear hE
  refine yforget hJ (yseq (yregion ?_))
  refine ycons (ycall (lwFresh (n := 16384) (by decide) rfl) rfl rfl fun r S' h => ?_)
  obtain ⟨ab, tb, T, H, rfl, hT, hA, rfl⟩ := h
  refine yp (pU rfl) (yp (pExt rfl rfl) (yp (pExt rfl rfl) (yp (pExt rfl rfl) (yp (pP rfl) (yp (pP rfl) (yp (pB rfl) (ynil (tnorm (yseq (yseq (yregion (yp (pB rfl) (yp (pNot rfl) (ynil (tnorm (ycondF rfl (yskip (tnorm (yseq (yregion (yp pC (ynil (tnorm (yseq (yseq (yregion (yp pC (ynil (tnorm (yblock ?_))))))))))))))))))))))))))))))
  refine yloop (σ := Nat) (fun i E S' => Has E [(0, .slice xa X.length xc), (1, .slice ya Y.length yc), (5, .pointer (some ⟨ab, 0, none⟩)), (6, .pointer (some ⟨tb, 0, none⟩)), (9, .int .i64 (i : Int))] ∧ i ≤ X.length ∧ ∃ (vh : Value) (W : List LS) (HH T H : List Chunk) (D : List (Option Bt)) (L : List Nm), E 8 = vh ∧ W.map (·.s) = (X.take i).map dX ∧ Slc 3 vh (W.map (·.h)) HH ∧ Pk D L W ∧ usedD D ≤ 512 * i ∧ Tb tb ab L T ∧ Ar ab 16384 D H ∧ Junk S' (HH :: T :: H :: S)) (fun i => X.length - i) 0
    ⟨⟨rfl, rfl, rfl, rfl, rfl, trivial⟩, Nat.zero_le _, _, [], [], T, H, [], [], rfl, rfl, .nil, Pk.nil, Nat.zero_le _, hT, hA, .of⟩ fun i E S' ⟨hE, hi, vh, W, HH, T, H, D, L, hE8, hW, hWs, hP, hu, hT, hA, hJ⟩ => ?_
  obtain ⟨ha, hc, rfl⟩ := hWs.isSlice
  have hE2 : Has E [(0, .slice xa X.length xc), (1, .slice ya Y.length yc), (5, .pointer (some ⟨ab, 0, none⟩)), (6, .pointer (some ⟨tb, 0, none⟩)), (9, .int .i64 (i : Int)), (8, .slice ha (W.map (·.h)).length hc)] := ⟨hE.1, hE.2.1, hE.2.2.1, hE.2.2.2.1, hE.2.2.2.2.1, hE8, trivial⟩
  clear hE hE8
  have hWl : W.length = i := by have := congrArg List.length hW; simpa [hi] using this
  obtain ⟨E0, e0⟩ := has_puts hE2; subst e0; clear hE2
  refine yforget hJ (yseq (yseq (yregion (yp (pI rfl) (yp (pS rfl) (yp (pLen rfl) (yp (pLt rfl rfl) (ynil (tnorm ?_)))))))))
  refine ycondD rfl (fun h => ?_) (fun h => ?_)
  · have hlt : i < X.length := by omega
    obtain ⟨b, o, ca, ty, fz, rfl, hm', hmem, hg, _⟩ := hX.get (by intro h; simp [h] at hlt)
    have hg0 := hg i 0 hlt (by decide)
    have hxq := hq _ (List.getElem_mem hlt)
    have htk : X.take (i + 1) = X.take i ++ [X[i]] := List.take_succ_eq_append_getElem hlt
    generalize X[i] = x at hg0 hxq htk
    obtain ⟨hE0, hsz0, hnm0, hok0⟩ := dX_ok x
    obtain ⟨hc0, hc1⟩ := dX_cost L x
    have hfit : fits 16384 D L (dX x) := by unfold fits; omega
    have hN := hA.ok.used
    have hex := (fits_iff hE0 hN ⟨by omega, by omega⟩ (mayS_vld (errS_may hE0).1)).1 hfit
    have hidl : (PkA W).length ≤ 30 := by
      have : ∀ (V : List LS), (∀ z ∈ V, z.ids.length = 3) → (PkA V).length = 3 * V.length := fun V => by
        induction V with
        | nil => intro _; rfl
        | cons z V ih =>
          intro hz
          have h2 := ih fun y hy => hz y (List.mem_cons_of_mem _ hy)
          have h3 := hz z (by simp)
          unfold PkA at h2 ⊢
          rw [List.map_cons, List.flatten_cons, List.length_append, h2, h3, List.length_cons]
          omega
      rw [this W fun z hz => ?_]
      · omega
      · have h2 := (hP.ok z hz).2.2.len
        obtain ⟨y, _, hy⟩ : ∃ y ∈ X.take i, dX y = z.s := by
          have : z.s ∈ (X.take i).map dX := by rw [← hW]; exact List.mem_map.2 ⟨z, hz, rfl⟩
          exact List.mem_map.1 this
        rw [h2, ← hy, dX_fnms]; rfl
    have hus : ∀ e ∈ L, e.u < 2 ^ 50 := fun e he => by have := hP.us hidl e he; omega
    have hmem' : [(b, Obj.cells ca ty fz)] ∈ HH :: T :: H :: S := List.mem_cons_of_mem _ (List.mem_cons_of_mem _ (List.mem_cons_of_mem _ hmem))
    refine yskip (tnorm (yseq (yblock (yseq (ydraw (ytq (pS rfl) (ytq (pI rfl) (ytq (pIxN rfl rfl (by omega)) (ytlM hmem' rfl hg0 (ytq (pS rfl) (ytq (pI rfl) (ytq (pIxN rfl rfl (by omega)) (ytlM hmem' rfl hg0 (ytq (pQuo rfl rfl (by decide) hxq) ?_))))))))))))))
    refine ytaltC (ycall (alkName x) rfl rfl fun r S' h => ?_) ytno
    obtain ⟨rfl, rfl⟩ := h
    refine ⟨fun _ hs => hs, ?_⟩
    refine ytalt (ycall (alkName (x.tdiv 20)) rfl rfl fun r S' h => ?_) ytno
    obtain ⟨rfl, rfl⟩ := h
    refine ytq (pT rfl) (ytq (pT rfl) (ytdone (tnorm (yseq (yregion (yp (pT rfl) (yp (pBuild2 (scT rfl) (scI rfl)) (yp (pT rfl) (yp (pT rfl) (yp (v := .agg #[sv (nameK x), .int .i64 2, .int .i64 1, .int .i64 0, sv (nameK (x.tdiv 20))]) rfl ?_))))))))))
    refine ycons (ybsl1 (⟨nameK x, 2, 1, 0, nameK (x.tdiv 20)⟩ : RR) rfl rfl (by decide) (by decide) rfl fun p72 => ?_)
    refine yp (v := .agg #[sv (nameK x), .int .i64 2, .slice (some ⟨p72, 0, none⟩) 1 1, .int .i64 0, sv [0]]) rfl ?_
    refine ycons (yalloc fun p12 => ?_)
    refine ycons (ystAll (c' := [sv (nameK x), .int .i64 2, .slice (some ⟨p72, 0, none⟩) 1 1, .int .i64 0, sv [0]]) rfl rfl rfl rfl rfl ?_)
    refine ynil (tnorm (yseq (yregion (yp (pP rfl) (yp (pP rfl) ?_)))))
    refine ycons (yloadN (l := [sv (nameK x), .int .i64 2, .slice (some ⟨p72, 0, none⟩) 1 1, .int .i64 0, sv [0]]) rfl rfl rfl ?_)
    refine ycons (ycall (pkPutS (S := [[(p72, .cells (cells [(⟨nameK x, 2, 1, 0, nameK (x.tdiv 20)⟩ : RR)]).toArray 34)]]) (s := dX x) hT hA hP.inn hP.pos hP.hs hus hok0 (Slc.src (H := [(p72, .cells (cells [(⟨nameK x, 2, 1, 0, nameK (x.tdiv 20)⟩ : RR)]).toArray 34)]) (.full (L := [(⟨nameK x, 2, 1, 0, nameK (x.tdiv 20)⟩ : RR)]) rfl) (by simp))) rfl rfl fun r S' h => ?_)
    rcases h with ⟨h, _⟩ | ⟨_, h, _⟩ | ⟨_, _, T1, H1, D1, rfl, hT1, hA1, hI1, hB1, hs1, rfl⟩
    · exact absurd hE0 h
    · exact absurd hfit h
    have hu1 := put_used hE0 hN hfit hs1
    have hP1 := hP.put hE0 hok0 hex.1 hI1 hB1
    clear hI1 hB1 hs1 hex
    generalize ads 16384 D L (nmsS (dX x)) = P1 at *
    have hP2 := hP1.perm (List.perm_append_singleton _ W).symm
    refine yp (pU rfl) (yp (pExt rfl rfl) (yp (pExt rfl rfl) (yp (pI rfl) (yp (pI rfl) (ynil (tnorm (yseq (yseq (yregion (yp (pI rfl) (yp (pNe rfl rfl) (ynil (tnorm (ycondF rfl (yskip (tnorm (yregion (yp (pS rfl) (yp (pI rfl) ?_)))))))))))))))))))
    refine ycons (ybsl1 ((hnd P1.D : Nat) : Int) rfl rfl (by decide) (by decide) rfl fun p85 => ?_)
    refine ycons (yapp (Y := [((hnd P1.D : Nat) : Int)]) rfl rfl hWs (.lit (by repeat (first | exact List.mem_cons_self | apply List.mem_cons_of_mem)) rfl) rfl (0 : Int) rfl (by rw [List.length_singleton, List.length_map]; omega) (by rw [List.length_singleton, List.length_map]; omega) fun v2 H2 hW2 => ?_)
    obtain ⟨a2, c2, rfl⟩ := hW2.isSlice
    refine yp (pS rfl) (ynil (bnorm (tnorm (yregion (yp (pI rfl) (yp (pInc rfl rfl (by omega)) (yp (pI rfl) (ynil (tnorm ?_)))))))))
    refine ⟨i + 1, ⟨⟨rfl, rfl, rfl, rfl, rfl, trivial⟩, by omega, _, _, H2, T1, H1, D1, P1.L, rfl, ?_, ?_, hP2, by omega, hT1, hA1, .of⟩, by omega⟩
    · rw [htk, List.map_append, List.map_append, hW]; rfl
    · rw [List.map_append]; exact hW2
  obtain rfl : i = X.length := by omega
  rw [List.take_length] at hW
  have hnd : (W.map (·.h)).Nodup := by
    have := hP.hs
    unfold Hs PkB at this
    rw [List.map_map] at this
    exact this
  have hWne : W ≠ [] := by intro h; rw [h] at hWl; simp at hWl; omega
  clear hu hWl
  have hWl : W.length = X.length := by have := congrArg List.length hW; simpa using this
  refine yexit (texit (texit (bexit (tnorm (yseq (yregion (yp (pS rfl) (yp (pLen rfl) ?_))))))))
  refine ycons (ymksl (m := X.length) (cap := X.length) rfl rfl (Nat.le_refl _) rfl (by omega) (by omega) fun bi => ?_)
  rw [replicate_cells (z := [.bool false]) X.length false rfl]
  refine yp (pS rfl) (ynil (tnorm (yseq (yseq (yregion (yp pC (ynil (tnorm (yblock ?_)))))))))
  refine yloop (σ := Nat) (fun i E S' => Has E [(0, .slice xa X.length xc), (1, .slice ya Y.length yc), (5, .pointer (some ⟨ab, 0, none⟩)), (6, .pointer (some ⟨tb, 0, none⟩)), (8, .slice ha (W.map (·.h)).length hc), (15, .slice (some ⟨bi, 0, none⟩) X.length X.length), (16, .int .i64 (i : Int))] ∧ i ≤ X.length ∧ Junk S' ([(bi, .cells (cells (List.replicate i true ++ List.replicate (X.length - i) false)).toArray 4)] :: HH :: T :: H :: S)) (fun i => X.length - i) 0
    ⟨⟨rfl, rfl, rfl, rfl, rfl, rfl, rfl, trivial⟩, Nat.zero_le _, by rw [List.replicate_zero, Nat.sub_zero, List.nil_append]; exact .of⟩ fun i E S' ⟨hE, hi, hJ⟩ => ?_
  obtain ⟨E0, e0⟩ := has_puts hE; subst e0; clear hE
  refine yforget hJ (yseq (yseq (yregion (yp (pI rfl) (yp (pS rfl) (yp (pLen rfl) (yp (pLt rfl rfl) (ynil (tnorm ?_)))))))))
  refine ycondD rfl (fun h => ?_) (fun h => ?_)
  · have hlt : i < X.length := by omega
    refine yskip (tnorm (yseq (yblock (yregion (yp (pS rfl) (yp (pI rfl) (yp (pIxN rfl rfl (by omega)) ?_)))))))
    refine ycons (ystoreE (M := List.replicate i true ++ List.replicate (X.length - i) false) (y := true) rfl (by simp; omega) rfl rfl (.inl rfl) ?_)
    rw [show X.length - i = (X.length - (i + 1)) + 1 from by omega, rep_set]
    refine ynil (bnorm (tnorm (yregion (yp (pI rfl) (yp (pInc rfl rfl (by omega)) (yp (pI rfl) (ynil (tnorm ?_))))))))
    exact ⟨i + 1, ⟨⟨rfl, rfl, rfl, rfl, rfl, rfl, rfl, trivial⟩, by omega, .of⟩, by omega⟩
  obtain rfl : i = X.length := by omega
  rw [Nat.sub_self, List.replicate_zero, List.append_nil]
  have hPl : Pk D L (lvs W (List.replicate X.length true)) := by rw [← hWl, lvs_all]; exact hP
  generalize hIr : List.replicate X.length true = I at hPl
  have hIl : I.length = X.length := by rw [← hIr]; simp
  clear hIr hP
  refine yexit (texit (texit (bexit (tnorm (yseq (yseq (yregion (yp pC (ynil (tnorm (yblock ?_)))))))))))
  refine yloop (σ := Nat) (fun i E S' => Has E [(0, .slice xa X.length xc), (1, .slice ya Y.length yc), (5, .pointer (some ⟨ab, 0, none⟩)), (6, .pointer (some ⟨tb, 0, none⟩)), (8, .slice ha (W.map (·.h)).length hc), (15, .slice (some ⟨bi, 0, none⟩) X.length X.length), (17, .int .i64 (i : Int))] ∧ i ≤ Y.length ∧ ∃ (I : List Bool) (T H : List Chunk) (D : List (Option Bt)) (L : List Nm), I.length = X.length ∧ Pk D L (lvs W I) ∧ Tb tb ab L T ∧ Ar ab 16384 D H ∧ Junk S' ([(bi, .cells (cells I).toArray 4)] :: HH :: T :: H :: S)) (fun i => Y.length - i) 0
    ⟨⟨rfl, rfl, rfl, rfl, rfl, rfl, rfl, trivial⟩, Nat.zero_le _, I, T, H, D, L, hIl, hPl, hT, hA, .of⟩ fun i E S' ⟨hE, hi, I, T, H, D, L, hIl, hPl, hT, hA, hJ⟩ => ?_
  obtain ⟨hb, sp, fz, hz, rfl, _, rfl, rfl⟩ := hWs.at' (by simpa using hWne)
  obtain ⟨E0, e0⟩ := has_puts hE; subst e0; clear hE
  refine yforget hJ (yseq (yseq (yregion (yp (pI rfl) (yp (pS rfl) (yp (pLen rfl) (yp (pLt rfl rfl) (ynil (tnorm ?_)))))))))
  refine ycondD rfl (fun h => ?_) (fun h => ?_)
  · have hlt : i < Y.length := by omega
    obtain ⟨b, o, ca, ty, fzy, rfl, hm', hmem, hg, _⟩ := hY.get (by intro h; simp [h] at hlt)
    have hg0 := hg i 0 hlt (by decide)
    generalize Y[i] = y at hg0
    refine yskip (tnorm (yseq (yblock (yseq (yregion (yp (pS rfl) (yp (pI rfl) (yp (pIxN rfl rfl (by omega)) ?_))))))))
    refine ycons (yloadM (S := [(bi, .cells (cells I).toArray 4)] :: [(hb, .cells (cells (W.map (·.h) ++ sp)).toArray 3 fz)] :: T :: H :: S) (v := .int .i64 y) (by repeat (first | exact hmem | apply List.mem_cons_of_mem)) rfl hg0 ?_)
    refine yp (pS rfl) (yp (pLen rfl) ?_)
    refine ycons (ycall (cRound y (X.length : Int) (by omega)) rfl rfl fun r S' h => ?_)
    obtain ⟨rfl, rfl⟩ := h
    have hr := round_lt y (X.length : Int) (by omega)
    generalize round y (X.length : Int) = k0 at hr
    obtain ⟨k, rfl⟩ := Int.eq_ofNat_of_zero_le hr.1
    have hkl : k < X.length := by omega
    have hkI : k < I.length := by omega
    have hkW : k < W.length := by omega
    have hkM : k < (W.map (·.h)).length := by rw [List.length_map]; exact hkW
    have hIk : I[k]? = some I[k] := List.getElem?_eq_getElem hkI
    refine yp (pI rfl) (ynil (tnorm (yseq (yseq (yregion (yp (pS rfl) (yp (pI rfl) (yp (pIxN rfl rfl (by omega)) ?_))))))))
    refine ycons (yload1 rfl (boolAt hIk) ?_)
    generalize hbk : I[k] = bk at hIk
    cases bk with
    | false =>
      have hset : I.set k false = I := by rw [← hbk]; exact List.set_getElem_self hkI
      refine yp (pB rfl) (ygF rfl (ygF rfl (ygF rfl (ygF rfl (ygF rfl (ygF rfl (ygF rfl (ygF rfl (yp (pPickF rfl rfl) (ynil (tnorm (ycondF rfl (yskip (tnorm (yregion (yp (pS rfl) (yp (pI rfl) (yp (pIxN rfl rfl (by omega)) ?_))))))))))))))))))
      refine ycons (ystoreE (M := I) (y := false) rfl hkI rfl rfl (.inl rfl) ?_)
      rw [hset]
      refine ynil (bnorm (tnorm (yregion (yp (pI rfl) (yp (pInc rfl rfl (by omega)) (yp (pI rfl) (ynil (tnorm ?_))))))))
      exact ⟨i + 1, ⟨⟨rfl, rfl, rfl, rfl, rfl, rfl, rfl, trivial⟩, by omega, I, T, H, D, L, hIl, hPl, hT, hA, .of⟩, by omega⟩
    | true =>
      have hWk : W[k]? = some W[k] := List.getElem?_eq_getElem hkW
      have hzm := lvs_at hWk hIk
      have hdr := lvs_drop hnd hWk hIk
      have hcell : ((cells (W.map (·.h) ++ sp)).toArray.toList)[0 + k * 1]? = some (.int .i64 W[k].h) := by
        have := cells_get (W.map (·.h) ++ sp) k 0 (by rw [List.length_append, List.length_map]; omega) (by decide)
        rw [Nat.zero_add]
        rw [List.getElem_append_left (by rw [List.length_map]; exact hkW), List.getElem_map] at this
        exact this
      obtain ⟨ho1, ho2, ho3⟩ := hPl.ok _ hzm
      refine yp (pB rfl) (ygT rfl (yop (pP rfl) (ygT rfl (yop (pP rfl) (ygT rfl (yop (pS rfl) (ygT rfl (yop (pI rfl) (ygT rfl (yop (pIxN rfl rfl (by omega)) (ygT rfl (yload1 rfl hcell (ygT rfl ?_)))))))))))))
      refine ycall (pkDrop hT hA hPl.inn hPl.pos (PkB_mem hzm) ho1 ho3 ho2) rfl rfl fun r S' h => ?_
      obtain ⟨rfl, T1, H1, D1, hT1, hA1, hI1, _, rfl⟩ := h
      have hP1 := hPl.drop hzm hI1
      rw [hdr] at hP1
      refine ygT rfl (yop (pNe rfl rfl) (yp (pPickT rfl rfl) (ynil (tnorm (ycondF rfl (yskip (tnorm (yregion (yp (pS rfl) (yp (pI rfl) (yp (pIxN rfl rfl (by omega)) ?_)))))))))))
      refine ycons (ystoreE (M := I) (y := false) rfl hkI rfl rfl (.inl rfl) ?_)
      refine ynil (bnorm (tnorm (yregion (yp (pI rfl) (yp (pInc rfl rfl (by omega)) (yp (pI rfl) (ynil (tnorm ?_))))))))
      exact ⟨i + 1, ⟨⟨rfl, rfl, rfl, rfl, rfl, rfl, rfl, trivial⟩, by omega, I.set k false, T1, H1, D1, _, by simpa using hIl, hP1, hT1, hA1, .of⟩, by omega⟩
  obtain rfl : i = Y.length := by omega
  obtain ⟨b, o, ca, ty, fzx, rfl, hm', hmem, hg, _⟩ := hX.get (by intro h; rw [h] at h1; exact absurd h1 (by decide))
  have hmem' : [(b, Obj.cells ca ty fzx)] ∈ [(bi, .cells (cells I).toArray 4)] :: [(hb, .cells (cells (W.map (·.h) ++ sp)).toArray 3 fz)] :: T :: H :: S := by repeat (first | exact hmem | apply List.mem_cons_of_mem)
  refine yexit (texit (texit (bexit (tnorm (yseq (yregion (yp pC (ynil (tnorm (yseq (yseq (yregion (yp pC (ynil (tnorm (yblock ?_))))))))))))))))
  refine yloop (σ := Nat) (fun i E S' => Has E [(0, .slice (some ⟨b, o, none⟩) X.length xc), (5, .pointer (some ⟨ab, 0, none⟩)), (6, .pointer (some ⟨tb, 0, none⟩)), (8, .slice (some ⟨hb, 0, none⟩) (W.map (·.h)).length ((W.map (·.h)).length + sp.length)), (15, .slice (some ⟨bi, 0, none⟩) X.length X.length), (19, .bool ((I.take i).any id)), (20, .int .i64 (i : Int))] ∧ i ≤ X.length ∧ Junk S' ([(bi, .cells (cells I).toArray 4)] :: [(hb, .cells (cells (W.map (·.h) ++ sp)).toArray 3 fz)] :: T :: H :: S)) (fun i => X.length - i) 0
    ⟨⟨rfl, rfl, rfl, rfl, rfl, rfl, rfl, trivial⟩, Nat.zero_le _, .of⟩ fun i E S' ⟨hE, hi, hJ⟩ => ?_
  generalize haI : (I.take i).any id = an at hE
  obtain ⟨E0, e0⟩ := has_puts hE; subst e0; clear hE
  refine yforget hJ (yseq (yseq (yregion (yp (pI rfl) (yp (pS rfl) (yp (pLen rfl) (yp (pLt rfl rfl) (ynil (tnorm ?_)))))))))
  refine ycondD rfl (fun h => ?_) (fun h => ?_)
  · have hlt : i < X.length := by omega
    have hg0 := hg i 0 hlt (by decide)
    have hxq := hq _ (List.getElem_mem hlt)
    have hxi : X[i]? = some X[i] := List.getElem?_eq_getElem hlt
    have hiI : i < I.length := by omega
    have hIi : I[i]? = some I[i] := List.getElem?_eq_getElem hiI
    have hWi : W[i]? = some W[i] := List.getElem?_eq_getElem (by omega)
    have hWs2 : W[i].s = dX X[i] := by
      have h2 := congrArg (fun l => l[i]?) hW
      simp only [List.getElem?_map, hWi, hxi, Option.map_some] at h2
      exact Option.some.inj h2
    have han := any_step hIi
    rw [haI] at han
    generalize X[i] = x at hg0 hxq hxi hWs2
    generalize I[i] = bk at hIi han
    refine yskip (tnorm (yseq (yblock (yseq (yseq (yregion (yp pC (ynil (tnorm (yblock ?_))))))))))
    refine yloop (σ := Nat) (fun j E S' => Has E [(0, .slice (some ⟨b, o, none⟩) X.length xc), (5, .pointer (some ⟨ab, 0, none⟩)), (6, .pointer (some ⟨tb, 0, none⟩)), (8, .slice (some ⟨hb, 0, none⟩) (W.map (·.h)).length ((W.map (·.h)).length + sp.length)), (15, .slice (some ⟨bi, 0, none⟩) X.length X.length), (19, .bool an), (20, .int .i64 (i : Int)), (21, .int .i64 (j : Int))] ∧ j ≤ 2 ∧ Junk S' ([(bi, .cells (cells I).toArray 4)] :: [(hb, .cells (cells (W.map (·.h) ++ sp)).toArray 3 fz)] :: T :: H :: S)) (fun j => 2 - j) 0
      ⟨⟨rfl, rfl, rfl, rfl, rfl, rfl, rfl, rfl, trivial⟩, Nat.zero_le _, .of⟩ fun j E S' ⟨hE, hj, hJ⟩ => ?_
    obtain ⟨E0, e0⟩ := has_puts hE; subst e0; clear hE
    refine yforget hJ (yseq (yseq (yregion (yp (pI rfl) (yp (pLt rfl rfl) (ynil (tnorm ?_)))))))
    refine ycondD rfl (fun h2 => ?_) (fun h2 => ?_)
    · refine yskip (tnorm (yseq (yblock (yseq (yregion (yp (pS rfl) (yp (pI rfl) (yp (pIxN rfl rfl (by omega)) ?_))))))))
      refine ycons (yloadM hmem' rfl hg0 ?_)
      skip
      refine ycons (ycall (alkName x) rfl rfl fun r S' h => ?_)
      obtain ⟨rfl, rfl⟩ := h
      refine yp (pT rfl) (ynil (tnorm ?_))
      refine ycut (fun E S' => ∃ y, Has E [(0, .slice (some ⟨b, o, none⟩) X.length xc), (5, .pointer (some ⟨ab, 0, none⟩)), (6, .pointer (some ⟨tb, 0, none⟩)), (8, .slice (some ⟨hb, 0, none⟩) (W.map (·.h)).length ((W.map (·.h)).length + sp.length)), (15, .slice (some ⟨bi, 0, none⟩) X.length X.length), (19, .bool an), (20, .int .i64 (i : Int)), (21, .int .i64 (j : Int)), (22, sv (nameK y))] ∧ Junk S' ([(bi, .cells (cells I).toArray 4)] :: [(hb, .cells (cells (W.map (·.h) ++ sp)).toArray 3 fz)] :: T :: H :: S)) ?_ fun E S' ⟨y, hE, hJ⟩ => ?_
      · refine yseq (yregion (yp (pI rfl) (yp (pEq rfl rfl) (ynil (tnorm ?_)))))
        by_cases h3 : (j : Int) = 1
        · rw [decide_eq_true h3]
          refine ycondT rfl (yregion (yp (pS rfl) (yp (pI rfl) (yp (pIxN rfl rfl (by omega)) ?_))))
          refine ycons (yloadM hmem' rfl hg0 ?_)
          refine yp (pQuo rfl rfl (by decide) hxq) ?_
          refine ycons (ycall (alkName (x.tdiv 20)) rfl rfl fun r S' h => ?_)
          obtain ⟨rfl, rfl⟩ := h
          refine yp (pT rfl) (ynil (tnorm ?_))
          exact ⟨_, ⟨rfl, rfl, rfl, rfl, rfl, rfl, rfl, rfl, rfl, trivial⟩, .of⟩
        · rw [decide_eq_false h3]
          refine ycondF rfl (yskip (tnorm ?_))
          exact ⟨_, ⟨rfl, rfl, rfl, rfl, rfl, rfl, rfl, rfl, rfl, trivial⟩, .of⟩
      obtain ⟨hnv, hnf, hnl, hn0⟩ := nameK_ok y
      generalize nameK y = n at hE hnv hnf hnl hn0
      have hfd := hPl.find hW hn0
      have hle := cntZ_le n X I
      generalize hcz : cntZ n X I = cz at hfd hle
      obtain ⟨E0, e0⟩ := has_puts hE; subst e0; clear hE
      refine yforget hJ (yseq (yregion (yp pC (ynil (tnorm (yseq (yseq (yregion (yp pC (ynil (tnorm (yblock ?_))))))))))))
      refine yloop (σ := Nat × Nat) (fun q E S' => Has E [(0, .slice (some ⟨b, o, none⟩) X.length xc), (5, .pointer (some ⟨ab, 0, none⟩)), (6, .pointer (some ⟨tb, 0, none⟩)), (8, .slice (some ⟨hb, 0, none⟩) (W.map (·.h)).length ((W.map (·.h)).length + sp.length)), (15, .slice (some ⟨bi, 0, none⟩) X.length X.length), (19, .bool an), (20, .int .i64 (i : Int)), (21, .int .i64 (j : Int)), (22, sv n), (23, .int .i64 (q.2 : Int)), (24, .int .i64 (q.1 : Int))] ∧ q.1 ≤ X.length ∧ q.2 + cntZ n (X.drop q.1) (I.drop q.1) = cz ∧ Junk S' ([(bi, .cells (cells I).toArray 4)] :: [(hb, .cells (cells (W.map (·.h) ++ sp)).toArray 3 fz)] :: T :: H :: S)) (fun q => X.length - q.1) (0, 0)
        ⟨⟨rfl, rfl, rfl, rfl, rfl, rfl, rfl, rfl, rfl, rfl, rfl, trivial⟩, Nat.zero_le _, by rw [List.drop_zero, List.drop_zero, hcz, Nat.zero_add], .of⟩ fun ⟨k, u⟩ E S' ⟨hE, hk, hku, hJ⟩ => ?_
      simp only at hE hk hku
      obtain ⟨E0, e0⟩ := has_puts hE; subst e0; clear hE
      refine yforget hJ (yseq (yseq (yregion (yp (pI rfl) (yp (pS rfl) (yp (pLen rfl) (yp (pLt rfl rfl) (ynil (tnorm ?_)))))))))
      refine ycondD rfl (fun h4 => ?_) (fun h4 => ?_)
      · have hkl : k < X.length := by omega
        have hgk := hg k 0 hkl (by decide)
        have hyq := hq _ (List.getElem_mem hkl)
        have hxk : X[k]? = some X[k] := List.getElem?_eq_getElem hkl
        have hkI : k < I.length := by omega
        have hIk : I[k]? = some I[k] := List.getElem?_eq_getElem hkI
        generalize X[k] = z at hgk hyq hxk
        generalize I[k] = ck at hIk
        have hst := cntZ_step (n := n) hxk hIk
        rw [hst] at hku
        refine yskip (tnorm (yseq (yblock (yseq (yseq (yregion (yp (pS rfl) (yp (pI rfl) (yp (pIxN rfl rfl (by omega)) ?_)))))))))
        refine ycons (yload1 rfl (boolAt hIk) ?_)
        cases ck with
        | false =>
          refine yp (pB rfl) (ygF rfl (ygF rfl (ygF rfl (ygF rfl (ygF rfl (ygF rfl (ygF rfl (yp (pPickF rfl rfl) (ynil (tnorm (ycondF rfl (yskip (tnorm (yseq (yregion (yp (pS rfl) (yp (pI rfl) (yp (pIxN rfl rfl (by omega)) ?_))))))))))))))))))
          refine ycons (yload1 rfl (boolAt hIk) ?_)
          refine yp (pB rfl) (ygF rfl (ygF rfl (ygF rfl (ygF rfl (ygF rfl (ygF rfl (ygF rfl (ygF rfl (yp (pPickF rfl rfl) (ynil (tnorm (ycondF rfl (yskip (bnorm (tnorm (yregion (yp (pI rfl) (yp (pInc rfl rfl (by omega)) (yp (pI rfl) (ynil (tnorm ?_)))))))))))))))))))))
          exact ⟨(k + 1, u), ⟨⟨rfl, rfl, rfl, rfl, rfl, rfl, rfl, rfl, rfl, rfl, rfl, trivial⟩, by show k + 1 ≤ _; omega, by rw [if_neg (by decide), Nat.zero_add] at hku; exact hku, .of⟩, by show X.length - (k + 1) < X.length - k; omega⟩
        | true =>
          rw [if_pos rfl] at hku
          refine yp (pB rfl) (ygT rfl (yop (pS rfl) (ygT rfl (yop (pI rfl) (ygT rfl (yop (pIxN rfl rfl (by omega)) (ygT rfl (yloadM hmem' rfl hgk (ygT rfl ?_)))))))))
          refine ycall (alkName z) rfl rfl fun r S' h => ?_
          obtain ⟨rfl, rfl⟩ := h
          refine ygT rfl (yop (pT rfl) (ygT rfl (yop (pEqS rfl rfl) (yp (pPickT rfl rfl) (ynil (tnorm ?_))))))
          rw [dec_sv]
          by_cases e1 : nameK z = n
          · rw [decide_eq_true e1]
            rw [if_pos e1] at hku
            refine ycondT rfl (yregion (yp (pI rfl) (yp (pInc rfl rfl (by omega)) (yp (pI rfl) (ynil (tnorm (yseq (yregion (yp (pS rfl) (yp (pI rfl) (yp (pIxN rfl rfl (by omega)) ?_)))))))))))
            refine ycons (yload1 rfl (boolAt hIk) ?_)
            refine yp (pB rfl) (ygT rfl (yop (pS rfl) (ygT rfl (yop (pI rfl) (ygT rfl (yop (pIxN rfl rfl (by omega)) (ygT rfl (yloadM hmem' rfl hgk (ygT rfl (yop (pQuo rfl rfl (by decide) hyq) (ygT rfl ?_)))))))))))
            refine ycall (alkName (z.tdiv 20)) rfl rfl fun r S' h => ?_
            obtain ⟨rfl, rfl⟩ := h
            refine ygT rfl (yop (pT rfl) (ygT rfl (yop (pEqS rfl rfl) (yp (pPickT rfl rfl) (ynil (tnorm ?_))))))
            rw [dec_sv]
            by_cases e2 : nameK (z.tdiv 20) = n
            · rw [decide_eq_true e2]
              rw [if_pos e2] at hku
              refine ycondT rfl (yregion (yp (pI rfl) (yp (pInc rfl rfl (by omega)) (yp (pI rfl) (ynil (bnorm (tnorm (yregion (yp (pI rfl) (yp (pInc rfl rfl (by omega)) (yp (pI rfl) (ynil (tnorm ?_)))))))))))))
              exact ⟨(k + 1, u + 2), ⟨⟨rfl, rfl, rfl, rfl, rfl, rfl, rfl, rfl, rfl, by show Value.int _ _ = _; congr 1, rfl, trivial⟩, by show k + 1 ≤ _; omega, by show u + 2 + cntZ n (X.drop (k + 1)) (I.drop (k + 1)) = _; omega, .of⟩, by show X.length - (k + 1) < X.length - k; omega⟩
            · rw [decide_eq_false e2]
              rw [if_neg e2] at hku
              refine ycondF rfl (yskip (bnorm (tnorm (yregion (yp (pI rfl) (yp (pInc rfl rfl (by omega)) (yp (pI rfl) (ynil (tnorm ?_)))))))))
              exact ⟨(k + 1, u + 1), ⟨⟨rfl, rfl, rfl, rfl, rfl, rfl, rfl, rfl, rfl, rfl, rfl, trivial⟩, by show k + 1 ≤ _; omega, by show u + 1 + cntZ n (X.drop (k + 1)) (I.drop (k + 1)) = _; omega, .of⟩, by show X.length - (k + 1) < X.length - k; omega⟩
          · rw [decide_eq_false e1]
            rw [if_neg e1] at hku
            refine ycondF rfl (yskip (tnorm (yseq (yregion (yp (pS rfl) (yp (pI rfl) (yp (pIxN rfl rfl (by omega)) ?_)))))))
            refine ycons (yload1 rfl (boolAt hIk) ?_)
            refine yp (pB rfl) (ygT rfl (yop (pS rfl) (ygT rfl (yop (pI rfl) (ygT rfl (yop (pIxN rfl rfl (by omega)) (ygT rfl (yloadM hmem' rfl hgk (ygT rfl (yop (pQuo rfl rfl (by decide) hyq) (ygT rfl ?_)))))))))))
            refine ycall (alkName (z.tdiv 20)) rfl rfl fun r S' h => ?_
            obtain ⟨rfl, rfl⟩ := h
            refine ygT rfl (yop (pT rfl) (ygT rfl (yop (pEqS rfl rfl) (yp (pPickT rfl rfl) (ynil (tnorm ?_))))))
            rw [dec_sv]
            by_cases e2 : nameK (z.tdiv 20) = n
            · rw [decide_eq_true e2]
              rw [if_pos e2] at hku
              refine ycondT rfl (yregion (yp (pI rfl) (yp (pInc rfl rfl (by omega)) (yp (pI rfl) (ynil (bnorm (tnorm (yregion (yp (pI rfl) (yp (pInc rfl rfl (by omega)) (yp (pI rfl) (ynil (tnorm ?_)))))))))))))
              exact ⟨(k + 1, u + 1), ⟨⟨rfl, rfl, rfl, rfl, rfl, rfl, rfl, rfl, rfl, rfl, rfl, trivial⟩, by show k + 1 ≤ _; omega, by show u + 1 + cntZ n (X.drop (k + 1)) (I.drop (k + 1)) = _; omega, .of⟩, by show X.length - (k + 1) < X.length - k; omega⟩
            · rw [decide_eq_false e2]
              rw [if_neg e2] at hku
              refine ycondF rfl (yskip (bnorm (tnorm (yregion (yp (pI rfl) (yp (pInc rfl rfl (by omega)) (yp (pI rfl) (ynil (tnorm ?_)))))))))
              exact ⟨(k + 1, u), ⟨⟨rfl, rfl, rfl, rfl, rfl, rfl, rfl, rfl, rfl, rfl, rfl, trivial⟩, by show k + 1 ≤ _; omega, by show u + cntZ n (X.drop (k + 1)) (I.drop (k + 1)) = _; omega, .of⟩, by show X.length - (k + 1) < X.length - k; omega⟩
      obtain rfl : k = X.length := by omega
      have hu0 : u = cz := by
        have : X.drop X.length = [] := List.drop_length
        rw [this] at hku
        have h0 : cntZ n [] (I.drop X.length) = 0 := by unfold cntZ; rfl
        omega
      subst hu0
      refine yexit (texit (texit (bexit (tnorm (yseq (yregion (yp (pP rfl) (yp (pT rfl) ?_))))))))
      refine ycons (ycall (tbFind hT n (by omega)) rfl rfl fun r S' h => ?_)
      obtain ⟨rfl, rfl⟩ := h
      rw [hnf]
      obtain ⟨hf1, hf2⟩ := hfd
      cases hb : byN L n with
      | none =>
        rw [hb] at hf1
        refine yp (pU rfl) (yp (pExt rfl rfl) (yp (pExt rfl rfl) (yp (pI rfl) (yp (pB rfl) (ynil (tnorm (yseq (yregion (yp (pB rfl) (yp (pI rfl) (yp (pGt rfl rfl) (yp (pNeB rfl rfl) (yp (pB rfl) ?_)))))))))))))
        rw [show decide ((0 : Int) < (u : Int)) = false from decide_eq_false (by have := of_decide_eq_false hf1.symm; omega)]
        refine ygT rfl (yop (pB rfl) (ygT rfl (yop (pB rfl) (ygF rfl (ygF rfl (ygF rfl (ygF rfl (ygF rfl (ygT rfl (yop (pPickF rfl rfl) (yp (pPickF rfl rfl) (ynil (tnorm (ycondF rfl (yskip (bnorm (tnorm (yregion (yp (pI rfl) (yp (pInc rfl rfl (by omega)) (yp (pI rfl) (ynil (tnorm ?_)))))))))))))))))))))))
        exact ⟨j + 1, ⟨⟨rfl, rfl, rfl, rfl, rfl, rfl, rfl, rfl, trivial⟩, by omega, .of⟩, by omega⟩
      | some e =>
        rw [hb] at hf1
        refine yp (pU rfl) (yp (pExt rfl rfl) (yp (pExt rfl rfl) (yp (pI rfl) (yp (pB rfl) (ynil (tnorm (yseq (yregion (yp (pB rfl) (yp (pI rfl) (yp (pGt rfl rfl) (yp (pNeB rfl rfl) (yp (pB rfl) ?_)))))))))))))
        rw [show decide ((0 : Int) < (u : Int)) = true from decide_eq_true (by have := of_decide_eq_true hf1.symm; omega)]
        refine ygT rfl (yop (pB rfl) (ygT rfl (yop (pB rfl) (ygT rfl (yop (pP rfl) (ygT rfl (yop (pI rfl) (ygT rfl ?_))))))))
        refine ycall (tbUses hT hA hPl.inn e.id) rfl rfl fun r S' h => ?_
        obtain ⟨rfl, rfl⟩ := h
        rw [hf2 e hb]
        refine ygT rfl (yop (pI rfl) (ygT rfl (yop (pNe rfl rfl) (ygT rfl (yop (pPickT rfl rfl) (yp (pPickF rfl rfl) (ynil (tnorm ?_))))))))
        rw [decide_eq_true rfl]
        refine ycondF rfl (yskip (bnorm (tnorm (yregion (yp (pI rfl) (yp (pInc rfl rfl (by omega)) (yp (pI rfl) (ynil (tnorm ?_)))))))))
        exact ⟨j + 1, ⟨⟨rfl, rfl, rfl, rfl, rfl, rfl, rfl, rfl, trivial⟩, by omega, .of⟩, by omega⟩
    refine yexit (texit (texit (bexit (tnorm ?_))))
    refine ycut (fun E S' => Has E [(0, .slice (some ⟨b, o, none⟩) X.length xc), (5, .pointer (some ⟨ab, 0, none⟩)), (6, .pointer (some ⟨tb, 0, none⟩)), (8, .slice (some ⟨hb, 0, none⟩) (W.map (·.h)).length ((W.map (·.h)).length + sp.length)), (15, .slice (some ⟨bi, 0, none⟩) X.length X.length), (19, .bool ((I.take (i + 1)).any id)), (20, .int .i64 (i : Int))] ∧ Junk S' ([(bi, .cells (cells I).toArray 4)] :: [(hb, .cells (cells (W.map (·.h) ++ sp)).toArray 3 fz)] :: T :: H :: S)) ?_ fun E S' ⟨hE, hJ⟩ => ?_
    · rw [han]
      cases an with
      | true =>
        refine yregion (yp (pB rfl) (yp (pB rfl) (ygF rfl (ygF rfl (ygF rfl (ygF rfl (yp (pPickT rfl rfl) (yp (pB rfl) (ynil (tnorm ?_))))))))))
        exact ⟨⟨rfl, rfl, rfl, rfl, rfl, rfl, rfl, trivial⟩, .of⟩
      | false =>
        refine yregion (yp (pB rfl) (yp (pB rfl) (ygT rfl (yop (pS rfl) (ygT rfl (yop (pI rfl) (ygT rfl (yop (pIxN rfl rfl (by omega)) (ygT rfl (yload1 rfl (boolAt hIi) (yp (pPickF rfl rfl) (yp (pB rfl) (ynil (tnorm ?_))))))))))))))
        exact ⟨⟨rfl, rfl, rfl, rfl, rfl, rfl, rfl, trivial⟩, .of⟩
    generalize hI2 : (I.take (i + 1)).any id = an2 at hE
    obtain ⟨E0, e0⟩ := has_puts hE; subst e0; clear hE
    refine yforget hJ (yseq (yregion (yp (pS rfl) (yp (pI rfl) (yp (pIxN rfl rfl (by omega)) ?_)))))
    refine ycons (yload1 rfl (boolAt hIi) ?_)
    cases bk with
    | false =>
      refine ynil (tnorm (ycondF rfl (yskip (bnorm (tnorm (yregion (yp (pI rfl) (yp (pInc rfl rfl (by omega)) (yp (pI rfl) (ynil (tnorm ?_)))))))))))
      exact ⟨i + 1, ⟨⟨rfl, rfl, rfl, rfl, rfl, by rw [hI2]; rfl, rfl, trivial⟩, by omega, .of⟩, by omega⟩
    | true =>
      have hzm := lvs_at hWi hIi
      obtain ⟨ho1, ho2, ho3⟩ := hPl.ok _ hzm
      have hpm := PkB_mem hzm
      have hiM : i < (W.map (·.h)).length := by rw [List.length_map]; omega
      rw [hWs2] at ho1 ho2 ho3 hpm
      have hcell : ((cells (W.map (·.h) ++ sp)).toArray.toList)[0 + i * 1]? = some (.int .i64 W[i].h) := by
        have := cells_get (W.map (·.h) ++ sp) i 0 (by rw [List.length_append]; omega) (by decide)
        rw [Nat.zero_add]
        rw [List.getElem_append_left hiM, List.getElem_map] at this
        exact this
      obtain ⟨hfn, hfr⟩ := dX_fold x
      have hget := @pkGet tb ab 16384 D H L _ T hT hA hPl.inn _ _ _ hpm ho1 ho3
      generalize folS (dX x) = f at hfn hfr hget
      obtain ⟨fn, ft, fk, fz', fr⟩ := f
      simp only at hfn hfr
      subst hfn hfr
      refine ynil (tnorm (ycondT rfl (yseq (yregion (yp (pP rfl) (yp (pP rfl) (yp (pS rfl) (yp (pI rfl) (yp (pIxN rfl rfl (by omega)) ?_)))))))))
      refine ycons (yload1 rfl hcell ?_)
      skip
      refine ycons (ycall hget rfl rfl fun r S' h => ?_)
      obtain ⟨v3, HR, rfl, hR3, rfl⟩ := h
      obtain ⟨va3, vc3, rfl⟩ := hR3.isSlice
      obtain ⟨rb, sp3, fz3, hz3, rfl, _, rfl, rfl⟩ := hR3.at' (List.cons_ne_nil _ _)
      refine yp (pU rfl) (yp (pExt rfl rfl) (yp (pExt rfl rfl) ?_))
      refine ycons (yalloc fun p27 => ?_)
      refine ycons (ystAll (c' := [sv (nameK x), .int .i64 ft, .slice (some ⟨rb, 0, none⟩) 1 (1 + sp3.length), .int .i64 fk, sv fz']) rfl rfl rfl rfl rfl ?_)
      refine yp (pI rfl) (ynil (tnorm (yseq (ydraw (ytq (pI rfl) (ytq (pNe rfl rfl) (ytq (pB rfl) (ytgT rfl (ytq (pFadr rfl) (ytgT rfl (ytq (pFadr rfl) (ytgT rfl (ytl1 rfl rfl (ytgT rfl (ytq (pS rfl) (ytgT rfl (ytq (pI rfl) (ytgT rfl (ytq (pIxN rfl rfl (by omega)) (ytgT rfl ?_))))))))))))))))))))
      have hmem3 : [(b, Obj.cells ca ty fzx)] ∈ ([(p27, Obj.cells #[sv (nameK x), .int .i64 ft, .slice (some ⟨rb, 0, none⟩) 1 (1 + sp3.length), .int .i64 fk, sv fz'] 32)] :: ([[(rb, Obj.cells (cells ([(⟨nameK x, 2, 1, 0, nameK (x.tdiv 20)⟩ : RR)] ++ sp3)).toArray 34 fz3)], T, H] ++ [(bi, Obj.cells (cells I).toArray 4)] :: [(hb, Obj.cells (cells (W.map (·.h) ++ sp)).toArray 3 fz)] :: S) : Segs) := by repeat (first | exact hmem | apply List.mem_cons_of_mem)
      refine ytlM hmem3 rfl hg0 ?_
      refine ytaltT rfl (ytaltC (ycall (alkName x) rfl rfl fun r S' h => ?_) ytno) ytno
      obtain ⟨rfl, rfl⟩ := h
      refine ⟨fun _ hs => hs, ?_⟩
      refine ytgT rfl (ytq (pNeS rfl rfl) (ytq (pPickF rfl rfl) (ytq (pB rfl) ?_)))
      rw [decide_eq_true rfl]
      refine ytgT rfl (ytq (pFadr rfl) (ytgT rfl (ytl1 rfl rfl (ytgT rfl (ytq (pLen rfl) (ytgT rfl (ytq (pNe rfl rfl) (ytq (pPickF rfl rfl) (ytq (pB rfl) (ytgT rfl (ytq (pFadr rfl) (ytgT rfl (ytl1 rfl rfl (ytgT rfl (ytq (pIxN (k := 0) rfl rfl (Nat.lt_add_one 0)) (ytgT rfl (ytq (pFadr rfl) (ytgT rfl (ytl1 rfl rfl (ytgT rfl (ytq (pS rfl) (ytgT rfl (ytq (pI rfl) (ytgT rfl (ytq (pIxN rfl rfl (by omega)) (ytgT rfl (ytlM hmem3 rfl hg0 ?_)))))))))))))))))))))))))))
      refine ytgT rfl (ytq (pQuo rfl rfl (by decide) hxq) ?_)
      refine ytaltT rfl (ytaltC (ycall (alkName (x.tdiv 20)) rfl rfl fun r S' h => ?_) ytno) ytno
      obtain ⟨rfl, rfl⟩ := h
      refine ⟨fun _ hs => hs, ?_⟩
      refine ytgT rfl (ytq (pNeS rfl rfl) (ytq (pPickF rfl rfl) (ytdone (tnorm ?_))))
      rw [decide_eq_true rfl]
      refine ycondF rfl (yskip (bnorm (tnorm (yregion (yp (pI rfl) (yp (pInc rfl rfl (by omega)) (yp (pI rfl) (ynil (tnorm ?_)))))))))
      exact ⟨i + 1, ⟨⟨rfl, rfl, rfl, rfl, rfl, by rw [hI2]; rfl, rfl, trivial⟩, by omega, .of⟩, by omega⟩
  obtain rfl : i = X.length := by omega
  rw [List.take_of_length_le (by omega)] at haI
  obtain ⟨hany1, hany2⟩ := hPl.any (by omega)
  rw [haI] at hany1 hany2
  refine yexit (texit (texit (bexit (tnorm (yseq (yregion (yp (pB rfl) (yp (pP rfl) ?_))))))))
  refine ycons (ycall (arUsedA hA) rfl rfl fun r S' h => ?_)
  obtain ⟨rfl, rfl⟩ := h
  refine yp (pGt rfl rfl) (yp (pEqB rfl rfl) (yp (pB rfl) ?_))
  rw [show decide ((0 : Int) < ((usedD D : Nat) : Int)) = an from by rw [← hany1]; exact decide_eq_decide.2 (by omega), show (an == an) = true from by simp]
  refine ygT rfl (yop (pB rfl) (ygT rfl (yop (pP rfl) (ygT rfl ?_))))
  refine ycall (tbCount hT) rfl rfl fun r S' h => ?_
  obtain ⟨rfl, rfl⟩ := h
  refine ygT rfl (yop (pGt rfl rfl) (ygT rfl (yop (pEqB rfl rfl) (yp (pPickT rfl rfl) (yp (pB rfl) ?_)))))
  rw [show decide ((0 : Int) < ((L.length : Nat) : Int)) = an from by rw [← hany2]; exact decide_eq_decide.2 (by omega), show (an == an) = true from by simp]
  refine ygT rfl ?_
  refine ycall awake8 rfl rfl fun r S' h => ?_
  obtain ⟨rfl, rfl⟩ := h
  refine yp (pPickT rfl rfl) (yp (pB rfl) (ynil (tnorm (yret ?_))))
  exact yfin (rB rfl) ⟨_, .of, rfl, rfl⟩
end Go.Proofs.Ytejmbmenbailmaa
