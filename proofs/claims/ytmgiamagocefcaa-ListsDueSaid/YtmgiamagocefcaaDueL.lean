/- ListsDue: what it computes. -/
import Derived.Test.YtmgiamagocefcaaRefU
import Derived.Test.YtmgiamagocefcaaTypes
namespace Go.Proofs.Ytmgiamagocefcaa
open Go.Xs
open Enc (enc)

theorem c8 {S : Segs} (at_ stop : Int) {v : Value} {T : List (Int × Int × Int)} (hT : Src S v T) (_hm : T.length ≤ maxLen) (_hq : ∀ a ∈ T, InA a) : Tri Try.prog 8 #[v, .int .i64 at_, .int .i64 stop] S (fun r S' => r = .bool true ∧ S' = S) := by
  refine Tri.forget (ycallee Try.fx8 (Nat.le_of_ble_eq_true rfl) ?_)
  unfold Try.x8
  obtain ⟨at0, ct0, rfl⟩ := hT.isSlice
  refine yseq ?_
  refine yregion ?_
  refine yp pC ?_
  refine ynil ?_
  refine tnorm ?_
  refine yseq ?_
  refine yseq ?_
  refine yregion ?_
  refine yp (pS rfl) ?_
  refine yp (pLen rfl) ?_
  refine yp (pGt rfl rfl) ?_
  refine ynil ?_
  refine tnorm ?_
  by_cases h1 : 60 < (T.length : Int)
  · refine ycondD rfl (fun _ => ?_) (fun h => absurd h1 h)
    refine yseq ?_
    refine yregion ?_
    refine ycons (ycall c27 rfl rfl fun r S' h => ?_)
    obtain ⟨rfl, rfl⟩ := h
    refine yp (pB rfl) ?_
    refine ynil ?_
    refine tnorm ?_
    refine yret ?_
    refine tret ?_
    exact yfin (rB rfl) ⟨_, .of, rfl, rfl⟩
  refine ycondD rfl (fun h => absurd h h1) (fun _ => ?_)
  refine yskip ?_
  refine tnorm ?_
  refine yseq ?_
  refine yregion ?_
  refine ycons (ycall c38 rfl rfl fun r S' h => ?_)
  obtain ⟨db, rfl, rfl⟩ := h
  refine yp (pP rfl) ?_
  refine ynil ?_
  refine tnorm ?_
  refine yseq ?_
  refine yregion ?_
  refine yp pBuild0 ?_
  refine ycons (yboxG rfl fun p23 => ?_)
  refine yp (pP rfl) ?_
  refine ynil ?_
  refine tnorm ?_
  refine yseq ?_
  refine yseq ?_
  refine yregion ?_
  refine yp (pP rfl) ?_
  refine yp (pNilP rfl rfl) ?_
  refine ynil ?_
  refine tnorm ?_
  refine ycondF rfl ?_
  refine yskip ?_
  refine tnorm ?_
  refine yseq ?_
  refine yseq ?_
  refine yregion ?_
  refine yp pC ?_
  refine ynil ?_
  refine tnorm ?_
  refine yblock ?_
  refine yloop (σ := Nat) (fun i E S' => Has E [(0, .slice at0 T.length ct0), (1, .int .i64 at_), (2, .int .i64 stop), (7, .pointer (some ⟨db, 0, none⟩)), (8, .pointer (some ⟨p23, 0, none⟩)), (9, .int .i64 i)] ∧ i ≤ T.length ∧ ∃ (L : List (Int × Int)) (u : Value) (H : List Chunk) (v : Value) (G : List Chunk), L.length ≤ i ∧ Slc 93 u L H ∧ Slc 42 v L G ∧ Junk S' (dseg db u :: H :: mseg p23 v :: G :: S)) (fun i => T.length - i) 0 ⟨⟨rfl, rfl, rfl, rfl, rfl, rfl, trivial⟩, Nat.zero_le _, [], _, [], _, [], Nat.le_refl _, .nil, .nil, .of⟩ fun i E S' ⟨hE, hi, L, u, H, v, G, hl, hD, hM, hJ⟩ => ?_
  obtain ⟨E0, e0⟩ := has_puts hE; subst e0; clear hE
  refine yforget hJ ?_
  refine yseq ?_
  refine yseq ?_
  refine yregion ?_
  refine yp (pI rfl) ?_
  refine yp (pS rfl) ?_
  refine yp (pLen rfl) ?_
  refine yp (pLt rfl rfl) ?_
  refine ynil ?_
  refine tnorm ?_
  refine ycondD rfl (fun h => ?_) (fun h => ?_)
  · have hlt : i < T.length := by omega
    obtain ⟨b, o, ca, ty, fz, rfl, hm', hmem, _, hg⟩ := hT.get (by intro h; simp [h] at hlt)
    have hge := hg i hlt
    generalize T[i] = e at hge
    refine yskip ?_
    refine tnorm ?_
    refine yseq ?_
    refine yblock ?_
    refine yseq ?_
    refine yregion ?_
    refine yp (pS rfl) ?_
    refine yp (pI rfl) ?_
    refine yp (pIxN rfl rfl (by omega)) ?_
    refine ycons (yloadNM (S := dseg db u :: H :: mseg p23 v :: G :: S) (l := enc e) (by repeat (first | exact hmem | apply List.mem_cons_of_mem)) rfl hge rfl ?_)
    refine ycons (yalloc fun p10 => ?_)
    refine ycons (ystAll (c' := enc e) rfl rfl rfl rfl rfl ?_)
    refine ynil ?_
    refine tnorm ?_
    refine ycut (fun E S' => Has E [(0, .slice (some ⟨b, o, none⟩) T.length ct0), (1, .int .i64 at_), (2, .int .i64 stop), (7, .pointer (some ⟨db, 0, none⟩)), (8, .pointer (some ⟨p23, 0, none⟩)), (9, .int .i64 i), (10, .pointer (some ⟨p10, 0, none⟩))] ∧
      ∃ (L : List (Int × Int)) (u : Value) (H : List Chunk) (v : Value) (G : List Chunk), L.length ≤ i + 1 ∧ Slc 93 u L H ∧ Slc 42 v L G ∧ Junk S' ([(p10, .cells (enc e).toArray 58)] :: dseg db u :: H :: mseg p23 v :: G :: S)) ?_ ?_
    · refine yseq ?_
      refine yregion ?_
      refine yp (pFadr rfl) ?_
      refine ycons (yload1 rfl rfl ?_)
      refine ynil ?_
      refine tnorm ?_
      refine yblock ?_
      refine yseq ?_
      refine yregion ?_
      refine yp (pEq rfl rfl) ?_
      refine yp (pB rfl) ?_
      refine ynil ?_
      refine tnorm ?_
      by_cases k1 : e.1 = 1
      · rw [decide_eq_true k1]
        refine ycondT rfl ?_
        refine yseq ?_
        refine yregion ?_
        refine yp (pP rfl) ?_
        refine yp (pFadr rfl) ?_
        refine ycons (yload1 rfl rfl ?_)
        refine yp (pFadr rfl) ?_
        refine ycons (yload1 rfl rfl ?_)
        refine ycons (ycall (c39 (db := db) hD (by omega) e.2.1 e.2.2) rfl rfl fun r S' h => ?_)
        obtain ⟨rfl, u1, H1, hD1, rfl⟩ := h
        refine ynil ?_
        refine tnorm ?_
        refine yregion ?_
        refine yp (pP rfl) ?_
        refine yp (pFadr rfl) ?_
        refine ycons (yload1 rfl rfl ?_)
        refine yp (pFadr rfl) ?_
        refine ycons (yload1 rfl rfl ?_)
        refine ycons (ycall (c17 (mb := p23) hM (by omega) e.2.1 e.2.2) rfl rfl fun r S' h => ?_)
        obtain ⟨rfl, v1, G1, hM1, rfl⟩ := h
        have hdl := dropK_length e.2.1 L
        refine ynil ?_
        refine bnorm ?_
        refine tnorm ?_
        exact ⟨⟨rfl, rfl, rfl, rfl, rfl, rfl, rfl, trivial⟩, _, u1, H1, v1, G1, by rw [List.length_append, List.length_singleton]; omega, hD1, hM1, .of⟩
      rw [decide_eq_false k1]
      refine ycondF rfl ?_
      refine yseq ?_
      refine yregion ?_
      refine yp (pEq rfl rfl) ?_
      refine yp (pB rfl) ?_
      refine ynil ?_
      refine tnorm ?_
      by_cases k3 : e.1 = 3
      · rw [decide_eq_true k3]
        refine ycondT rfl ?_
        refine yseq ?_
        refine ydrawR (R := [[(p10, .cells (enc e).toArray 58)]]) (by simp) ?_
        refine ytq (pP rfl) ?_
        refine ytq (pFadr rfl) ?_
        refine ytl1 rfl rfl ?_
        refine ytq (pP rfl) ?_
        refine ytq (pFadr rfl) ?_
        refine ytl1 rfl rfl ?_
        refine ytaltC (ycall (c40 (db := db) hD (by omega) e.2.1) rfl rfl fun r S' h => ?_) ytno
        obtain ⟨rfl, u1, H1, hD1, rfl⟩ := h
        refine ⟨by simp, ?_⟩
        refine ytalt (ycall (c19 (mb := p23) hM (by omega) e.2.1) rfl rfl fun r S' h => ?_) ytno
        obtain ⟨rfl, v1, G1, hM1, rfl⟩ := h
        refine ytq (pNeB rfl rfl) ?_
        rw [show (!(hasK e.2.1 L == hasK e.2.1 L)) = false from by simp]
        have hdl := dropK_length e.2.1 L
        refine ytdone ?_
        refine tnorm ?_
        refine ycondF rfl ?_
        refine yskip ?_
        refine bnorm ?_
        refine tnorm ?_
        exact ⟨⟨rfl, rfl, rfl, rfl, rfl, rfl, rfl, trivial⟩, _, u1, H1, v1, G1, by omega, hD1, hM1, .of⟩
      · rw [decide_eq_false k3]
        refine ycondF rfl ?_
        refine yskip ?_
        refine bnorm ?_
        refine tnorm ?_
        exact ⟨⟨rfl, rfl, rfl, rfl, rfl, rfl, rfl, trivial⟩, L, u, H, v, G, by omega, hD, hM, .of⟩
    rintro E S' ⟨hE, L, u, H, v, G, hl, hD, hM, hJ⟩
    obtain ⟨E0, e0⟩ := has_puts hE; subst e0; clear hE
    refine yforget hJ ?_
    refine yseq ?_
    refine yregion ?_
    refine yp (pP rfl) ?_
    refine yp (pFadr rfl) ?_
    refine ycons (yload1 rfl rfl ?_)
    refine ycons (ycall (c41 (db := db) hD (by omega) e.2.1) rfl rfl fun r S' h => ?_)
    obtain ⟨rfl, rfl⟩ := h
    refine yp (pU rfl) ?_
    refine yp (pExt rfl rfl) ?_
    refine yp (pExt rfl rfl) ?_
    refine yp (pI rfl) ?_
    refine yp (pB rfl) ?_
    refine ynil ?_
    refine tnorm ?_
    refine yseq ?_
    refine yregion ?_
    refine yp (pP rfl) ?_
    refine yp (pFadr rfl) ?_
    refine ycons (yload1 rfl rfl ?_)
    refine ycons (ycall (c16 (mb := p23) hM (by omega) e.2.1) rfl rfl fun r S' h => ?_)
    obtain ⟨rfl, rfl⟩ := h
    generalize (atK e.2.1 L).getD 0 = w
    generalize hasK e.2.1 L = hb
    obtain ⟨av, cv, rfl⟩ := hM.isSlice
    refine yp (pU rfl) ?_
    refine yp (pExt rfl rfl) ?_
    refine yp (pExt rfl rfl) ?_
    refine yp (pI rfl) ?_
    refine yp (pB rfl) ?_
    refine ynil ?_
    refine tnorm ?_
    refine yseq ?_
    refine ydraw ?_
    refine ytq (pI rfl) ?_
    refine ytq (pI rfl) ?_
    refine ytq (pNe rfl rfl) ?_
    refine ytq (pB rfl) ?_
    rw [decide_eq_true (rfl : w = w)]
    refine ytgT rfl ?_
    refine ytq (pB rfl) ?_
    refine ytgT rfl ?_
    refine ytq (pB rfl) ?_
    refine ytgT rfl ?_
    refine ytq (pNeB rfl rfl) ?_
    refine ytq (pPickF rfl rfl) ?_
    refine ytq (pB rfl) ?_
    rw [show (!(hb == hb)) = false from by simp]
    refine ytgT rfl ?_
    refine ytq (pP rfl) ?_
    refine ytgT rfl ?_
    refine ytq (pP rfl) ?_
    refine ytgT rfl ?_
    refine ytq (pNilc rfl) ?_
    refine ytgT rfl ?_
    refine ytq (pFadr rfl) ?_
    refine ytgT rfl ?_
    refine ytl1 rfl rfl ?_
    refine ytgT rfl ?_
    refine ytq (pLen rfl) ?_
    refine ytaltT rfl ?_ ytno
    refine ytaltC (ycall (c42 (db := db) hD) rfl rfl fun r S' h => ?_) ytno
    obtain ⟨rfl, rfl⟩ := h
    refine ⟨by intro s hs; simp at hs ⊢; rcases hs with h | h | h | h | h | h <;> simp [h], ?_⟩
    refine ytgT rfl ?_
    refine ytq (pNe rfl rfl) ?_
    refine ytq (pPickF rfl rfl) ?_
    refine ytdone ?_
    refine tnorm ?_
    rw [decide_eq_true (rfl : (L.length : Int) = L.length)]
    refine ycondF rfl ?_
    refine yskip ?_
    refine bnorm ?_
    refine tnorm ?_
    refine yregion ?_
    refine yp (pI rfl) ?_
    refine yp (pInc rfl rfl (by omega)) ?_
    refine yp (pI rfl) ?_
    refine ynil ?_
    refine tnorm ?_
    exact ⟨i + 1, ⟨⟨rfl, rfl, rfl, rfl, rfl, rfl, trivial⟩, by omega, L, u, H, _, G, hl, hD, hM, .of⟩, by omega⟩
  · refine yexit ?_
    refine texit ?_
    refine texit ?_
    refine bexit ?_
    refine tnorm ?_
    refine yseq ?_
    refine yregion ?_
    refine yp (pP rfl) ?_
    refine yp (pI rfl) ?_
    refine ycons (ycall (c21 (mb := p23) hM (by omega) at_) rfl rfl fun r S' h => ?_)
    obtain ⟨Ho, hO, rfl⟩ := h
    have hul := upto_length at_ L
    generalize hU : upto at_ L = U at hO hul
    obtain ⟨ao, co, rfl⟩ := hO.isSlice
    refine yp (pS rfl) ?_
    refine ynil ?_
    refine tnorm ?_
    refine yseq ?_
    refine yregion ?_
    refine yp (pI rfl) ?_
    refine yp (pS rfl) ?_
    refine yp (pLen rfl) ?_
    refine yp (pInc rfl rfl (by omega)) ?_
    refine ycons (ycall (c26 stop ((U.length + 1 : Nat) : Int) (by omega)) rfl rfl fun r S' h => ?_)
    obtain ⟨rfl, rfl⟩ := h
    have hr := round_lt stop ((U.length + 1 : Nat) : Int) (by omega)
    generalize round stop ((U.length + 1 : Nat) : Int) = k0 at hr
    obtain ⟨k, rfl⟩ := Int.eq_ofNat_of_zero_le hr.1
    refine yp (pI rfl) ?_
    refine ynil ?_
    refine tnorm ?_
    refine yseq ?_
    refine ydraw ?_
    refine ytq (pP rfl) ?_
    refine ytq (pI rfl) ?_
    refine ytq (pS rfl) ?_
    refine ytalt (ycall (c44 (db := db) hD (by omega) at_ (-1)) rfl rfl fun r S' h => ?_) ytno
    obtain ⟨Hp, hP, rfl⟩ := h
    rw [show firstP (-1) (upto at_ L) = U from by simp [firstP, hU]] at hP
    obtain ⟨ap, cp, rfl⟩ := hP.isSlice
    refine ytalt (ycall (c43 (S := [Hp, Ho]) (hP.src (by simp)) (hO.src (by simp)) (by omega)) rfl rfl fun r S' h => ?_) ytno
    obtain ⟨rfl, rfl⟩ := h
    rw [decide_eq_true (rfl : U = U)]
    refine ytq (pB rfl) ?_
    refine ytgT rfl ?_
    refine ytq (pI rfl) ?_
    refine ytgT rfl ?_
    refine ytq (pEq rfl rfl) ?_
    refine ytgT rfl ?_
    refine ytq (pB rfl) ?_
    by_cases hk : (k : Int) = 0
    · rw [decide_eq_true hk]
      refine ytgF rfl ?_
      refine ytgF rfl ?_
      refine ytgF rfl ?_
      refine ytgF rfl ?_
      refine ytgF rfl ?_
      refine ytgF rfl ?_
      refine ytaltF rfl ?_ ytno
      refine ytaltF rfl ?_ ytno
      refine ytgT rfl ?_
      refine ytq (pPickT rfl rfl) ?_
      refine ytq (pPickT rfl rfl) ?_
      refine ytq (pB rfl) ?_
      refine ytaltT rfl ?_ ytno
      refine ytalt (ycall c27 rfl rfl fun r S' h => ?_) ytno
      obtain ⟨rfl, rfl⟩ := h
      refine ytq (pPickT rfl rfl) ?_
      refine ytq (pB rfl) ?_
      refine ytdone ?_
      refine tnorm ?_
      refine yret ?_
      exact yfin (rB rfl) ⟨_, .of, rfl, rfl⟩
    · rw [decide_eq_false hk]
      obtain ⟨b2, sp2, fz2, hz2, rfl, _, rfl, rfl⟩ := hO.at' (by intro h; rw [h] at hr; simp at hr; omega)
      refine ytgT rfl ?_
      refine ytq (pP rfl) ?_
      refine ytgT rfl ?_
      refine ytq (pI rfl) ?_
      refine ytgT rfl ?_
      refine ytq (pI rfl) ?_
      refine ytgT rfl ?_
      refine ytq (pS rfl) ?_
      refine ytgT rfl ?_
      refine ytq (pI rfl) ?_
      refine ytgT rfl ?_
      refine ytq (pSlTo rfl rfl (by omega)) ?_
      refine ytaltT rfl ?_ ytno
      refine ytalt (ycall (c44 (db := db) hD (by omega) at_ (k : Int)) rfl rfl fun r S' h => ?_) ytno
      obtain ⟨Hq, hQ, rfl⟩ := h
      rw [show firstP (k : Int) (upto at_ L) = U.take k from by rw [firstP, if_pos (by omega), hU]; rfl] at hQ
      obtain ⟨aq, cq, rfl⟩ := hQ.isSlice
      refine ytaltT rfl ?_ ytno
      refine ytalt (ycall (c43 (S := [Hq, [(b2, .cells (cells (U ++ sp2)).toArray 42 fz2)]]) (hQ.src (by simp)) (Src.head (b := b2) (L := U) (sp := sp2) (ty := 42) (fz := fz2) (j := k) (by simp) (by omega)) (by rw [List.length_take]; omega)) rfl rfl fun r S' h => ?_) ytno
      obtain ⟨rfl, rfl⟩ := h
      rw [decide_eq_true (rfl : U.take k = U.take k)]
      refine ytgT rfl ?_
      refine ytq (pPickF rfl rfl) ?_
      refine ytq (pPickT rfl rfl) ?_
      refine ytq (pB rfl) ?_
      refine ytaltT rfl ?_ ytno
      refine ytalt (ycall c27 rfl rfl fun r S' h => ?_) ytno
      obtain ⟨rfl, rfl⟩ := h
      refine ytq (pPickT rfl rfl) ?_
      refine ytq (pB rfl) ?_
      refine ytdone ?_
      refine tnorm ?_
      refine yret ?_
      exact yfin (rB rfl) ⟨_, .of, rfl, rfl⟩
end Go.Proofs.Ytmgiamagocefcaa
