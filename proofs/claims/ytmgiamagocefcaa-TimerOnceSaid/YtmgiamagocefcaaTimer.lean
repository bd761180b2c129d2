/- The timers (chapter 16): contracts of their functions. -/
import Derived.Test.YtmgiamagocefcaaLists
namespace Go.Proofs.Ytmgiamagocefcaa
open Go.Xs
open Enc (enc)

theorem agg40 : isAgg? Try.prog 40 = some false := by kernel_rfl
theorem agg3 : isAgg? Try.prog 3 = some false := by kernel_rfl
theorem agg4 : isAgg? Try.prog 4 = some false := by kernel_rfl

/-- timers: their room, and the Due's pointer -/
abbrev tseg (tb : Nat) (most : Int) (db : Nat) : List Chunk := [(tb, .cells #[.int .i64 most, .pointer (some ⟨db, 0, none⟩)] 78)]
abbrev dseg (db : Nat) (v : Value) : List Chunk := [(db, .cells #[v] 91)]

theorem c15 (most : Int) : Tri Try.prog 15 #[.int .i64 most] [] (fun r S => ∃ tb db, r = .pointer (some ⟨tb, 0, none⟩) ∧ S = [tseg tb (max most 0) db, dseg db (.slice none 0 0)]) := by
  refine Tri.forget (ycallee Try.fx15 (Nat.le_of_ble_eq_true rfl) ?_)
  unfold Try.x15
  refine yseq ?_
  refine yregion ?_
  refine yp pC ?_
  refine ynil ?_
  refine tnorm ?_
  refine yseq ?_
  refine yregion ?_
  refine yp (pI rfl) ?_
  refine yp (v := .int .i64 (max most 0)) ?_ ?_
  · simp only [pstep, xints, ev, asI]
    have : (if (0 : Int) > most then (0 : Int) else most) = max most 0 := by split <;> omega
    show some (Value.int .i64 (if (0 : Int) > most then 0 else most)) = _
    rw [this]
  refine ycons (ycall c38 rfl rfl fun r S' h => ?_)
  obtain ⟨db, rfl, rfl⟩ := h
  refine yp (pBuild2 (scI rfl) (scP rfl)) ?_
  refine ycons (yboxG rfl fun p7 => ?_)
  refine yp (pP rfl) ?_
  refine ynil ?_
  refine tnorm ?_
  refine yret ?_
  exact yfin (rP rfl) ⟨_, .of, _, db, rfl, rfl⟩

theorem c25 {tb db : Nat} {most : Int} {v : Value} {L : List (Int × Int)} {H : List Chunk} (hL : Slc 93 v L H) :
    Tri Try.prog 25 #[.pointer (some ⟨tb, 0, none⟩)] [tseg tb most db, dseg db v, H] (fun r S => r = .int .i64 L.length ∧ S = [tseg tb most db, dseg db v, H]) := by
  refine Tri.forget (ycallee Try.fx25 (Nat.le_of_ble_eq_true rfl) ?_)
  unfold Try.x25
  refine yseq ?_
  refine yregion ?_
  refine yp pC ?_
  refine ynil ?_
  refine tnorm ?_
  refine yseq ?_
  refine yseq ?_
  refine yregion ?_
  refine yp (pP rfl) ?_
  refine yp (pNilP rfl rfl) ?_
  refine ynil ?_
  refine tnorm ?_
  refine ycondF rfl ?_
  refine yskip ?_
  refine tnorm ?_
  refine yseq ?_
  refine yregion ?_
  refine yp (pP rfl) ?_
  refine yp (pNilc rfl) ?_
  refine yp (pFadr rfl) ?_
  refine ycons (yload1 rfl rfl ?_)
  refine ycons (ycall (c42 hL) rfl rfl fun r S' h => ?_)
  obtain ⟨rfl, rfl⟩ := h
  refine yp (pI rfl) ?_
  refine ynil ?_
  refine tnorm ?_
  refine yret ?_
  exact yfin (rI rfl) ⟨_, .of, rfl, rfl⟩

def dropR (k : Int) (L : List (Int × Int)) : Int := if hasK k L then 0 else 5
theorem c20 {tb db : Nat} {most : Int} {v : Value} {L : List (Int × Int)} {H : List Chunk} (hL : Slc 93 v L H) (hlen : L.length < 2 ^ 40) (k : Int) :
    Tri Try.prog 20 #[.pointer (some ⟨tb, 0, none⟩), .int .i64 k] [tseg tb most db, dseg db v, H] (fun r S => r = .int .i64 (dropR k L) ∧ ∃ v' H', Slc 93 v' (dropK k L) H' ∧ S = [tseg tb most db, dseg db v', H']) := by
  refine Tri.forget (ycallee Try.fx20 (Nat.le_of_ble_eq_true rfl) ?_)
  unfold Try.x20
  refine yseq ?_
  refine yregion ?_
  refine yp pC ?_
  refine ynil ?_
  refine tnorm ?_
  refine yseq ?_
  refine yseq ?_
  refine yregion ?_
  refine yp (pP rfl) ?_
  refine yp (pNilP rfl rfl) ?_
  refine yp (pB rfl) ?_
  refine ygT rfl ?_
  refine yop (pP rfl) ?_
  refine ygT rfl ?_
  refine yop (pNilc rfl) ?_
  refine ygT rfl ?_
  refine yop (pFadr rfl) ?_
  refine ygT rfl ?_
  refine (yload1 rfl rfl ?_)
  refine ygT rfl ?_
  refine yop (pI rfl) ?_
  refine ygT rfl ?_
  refine ycall (c40 hL hlen k) rfl rfl fun r S' h => ?_
  obtain ⟨rfl, v1, H1, hL1, rfl⟩ := h
  refine ygT rfl ?_
  refine yop (pNot rfl) ?_
  refine yp (pPickF rfl rfl) ?_
  refine ynil ?_
  refine tnorm ?_
  unfold dropR
  cases hasK k L with
  | true =>
    refine ycondF rfl ?_
    refine yskip ?_
    refine tnorm ?_
    refine yseq ?_
    refine yregion ?_
    refine yp pC ?_
    refine ynil ?_
    refine tnorm ?_
    refine yret ?_
    exact yfin (rI rfl) ⟨_, .of, rfl, _, _, hL1, rfl⟩
  | false =>
    refine ycondT rfl ?_
    refine yseq ?_
    refine yregion ?_
    refine yp pC ?_
    refine ynil ?_
    refine tnorm ?_
    refine yret ?_
    refine tret ?_
    exact yfin (rI rfl) ⟨_, .of, rfl, _, _, hL1, rfl⟩

/-- what Set makes of the list -/
def setK (most : Int) (k t : Int) (L : List (Int × Int)) : List (Int × Int) := if hasK k L = false ∧ most ≤ L.length then L else dropK k L ++ [(k, t)]

def setR (most : Int) (k : Int) (L : List (Int × Int)) : Int := if hasK k L = false ∧ most ≤ L.length then 4 else 0

theorem c18 {tb db : Nat} {most : Int} {v : Value} {L : List (Int × Int)} {H : List Chunk} (hL : Slc 93 v L H) (hlen : L.length < 2 ^ 40 - 1) (k t : Int) :
    Tri Try.prog 18 #[.pointer (some ⟨tb, 0, none⟩), .int .i64 k, .int .i64 t] [tseg tb most db, dseg db v, H] (fun r S => r = .int .i64 (setR most k L) ∧ ∃ v' H', Slc 93 v' (setK most k t L) H' ∧ S = [tseg tb most db, dseg db v', H']) := by
  refine Tri.forget (ycallee Try.fx18 (Nat.le_of_ble_eq_true rfl) ?_)
  unfold Try.x18
  refine yseq ?_
  refine yregion ?_
  refine yp pC ?_
  refine ynil ?_
  refine tnorm ?_
  refine yseq ?_
  refine yseq ?_
  refine yregion ?_
  refine yp (pP rfl) ?_
  refine yp (pNilP rfl rfl) ?_
  refine ynil ?_
  refine tnorm ?_
  refine ycondF rfl ?_
  refine yskip ?_
  refine tnorm ?_
  refine yseq ?_
  refine yseq ?_
  refine yregion ?_
  refine yp (pP rfl) ?_
  refine yp (pNilc rfl) ?_
  refine yp (pFadr rfl) ?_
  refine ycons (yload1 rfl rfl ?_)
  refine yp (pI rfl) ?_
  refine ycons (ycall (c41 hL (by omega) k) rfl rfl fun r S' h => ?_)
  obtain ⟨rfl, rfl⟩ := h
  refine yp (pU rfl) ?_
  refine yp (pExt rfl rfl) ?_
  refine yp (pExt rfl rfl) ?_
  refine yp (pI rfl) ?_
  refine yp (pB rfl) ?_
  refine ynil ?_
  refine tnorm ?_
  refine yseq ?_
  refine ydraw ?_
  refine ytq (pB rfl) ?_
  refine ytq (pNot rfl) ?_
  refine ytq (pB rfl) ?_
  have hset : ∀ (E : Env), ev E (.const (.int .i64 0)) = .int .i64 0 := fun _ => rfl
  cases hk : hasK k L with
  | true =>
    simp only [Bool.true_eq_false, false_and, if_false, setK, setR, hk]
    refine ytgF rfl ?_
    refine ytgF rfl ?_
    refine ytgF rfl ?_
    refine ytgF rfl ?_
    refine ytgF rfl ?_
    refine ytaltF rfl ?_ ytno
    refine ytgF rfl ?_
    refine ytq (pPickF rfl rfl) ?_
    refine ytdone ?_
    refine tnorm ?_
    refine ycondF rfl ?_
    refine yskip ?_
    refine tnorm ?_
    refine yseq ?_
    refine yregion ?_
    refine yp (pP rfl) ?_
    refine yp (pNilc rfl) ?_
    refine yp (pFadr rfl) ?_
    refine ycons (yload1 rfl rfl ?_)
    refine yp (pI rfl) ?_
    refine yp (pI rfl) ?_
    refine ycons (ycall (c39 hL hlen k t) rfl rfl fun r S' h => ?_)
    obtain ⟨rfl, v1, H1, hL1, rfl⟩ := h
    refine ynil ?_
    refine tnorm ?_
    refine yseq ?_
    refine yregion ?_
    refine yp pC ?_
    refine ynil ?_
    refine tnorm ?_
    refine yret ?_
    exact yfin (rI rfl) ⟨_, .of, rfl, _, _, hL1, rfl⟩
  | false =>
    simp only [true_and, setK, setR, hk]
    refine ytgT rfl ?_
    refine ytq (pP rfl) ?_
    refine ytgT rfl ?_
    refine ytq (pP rfl) ?_
    refine ytgT rfl ?_
    refine ytq (pNilc rfl) ?_
    refine ytgT rfl ?_
    refine ytq (pFadr rfl) ?_
    refine ytgT rfl ?_
    refine ytl1 rfl rfl ?_
    refine ytaltT rfl ?_ ytno
    refine ytaltC (ycall (c25 (tb := tb) (most := most) (db := db) hL) rfl rfl fun r S' h => ?_) ytno
    obtain ⟨rfl, rfl⟩ := h
    refine ⟨by simp, ?_⟩
    refine ytgT rfl ?_
    refine ytq (pGe rfl rfl) ?_
    refine ytq (pPickT rfl rfl) ?_
    refine ytdone ?_
    refine tnorm ?_
    refine ycondD rfl (fun h => ?_) (fun h => ?_)
    · rw [if_pos h, if_pos h]
      refine yseq ?_
      refine yregion ?_
      refine yp pC ?_
      refine ynil ?_
      refine tnorm ?_
      refine yret ?_
      refine tret ?_
      exact yfin (rI rfl) ⟨_, .of, rfl, _, _, hL, rfl⟩
    · rw [if_neg h, if_neg h]
      refine yskip ?_
      refine tnorm ?_
      refine yseq ?_
      refine yregion ?_
      refine yp (pP rfl) ?_
      refine yp (pNilc rfl) ?_
      refine yp (pFadr rfl) ?_
      refine ycons (yload1 rfl rfl ?_)
      refine yp (pI rfl) ?_
      refine yp (pI rfl) ?_
      refine ycons (ycall (c39 hL hlen k t) rfl rfl fun r S' h => ?_)
      obtain ⟨rfl, v1, H1, hL1, rfl⟩ := h
      refine ynil ?_
      refine tnorm ?_
      refine yseq ?_
      refine yregion ?_
      refine yp pC ?_
      refine ynil ?_
      refine tnorm ?_
      refine yret ?_
      exact yfin (rI rfl) ⟨_, .of, rfl, _, _, hL1, rfl⟩

theorem c18n (k t : Int) : Tri Try.prog 18 #[.pointer none, .int .i64 k, .int .i64 t] [] (fun r S => r = .int .i64 4 ∧ S = []) := by
  refine Tri.forget (ycallee Try.fx18 (Nat.le_of_ble_eq_true rfl) ?_)
  unfold Try.x18
  refine yseq ?_
  refine yregion ?_
  refine yp pC ?_
  refine ynil ?_
  refine tnorm ?_
  refine yseq ?_
  refine yseq ?_
  refine yregion ?_
  refine yp (pP rfl) ?_
  refine yp (pNilP rfl rfl) ?_
  refine ynil ?_
  refine tnorm ?_
  refine ycondT rfl ?_
  refine yseq ?_
  refine yregion ?_
  refine yp pC ?_
  refine ynil ?_
  refine tnorm ?_
  refine yret ?_
  refine tret ?_
  exact yfin (rI rfl) ⟨_, .of, rfl, rfl⟩

/-- Next -/
theorem c24 {tb db : Nat} {most : Int} {v : Value} {L : List (Int × Int)} {H : List Chunk} (hL : Slc 93 v L H) (hlen : L.length < 2 ^ 38) (hmax : ∀ e ∈ L, e.2 ≤ 9223372036854775807) :
    Tri Try.prog 24 #[.pointer (some ⟨tb, 0, none⟩)] [tseg tb most db, dseg db v, H] (fun r S => r = .tuple #[.int .i64 (((isort byAt L).head?.map (·.2)).getD 0), .bool (isort byAt L).head?.isSome] ∧ S = [tseg tb most db, dseg db v, H]) := by
  have hup : upto 9223372036854775807 L = isort byAt L := by
    refine List.filter_eq_self.2 fun e he => decide_eq_true ?_
    exact hmax e (((isort_SS L).mem e).1 he)
  refine Tri.forget (ycallee Try.fx24 (Nat.le_of_ble_eq_true rfl) ?_)
  unfold Try.x24
  refine yseq ?_
  refine yregion ?_
  refine ycons (yalloc fun p2 => ?_)
  refine ycons (yalloc fun p3 => ?_)
  refine ynil ?_
  refine tnorm ?_
  refine yseq ?_
  refine yseq ?_
  refine yregion ?_
  refine yp (pP rfl) ?_
  refine yp (pNilP rfl rfl) ?_
  refine ynil ?_
  refine tnorm ?_
  refine ycondF rfl ?_
  refine yskip ?_
  refine tnorm ?_
  refine yseq ?_
  refine yseq ?_
  refine yregion ?_
  refine yp (pP rfl) ?_
  refine yp (pNilc rfl) ?_
  refine yp (pFadr rfl) ?_
  refine ycons (yload1 rfl rfl ?_)
  refine ycons (ycall c45 rfl rfl fun r S' h => ?_)
  obtain ⟨bd, ba, rfl, rfl⟩ := h
  refine ynil ?_
  refine tnorm ?_
  refine yblock ?_
  refine yrange (fun pre T => pre = [] ∧ Junk T [tseg tb most db, dseg db v, H, [(p2, .cells #[.int .i64 0] 3)], [(p3, .cells #[.bool false] 4)]])
    (fun e pre T => e = .ret ∧ ∃ x, (isort byAt L).head? = some x ∧ Junk T [tseg tb most db, dseg db v, H, [(p2, .cells #[.int .i64 x.2] 3)], [(p3, .cells #[.bool true] 4)]])
    rfl rfl (it55 (db := db) (S0 := [tseg tb most db, [(p2, .cells #[.int .i64 0] 3)], [(p3, .cells #[.bool false] 4)]]) hL hlen 9223372036854775807) ⟨rfl, .of⟩ ?_ ?_ ?_ ?_
  · rw [hup]
    intro pre x hx
    have : x ∈ (isort byAt L).map pv := hx.subset (by simp)
    obtain ⟨e, _, rfl⟩ := List.mem_map.1 this
    rfl
  · rintro l pre x T hx ⟨rfl, hJ⟩
    rw [hup] at hx
    have hx' : (isort byAt L).head?.map pv = some x := by
      cases hh : isort byAt L with
      | nil => rw [hh] at hx; simp at hx
      | cons y R =>
        rw [hh] at hx
        obtain ⟨t, ht⟩ := hx
        have h1 : x :: t = pv y :: R.map pv := ht
        rw [(List.cons.inj h1).1]
        rfl
    obtain ⟨e, he, rfl⟩ := Option.map_eq_some_iff.1 hx'
    refine yforget hJ ?_
    refine yregion ?_
    refine yp (pI rfl) ?_
    refine ynil ?_
    refine tnorm ?_
    refine yblock ?_
    refine yseq ?_
    refine yregion ?_
    refine yp (pI rfl) ?_
    refine ycons (yst1_0 rfl rfl (scI rfl) ?_)
    refine ycons (yst1_0 rfl rfl (scB rfl) ?_)
    refine ynil ?_
    refine tnorm ?_
    refine yret ?_
    refine bret ?_
    exact ⟨rfl, e, he, .of⟩
  · rintro xs S' hd ⟨rfl, hJ⟩
    rw [hup] at hd
    have hn : isort byAt L = [] := List.map_eq_nil_iff.1 hd.symm
    rw [hn]
    refine bnorm (tnorm ?_)
    refine yforget hJ ?_
    refine yseq ?_
    refine yregion ?_
    refine ycons (yst1_0 rfl rfl (scI rfl) ?_)
    refine ycons (yst1_0 rfl rfl (scB rfl) ?_)
    refine ynil ?_
    refine tnorm ?_
    refine yret ?_
    exact yfin (resL2 (rvC agg3 rfl) (rvC agg4 rfl)) ⟨_, .of, rfl, rfl⟩
  · rintro e pre S' _ ⟨rfl, x, hx, hJ⟩
    rw [hx]
    refine bret ?_
    refine tret ?_
    exact yfin (resForget hJ (resL2 (rvC agg3 rfl) (rvC agg4 rfl))) ⟨_, hJ.trans .of, rfl, rfl⟩

theorem c24e {tb db : Nat} {most : Int} {v : Value} {L : List (Int × Int)} {H : List Chunk} (hL : Slc 93 v L H) (hlen : L.length < 2 ^ 38) (hmax : ∀ e ∈ L, e.2 ≤ 9223372036854775807) {R : List (Int × Int)} (hR : isort byAt L = R) :
    Tri Try.prog 24 #[.pointer (some ⟨tb, 0, none⟩)] [tseg tb most db, dseg db v, H] (fun r S => r = .tuple #[.int .i64 ((R.head?.map (·.2)).getD 0), .bool R.head?.isSome] ∧ S = [tseg tb most db, dseg db v, H]) := by
  subst hR; exact c24 hL hlen hmax

def dropAll (ks : List Int) (L : List (Int × Int)) : List (Int × Int) := ks.foldl (fun L k => dropK k L) L
theorem dropAll_length (ks : List Int) (L : List (Int × Int)) : (dropAll ks L).length ≤ L.length := by
  induction ks generalizing L with
  | nil => exact Nat.le_refl _
  | cons k ks ih => exact Nat.le_trans (ih _) (dropK_length k L)
theorem dropAll_snoc (ks : List Int) (k : Int) (L : List (Int × Int)) : dropAll (ks ++ [k]) L = dropK k (dropAll ks L) := by simp [dropAll]
def keyOf (x : Array Value) : Int := match x.toList with | .int _ a :: _ => a | _ => 0
theorem keyOf_pv (e : Int × Int) : keyOf (pv e) = e.1 := rfl

theorem c23 {tb db : Nat} {most : Int} {v : Value} {L : List (Int × Int)} {H : List Chunk} (hL : Slc 93 v L H) (hlen : L.length < 2 ^ 38) (now : Int) :
    Tri Try.prog 23 #[.pointer (some ⟨tb, 0, none⟩), .int .i64 now] [tseg tb most db, dseg db v, H] (fun r S => ∃ Ho v' H', Slc 3 r ((upto now L).map (·.1)) Ho ∧ Slc 93 v' (dropAll ((upto now L).map (·.1)) L) H' ∧ S = [Ho, tseg tb most db, dseg db v', H']) := by
  have hul : (upto now L).length ≤ L.length := by
    have h1 : (isort byAt L).length = L.length := (isort_perm (key := byAt) L).length_eq
    rw [← h1]; exact List.length_filter_le _ _
  refine Tri.forget (ycallee Try.fx23 (Nat.le_of_ble_eq_true rfl) ?_)
  unfold Try.x23
  refine yseq ?_
  refine yregion ?_
  refine ycons (ybx (scP rfl) fun p2 => ?_)
  refine ycons (yalloc fun p4 => ?_)
  refine ynil ?_
  refine tnorm ?_
  refine yseq ?_
  refine yseq ?_
  refine yregion ?_
  refine ycons (yload1 rfl rfl ?_)
  refine yp (pNilP rfl rfl) ?_
  refine ynil ?_
  refine tnorm ?_
  refine ycondF rfl ?_
  refine yskip ?_
  refine tnorm ?_
  refine yseq ?_
  refine yseq ?_
  refine yregion ?_
  refine ycons (yload1 rfl rfl ?_)
  refine yp (pNilc rfl) ?_
  refine yp (pFadr rfl) ?_
  refine ycons (yload1 rfl rfl ?_)
  refine yp (pI rfl) ?_
  refine ycons (ycall c45 rfl rfl fun r S' h => ?_)
  obtain ⟨bd, ba, rfl, rfl⟩ := h
  refine ynil ?_
  refine tnorm ?_
  refine yblock ?_
  refine yrange (fun pre T => pre <+: (upto now L).map pv ∧ ∃ vo Ho v' H', Slc 3 vo (pre.map keyOf) Ho ∧ Slc 93 v' (dropAll (pre.map keyOf) L) H' ∧ Junk T [tseg tb most db, dseg db v', H', [(p2, .cells #[.pointer (some ⟨tb, 0, none⟩)] 24)], [(p4, .cells #[vo] 40)], Ho])
    (fun e pre T => False)
    rfl rfl (it55 (db := db) (S0 := [tseg tb most db, [(p2, .cells #[.pointer (some ⟨tb, 0, none⟩)] 24)], [(p4, .cells #[.slice none 0 0] 40)]]) hL hlen now) ⟨List.nil_prefix, _, [], _, H, .nil, hL, .of⟩ ?_ ?_ ?_ ?_
  · intro pre x hx
    have : x ∈ (upto now L).map pv := hx.subset (by simp)
    obtain ⟨e, _, rfl⟩ := List.mem_map.1 this
    rfl
  · rintro l pre x T hx ⟨_, vo, Ho, v1, H1, hLo, hL1, hJ⟩
    have : x ∈ (upto now L).map pv := hx.subset (by simp)
    obtain ⟨e, _, rfl⟩ := List.mem_map.1 this
    have hpl := hx.length_le
    simp only [List.length_append, List.length_map, List.length_singleton] at hpl
    have hdl := dropAll_length (pre.map keyOf) L
    refine yforget hJ ?_
    obtain ⟨a, c, rfl⟩ := hLo.isSlice
    refine yregion ?_
    refine yp (pI rfl) ?_
    refine ynil ?_
    refine tnorm ?_
    refine yblock ?_
    refine yseq ?_
    refine yregion ?_
    refine ycons (yload1 rfl rfl ?_)
    refine yp (pI rfl) ?_
    refine ycons (ybsl1 (e.1) rfl rfl (by decide) (by decide) rfl fun p18 => ?_)
    refine ycons (yapp (Y := [e.1]) rfl rfl hLo (.lit (by repeat (first | exact List.mem_cons_self | apply List.mem_cons_of_mem)) rfl) rfl 0 rfl (by simp; omega) (by simp; omega) fun v2 H2 hL2 => ?_)
    obtain ⟨a2, c2, rfl⟩ := hL2.isSlice
    refine ycons (yst1_0 rfl rfl (scS rfl) ?_)
    refine ynil ?_
    refine tnorm ?_
    refine yregion ?_
    refine ycons (yload1 rfl rfl ?_)
    refine yp (pNilc rfl) ?_
    refine yp (pFadr rfl) ?_
    refine ycons (yload1 rfl rfl ?_)
    refine yp (pI rfl) ?_
    refine ycons (ycall (c40 hL1 (by omega) e.1) rfl rfl fun r S' h => ?_)
    obtain ⟨rfl, v3, H3, hL3, rfl⟩ := h
    refine ynil ?_
    refine bnorm ?_
    refine ⟨hx, .slice a2 (List.map keyOf pre ++ [e.1]).length c2, H2, v3, H3, ?_, ?_, .of⟩
    · rw [List.map_append]; exact hL2
    · rw [List.map_append]
      show Slc 93 v3 (dropAll (pre.map keyOf ++ [e.1]) L) H3
      rw [dropAll_snoc]; exact hL3
  · rintro xs S' hd ⟨_, vo, Ho, v1, H1, hLo, hL1, hJ⟩
    have hm : xs.map keyOf = (upto now L).map (·.1) := by
      rw [hd, List.map_map]; rfl
    rw [hm] at hLo hL1
    refine bnorm (tnorm ?_)
    refine yforget hJ ?_
    obtain ⟨a, c, rfl⟩ := hLo.isSlice
    refine yseq ?_
    refine yregion ?_
    refine ycons (yload1 rfl rfl ?_)
    refine ycons (yst1_0 rfl rfl (scS rfl) ?_)
    refine ynil ?_
    refine tnorm ?_
    refine yret ?_
    exact yfin (resL1 (rvC agg40 rfl)) ⟨_, .of, _, _, _, hLo, hL1, rfl⟩
  · rintro e pre S' _ h
    exact h.elim
theorem c23n (now : Int) : Tri Try.prog 23 #[.pointer none, .int .i64 now] [] (fun r S => r = .slice none 0 0 ∧ S = []) := by
  refine Tri.forget (ycallee Try.fx23 (Nat.le_of_ble_eq_true rfl) ?_)
  unfold Try.x23
  refine yseq ?_
  refine yregion ?_
  refine ycons (ybx (scP rfl) fun p2 => ?_)
  refine ycons (yalloc fun p4 => ?_)
  refine ynil ?_
  refine tnorm ?_
  refine yseq ?_
  refine yseq ?_
  refine yregion ?_
  refine ycons (yload1 rfl rfl ?_)
  refine yp (pNilP rfl rfl) ?_
  refine ynil ?_
  refine tnorm ?_
  refine ycondT rfl ?_
  refine yseq ?_
  refine yregion ?_
  refine ycons (yst1_0 rfl rfl (scS rfl) ?_)
  refine ynil ?_
  refine tnorm ?_
  refine yret ?_
  refine tret ?_
  exact yfin (resL1 (rvC agg40 rfl)) ⟨_, .of, rfl, rfl⟩
end Go.Proofs.Ytmgiamagocefcaa
