/- The arena (chapter 6): Handles, and the order of its blocks. -/
import Derived.Test.YtkdbajfaaifkaaaArenaV
namespace Go.Proofs.Ytkdbajfaaifkaaa
open Go.Xs
open Enc (enc)

theorem Junk.re {S S1 S2 G : Segs} (h : S1.flatten = S2.flatten) [k : Sub S S1 G] : Junk S S2 := Junk.trans (Junk.of (h := k)) ⟨[], by rw [h]; simp⟩

/-- all blocks: their handles and sizes -/
def hlist (i : Nat) : List (Option Bt) → List (Int × Int)
  | [] => []
  | none :: l => hlist (i + 1) l
  | some b :: l => ((i : Int) + 1, (b.length : Int)) :: hlist (i + 1) l
theorem hlist_append : ∀ (A B : List (Option Bt)) (i : Nat), hlist i (A ++ B) = hlist i A ++ hlist (i + A.length) B
  | [], B, i => rfl
  | none :: A, B, i => by
    have := hlist_append A B (i + 1)
    simp only [List.cons_append, hlist, this, List.length_cons]
    rw [show i + 1 + A.length = i + (A.length + 1) from by omega]
  | some b :: A, B, i => by
    have := hlist_append A B (i + 1)
    simp only [List.cons_append, hlist, this, List.length_cons]
    rw [show i + 1 + A.length = i + (A.length + 1) from by omega]
theorem hlist_at {D : List (Option Bt)} {j : Nat} {o : Option Bt} (h : D[j]? = some o) : hlist 0 D = hlist 0 (D.take j) ++ hlist j (o :: D.drop (j + 1)) ∧ hlist 0 (D.take (j + 1)) = hlist 0 (D.take j) ++ hlist j [o] := by
  obtain ⟨hj, rfl⟩ := List.getElem?_eq_some_iff.1 h
  have hl : (D.take j).length = j := by rw [List.length_take]; omega
  constructor
  · have := hlist_append (D.take j) (D.drop j) 0
    rw [List.take_append_drop, hl, Nat.zero_add, List.drop_eq_getElem_cons hj] at this
    exact this
  · have := hlist_append (D.take j) [D[j]] 0
    rw [hl, Nat.zero_add] at this
    rw [← this, List.take_add_one, h]
    rfl
theorem hlist_len : ∀ (D : List (Option Bt)) (i : Nat), (hlist i D).length ≤ D.length
  | [], _ => Nat.le_refl _
  | none :: l, i => by have := hlist_len l (i + 1); simp [hlist]; omega
  | some b :: l, i => by have := hlist_len l (i + 1); simp [hlist]; omega
theorem hlist_mem : ∀ (D : List (Option Bt)) (i : Nat) (e : Int × Int), e ∈ hlist i D ↔ ∃ j b, D[j]? = some (some b) ∧ e = (((i + j : Nat) : Int) + 1, (b.length : Int))
  | [], i, e => by simp [hlist]
  | none :: l, i, e => by
    rw [hlist, hlist_mem l (i + 1) e]
    constructor
    · rintro ⟨j, b, h, rfl⟩
      exact ⟨j + 1, b, by simpa using h, by rw [show i + (j + 1) = i + 1 + j from by omega]⟩
    · rintro ⟨j, b, h, rfl⟩
      cases j with
      | zero => simp at h
      | succ j => exact ⟨j, b, by simpa using h, by rw [show i + (j + 1) = i + 1 + j from by omega]⟩
  | some c :: l, i, e => by
    rw [hlist, List.mem_cons, hlist_mem l (i + 1) e]
    constructor
    · rintro (rfl | ⟨j, b, h, rfl⟩)
      · exact ⟨0, c, rfl, rfl⟩
      · exact ⟨j + 1, b, by simpa using h, by rw [show i + (j + 1) = i + 1 + j from by omega]⟩
    · rintro ⟨j, b, h, rfl⟩
      cases j with
      | zero => simp at h; subst h; exact .inl rfl
      | succ j => exact .inr ⟨j, b, by simpa using h, by rw [show i + (j + 1) = i + 1 + j from by omega]⟩
def hv (e : Int × Int) : Array Value := #[.int .i64 e.1, .int .i64 e.2]

theorem arHandles {p : Option Addr} : Tri Try.prog 58 #[.pointer p] [] (fun r S => ∃ bx, r = .func (.func 72) #[] #[.pointer (some ⟨bx, 0, none⟩)] ∧ S = [[(bx, .cells #[.pointer p] 25)]]) := by
  refine Tri.forget (ycallee Try.fx58 (Nat.le_of_ble_eq_true rfl) ?_)
  unfold Try.x58
  refine yseq ?_
  refine yregion ?_
  refine ycons (ybx (scP rfl) fun p1 => ?_)
  refine yp pC ?_
  refine ynil ?_
  refine tnorm ?_
  refine yseq ?_
  refine yregion ?_
  refine yp (pFn1 (scP rfl)) ?_
  refine yp (pF rfl) ?_
  refine ynil ?_
  refine tnorm ?_
  refine yret ?_
  exact yfin (rF rfl) ⟨_, .of, _, rfl, rfl⟩
theorem clBlocks {v : Value} {L : List (Int × Int)} {H : List Chunk} (hS : Slc 89 v L H) (hlen : L.length < 2 ^ 40) :
    Tri Try.prog 73 #[v] [H] (fun r S' => ∃ H', Slc 89 r L H' ∧ S' = [H', H]) :=
  clone_all (ty := 89) (k := 2) (bytes := 16) Try.fx73 rfl (0, 0) rfl (hS.src (by simp)) hS.nilOr hlen (by omega)
theorem itHandles {ab N bx : Nat} {D : List (Option Bt)} {H : List Chunk} {S0 : Segs} (hA : Ar ab N D H) :
    IterOk Try.prog 72 #[] #[.pointer (some ⟨bx, 0, none⟩)] [[(bx, .cells #[.pointer (some ⟨ab, 0, none⟩)] 25)]] (H :: S0)
      (fun pre x => pre ++ [x] <+: (hlist 0 D).map hv) (fun xs => xs = (hlist 0 D).map hv) := by
  obtain ⟨bb, kv, HK, T, B, used, top, hI, rfl, hK, rfl⟩ := hA
  have hl := hI.tlen
  intro l c J Jx hJ0 hround
  have e0 : (#[] ++ #[.func (.yield l) #[] #[]] ++ #[.pointer (some ⟨bx, 0, none⟩)] : Array Value) = #[.func (.yield l) #[] #[], .pointer (some ⟨bx, 0, none⟩)] := rfl
  rw [e0]
  refine Tri.perm (S := [[c], [(bx, .cells #[.pointer (some ⟨ab, 0, none⟩)] 25)], aseg ab (.slice (some ⟨bb, 0, none⟩) N N) kv (used : Int) (top : Int), bch bb B, HK] ++ S0) (by simp) ?_
  refine Tri.forget (ycallee Try.fx72 (Nat.le_of_ble_eq_true rfl) ?_)
  unfold Try.x72
  obtain ⟨a0, c0, rfl⟩ := hK.isSlice
  refine yseq ?_
  refine yseq ?_
  refine yregion ?_
  refine ycons (yload1 rfl rfl ?_)
  refine yp (pNilP rfl rfl) ?_
  refine ynil ?_
  refine tnorm ?_
  refine ycondF rfl ?_
  refine yskip ?_
  refine tnorm ?_
  refine yseq ?_
  refine yregion ?_
  refine ycons (yload1 rfl rfl ?_)
  refine yp (pNilc rfl) ?_
  refine yp (pFadr rfl) ?_
  refine ycons (yload1 rfl rfl ?_)
  refine ycons (ycall (clBlocks hK hl) rfl rfl fun v S' h => ?_)
  obtain ⟨H1, hK1, rfl⟩ := h
  obtain ⟨a1, c1, rfl⟩ := hK1.isSlice
  refine yp (pLen rfl) ?_
  refine yp pC ?_
  refine ynil ?_
  refine tnorm ?_
  refine yblock ?_
  refine yloop (σ := Nat) (fun i E S => Has E [(0, .func (.yield l) #[] #[]), (11, .slice a1 (kof T).length c1), (12, .int .i64 ((kof T).length : Int)), (13, .int .i64 i)] ∧ i ≤ T.length ∧ ∃ T', J ((hlist 0 ((dof T).take i)).map hv) T' ∧ Junk S (H1 :: T')) (fun i => T.length - i) 0
    ⟨⟨rfl, rfl, rfl, rfl, trivial⟩, Nat.zero_le _, [c] :: (aseg ab (.slice (some ⟨bb, 0, none⟩) N N) (.slice a0 (kof T).length c0) (used : Int) (top : Int) ++ bch bb B ++ HK) :: S0, hJ0, Junk.re (S1 := [H1, [c], aseg ab (.slice (some ⟨bb, 0, none⟩) N N) (.slice a0 (kof T).length c0) (used : Int) (top : Int), bch bb B, HK] ++ S0) (by simp)⟩ fun i E S ⟨hE, hi, T', hJ, hk⟩ => ?_
  have hkl := kof_len T
  obtain ⟨E0, e0⟩ := has_puts hE; subst e0; clear hE
  refine yforget hk ?_
  refine yseq ?_
  refine yregion ?_
  refine yp (pLt rfl rfl) ?_
  refine ynil ?_
  refine tnorm ?_
  refine yseq ?_
  refine ycondD rfl (fun h => ?_) (fun h => ?_)
  · have hlt : i < (kof T).length := by omega
    obtain ⟨bb2, sp, fz, hz, rfl, hm, hc, rfl⟩ := hK1.at' (by intro h; simp [h] at hlt)
    refine yskip ?_
    refine tnorm ?_
    refine yseq ?_
    refine yblock ?_
    refine yseq ?_
    refine yregion ?_
    refine yp (pI rfl) ?_
    refine yp (pIxN rfl rfl (by omega)) ?_
    refine ycons (yloadN (l := enc (kof T)[i]) rfl (row_elem hlt rfl) rfl ?_)
    refine ycons (yalloc fun p4 => ?_)
    refine yp (pI rfl) ?_
    refine ycons (ystAll (c' := [.int .i64 (kof T)[i].1, .int .i64 (kof T)[i].2]) rfl rfl rfl rfl rfl ?_)
    refine ynil ?_
    refine tnorm ?_
    refine yseq ?_
    refine yregion ?_
    refine yp (pFadr rfl) ?_
    refine ycons (yload1 rfl rfl ?_)
    refine yp (pGt rfl rfl) ?_
    refine yp (pB rfl) ?_
    have hTi : T[i]? = some (T[i]'(by omega)) := List.getElem?_eq_getElem _
    generalize hte : T[i]'(by omega) = te at hTi
    have hki : (kof T)[i] = ent te := by
      have : (kof T)[i]? = some (ent te) := by unfold kof; rw [List.getElem?_map, hTi]; rfl
      rw [List.getElem?_eq_getElem hlt] at this
      exact Option.some.inj this
    have hDi : (dof T)[i]? = some (te.map Prod.snd) := by unfold dof; rw [List.getElem?_map, hTi]; rfl
    obtain ⟨hs1, hs2⟩ := hlist_at hDi
    rw [hki]
    cases te with
    | none =>
      rw [decide_eq_false (show ¬ (0 : Int) < (ent none).1 from by decide)]
      refine ygF rfl ?_
      refine ygF rfl ?_
      refine ygF rfl ?_
      refine ygF rfl ?_
      refine ygF rfl ?_
      refine ygF rfl ?_
      refine ygF rfl ?_
      refine yp (pPickF rfl rfl) ?_
      refine ynil ?_
      refine tnorm ?_
      refine ycondF rfl ?_
      refine yskip ?_
      refine bnorm ?_
      refine tnorm ?_
      refine yregion ?_
      refine yp (pInc rfl rfl (by omega)) ?_
      refine yp (pI rfl) ?_
      refine ynil ?_
      refine tnorm ?_
      refine ⟨i + 1, ⟨⟨rfl, rfl, rfl, rfl, trivial⟩, by omega, T', ?_, .of⟩, by omega⟩
      rw [hs2]; simpa [hlist] using hJ
    | some pb =>
      obtain ⟨p, b⟩ := pb
      rw [decide_eq_true (show (0 : Int) < (ent (some (p, b))).1 from by show (0 : Int) < (p : Int) + 8; omega)]
      refine ygT rfl ?_
      refine yop (pF rfl) ?_
      refine ygT rfl ?_
      refine yop (pI rfl) ?_
      refine ygT rfl ?_
      refine yop (pInc rfl rfl (by omega)) ?_
      refine ygT rfl ?_
      refine yop (pFadr rfl) ?_
      refine ygT rfl ?_
      refine (yload1 rfl rfl ?_)
      refine ygT rfl ?_
      have hV : (hlist 0 ((dof T).take i)).map hv ++ [hv ((i : Int) + 1, (b.length : Int))] <+: (hlist 0 (dof T)).map hv := by
        rw [hs1, List.map_append]
        exact ⟨(hlist (i + 1) ((dof T).drop (i + 1))).map hv, by simp [hlist]⟩
      refine yyieldI (hround _ _ T' hV hJ) rfl rfl fun bl T2 h => ?_
      rcases h with ⟨rfl, hJ'⟩ | ⟨rfl, hJx⟩
      · refine ygT rfl ?_
        refine yop (pNot rfl) ?_
        refine yp (pPickT rfl rfl) ?_
        refine ynil ?_
        refine tnorm ?_
        refine ycondF rfl ?_
        refine yskip ?_
        refine bnorm ?_
        refine tnorm ?_
        refine yregion ?_
        refine yp (pInc rfl rfl (by omega)) ?_
        refine yp (pI rfl) ?_
        refine ynil ?_
        refine tnorm ?_
        refine ⟨i + 1, ⟨⟨rfl, rfl, rfl, rfl, trivial⟩, by omega, T2, ?_, .of⟩, by omega⟩
        rw [hs2, List.map_append]; exact hJ'
      · refine ygT rfl ?_
        refine yop (pNot rfl) ?_
        refine yp (pPickT rfl rfl) ?_
        refine ynil ?_
        refine tnorm ?_
        refine ycondT rfl ?_
        refine yret ?_
        refine bret ?_
        refine tret ?_
        refine tret ?_
        refine bret ?_
        exact yfin res0 ⟨T2, .of, .inr ⟨_, hJx⟩⟩
  · refine yexit ?_
    refine texit ?_
    refine texit ?_
    refine bexit ?_
    refine yfinN res0 ⟨T', .of, .inl ⟨_, ?_, hJ⟩⟩
    rw [List.take_of_length_le (by rw [dof_len]; omega)]

/-! ### the order of the blocks -/
theorem Wk.of_key {α : Type} (key : α → Int) : Wk (fun a b => key a < key b) := ⟨fun _ => by omega, fun _ _ h => by omega, fun _ _ _ h1 h2 => by omega⟩
theorem ldInt : Ld (α := Int) (fun a => .load1 a) (fun a => .int .i64 a) := ⟨fun {R E a b off c ty fz x} ha hm hx => .load1 ha hm (by
    have h : (c.toList.drop off).take 1 = [Value.int .i64 x] := hx
    have := congrArg (fun l => l[0]?) h
    simp at this
    exact this), fun _ => rfl⟩
theorem pdInt : PdF Try.prog (fun a => .load1 a) 1 74 79 80 81 82 83 84 85 86 :=
  ⟨Try.fx74, Try.fx79, ⟨_, Try.fx80, Try.fx89⟩,
    ⟨_, _, _, _, _, _, Try.fx81, Try.fx90, Try.fx75, Try.fx88, Try.fx91⟩,
    ⟨_, _, _, _, Try.fx82, Try.fx92, Try.fx93, Try.fx94⟩,
    Try.fx83, Try.fx84, Try.fx85, Try.fx86⟩
def cmp3 (a b : Int) : Int := if a < b then -1 else if b < a then 1 else 0
theorem cmp3_lt (a b : Int) : cmp3 a b < 0 ↔ a < b := by
  unfold cmp3
  split
  · next h => exact ⟨fun _ => h, fun _ => by decide⟩
  · split <;> omega
theorem cNaN (a : Int) : Tri Try.prog 76 #[.int .i64 a] [] (fun r S => r = .bool false ∧ S = []) := by
  refine Tri.forget (ycallee Try.fx76 (Nat.le_of_ble_eq_true rfl) ?_)
  unfold Try.x76
  refine yseq ?_
  refine yregion ?_
  refine yp pC ?_
  refine ynil ?_
  refine tnorm ?_
  refine yseq ?_
  refine yregion ?_
  refine yp (pI rfl) ?_
  refine yp (pI rfl) ?_
  refine yp (pNe rfl rfl) ?_
  refine yp (pB rfl) ?_
  refine ynil ?_
  refine tnorm ?_
  refine yret ?_
  rw [decide_eq_true rfl]
  exact yfin (rB rfl) ⟨_, .of, rfl, rfl⟩
theorem cmpInt (a b : Int) : Tri Try.prog 61 #[.int .i64 a, .int .i64 b] [] (fun r S => r = .int .i64 (cmp3 a b) ∧ S = []) := by
  refine Tri.forget (ycallee Try.fx61 (Nat.le_of_ble_eq_true rfl) ?_)
  unfold Try.x61
  refine yseq ?_
  refine yregion ?_
  refine yp pC ?_
  refine ynil ?_
  refine tnorm ?_
  refine yseq ?_
  refine yregion ?_
  refine yp (pI rfl) ?_
  refine ycons (ycall (cNaN a) rfl rfl fun r S' h => ?_)
  obtain ⟨rfl, rfl⟩ := h
  refine yp (pB rfl) ?_
  refine ynil ?_
  refine tnorm ?_
  refine yseq ?_
  refine yregion ?_
  refine yp (pI rfl) ?_
  refine ycons (ycall (cNaN b) rfl rfl fun r S' h => ?_)
  obtain ⟨rfl, rfl⟩ := h
  refine yp (pB rfl) ?_
  refine ynil ?_
  refine tnorm ?_
  refine yseq ?_
  refine yseq ?_
  refine yregion ?_
  refine yp (pB rfl) ?_
  refine ynil ?_
  refine tnorm ?_
  refine ycondF rfl ?_
  refine yskip ?_
  refine tnorm ?_
  refine yseq ?_
  refine yseq ?_
  refine yregion ?_
  refine yp (pB rfl) ?_
  refine ynil ?_
  refine tnorm ?_
  refine ycondF rfl ?_
  refine yskip ?_
  refine tnorm ?_
  refine yseq ?_
  refine yseq ?_
  refine yregion ?_
  refine yp (pI rfl) ?_
  refine yp (pI rfl) ?_
  refine yp (pLt rfl rfl) ?_
  refine ynil ?_
  refine tnorm ?_
  refine ycondD rfl (fun h => ?_) (fun h => ?_)
  · refine yseq ?_
    refine yregion ?_
    refine yp pC ?_
    refine ynil ?_
    refine tnorm ?_
    refine yret ?_
    refine tret ?_
    exact yfin (rI rfl) ⟨_, .of, by rw [cmp3, if_pos h], rfl⟩
  refine yskip ?_
  refine tnorm ?_
  refine yseq ?_
  refine yseq ?_
  refine yregion ?_
  refine yp (pI rfl) ?_
  refine yp (pI rfl) ?_
  refine yp (pGt rfl rfl) ?_
  refine ynil ?_
  refine tnorm ?_
  refine ycondD rfl (fun h2 => ?_) (fun h2 => ?_)
  · refine yseq ?_
    refine yregion ?_
    refine yp pC ?_
    refine ynil ?_
    refine tnorm ?_
    refine yret ?_
    refine tret ?_
    exact yfin (rI rfl) ⟨_, .of, by rw [cmp3, if_neg h, if_pos h2], rfl⟩
  refine yskip ?_
  refine tnorm ?_
  refine yseq ?_
  refine yregion ?_
  refine yp pC ?_
  refine ynil ?_
  refine tnorm ?_
  refine yret ?_
  exact yfin (rI rfl) ⟨_, .of, by rw [cmp3, if_neg h, if_neg h2], rfl⟩
/-- where a handle's block stands -/
def pos (T : Tab) (h : Int) : Int := match (T[(h - 1).toNat]?).join with | some (p, _) => p | none => 0
def isH (T : Tab) (h : Int) : Prop := ∃ (i p : Nat) (b : Bt), h = (i : Int) + 1 ∧ T[i]? = some (some (p, b))
theorem pos_at {T : Tab} {i p : Nat} {b : Bt} (h : T[i]? = some (some (p, b))) : pos T ((i : Int) + 1) = p := by
  unfold pos
  rw [show ((i : Int) + 1 - 1).toNat = i from by omega, h]; rfl
theorem arCmp {ab p1 : Nat} {bv kv : Value} {used top : Int} {T : Tab} {HK : List Chunk} (hK : Slc 89 kv (kof T) HK) (hlen : (kof T).length < 2 ^ 40) :
    Cm Try.prog 60 #[.pointer (some ⟨p1, 0, none⟩)] ([(p1, .cells #[.pointer (some ⟨ab, 0, none⟩)] 25)] ++ aseg ab bv kv used top ++ HK) (fun a => .int .i64 a) (isH T) (fun x y => pos T x < pos T y) := by
  refine ⟨Wk.of_key _, fun x y hx hy => ?_⟩
  obtain ⟨i, p, b, rfl, hi⟩ := hx
  obtain ⟨j, q, c, rfl, hj⟩ := hy
  rw [pos_at hi, pos_at hj]
  refine Tri.split3 (Tri.forget (ycallee Try.fx60 (Nat.le_of_ble_eq_true rfl) ?_))
  unfold Try.x60
  have hki := kof_get hi
  have hkj := kof_get hj
  obtain ⟨hlti, hgi⟩ := List.getElem?_eq_some_iff.1 hki
  obtain ⟨hltj, hgj⟩ := List.getElem?_eq_some_iff.1 hkj
  obtain ⟨a, cc, rfl⟩ := hK.isSlice
  obtain ⟨b2, sp, fz, hz, rfl, _, rfl, rfl⟩ := hK.at' (by intro h; simp [h] at hlti)
  refine yseq ?_
  refine yregion ?_
  refine yp pC ?_
  refine ynil ?_
  refine tnorm ?_
  refine yseq ?_
  refine ydraw ?_
  refine ytl1 rfl rfl ?_
  refine ytq (pNilc rfl) ?_
  refine ytq (pFadr rfl) ?_
  refine ytl1 rfl rfl ?_
  refine ytq (pI rfl) ?_
  refine ytq (pSub rfl rfl (by omega)) ?_
  rw [show ((i : Int) + 1 - 1) = (i : Int) from by omega]
  refine ytq (pIxN rfl rfl (by omega)) ?_
  refine ytq (pFadr rfl) ?_
  refine ytl1 (v := .int .i64 ((p : Int) + 8)) rfl ((row_cell (kk := 2) (j := 0) hlti rfl (by omega)).trans (by rw [hgi]; rfl)) ?_
  refine ytl1 rfl rfl ?_
  refine ytq (pNilc rfl) ?_
  refine ytq (pFadr rfl) ?_
  refine ytl1 rfl rfl ?_
  refine ytq (pI rfl) ?_
  refine ytq (pSub rfl rfl (by omega)) ?_
  rw [show ((j : Int) + 1 - 1) = (j : Int) from by omega]
  refine ytq (pIxN rfl rfl (by omega)) ?_
  refine ytq (pFadr rfl) ?_
  refine ytl1 (v := .int .i64 ((q : Int) + 8)) rfl ((row_cell (kk := 2) (j := 0) hltj rfl (by omega)).trans (by rw [hgj]; rfl)) ?_
  refine ytalt (ycall (cmpInt _ _) rfl rfl fun r S' h => ?_) ytno
  obtain ⟨rfl, rfl⟩ := h
  refine ytq (pI rfl) ?_
  refine ytdone ?_
  refine tnorm ?_
  refine yret ?_
  refine yfin (rI rfl) ⟨_, Junk.join3, ⟨_, rfl, ?_⟩, rfl⟩
  rw [cmp3_lt]; omega
end Go.Proofs.Ytkdbajfaaifkaaa
