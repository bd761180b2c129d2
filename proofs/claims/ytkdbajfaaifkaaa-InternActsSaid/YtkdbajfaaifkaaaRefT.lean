/- The document's own answer (freshetref6): the table of names. -/
import Derived.Test.YtkdbajfaaifkaaaI1
namespace Go.Proofs.Ytkdbajfaaifkaaa
open Go.Xs
open Enc (enc)

abbrev rtseg (rt rb : Nat) (kv : Value) : List Chunk := [(rt, .cells #[.pointer (some ⟨rb, 0, none⟩), kv] 70)]
def nixV : Option Nat → Value
  | some i => .int .i64 (i : Int)
  | none => .int .i64 (-1)
def Nm.z : Nm := ⟨0, [], 0⟩
theorem rtFind {rt rb : Nat} {kv : Value} {L : List Nm} {HN : List Chunk} (hL : Slc 103 kv L HN) (hlen : L.length < 2 ^ 40) (n : Bs) :
    Tri Try.prog 69 #[.pointer (some ⟨rt, 0, none⟩), sv n] [rtseg rt rb kv, HN] (fun r S => r = nixV (nixN n L) ∧ S = [rtseg rt rb kv, HN]) := by
  refine Tri.forget (ycallee Try.fx69 (Nat.le_of_ble_eq_true rfl) ?_)
  unfold Try.x69
  obtain ⟨a, c, rfl⟩ := hL.isSlice
  refine yseq ?_
  refine yregion ?_
  refine yp pC ?_
  refine ynil ?_
  refine tnorm ?_
  refine yseq ?_
  refine yseq ?_
  refine yregion ?_
  refine yp pC ?_
  refine ynil ?_
  refine tnorm ?_
  refine yblock ?_
  refine yloop (σ := Nat) (fun i E S => Has E [(0, .pointer (some ⟨rt, 0, none⟩)), (1, sv n), (5, .int .i64 i)] ∧ i ≤ L.length ∧ (nixN n L = (nixN n (L.drop i)).map (· + i)) ∧ Junk S [rtseg rt rb (.slice a L.length c), HN]) (fun i => L.length - i) 0 ⟨⟨rfl, rfl, rfl, trivial⟩, Nat.zero_le _, by simp, .self⟩ fun i E S ⟨hE, hi, hx, hS⟩ => ?_
  obtain ⟨E0, e0⟩ := has_puts hE; subst e0; clear hE
  refine yforget hS ?_
  refine yseq ?_
  refine yseq ?_
  refine yregion ?_
  refine yp (pI rfl) ?_
  refine yp (pP rfl) ?_
  refine yp (pNilc rfl) ?_
  refine yp (pFadr rfl) ?_
  refine ycons (yload1 rfl rfl ?_)
  refine yp (pLen rfl) ?_
  refine yp (pLt rfl rfl) ?_
  refine ynil ?_
  refine tnorm ?_
  refine ycondD rfl (fun h => ?_) (fun h => ?_)
  · have hlt : i < L.length := by omega
    have hd : L.drop i = L[i] :: L.drop (i + 1) := List.drop_eq_getElem_cons hlt
    obtain ⟨b, sp, fz2, hz, rfl, _, rfl, rfl⟩ := hL.at' (by intro h; simp [h] at hlt)
    have hld : ((cells (L ++ sp)).toArray.toList)[0 + i * 3 + 1]? = some (sv L[i].n) := (row_cell (kk := 3) (j := 1) hlt rfl (by omega)).trans rfl
    generalize L[i] = x at hd hld
    refine yskip ?_
    refine tnorm ?_
    refine yseq ?_
    refine yblock ?_
    refine yseq ?_
    refine yregion ?_
    refine yp (pP rfl) ?_
    refine yp (pNilc rfl) ?_
    refine yp (pFadr rfl) ?_
    refine ycons (yload1 rfl rfl ?_)
    refine yp (pI rfl) ?_
    refine yp (pIxN rfl rfl (by omega)) ?_
    refine yp (pFadr rfl) ?_
    refine ycons (yload1 (v := sv x.n) rfl hld ?_)
    refine yp (pT rfl) ?_
    refine yp (pEqS rfl rfl) ?_
    refine ynil ?_
    refine tnorm ?_
    by_cases hxn : x.n = n
    · rw [decide_eq_true (show (⟨x.n.toArray⟩ : ByteArray) = ⟨n.toArray⟩ from by rw [hxn])]
      refine ycondT rfl ?_
      refine yseq ?_
      refine yregion ?_
      refine yp (pI rfl) ?_
      refine yp (pI rfl) ?_
      refine ynil ?_
      refine tnorm ?_
      refine yret ?_
      refine bret ?_
      refine tret ?_
      refine tret ?_
      refine bret ?_
      refine tret ?_
      exact yfin (rI rfl) ⟨_, .of, by rw [hx, hd, nixN, if_pos hxn]; simp [nixV], rfl⟩
    · rw [decide_eq_false (show ¬ (⟨x.n.toArray⟩ : ByteArray) = ⟨n.toArray⟩ from fun h => hxn ((bs_eta _ _).1 h))]
      refine ycondF rfl ?_
      refine yskip ?_
      refine bnorm ?_
      refine tnorm ?_
      refine yregion ?_
      refine yp (pI rfl) ?_
      refine yp (pInc rfl rfl (by omega)) ?_
      refine yp (pI rfl) ?_
      refine ynil ?_
      refine tnorm ?_
      refine ⟨i + 1, ⟨⟨rfl, rfl, rfl, trivial⟩, by omega, ?_, .of⟩, by omega⟩
      rw [hx, hd, nixN, if_neg hxn, Option.map_map]
      congr 1
      funext x
      simp; omega
  · refine yexit ?_
    refine texit ?_
    refine texit ?_
    refine bexit ?_
    refine tnorm ?_
    refine yseq ?_
    refine yregion ?_
    refine yp pC ?_
    refine ynil ?_
    refine tnorm ?_
    refine yret ?_
    have : L.drop i = [] := List.drop_eq_nil_of_le (by omega)
    exact yfin (rI rfl) ⟨_, .of, by rw [hx, this]; rfl, rfl⟩
theorem rtAt {rt rb : Nat} {kv : Value} {L : List Nm} {HN : List Chunk} (hL : Slc 103 kv L HN) (hlen : L.length < 2 ^ 40) (h : Int) :
    Tri Try.prog 70 #[.pointer (some ⟨rt, 0, none⟩), .int .i64 h] [rtseg rt rb kv, HN] (fun r S => r = nixV (nixI h L) ∧ S = [rtseg rt rb kv, HN]) := by
  refine Tri.forget (ycallee Try.fx70 (Nat.le_of_ble_eq_true rfl) ?_)
  unfold Try.x70
  obtain ⟨a, c, rfl⟩ := hL.isSlice
  refine yseq ?_
  refine yregion ?_
  refine yp pC ?_
  refine ynil ?_
  refine tnorm ?_
  refine yseq ?_
  refine yseq ?_
  refine yregion ?_
  refine yp pC ?_
  refine ynil ?_
  refine tnorm ?_
  refine yblock ?_
  refine yloop (σ := Nat) (fun i E S => Has E [(0, .pointer (some ⟨rt, 0, none⟩)), (1, .int .i64 h), (5, .int .i64 i)] ∧ i ≤ L.length ∧ (nixI h L = (nixI h (L.drop i)).map (· + i)) ∧ Junk S [rtseg rt rb (.slice a L.length c), HN]) (fun i => L.length - i) 0 ⟨⟨rfl, rfl, rfl, trivial⟩, Nat.zero_le _, by simp, .self⟩ fun i E S ⟨hE, hi, hx, hS⟩ => ?_
  obtain ⟨E0, e0⟩ := has_puts hE; subst e0; clear hE
  refine yforget hS ?_
  refine yseq ?_
  refine yseq ?_
  refine yregion ?_
  refine yp (pI rfl) ?_
  refine yp (pP rfl) ?_
  refine yp (pNilc rfl) ?_
  refine yp (pFadr rfl) ?_
  refine ycons (yload1 rfl rfl ?_)
  refine yp (pLen rfl) ?_
  refine yp (pLt rfl rfl) ?_
  refine ynil ?_
  refine tnorm ?_
  refine ycondD rfl (fun h => ?_) (fun h => ?_)
  · have hlt : i < L.length := by omega
    have hd : L.drop i = L[i] :: L.drop (i + 1) := List.drop_eq_getElem_cons hlt
    obtain ⟨b, sp, fz2, hz, rfl, _, rfl, rfl⟩ := hL.at' (by intro h; simp [h] at hlt)
    refine yskip ?_
    refine tnorm ?_
    refine yseq ?_
    refine yblock ?_
    refine yseq ?_
    refine yregion ?_
    refine yp (pP rfl) ?_
    refine yp (pNilc rfl) ?_
    refine yp (pFadr rfl) ?_
    refine ycons (yload1 rfl rfl ?_)
    refine yp (pI rfl) ?_
    refine yp (pIxN rfl rfl (by omega)) ?_
    refine yp (pFadr rfl) ?_
    refine ycons (yload1 (v := .int .i64 L[i].id) rfl ((row_cell (kk := 3) (j := 0) hlt rfl (by omega)).trans rfl) ?_)
    refine yp (pI rfl) ?_
    refine yp (pEq rfl rfl) ?_
    refine ynil ?_
    refine tnorm ?_
    refine ycondD rfl (fun h2 => ?_) (fun h2 => ?_)
    · refine yseq ?_
      refine yregion ?_
      refine yp (pI rfl) ?_
      refine yp (pI rfl) ?_
      refine ynil ?_
      refine tnorm ?_
      refine yret ?_
      refine bret ?_
      refine tret ?_
      refine tret ?_
      refine bret ?_
      refine tret ?_
      exact yfin (rI rfl) ⟨_, .of, by rw [hx, hd, nixI, if_pos h2]; simp [nixV], rfl⟩
    · refine yskip ?_
      refine bnorm ?_
      refine tnorm ?_
      refine yregion ?_
      refine yp (pI rfl) ?_
      refine yp (pInc rfl rfl (by omega)) ?_
      refine yp (pI rfl) ?_
      refine ynil ?_
      refine tnorm ?_
      refine ⟨i + 1, ⟨⟨rfl, rfl, rfl, trivial⟩, by omega, ?_, .of⟩, by omega⟩
      rw [hx, hd, nixI, if_neg h2, Option.map_map]
      congr 1
      funext x
      simp; omega
  · refine yexit ?_
    refine texit ?_
    refine texit ?_
    refine bexit ?_
    refine tnorm ?_
    refine yseq ?_
    refine yregion ?_
    refine yp pC ?_
    refine ynil ?_
    refine tnorm ?_
    refine yret ?_
    have : L.drop i = [] := List.drop_eq_nil_of_le (by omega)
    exact yfin (rI rfl) ⟨_, .of, by rw [hx, this]; rfl, rfl⟩
/-- a list of names, in one piece -/
def Rt (rt rb : Nat) (L : List Nm) (T : List Chunk) : Prop := ∃ (kv : Value) (HN : List Chunk), Slc 103 kv L HN ∧ T = rtseg rt rb kv ++ HN
theorem rtFindP {rt rb : Nat} {L : List Nm} {T : List Chunk} (hR : Rt rt rb L T) (hlen : L.length < 2 ^ 30) (Y : Bs) (hY : Y.length < 2 ^ 62) :
    Tri Try.prog 42 #[.pointer (some ⟨rt, 0, none⟩), sv Y] [T] (fun r S => r = .tuple #[.int .i64 (if vld Y then ((byN L (foldB Y)).map (·.id)).getD 0 else 0), .bool (vld Y && (byN L (foldB Y)).isSome)] ∧ S = [T]) := by
  obtain ⟨kv, HN, hL, rfl⟩ := hR
  refine Tri.forget (Tri.split2 (ycallee Try.fx42 (Nat.le_of_ble_eq_true rfl) ?_))
  unfold Try.x42
  refine yseq ?_
  refine yregion ?_
  refine yp pC ?_
  refine yp pC ?_
  refine ynil ?_
  refine tnorm ?_
  refine yseq ?_
  refine yregion ?_
  refine yp (pP rfl) ?_
  refine yp (pT rfl) ?_
  refine ycons (ycall (rnFold Y hY) rfl rfl fun r S' h => ?_)
  obtain ⟨rfl, rfl⟩ := h
  refine ycons (ycall (rtFind (rt := rt) (rb := rb) hL (by omega) (foldB Y)) rfl rfl fun r S' h => ?_)
  obtain ⟨rfl, rfl⟩ := h
  cases hb : byN L (foldB Y) with
  | none =>
    rw [byN_none hb]
    simp only [nixV]
    refine yp (pI rfl) ?_
    refine ynil ?_
    refine tnorm ?_
    refine yseq ?_
    refine yseq ?_
    refine yregion ?_
    refine yp (pI rfl) ?_
    refine yp (pLt rfl rfl) ?_
    refine yp (pB rfl) ?_
    refine ygF rfl ?_
    refine ygF rfl ?_
    refine ygF rfl ?_
    refine yp (pPickT rfl rfl) ?_
    refine ynil ?_
    refine tnorm ?_
    refine ycondT rfl ?_
    refine yseq ?_
    refine yregion ?_
    refine yp pC ?_
    refine yp pC ?_
    refine ynil ?_
    refine tnorm ?_
    refine yret ?_
    refine tret ?_
    exact yfin (rIB rfl rfl) ⟨_, Junk.join2, by simp, rfl⟩
  | some e =>
    obtain ⟨j, h1, h2, h3⟩ := byN_some hb
    rw [h1]
    obtain ⟨hj, hje⟩ := List.getElem?_eq_some_iff.1 h2
    simp only [nixV]
    refine yp (pI rfl) ?_
    refine ynil ?_
    refine tnorm ?_
    refine yseq ?_
    refine yseq ?_
    refine yregion ?_
    refine yp (pI rfl) ?_
    refine yp (pLt rfl rfl) ?_
    refine yp (pB rfl) ?_
    refine ygT rfl ?_
    refine yop (pT rfl) ?_
    refine ygT rfl ?_
    rw [decide_eq_false (show ¬ (j : Int) < 0 from by omega)]
    skip
    refine ycall (rnValid Y hY) rfl rfl fun r S' h => ?_
    obtain ⟨rfl, rfl⟩ := h
    cases hv : vld Y with
    | false =>
      refine ygT rfl ?_
      refine yop (pNot rfl) ?_
      refine yp (pPickF rfl rfl) ?_
      refine ynil ?_
      refine tnorm ?_
      refine ycondT rfl ?_
      refine yseq ?_
      refine yregion ?_
      refine yp pC ?_
      refine yp pC ?_
      refine ynil ?_
      refine tnorm ?_
      refine yret ?_
      refine tret ?_
      exact yfin (rIB rfl rfl) ⟨_, Junk.join2, by simp, rfl⟩
    | true =>
      obtain ⟨a, c, rfl⟩ := hL.isSlice
      obtain ⟨b, sp, fz2, hz, rfl, _, rfl, rfl⟩ := hL.at' (by intro h; simp [h] at hj)
      have hld : ((cells (L ++ sp)).toArray.toList)[0 + j * 3 + 0]? = some (.int .i64 e.id) := (row_cell (kk := 3) (j := 0) hj rfl (by omega)).trans (by rw [hje]; rfl)
      refine ygT rfl ?_
      refine yop (pNot rfl) ?_
      refine yp (pPickF rfl rfl) ?_
      refine ynil ?_
      refine tnorm ?_
      refine ycondF rfl ?_
      refine yskip ?_
      refine tnorm ?_
      refine yseq ?_
      refine yregion ?_
      refine yp (pP rfl) ?_
      refine yp (pNilc rfl) ?_
      refine yp (pFadr rfl) ?_
      refine ycons (yload1 rfl rfl ?_)
      refine yp (pI rfl) ?_
      refine yp (pIxN rfl rfl (by omega)) ?_
      refine yp (pFadr rfl) ?_
      refine ycons (yload1 (v := .int .i64 e.id) rfl hld ?_)
      refine yp (pI rfl) ?_
      refine yp pC ?_
      refine ynil ?_
      refine tnorm ?_
      refine yret ?_
      exact yfin (rIB rfl rfl) ⟨_, Junk.join2, by simp, rfl⟩
theorem rtCost {rt rb : Nat} {L : List Nm} {T : List Chunk} (hR : Rt rt rb L T) (hlen : L.length < 2 ^ 30) (Y : Bs) (hY : Y.length < 2 ^ 62) :
    Tri Try.prog 44 #[.pointer (some ⟨rt, 0, none⟩), sv Y] [T] (fun r S => r = .int .i64 (if (byN L (foldB Y)).isSome = true ∨ vld Y = false then 0 else cost (8 + Y.length)) ∧ S = [T]) := by
  refine Tri.forget (ycallee Try.fx44 (Nat.le_of_ble_eq_true rfl) ?_)
  unfold Try.x44
  refine yseq ?_
  refine yregion ?_
  refine yp pC ?_
  refine ynil ?_
  refine tnorm ?_
  refine yseq ?_
  refine yregion ?_
  refine yp (pP rfl) ?_
  refine yp (pT rfl) ?_
  refine ycons (ycall (rtFindP hR hlen Y hY) rfl rfl fun r S' h => ?_)
  obtain ⟨rfl, rfl⟩ := h
  cases hv : vld Y with
  | false =>
    refine yp (pU rfl) ?_
    refine yp (pExt rfl rfl) ?_
    refine yp (pExt rfl rfl) ?_
    refine yp (pI rfl) ?_
    refine yp (pB rfl) ?_
    refine ynil ?_
    refine tnorm ?_
    refine yseq ?_
    refine yseq ?_
    refine yregion ?_
    refine yp (pB rfl) ?_
    refine yp (pB rfl) ?_
    refine ygT rfl ?_
    refine yop (pT rfl) ?_
    refine ygT rfl ?_
    refine ycall (rnValid Y hY) rfl rfl fun r S' h => ?_
    obtain ⟨rfl, rfl⟩ := h
    rw [hv]
    refine ygT rfl ?_
    refine yop (pNot rfl) ?_
    refine yp (pPickF rfl rfl) ?_
    refine ynil ?_
    refine tnorm ?_
    refine ycondT rfl ?_
    refine yseq ?_
    refine yregion ?_
    refine yp pC ?_
    refine ynil ?_
    refine tnorm ?_
    refine yret ?_
    refine tret ?_
    exact yfin (rI rfl) ⟨_, .of, by rw [if_pos (.inr rfl)], rfl⟩
  | true =>
    cases hb : (byN L (foldB Y)).isSome with
    | true =>
      refine yp (pU rfl) ?_
      refine yp (pExt rfl rfl) ?_
      refine yp (pExt rfl rfl) ?_
      refine yp (pI rfl) ?_
      refine yp (pB rfl) ?_
      refine ynil ?_
      refine tnorm ?_
      refine yseq ?_
      refine yseq ?_
      refine yregion ?_
      refine yp (pB rfl) ?_
      refine yp (pB rfl) ?_
      refine ygF rfl ?_
      refine ygF rfl ?_
      refine ygF rfl ?_
      refine yp (pPickT rfl rfl) ?_
      refine ynil ?_
      refine tnorm ?_
      refine ycondT rfl ?_
      refine yseq ?_
      refine yregion ?_
      refine yp pC ?_
      refine ynil ?_
      refine tnorm ?_
      refine yret ?_
      refine tret ?_
      exact yfin (rI rfl) ⟨_, .of, by rw [if_pos (.inl rfl)], rfl⟩
    | false =>
      refine yp (pU rfl) ?_
      refine yp (pExt rfl rfl) ?_
      refine yp (pExt rfl rfl) ?_
      refine yp (pI rfl) ?_
      refine yp (pB rfl) ?_
      refine ynil ?_
      refine tnorm ?_
      refine yseq ?_
      refine yseq ?_
      refine yregion ?_
      refine yp (pB rfl) ?_
      refine yp (pB rfl) ?_
      refine ygT rfl ?_
      refine yop (pT rfl) ?_
      refine ygT rfl ?_
      refine ycall (rnValid Y hY) rfl rfl fun r S' h => ?_
      obtain ⟨rfl, rfl⟩ := h
      rw [hv]
      refine ygT rfl ?_
      refine yop (pNot rfl) ?_
      refine yp (pPickF rfl rfl) ?_
      refine ynil ?_
      refine tnorm ?_
      refine ycondF rfl ?_
      refine yskip ?_
      refine tnorm ?_
      refine yseq ?_
      refine yregion ?_
      refine yp (pT rfl) ?_
      refine yp (pLenS rfl) ?_
      rw [szS]
      refine yp (pAdd rfl rfl (by omega)) ?_
      refine ycons (ycall (rfCost ((Y.length : Int) + 8)) rfl rfl fun r S' h => ?_)
      obtain ⟨rfl, rfl⟩ := h
      refine yp (pI rfl) ?_
      refine ynil ?_
      refine tnorm ?_
      refine yret ?_
      exact yfin (rI rfl) ⟨_, .of, by rw [if_neg (by simp), Int.add_comm], rfl⟩
end Go.Proofs.Ytkdbajfaaifkaaa
