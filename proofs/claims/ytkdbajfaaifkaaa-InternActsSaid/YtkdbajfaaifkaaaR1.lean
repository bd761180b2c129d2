/- The document's own answer (freshetref6): the arena. The document's own arena (freshetref6) tells what the program's does. -/
import Derived.Test.YtkdbajfaaifkaaaA2
import Derived.Test.YtkdbajfaaifkaaaB3
import Derived.Test.YtkdbajfaaifkaaaFRefA
namespace Go.Proofs.Ytkdbajfaaifkaaa
open Go.Xs
open Enc (enc)

/-- a block of the document's: its handle, its bytes and where they stand -/
structure RB where
  h : Int
  b : Bt
  a : Option Addr
  c : Nat
instance : Enc RB := ⟨fun x => [.int .i64 x.h, .slice x.a x.b.length x.c], 2, fun _ => rfl, fun _ => rfl⟩
def RB.v (x : RB) : Value := .slice x.a x.b.length x.c
def RB.z : RB := ⟨0, [], none, 0⟩
def told (L : List RB) : List (Int × Bt) := L.map fun x => (x.h, x.b)
abbrev rseg (rb : Nat) (N : Int) (kv : Value) : List Chunk := [(rb, .cells #[.int .i64 N, kv] 41)]
def rix (h : Int) : List RB → Option Nat
  | [] => none
  | x :: l => if x.h = h then some 0 else (rix h l).map (· + 1)
def rixV : Option Nat → Value
  | some i => .int .i64 (i : Int)
  | none => .int .i64 (-1)
def usedR (L : List RB) : Nat := (L.map fun x => costN x.b.length).sum
theorem usedR_snoc (L : List RB) (x : RB) : usedR (L ++ [x]) = usedR L + costN x.b.length := by simp [usedR]
theorem usedR_take (L : List RB) : ∀ i, usedR (L.take i) ≤ usedR L := fun i => by
  have : usedR L = usedR (L.take i) + usedR (L.drop i) := by
    unfold usedR
    rw [← List.sum_append_nat, ← List.map_append, List.take_append_drop]
  omega
theorem rix_lt {h : Int} : ∀ {L : List RB} {i : Nat}, rix h L = some i → ∃ x, L[i]? = some x ∧ x.h = h
  | [], _, e => by cases e
  | x :: l, i, e => by
    unfold rix at e
    split at e
    · next hx =>
      obtain rfl := Option.some.inj e
      exact ⟨x, rfl, hx⟩
    · cases hl : rix h l with
      | none => rw [hl] at e; cases e
      | some k =>
        rw [hl] at e
        obtain rfl : k + 1 = i := Option.some.inj e
        obtain ⟨y, h1, h2⟩ := rix_lt hl
        exact ⟨y, by simpa using h1, h2⟩

theorem rfMay (n : Int) : Tri Try.prog 20 #[.int .i64 n] [] (fun r S => r = .bool (decide (1024 ≤ n) && decide (n ≤ 1048576)) ∧ S = []) := by
  refine Tri.forget (ycallee Try.fx20 (Nat.le_of_ble_eq_true rfl) ?_)
  unfold Try.x20
  refine yseq ?_
  refine yregion ?_
  refine yp pC ?_
  refine ynil ?_
  refine tnorm ?_
  refine yseq ?_
  refine yregion ?_
  refine yp (pI rfl) ?_
  refine yp (pGe rfl rfl) ?_
  refine yp (pB rfl) ?_
  by_cases h : (1024 : Int) ≤ n
  · rw [decide_eq_true h]
    refine ygT rfl ?_
    refine yop (pI rfl) ?_
    refine ygT rfl ?_
    refine yop (pLe rfl rfl) ?_
    refine yp (pPickT rfl rfl) ?_
    refine yp (pB rfl) ?_
    refine ynil ?_
    refine tnorm ?_
    refine yret ?_
    exact yfin (rB rfl) ⟨_, .of, rfl, rfl⟩
  · rw [decide_eq_false h]
    refine ygF rfl ?_
    refine ygF rfl ?_
    refine yp (pPickF rfl rfl) ?_
    refine yp (pB rfl) ?_
    refine ynil ?_
    refine tnorm ?_
    refine yret ?_
    exact yfin (rB rfl) ⟨_, .of, rfl, rfl⟩
theorem rfCost (n : Int) : Tri Try.prog 55 #[.int .i64 n] [] (fun r S => r = .int .i64 (cost n) ∧ S = []) := by
  refine Tri.forget (ycallee Try.fx55 (Nat.le_of_ble_eq_true rfl) ?_)
  unfold Try.x55
  refine yseq ?_
  refine yregion ?_
  refine yp pC ?_
  refine ynil ?_
  refine tnorm ?_
  refine yseq ?_
  refine yseq ?_
  refine yregion ?_
  refine yp (pI rfl) ?_
  refine yp (pLt rfl rfl) ?_
  refine yp (pB rfl) ?_
  by_cases h1 : n < 0
  · rw [decide_eq_true h1]
    refine ygF rfl ?_
    refine ygF rfl ?_
    refine yp (pPickT rfl rfl) ?_
    refine ynil ?_
    refine tnorm ?_
    refine ycondT rfl ?_
    refine yseq ?_
    refine yregion ?_
    refine yp pC ?_
    refine ynil ?_
    refine tnorm ?_
    refine yret ?_
    refine tret ?_
    exact yfin (rI rfl) ⟨_, .of, by rw [cost, if_pos (.inl h1)], rfl⟩
  rw [decide_eq_false h1]
  refine ygT rfl ?_
  refine yop (pI rfl) ?_
  refine ygT rfl ?_
  refine yop (pGt rfl rfl) ?_
  refine yp (pPickF rfl rfl) ?_
  refine ynil ?_
  refine tnorm ?_
  by_cases h2 : 4096 < n
  · rw [decide_eq_true h2]
    refine ycondT rfl ?_
    refine yseq ?_
    refine yregion ?_
    refine yp pC ?_
    refine ynil ?_
    refine tnorm ?_
    refine yret ?_
    refine tret ?_
    exact yfin (rI rfl) ⟨_, .of, by rw [cost, if_pos (.inr h2)], rfl⟩
  rw [decide_eq_false h2]
  obtain ⟨m, rfl⟩ := Int.eq_ofNat_of_zero_le (show 0 ≤ n from by omega)
  refine ycondF rfl ?_
  refine yskip ?_
  refine tnorm ?_
  refine yseq ?_
  refine yregion ?_
  refine yp pC ?_
  refine ynil ?_
  refine tnorm ?_
  refine yseq ?_
  refine yblock ?_
  refine yloop (σ := Nat) (fun c E S => Has E [(0, .int .i64 m), (3, .int .i64 c)] ∧ Pow c ∧ (c = 16 ∨ c < 2 * (m + 8)) ∧ Junk S []) (fun c => 16384 - c) 16 ⟨⟨rfl, rfl, trivial⟩, .inl rfl, .inl rfl, .self⟩ fun c E S ⟨hE, hp, hc, hJ⟩ => ?_
  have hcb : c ≤ 8192 := by unfold Pow at hp; omega
  obtain ⟨E0, e0⟩ := has_puts hE; subst e0; clear hE
  refine yforget hJ ?_
  refine yseq ?_
  refine yseq ?_
  refine yregion ?_
  refine yp (pI rfl) ?_
  refine yp (pI rfl) ?_
  refine yp (pAdd rfl rfl (by omega)) ?_
  refine yp (pLt rfl rfl) ?_
  refine ynil ?_
  refine tnorm ?_
  refine ycondD rfl (fun h => ?_) (fun h => ?_)
  · refine yskip ?_
    refine tnorm ?_
    refine yblock ?_
    refine yregion ?_
    refine yp (pI rfl) ?_
    refine yp (v := .int .i64 ((c * 2 : Nat) : Int)) ?_ ?_
    · rw [pMul (m := (c : Int)) (n := 2) rfl rfl (by omega)]
      congr 2
    refine yp (pI rfl) ?_
    refine ynil ?_
    refine bnorm ?_
    refine tnorm ?_
    exact ⟨c * 2, ⟨⟨rfl, rfl, trivial⟩, by unfold Pow at hp ⊢; omega, by omega, .of⟩, by unfold Pow at hp; omega⟩
  · refine yexit ?_
    refine texit ?_
    refine texit ?_
    refine bexit ?_
    refine tnorm ?_
    refine yseq ?_
    refine yregion ?_
    refine yp (pI rfl) ?_
    refine yp (pI rfl) ?_
    refine ynil ?_
    refine tnorm ?_
    refine yret ?_
    refine yfin (rI rfl) ⟨_, .of, ?_, rfl⟩
    rw [cost, if_neg (by omega), Int.toNat_natCast, costN_eq (c := c) (by omega) hp (by omega) hc]

theorem rfAt {rb : Nat} {N : Int} {kv : Value} {L : List RB} {HB : List Chunk} (hL : Slc 53 kv L HB) (hlen : L.length < 2 ^ 40) (h : Int) :
    Tri Try.prog 57 #[.pointer (some ⟨rb, 0, none⟩), .int .i64 h] [rseg rb N kv, HB] (fun r S => r = rixV (rix h L) ∧ S = [rseg rb N kv, HB]) := by
  refine Tri.forget (ycallee Try.fx57 (Nat.le_of_ble_eq_true rfl) ?_)
  unfold Try.x57
  obtain ⟨a, c, rfl⟩ := hL.isSlice
  refine yseq ?_
  refine yregion ?_
  refine yp pC ?_
  refine ynil ?_
  refine tnorm ?_
  refine yseq ?_
  refine yseq ?_
  refine yregion ?_
  refine yp pC ?_
  refine ynil ?_
  refine tnorm ?_
  refine yblock ?_
  refine yloop (σ := Nat) (fun i E S => Has E [(0, .pointer (some ⟨rb, 0, none⟩)), (1, .int .i64 h), (5, .int .i64 i)] ∧ i ≤ L.length ∧ (rix h L = (rix h (L.drop i)).map (· + i)) ∧ Junk S [rseg rb N (.slice a L.length c), HB]) (fun i => L.length - i) 0 ⟨⟨rfl, rfl, rfl, trivial⟩, Nat.zero_le _, by simp, .self⟩ fun i E S ⟨hE, hi, hx, hS⟩ => ?_
  obtain ⟨E0, e0⟩ := has_puts hE; subst e0; clear hE
  refine yforget hS ?_
  refine yseq ?_
  refine yseq ?_
  refine yregion ?_
  refine yp (pI rfl) ?_
  refine yp (pP rfl) ?_
  refine yp (pNilc rfl) ?_
  refine yp (pFadr rfl) ?_
  refine ycons (yload1 rfl rfl ?_)
  refine yp (pLen rfl) ?_
  refine yp (pLt rfl rfl) ?_
  refine ynil ?_
  refine tnorm ?_
  refine ycondD rfl (fun h => ?_) (fun h => ?_)
  · have hlt : i < L.length := by omega
    have hd : L.drop i = L[i] :: L.drop (i + 1) := List.drop_eq_getElem_cons hlt
    obtain ⟨b, sp, fz2, hz, rfl, _, rfl, rfl⟩ := hL.at' (by intro h; simp [h] at hlt)
    refine yskip ?_
    refine tnorm ?_
    refine yseq ?_
    refine yblock ?_
    refine yseq ?_
    refine yregion ?_
    refine yp (pP rfl) ?_
    refine yp (pNilc rfl) ?_
    refine yp (pFadr rfl) ?_
    refine ycons (yload1 rfl rfl ?_)
    refine yp (pI rfl) ?_
    refine yp (pIxN rfl rfl (by omega)) ?_
    refine yp (pFadr rfl) ?_
    refine ycons (yload1 (v := .int .i64 L[i].h) rfl ((row_cell (kk := 2) (j := 0) hlt rfl (by omega)).trans rfl) ?_)
    refine yp (pI rfl) ?_
    refine yp (pEq rfl rfl) ?_
    refine ynil ?_
    refine tnorm ?_
    refine ycondD rfl (fun h2 => ?_) (fun h2 => ?_)
    · refine yseq ?_
      refine yregion ?_
      refine yp (pI rfl) ?_
      refine yp (pI rfl) ?_
      refine ynil ?_
      refine tnorm ?_
      refine yret ?_
      refine bret ?_
      refine tret ?_
      refine tret ?_
      refine bret ?_
      refine tret ?_
      exact yfin (rI rfl) ⟨_, .of, by rw [hx, hd, rix, if_pos h2]; simp [rixV], rfl⟩
    · refine yskip ?_
      refine bnorm ?_
      refine tnorm ?_
      refine yregion ?_
      refine yp (pI rfl) ?_
      refine yp (pInc rfl rfl (by omega)) ?_
      refine yp (pI rfl) ?_
      refine ynil ?_
      refine tnorm ?_
      refine ⟨i + 1, ⟨⟨rfl, rfl, rfl, trivial⟩, by omega, ?_, .of⟩, by omega⟩
      rw [hx, hd, rix, if_neg h2, Option.map_map]
      congr 1
      funext x
      simp; omega
  · refine yexit ?_
    refine texit ?_
    refine texit ?_
    refine bexit ?_
    refine tnorm ?_
    refine yseq ?_
    refine yregion ?_
    refine yp pC ?_
    refine ynil ?_
    refine tnorm ?_
    refine yret ?_
    have : L.drop i = [] := List.drop_eq_nil_of_le (by omega)
    exact yfin (rI rfl) ⟨_, .of, by rw [hx, this]; rfl, rfl⟩

/-- the document's blocks, of which none is too big -/
structure RSm (N : Nat) (L : List RB) : Prop where
  len : L.length < 2 ^ 30
  big : N < 2 ^ 30
  each : ∀ x ∈ L, x.b.length ≤ 4096
  used : usedR L ≤ N
theorem rfUsed {rb N : Nat} {kv : Value} {L : List RB} {HB : List Chunk} (hL : Slc 53 kv L HB) (hs : RSm N L) :
    Tri Try.prog 62 #[.pointer (some ⟨rb, 0, none⟩)] [rseg rb N kv, HB] (fun r S => r = .int .i64 (usedR L : Nat) ∧ S = [rseg rb N kv, HB]) := by
  refine Tri.forget (ycallee Try.fx62 (Nat.le_of_ble_eq_true rfl) ?_)
  unfold Try.x62
  have hlen := hs.len
  have hbig := hs.big
  have hu := hs.used
  obtain ⟨a, c, rfl⟩ := hL.isSlice
  refine yseq ?_
  refine yregion ?_
  refine yp pC ?_
  refine ynil ?_
  refine tnorm ?_
  refine yseq ?_
  refine yregion ?_
  refine yp pC ?_
  refine ynil ?_
  refine tnorm ?_
  refine yseq ?_
  refine yseq ?_
  refine yregion ?_
  refine yp pC ?_
  refine ynil ?_
  refine tnorm ?_
  refine yblock ?_
  refine yloop (σ := Nat) (fun i E S => Has E [(0, .pointer (some ⟨rb, 0, none⟩)), (3, .int .i64 (usedR (L.take i) : Nat)), (4, .int .i64 i)] ∧ i ≤ L.length ∧ Junk S [rseg rb N (.slice a L.length c), HB]) (fun i => L.length - i) 0 ⟨⟨rfl, rfl, rfl, trivial⟩, Nat.zero_le _, .self⟩ fun i E S ⟨hE, hi, hS⟩ => ?_
  have hut := usedR_take L i
  obtain ⟨E0, e0⟩ := has_puts hE; subst e0; clear hE
  refine yforget hS ?_
  refine yseq ?_
  refine yseq ?_
  refine yregion ?_
  refine yp (pI rfl) ?_
  refine yp (pP rfl) ?_
  refine yp (pNilc rfl) ?_
  refine yp (pFadr rfl) ?_
  refine ycons (yload1 rfl rfl ?_)
  refine yp (pLen rfl) ?_
  refine yp (pLt rfl rfl) ?_
  refine ynil ?_
  refine tnorm ?_
  refine ycondD rfl (fun h => ?_) (fun h => ?_)
  · have hlt : i < L.length := by omega
    have htk : L.take (i + 1) = L.take i ++ [L[i]] := by rw [List.take_add_one, List.getElem?_eq_getElem hlt]; rfl
    have hut2 := usedR_take L (i + 1)
    rw [htk, usedR_snoc] at hut2
    have hb4 := hs.each _ (List.getElem_mem hlt)
    obtain ⟨b, sp, fz2, hz, rfl, _, rfl, rfl⟩ := hL.at' (by intro h; simp [h] at hlt)
    have hld : ((cells (L ++ sp)).toArray.toList)[0 + i * 2 + 1]? = some (.slice L[i].a L[i].b.length L[i].c) := (row_cell (kk := 2) (j := 1) hlt rfl (by omega)).trans rfl
    generalize L[i] = x at htk hut2 hb4 hld
    refine yskip ?_
    refine tnorm ?_
    refine yseq ?_
    refine yblock ?_
    refine yregion ?_
    refine yp (pI rfl) ?_
    refine yp (pP rfl) ?_
    refine yp (pNilc rfl) ?_
    refine yp (pFadr rfl) ?_
    refine ycons (yload1 rfl rfl ?_)
    refine yp (pI rfl) ?_
    refine yp (pIxN rfl rfl (by omega)) ?_
    refine yp (pFadr rfl) ?_
    refine ycons (yload1 (v := .slice x.a x.b.length x.c) rfl hld ?_)
    refine yp (pLen rfl) ?_
    refine ycons (ycall (rfCost (x.b.length : Int)) rfl rfl fun r S' h => ?_)
    obtain ⟨rfl, rfl⟩ := h
    rw [show cost (x.b.length : Int) = (costN x.b.length : Nat) from by unfold cost; rw [if_neg (by omega), Int.toNat_natCast]]
    refine yp (pAddN rfl rfl (by omega)) ?_
    refine yp (pI rfl) ?_
    refine ynil ?_
    refine bnorm ?_
    refine tnorm ?_
    refine yregion ?_
    refine yp (pI rfl) ?_
    refine yp (pInc rfl rfl (by omega)) ?_
    refine yp (pI rfl) ?_
    refine ynil ?_
    refine tnorm ?_
    refine ⟨i + 1, ⟨⟨rfl, ?_, rfl, trivial⟩, by omega, .of⟩, by omega⟩
    rw [htk, usedR_snoc]; rfl
  · refine yexit ?_
    refine texit ?_
    refine texit ?_
    refine bexit ?_
    refine tnorm ?_
    refine yseq ?_
    refine yregion ?_
    refine yp (pI rfl) ?_
    refine yp (pI rfl) ?_
    refine ynil ?_
    refine tnorm ?_
    refine yret ?_
    rw [List.take_of_length_le (show L.length ≤ i from by omega)]
    exact yfin (rI rfl) ⟨_, .of, rfl, rfl⟩
theorem rfLeft {rb N : Nat} {kv : Value} {L : List RB} {HB : List Chunk} (hL : Slc 53 kv L HB) (hs : RSm N L) :
    Tri Try.prog 27 #[.pointer (some ⟨rb, 0, none⟩)] [rseg rb N kv, HB] (fun r S => r = .int .i64 ((N - usedR L : Nat) : Int) ∧ S = [rseg rb N kv, HB]) := by
  refine Tri.forget (ycallee Try.fx27 (Nat.le_of_ble_eq_true rfl) ?_)
  unfold Try.x27
  have hbig := hs.big
  have hu := hs.used
  refine yseq ?_
  refine yregion ?_
  refine yp pC ?_
  refine ynil ?_
  refine tnorm ?_
  refine yseq ?_
  refine ydraw ?_
  refine ytq (pP rfl) ?_
  refine ytq (pNilc rfl) ?_
  refine ytq (pFadr rfl) ?_
  refine ytl1 rfl rfl ?_
  refine ytq (pP rfl) ?_
  refine ytaltC (ycall (rfUsed (rb := rb) hL hs) rfl rfl fun r S' h => ?_) ytno
  obtain ⟨rfl, rfl⟩ := h
  refine ⟨by simp, ?_⟩
  refine ytq (pSub rfl rfl (by omega)) ?_
  refine ytq (pI rfl) ?_
  refine ytdone ?_
  refine tnorm ?_
  refine yret ?_
  exact yfin (rI rfl) ⟨_, .of, by congr 1; omega, rfl⟩

theorem rfFree {rb : Nat} {N : Int} {kv : Value} {L : List RB} {HB : List Chunk} (hL : Slc 53 kv L HB) (hlen : L.length < 2 ^ 30) (h : Int) :
    Tri Try.prog 23 #[.pointer (some ⟨rb, 0, none⟩), .int .i64 h] [rseg rb N kv, HB] (fun r S => (rix h L = none ∧ r = .int .i64 5 ∧ S = [rseg rb N kv, HB]) ∨ (∃ (i : Nat) (kv' : Value) (HB' : List Chunk), rix h L = some i ∧ r = .int .i64 0 ∧ Slc 53 kv' (L.eraseIdx i) HB' ∧ S = [rseg rb N kv', HB'])) := by
  refine Tri.forget (ycallee Try.fx23 (Nat.le_of_ble_eq_true rfl) ?_)
  unfold Try.x23
  refine yseq ?_
  refine yregion ?_
  refine yp pC ?_
  refine ynil ?_
  refine tnorm ?_
  refine yseq ?_
  refine yregion ?_
  refine yp (pP rfl) ?_
  refine yp (pI rfl) ?_
  refine ycons (ycall (rfAt (rb := rb) (N := N) hL (by omega) h) rfl rfl fun r S' h => ?_)
  obtain ⟨rfl, rfl⟩ := h
  cases hx : rix h L with
  | none =>
    simp only [rixV]
    refine yp (pI rfl) ?_
    refine ynil ?_
    refine tnorm ?_
    refine yseq ?_
    refine yseq ?_
    refine yregion ?_
    refine yp (pI rfl) ?_
    refine yp (pLt rfl rfl) ?_
    refine ynil ?_
    refine tnorm ?_
    refine ycondT rfl ?_
    refine yseq ?_
    refine yregion ?_
    refine yp pC ?_
    refine ynil ?_
    refine tnorm ?_
    refine yret ?_
    refine tret ?_
    exact yfin (rI rfl) ⟨_, .of, .inl ⟨trivial, rfl, rfl⟩⟩
  | some i =>
    obtain ⟨x, hxi, _⟩ := rix_lt hx
    have hi := (List.getElem?_eq_some_iff.1 hxi).1
    simp only [rixV]
    obtain ⟨a, c, rfl⟩ := hL.isSlice
    obtain ⟨a1, c1, hp1, hY1⟩ := hL.headE (S := [rseg rb N (.slice a L.length c), HB]) (by simp) (k := i) (kk := 2) (by omega) (E := fun _ => .slice a L.length c) (x := .tmp 0) (y := .const (.int .i64 (i : Int))) rfl rfl
    obtain ⟨a2, c2, hp2, hY2⟩ := hL.tailE (S := [rseg rb N (.slice a L.length c), HB]) (by simp) (k := i + 1) (kk := 2) rfl (by omega) (E := fun _ => .slice a L.length c) (x := .tmp 0) (y := .const (.int .i64 ((i + 1 : Nat) : Int))) rfl rfl
    refine yp (pI rfl) ?_
    refine ynil ?_
    refine tnorm ?_
    refine yseq ?_
    refine yseq ?_
    refine yregion ?_
    refine yp (pI rfl) ?_
    refine yp (pLt rfl rfl) ?_
    refine ynil ?_
    refine tnorm ?_
    refine ycondF rfl ?_
    refine yskip ?_
    refine tnorm ?_
    refine yseq ?_
    refine ydraw ?_
    refine ytq (pP rfl) ?_
    refine ytq (pP rfl) ?_
    refine ytq (pNilc rfl) ?_
    refine ytq (pFadr rfl) ?_
    refine ytl1 rfl rfl ?_
    refine ytq (pI rfl) ?_
    refine ytq (v := .slice a1 i c1) hp1 ?_
    refine ytq (pP rfl) ?_
    refine ytq (pNilc rfl) ?_
    refine ytq (pFadr rfl) ?_
    refine ytl1 rfl rfl ?_
    refine ytq (pI rfl) ?_
    refine ytq (pInc rfl rfl (by omega)) ?_
    refine ytq (v := .slice a2 (L.length - (i + 1)) c2) hp2 ?_
    refine ytaltC (ybsl0 fun p12 => ⟨by simp, ?_⟩) ytno
    refine ytaltC (yapp rfl rfl Slc.empty (hY1.mono (by simp)) rfl RB.z rfl (by rw [List.length_take]; simp; omega) (by rw [List.length_take]; simp; omega) fun v1 H1 hL1 => ⟨by simp, ?_⟩) ytno
    refine ytalt (yapp (Y := L.drop (i + 1)) rfl rfl hL1 (hY2.mono (by simp)) rfl RB.z rfl (by simp; omega) (by simp; omega) fun v2 H2 hL2 => ?_) ytno
    rw [List.nil_append, ← List.eraseIdx_eq_take_drop_succ] at hL2
    obtain ⟨a3, c3, rfl⟩ := hL2.isSlice
    refine ytq (pNilc rfl) ?_
    refine ytq (pFadr rfl) ?_
    refine ytalt (yst2_1 rfl rfl (scS rfl) ?_) ytno
    refine ytdone ?_
    refine tnorm ?_
    refine yseq ?_
    refine yregion ?_
    refine yp pC ?_
    refine ynil ?_
    refine tnorm ?_
    refine yret ?_
    exact yfin (rI rfl) ⟨_, .of, .inr ⟨i, .slice a3 (L.eraseIdx i).length c3, H2, rfl, rfl, hL2, rfl⟩⟩
def readE (b : Bt) (at_ n : Int) : Int := if at_ < 0 ∨ n < 0 ∨ (b.length : Int) < at_ ∨ (b.length : Int) - at_ < n then 1 else 0
theorem rfRead {rb : Nat} {N : Int} {kv : Value} {L : List RB} {HB : List Chunk} {S : Segs} (hL : Slc 53 kv L HB) (hlen : L.length < 2 ^ 30) (hS : ∀ x ∈ L, Src S x.v x.b ∧ x.b.length ≤ x.c ∧ x.b.length ≤ 4096) (h at_ n : Int) :
    Tri Try.prog 24 #[.pointer (some ⟨rb, 0, none⟩), .int .i64 h, .int .i64 at_, .int .i64 n] (rseg rb N kv :: HB :: S) (fun r S' =>
      (rix h L = none ∧ r = .tuple #[.slice none 0 0, .int .i64 5] ∧ S' = rseg rb N kv :: HB :: S) ∨
      (∃ (i : Nat) (x : RB), L[i]? = some x ∧ rix h L = some i ∧ readE x.b at_ n = 1 ∧ r = .tuple #[.slice none 0 0, .int .i64 1] ∧ S' = rseg rb N kv :: HB :: S) ∨
      (∃ (i : Nat) (x : RB) (v : Value) (Ho : List Chunk), L[i]? = some x ∧ rix h L = some i ∧ readE x.b at_ n = 0 ∧ r = .tuple #[v, .int .i64 0] ∧ Slc 5 v ((x.b.drop at_.toNat).take n.toNat) Ho ∧ S' = Ho :: rseg rb N kv :: HB :: S)) := by
  refine Tri.forget (ycallee Try.fx24 (Nat.le_of_ble_eq_true rfl) ?_)
  unfold Try.x24
  refine yseq ?_
  refine yregion ?_
  refine yp pC ?_
  refine yp pC ?_
  refine ynil ?_
  refine tnorm ?_
  refine yseq ?_
  refine yregion ?_
  refine yp (pP rfl) ?_
  refine yp (pI rfl) ?_
  refine ycons (ycall (rfAt (rb := rb) (N := N) hL (by omega) h) rfl rfl fun r S' h => ?_)
  obtain ⟨rfl, rfl⟩ := h
  cases hx : rix h L with
  | none =>
    simp only [rixV]
    refine yp (pI rfl) ?_
    refine ynil ?_
    refine tnorm ?_
    refine yseq ?_
    refine yseq ?_
    refine yregion ?_
    refine yp (pI rfl) ?_
    refine yp (pLt rfl rfl) ?_
    refine ynil ?_
    refine tnorm ?_
    refine ycondT rfl ?_
    refine yseq ?_
    refine yregion ?_
    refine yp pC ?_
    refine yp pC ?_
    refine ynil ?_
    refine tnorm ?_
    refine yret ?_
    refine tret ?_
    exact yfin (rSI rfl rfl) ⟨_, .of, .inl ⟨trivial, rfl, rfl⟩⟩
  | some i =>
    obtain ⟨x, hxi, _⟩ := rix_lt hx
    obtain ⟨hi, hxe⟩ := List.getElem?_eq_some_iff.1 hxi
    obtain ⟨hxS, hxc, hx4⟩ := hS x (List.mem_of_getElem? hxi)
    simp only [rixV]
    obtain ⟨b, sp, fz, hz, hae, _, hce, hHe⟩ : ∃ b sp fz, FzOk fz (cells (L ++ sp)).length ∧ kv = .slice (some ⟨b, 0, none⟩) L.length (L.length + sp.length) ∧ True ∧ True ∧ HB = [(b, .cells (cells (L ++ sp)).toArray 53 fz)] := by
      obtain ⟨a, c, rfl⟩ := hL.isSlice
      obtain ⟨b, sp, fz, hz, h1, _, h3, h4⟩ := hL.at' (by intro h; simp [h] at hi)
      exact ⟨b, sp, fz, hz, by rw [h1, h3], trivial, trivial, h4⟩
    subst hae hHe
    have hld : ((cells (L ++ sp)).toArray.toList)[0 + i * 2 + 1]? = some (.slice x.a x.b.length x.c) := (row_cell (kk := 2) (j := 1) hi rfl (by omega)).trans (by rw [hxe]; rfl)
    refine yp (pI rfl) ?_
    refine ynil ?_
    refine tnorm ?_
    refine yseq ?_
    refine yseq ?_
    refine yregion ?_
    refine yp (pI rfl) ?_
    refine yp (pLt rfl rfl) ?_
    refine ynil ?_
    refine tnorm ?_
    refine ycondF rfl ?_
    refine yskip ?_
    refine tnorm ?_
    refine yseq ?_
    refine yregion ?_
    refine yp (pP rfl) ?_
    refine yp (pNilc rfl) ?_
    refine yp (pFadr rfl) ?_
    refine ycons (yload1 rfl rfl ?_)
    refine yp (pI rfl) ?_
    refine yp (pIxN rfl rfl (by omega)) ?_
    refine yp (pFadr rfl) ?_
    refine ycons (yload1 (v := .slice x.a x.b.length x.c) rfl hld ?_)
    refine yp (pS rfl) ?_
    refine ynil ?_
    refine tnorm ?_
    refine yseq ?_
    refine yseq ?_
    refine yregion ?_
    refine yp (pI rfl) ?_
    refine yp (pLt rfl rfl) ?_
    refine yp (pB rfl) ?_
    by_cases h1 : at_ < 0
    · rw [decide_eq_true h1]
      refine ygF rfl ?_
      refine ygF rfl ?_
      refine yp (pPickT rfl rfl) ?_
      refine yp (pB rfl) ?_
      refine ygF rfl ?_
      refine ygF rfl ?_
      refine ygF rfl ?_
      refine ygF rfl ?_
      refine yp (pPickT rfl rfl) ?_
      refine yp (pB rfl) ?_
      refine ygF rfl ?_
      refine ygF rfl ?_
      refine ygF rfl ?_
      refine ygF rfl ?_
      refine ygF rfl ?_
      refine ygF rfl ?_
      refine yp (pPickT rfl rfl) ?_
      refine ynil ?_
      refine tnorm ?_
      refine ycondT rfl ?_
      refine yseq ?_
      refine yregion ?_
      refine yp pC ?_
      refine yp pC ?_
      refine ynil ?_
      refine tnorm ?_
      refine yret ?_
      refine tret ?_
      exact yfin (rSI rfl rfl) ⟨_, .of, .inr (.inl ⟨i, x, hxi, rfl, by unfold readE; rw [if_pos (.inl h1)], rfl, rfl⟩)⟩
    rw [decide_eq_false h1]
    refine ygT rfl ?_
    refine yop (pI rfl) ?_
    refine ygT rfl ?_
    refine yop (pLt rfl rfl) ?_
    refine yp (pPickF rfl rfl) ?_
    refine yp (pB rfl) ?_
    by_cases h2 : n < 0
    · rw [decide_eq_true h2]
      refine ygF rfl ?_
      refine ygF rfl ?_
      refine ygF rfl ?_
      refine ygF rfl ?_
      refine yp (pPickT rfl rfl) ?_
      refine yp (pB rfl) ?_
      refine ygF rfl ?_
      refine ygF rfl ?_
      refine ygF rfl ?_
      refine ygF rfl ?_
      refine ygF rfl ?_
      refine ygF rfl ?_
      refine yp (pPickT rfl rfl) ?_
      refine ynil ?_
      refine tnorm ?_
      refine ycondT rfl ?_
      refine yseq ?_
      refine yregion ?_
      refine yp pC ?_
      refine yp pC ?_
      refine ynil ?_
      refine tnorm ?_
      refine yret ?_
      refine tret ?_
      exact yfin (rSI rfl rfl) ⟨_, .of, .inr (.inl ⟨i, x, hxi, rfl, by unfold readE; rw [if_pos (.inr (.inl h2))], rfl, rfl⟩)⟩
    rw [decide_eq_false h2]
    refine ygT rfl ?_
    refine yop (pI rfl) ?_
    refine ygT rfl ?_
    refine yop (pS rfl) ?_
    refine ygT rfl ?_
    refine yop (pLen rfl) ?_
    refine ygT rfl ?_
    refine yop (pGt rfl rfl) ?_
    refine yp (pPickF rfl rfl) ?_
    refine yp (pB rfl) ?_
    by_cases h3 : (x.b.length : Int) < at_
    · rw [decide_eq_true h3]
      refine ygF rfl ?_
      refine ygF rfl ?_
      refine ygF rfl ?_
      refine ygF rfl ?_
      refine ygF rfl ?_
      refine ygF rfl ?_
      refine yp (pPickT rfl rfl) ?_
      refine ynil ?_
      refine tnorm ?_
      refine ycondT rfl ?_
      refine yseq ?_
      refine yregion ?_
      refine yp pC ?_
      refine yp pC ?_
      refine ynil ?_
      refine tnorm ?_
      refine yret ?_
      refine tret ?_
      exact yfin (rSI rfl rfl) ⟨_, .of, .inr (.inl ⟨i, x, hxi, rfl, by unfold readE; rw [if_pos (.inr (.inr (.inl h3)))], rfl, rfl⟩)⟩
    rw [decide_eq_false h3]
    refine ygT rfl ?_
    refine yop (pI rfl) ?_
    refine ygT rfl ?_
    refine yop (pS rfl) ?_
    refine ygT rfl ?_
    refine yop (pLen rfl) ?_
    refine ygT rfl ?_
    refine yop (pI rfl) ?_
    refine ygT rfl ?_
    refine yop (pSub rfl rfl (by omega)) ?_
    refine ygT rfl ?_
    refine yop (pGt rfl rfl) ?_
    refine yp (pPickF rfl rfl) ?_
    refine ynil ?_
    refine tnorm ?_
    by_cases h4 : (x.b.length : Int) - at_ < n
    · rw [decide_eq_true h4]
      refine ycondT rfl ?_
      refine yseq ?_
      refine yregion ?_
      refine yp pC ?_
      refine yp pC ?_
      refine ynil ?_
      refine tnorm ?_
      refine yret ?_
      refine tret ?_
      exact yfin (rSI rfl rfl) ⟨_, .of, .inr (.inl ⟨i, x, hxi, rfl, by unfold readE; rw [if_pos (.inr (.inr (.inr h4)))], rfl, rfl⟩)⟩
    rw [decide_eq_false h4]
    obtain ⟨o, rfl⟩ := Int.eq_ofNat_of_zero_le (show 0 ≤ at_ from by omega)
    obtain ⟨m, rfl⟩ := Int.eq_ofNat_of_zero_le (show 0 ≤ n from by omega)
    have hE0 : readE x.b o m = 0 := by unfold readE; rw [if_neg (by omega)]
    obtain ⟨a1, c1, hp1, hY1⟩ := Src.partE (v := x.v) hxS (k := o) (m := o + m) (kk := 1) rfl (by omega) (by omega) (E := fun _ => x.v) (x := .tmp 0) (y := .const (.int .i64 (o : Int))) (z := .const (.int .i64 ((o + m : Nat) : Int))) rfl (fun a l c e => by unfold RB.v at e; cases e; exact hxc) rfl rfl
    rw [show o + m - o = m from by omega] at hp1 hY1
    refine ycondF rfl ?_
    refine yskip ?_
    refine tnorm ?_
    refine yseq ?_
    refine yregion ?_
    refine ycons (ybsl0 fun p45 => ?_)
    refine yp (pS rfl) ?_
    refine yp (pI rfl) ?_
    refine yp (pI rfl) ?_
    refine yp (pI rfl) ?_
    refine yp (pAddN rfl rfl (by omega)) ?_
    refine yp (v := .slice a1 m c1) hp1 ?_
    refine ycons (yapp rfl rfl Slc.empty (hY1.mono (by intro s hs; simp [hs])) rfl (0 : UInt8) rfl (by simp; omega) (by simp; omega) fun v1 H1 hL1 => ?_)
    obtain ⟨a3, c3, rfl⟩ := hL1.isSlice
    refine yp (pS rfl) ?_
    refine yp pC ?_
    refine ynil ?_
    refine tnorm ?_
    refine yret ?_
    refine yfin (rSI rfl rfl) ⟨_, .of, .inr (.inr ⟨i, x, _, H1, hxi, rfl, hE0, rfl, ?_, rfl⟩)⟩
    simpa using hL1

def writeE (b : Bt) (at_ : Int) (m : Nat) : Int := if at_ < 0 ∨ (b.length : Int) < at_ ∨ (b.length : Int) - at_ < m then 1 else 0
set_option maxHeartbeats 1000000 in
theorem rfWrite {rb : Nat} {N : Int} {kv : Value} {L : List RB} {HB : List Chunk} {S : Segs} (hL : Slc 53 kv L HB) (hlen : L.length < 2 ^ 30) (hS : ∀ x ∈ L, Src S x.v x.b ∧ x.b.length ≤ x.c ∧ x.b.length ≤ 4096) (h at_ : Int) {pv : Value} {Y : Bt} (hY : Src S pv Y) (hYl : Y.length ≤ maxLen) :
    Tri Try.prog 25 #[.pointer (some ⟨rb, 0, none⟩), .int .i64 h, .int .i64 at_, pv] (rseg rb N kv :: HB :: S) (fun r S' =>
      (rix h L = none ∧ r = .int .i64 5 ∧ S' = rseg rb N kv :: HB :: S) ∨
      (∃ (i : Nat) (x : RB), L[i]? = some x ∧ rix h L = some i ∧ writeE x.b at_ Y.length = 1 ∧ r = .int .i64 1 ∧ S' = rseg rb N kv :: HB :: S) ∨
      (∃ (i : Nat) (x : RB) (kv' : Value) (HB' HN : List Chunk) (a : Option Addr) (c : Nat), L[i]? = some x ∧ rix h L = some i ∧ writeE x.b at_ Y.length = 0 ∧ r = .int .i64 0 ∧ Slc 53 kv' (L.set i ⟨x.h, spl x.b at_.toNat Y, a, c⟩) HB' ∧
        Slc 5 (.slice a (spl x.b at_.toNat Y).length c) (spl x.b at_.toNat Y) HN ∧ S' = rseg rb N kv' :: HB' :: HN :: S)) := by
  refine Tri.forget (ycallee Try.fx25 (Nat.le_of_ble_eq_true rfl) ?_)
  unfold Try.x25
  obtain ⟨pa, pc, rfl⟩ := hY.isSlice
  refine yseq ?_
  refine yregion ?_
  refine yp pC ?_
  refine ynil ?_
  refine tnorm ?_
  refine yseq ?_
  refine yregion ?_
  refine yp (pP rfl) ?_
  refine yp (pI rfl) ?_
  refine ycons (ycall (rfAt (rb := rb) (N := N) hL (by omega) h) rfl rfl fun r S' h => ?_)
  obtain ⟨rfl, rfl⟩ := h
  cases hx : rix h L with
  | none =>
    simp only [rixV]
    refine yp (pI rfl) ?_
    refine ynil ?_
    refine tnorm ?_
    refine yseq ?_
    refine yseq ?_
    refine yregion ?_
    refine yp (pI rfl) ?_
    refine yp (pLt rfl rfl) ?_
    refine ynil ?_
    refine tnorm ?_
    refine ycondT rfl ?_
    refine yseq ?_
    refine yregion ?_
    refine yp pC ?_
    refine ynil ?_
    refine tnorm ?_
    refine yret ?_
    refine tret ?_
    exact yfin (rI rfl) ⟨_, .of, .inl ⟨trivial, rfl, rfl⟩⟩
  | some i =>
    obtain ⟨x, hxi, _⟩ := rix_lt hx
    obtain ⟨hi, hxe⟩ := List.getElem?_eq_some_iff.1 hxi
    obtain ⟨hxS, hxc, hx4⟩ := hS x (List.mem_of_getElem? hxi)
    simp only [rixV]
    obtain ⟨b, sp, fz, hz, hae, hHe⟩ : ∃ b sp fz, FzOk fz (cells (L ++ sp)).length ∧ kv = .slice (some ⟨b, 0, none⟩) L.length (L.length + sp.length) ∧ HB = [(b, .cells (cells (L ++ sp)).toArray 53 fz)] := by
      obtain ⟨a, c, rfl⟩ := hL.isSlice
      obtain ⟨b, sp, fz, hz, h1, _, h3, h4⟩ := hL.at' (by intro h; simp [h] at hi)
      exact ⟨b, sp, fz, hz, by rw [h1, h3], h4⟩
    subst hae hHe
    have hld : ((cells (L ++ sp)).toArray.toList)[0 + i * 2 + 1]? = some (.slice x.a x.b.length x.c) := (row_cell (kk := 2) (j := 1) hi rfl (by omega)).trans (by rw [hxe]; rfl)
    refine yp (pI rfl) ?_
    refine ynil ?_
    refine tnorm ?_
    refine yseq ?_
    refine yseq ?_
    refine yregion ?_
    refine yp (pI rfl) ?_
    refine yp (pLt rfl rfl) ?_
    refine ynil ?_
    refine tnorm ?_
    refine ycondF rfl ?_
    refine yskip ?_
    refine tnorm ?_
    refine yseq ?_
    refine yregion ?_
    refine yp (pP rfl) ?_
    refine yp (pNilc rfl) ?_
    refine yp (pFadr rfl) ?_
    refine ycons (yload1 rfl rfl ?_)
    refine yp (pI rfl) ?_
    refine yp (pIxN rfl rfl (by omega)) ?_
    refine yp (pFadr rfl) ?_
    refine ycons (yload1 (v := .slice x.a x.b.length x.c) rfl hld ?_)
    have hml : maxLen = 9223372036854775807 := by decide
    refine yp (pS rfl) ?_
    refine ynil ?_
    refine tnorm ?_
    refine ycutQ (fun E S' => Has E [(0, .pointer (some ⟨rb, 0, none⟩)), (2, .int .i64 at_), (3, .slice pa Y.length pc), (9, .int .i64 (i : Int)), (10, .slice x.a x.b.length x.c)] ∧ (0 ≤ at_ ∧ at_ + Y.length ≤ x.b.length) ∧ Junk S' (rseg rb N (.slice (some ⟨b, 0, none⟩) L.length (L.length + sp.length)) :: [(b, .cells (cells (L ++ sp)).toArray 53 fz)] :: S)) ?_ fun E S' ⟨hE, hat, hJ⟩ => ?_
    · refine yseq ?_
      refine yregion ?_
      refine yp (pI rfl) ?_
      refine yp (pLt rfl rfl) ?_
      refine yp (pB rfl) ?_
      by_cases h1 : at_ < 0
      · rw [decide_eq_true h1]
        refine ygF rfl ?_
        refine ygF rfl ?_
        refine ygF rfl ?_
        refine ygF rfl ?_
        refine yp (pPickT rfl rfl) ?_
        refine yp (pB rfl) ?_
        refine ygF rfl ?_
        refine ygF rfl ?_
        refine ygF rfl ?_
        refine ygF rfl ?_
        refine ygF rfl ?_
        refine ygF rfl ?_
        refine ygF rfl ?_
        refine yp (pPickT rfl rfl) ?_
        refine ynil ?_
        refine tnorm ?_
        refine ycondT rfl ?_
        refine yseq ?_
        refine yregion ?_
        refine yp pC ?_
        refine ynil ?_
        refine tnorm ?_
        refine yret ?_
        refine tret ?_
        exact yfin (rI rfl) ⟨_, .of, .inr (.inl ⟨i, x, hxi, rfl, by unfold writeE; rw [if_pos (.inl h1)], rfl, rfl⟩)⟩
      rw [decide_eq_false h1]
      refine ygT rfl ?_
      refine yop (pI rfl) ?_
      refine ygT rfl ?_
      refine yop (pS rfl) ?_
      refine ygT rfl ?_
      refine yop (pLen rfl) ?_
      refine ygT rfl ?_
      refine yop (pGt rfl rfl) ?_
      refine yp (pPickF rfl rfl) ?_
      refine yp (pB rfl) ?_
      by_cases h3 : (x.b.length : Int) < at_
      · rw [decide_eq_true h3]
        refine ygF rfl ?_
        refine ygF rfl ?_
        refine ygF rfl ?_
        refine ygF rfl ?_
        refine ygF rfl ?_
        refine ygF rfl ?_
        refine ygF rfl ?_
        refine yp (pPickT rfl rfl) ?_
        refine ynil ?_
        refine tnorm ?_
        refine ycondT rfl ?_
        refine yseq ?_
        refine yregion ?_
        refine yp pC ?_
        refine ynil ?_
        refine tnorm ?_
        refine yret ?_
        refine tret ?_
        exact yfin (rI rfl) ⟨_, .of, .inr (.inl ⟨i, x, hxi, rfl, by unfold writeE; rw [if_pos (.inr (.inl h3))], rfl, rfl⟩)⟩
      rw [decide_eq_false h3]
      refine ygT rfl ?_
      refine yop (pS rfl) ?_
      refine ygT rfl ?_
      refine yop (pLen rfl) ?_
      refine ygT rfl ?_
      refine yop (pS rfl) ?_
      refine ygT rfl ?_
      refine yop (pLen rfl) ?_
      refine ygT rfl ?_
      refine yop (pI rfl) ?_
      refine ygT rfl ?_
      refine yop (pSub rfl rfl (by omega)) ?_
      refine ygT rfl ?_
      refine yop (pGt rfl rfl) ?_
      refine yp (pPickF rfl rfl) ?_
      refine ynil ?_
      refine tnorm ?_
      by_cases h4 : (x.b.length : Int) - at_ < (Y.length : Int)
      · rw [decide_eq_true h4]
        refine ycondT rfl ?_
        refine yseq ?_
        refine yregion ?_
        refine yp pC ?_
        refine ynil ?_
        refine tnorm ?_
        refine yret ?_
        refine tret ?_
        exact yfin (rI rfl) ⟨_, .of, .inr (.inl ⟨i, x, hxi, rfl, by unfold writeE; rw [if_pos (.inr (.inr h4))], rfl, rfl⟩)⟩
      rw [decide_eq_false h4]
      refine ycondF rfl ?_
      refine yskip ?_
      refine tnorm ?_
      exact ⟨⟨rfl, rfl, rfl, rfl, rfl, trivial⟩, by omega, .of⟩
    obtain ⟨o, rfl⟩ := Int.eq_ofNat_of_zero_le hat.1
    have hE0 : writeE x.b o Y.length = 0 := by unfold writeE; rw [if_neg (by omega)]
    have ho : o + Y.length ≤ x.b.length := by omega
    obtain ⟨E0, e0⟩ := has_puts hE; subst e0; clear hE
    refine yforget hJ ?_
    refine yseq ?_
    refine yregion ?_
    refine ycons (ybsl0 fun p43 => ?_)
    refine yp (pS rfl) ?_
    refine ycons (yapp (Y := x.b) rfl rfl Slc.empty (Src.mono (show Src S (.slice x.a x.b.length x.c) x.b from hxS) (by intro s hs; simp [hs])) rfl (0 : UInt8) rfl (by simp; omega) (by simp; omega) fun v1 H1 hL1 => ?_)
    rw [List.nil_append] at hL1
    obtain ⟨a3, c3, rfl⟩ := hL1.isSlice
    refine yp (pS rfl) ?_
    refine ynil ?_
    refine tnorm ?_
    refine ycut (fun E S' => ∃ HN, Has E [(0, .pointer (some ⟨rb, 0, none⟩)), (9, .int .i64 (i : Int)), (11, .slice a3 x.b.length c3)] ∧ Slc 5 (.slice a3 x.b.length c3) (spl x.b o Y) HN ∧ Junk S' (HN :: rseg rb N (.slice (some ⟨b, 0, none⟩) L.length (L.length + sp.length)) :: [(b, .cells (cells (L ++ sp)).toArray 53 fz)] :: S)) ?_ fun E S' ⟨HN, hE, hLN, hJ⟩ => ?_
    · refine yseq ?_
      refine yregion ?_
      refine yp pC ?_
      refine ynil ?_
      refine tnorm ?_
      refine yblock ?_
      refine yloop (σ := Nat) (fun k E S' => ∃ HN, Has E [(0, .pointer (some ⟨rb, 0, none⟩)), (2, .int .i64 (o : Int)), (3, .slice pa Y.length pc), (9, .int .i64 (i : Int)), (11, .slice a3 x.b.length c3), (12, .int .i64 (k : Int))] ∧ k ≤ Y.length ∧ Slc 5 (.slice a3 x.b.length c3) (spl x.b o (Y.take k)) HN ∧ Junk S' (HN :: rseg rb N (.slice (some ⟨b, 0, none⟩) L.length (L.length + sp.length)) :: [(b, .cells (cells (L ++ sp)).toArray 53 fz)] :: S)) (fun k => Y.length - k) 0
        ⟨H1, ⟨rfl, rfl, rfl, rfl, rfl, rfl, trivial⟩, Nat.zero_le _, by rw [List.take_zero, spl]; simpa using hL1, .of⟩ fun k E S' ⟨HN, hE, hk, hLN, hJ⟩ => ?_
      obtain ⟨E0, e0⟩ := has_puts hE; subst e0; clear hE
      refine yforget hJ ?_
      refine yseq ?_
      refine yseq ?_
      refine yregion ?_
      refine yp (pI rfl) ?_
      refine yp (pS rfl) ?_
      refine yp (pLen rfl) ?_
      refine yp (pLt rfl rfl) ?_
      refine ynil ?_
      refine tnorm ?_
      refine ycondD rfl (fun h => ?_) (fun h => ?_)
      · have hlt : k < Y.length := by omega
        obtain ⟨b1, o1, ca1, ty1, fz1, hae1, hm1, hmem1, hg1, _⟩ := hY.get (by intro h; simp [h] at hlt)
        subst hae1
        have hg0 := hg1 k 0 hlt (by decide)
        have htk : (Y.take k).length = k := by rw [List.length_take]; omega
        have hspl : (spl x.b o (Y.take k)).length = x.b.length := spl_len (by rw [htk]; omega)
        obtain ⟨b3, sp3, fz3, hz3, hae3, _, hce3, rfl⟩ := hLN.at' (by intro h; rw [h] at hspl; simp at hspl; omega)
        have hae3' := hae3
        subst hae3'
        refine yskip ?_
        refine tnorm ?_
        refine yseq ?_
        refine yblock ?_
        refine yregion ?_
        refine yp (pS rfl) ?_
        refine yp (pI rfl) ?_
        refine yp (pI rfl) ?_
        refine yp (pAddN rfl rfl (by omega)) ?_
        refine yp (pS rfl) ?_
        refine yp (pI rfl) ?_
        refine yp (pIxN rfl rfl (by omega)) ?_
        refine ycons (yloadM (S := [(b3, .cells (cells (spl x.b o (Y.take k) ++ sp3)).toArray 5 fz3)] :: rseg rb N (.slice (some ⟨b, 0, none⟩) L.length (L.length + sp.length)) :: [(b, .cells (cells (L ++ sp)).toArray 53 fz)] :: S) (v := .int .u8 (Y[k].toNat : Int)) (by repeat (first | exact hmem1 | apply List.mem_cons_of_mem)) rfl (hg0.trans rfl) ?_)
        refine yp (pIxN rfl rfl (by omega)) ?_
        refine ycons (ystoreE (M := spl x.b o (Y.take k) ++ sp3) (i := o + k) (y := Y[k]) rfl (by simp; omega) rfl rfl hz3 ?_)
        refine ynil ?_
        refine bnorm ?_
        refine tnorm ?_
        refine yregion ?_
        refine yp (pI rfl) ?_
        refine yp (pInc rfl rfl (by omega)) ?_
        refine yp (pI rfl) ?_
        refine ynil ?_
        refine tnorm ?_
        have hset : (spl x.b o (Y.take k) ++ sp3).set (o + k) Y[k] = spl x.b o (Y.take (k + 1)) ++ sp3 := by
          rw [List.set_append_left _ _ (by omega)]
          congr 1
          refine List.ext_getElem? fun q => ?_
          rw [List.getElem?_set, spl_get (by rw [htk]; omega), spl_get (by rw [List.length_take]; omega), htk, List.length_take, hspl, Nat.min_eq_left (by omega)]
          by_cases hq : o + k = q
          · rw [if_pos hq, if_pos (by omega), if_neg (by omega), if_pos (by omega), List.getElem?_take, if_pos (by omega), show q - o = k from by omega, List.getElem?_eq_getElem hlt]
          · rw [if_neg hq]
            by_cases hq1 : q < o
            · rw [if_pos hq1, if_pos hq1]
            · rw [if_neg hq1, if_neg hq1]
              by_cases hq2 : q < o + k
              · rw [if_pos hq2, if_pos (by omega), List.getElem?_take, List.getElem?_take, if_pos (by omega), if_pos (by omega)]
              · rw [if_neg hq2, if_neg (by omega)]
        rw [hset]
        have hspl2 : (spl x.b o (Y.take (k + 1))).length = x.b.length := spl_len (by rw [List.length_take]; omega)
        refine ⟨k + 1, ⟨[(b3, .cells (cells (spl x.b o (Y.take (k + 1)) ++ sp3)).toArray 5 fz3)], ⟨rfl, rfl, rfl, rfl, rfl, rfl, trivial⟩, by omega, ?_, .of⟩, by omega⟩
        have hrow := Slc.row (ty := 5) (b := b3) (L := spl x.b o (Y.take (k + 1))) (sp := sp3) (fz := fz3) (by rw [cells_length, List.length_append, hspl2]; rw [cells_length, List.length_append, hspl] at hz3; exact hz3)
        rw [hspl2] at hrow
        rw [hce3, hspl]
        exact hrow
      · refine yexit ?_
        refine texit ?_
        refine texit ?_
        refine bexit ?_
        refine tnorm ?_
        rw [List.take_of_length_le (show Y.length ≤ k from by omega)] at hLN
        exact ⟨HN, ⟨rfl, rfl, rfl, trivial⟩, hLN, .of⟩
    obtain ⟨E0, e0⟩ := has_puts hE; subst e0; clear hE
    refine yforget hJ ?_
    refine yseq ?_
    refine yregion ?_
    refine yp (pP rfl) ?_
    refine ycons (ybsl0 fun p62 => ?_)
    refine yp (pP rfl) ?_
    refine yp (pNilc rfl) ?_
    refine yp (pFadr rfl) ?_
    refine ycons (yload1 rfl rfl ?_)
    refine ycons (yapp (Y := L) rfl rfl Slc.empty (hL.src (by simp)) rfl RB.z rfl (by simp; omega) (by simp; omega) fun v2 H2 hL2 => ?_)
    rw [List.nil_append] at hL2
    obtain ⟨a4, c4, rfl⟩ := hL2.isSlice
    refine yp (pNilc rfl) ?_
    refine yp (pFadr rfl) ?_
    refine ycons (yst2_1 rfl rfl (scS rfl) ?_)
    refine ynil ?_
    refine tnorm ?_
    refine yseq ?_
    refine yregion ?_
    refine yp (pP rfl) ?_
    refine yp (pNilc rfl) ?_
    refine yp (pFadr rfl) ?_
    refine ycons (yload1 rfl rfl ?_)
    refine yp (pI rfl) ?_
    refine yp (pS rfl) ?_
    obtain ⟨b5, sp5, fz5, hz5, hae5, _, hce5, rfl⟩ := hL2.at' (by intro h; simp [h] at hi)
    subst hae5
    refine yp (pIxN rfl rfl (by omega)) ?_
    refine yp (pFadr rfl) ?_
    have hylen : (spl x.b o Y).length = x.b.length := spl_len ho
    refine ycons (ystoreC (M := L ++ sp5) (i := i) (j := 1) (y := ⟨x.h, spl x.b o Y, a3, c3⟩) (x := .slice a3 x.b.length c3) rfl (by simp; omega) rfl (by omega) (scS rfl) ?_ hz5 ?_)
    · rw [List.getElem_append_left hi, hxe]
      simp [enc, hylen]
    rw [List.set_append_left _ _ hi]
    refine ynil ?_
    refine tnorm ?_
    refine yseq ?_
    refine yregion ?_
    refine yp pC ?_
    refine ynil ?_
    refine tnorm ?_
    refine yret ?_
    refine yfin (rI rfl) ⟨_, .of, .inr (.inr ⟨i, x, .slice (some ⟨b5, 0, none⟩) L.length c4, [(b5, .cells (cells (L.set i ⟨x.h, spl x.b o Y, a3, c3⟩ ++ sp5)).toArray 53 fz5)], HN, a3, c3, hxi, rfl, hE0, rfl, ?_, ?_, rfl⟩)⟩
    · have hrow := Slc.row (ty := 53) (b := b5) (L := L.set i ⟨x.h, spl x.b o Y, a3, c3⟩) (sp := sp5) (fz := fz5) (by rw [cells_length, List.length_append, List.length_set]; rw [cells_length, List.length_append] at hz5; exact hz5)
      rw [List.length_set] at hrow
      rw [hce5]
      exact hrow
    · rw [show ((o : Nat) : Int).toNat = o from rfl, hylen]; exact hLN

/-- as many stand at the beginning, by their own handles -/
structure Lead (k : Nat) (L : List RB) : Prop where
  le : k ≤ L.length
  is : ∀ q x, q < k → L[q]? = some x → x.h = (q : Int) + 1
set_option maxHeartbeats 1000000 in
theorem rfAlloc {rb N : Nat} {kv : Value} {L : List RB} {HB : List Chunk} (hL : Slc 53 kv L HB) (hs : RSm N L) (n : Int) :
    Tri Try.prog 21 #[.pointer (some ⟨rb, 0, none⟩), .int .i64 n] [rseg rb N kv, HB] (fun r S =>
      (∃ e, e ≠ 0 ∧ e = (if cost n = 0 then 3 else if (N : Int) - usedR L < cost n then 4 else 0) ∧ r = .tuple #[.int .i64 0, .int .i64 e] ∧ S = [rseg rb N kv, HB]) ∨
      (∃ (k m : Nat) (y : RB) (kv' : Value) (HN HB' : List Chunk), n = m ∧ Lead k L ∧ (∀ x, L[k]? = some x → x.h ≠ (k : Int) + 1) ∧ cost n ≠ 0 ∧ ¬ (N : Int) - usedR L < cost n ∧ r = .tuple #[.int .i64 ((k + 1 : Nat) : Int), .int .i64 0] ∧
        y.h = (k : Int) + 1 ∧ y.b = zeros m ∧ y.c = m ∧ Slc 53 kv' (L.take k ++ y :: L.drop k) HB' ∧ Slc 5 y.v y.b HN ∧ S = [HN, rseg rb N kv', HB'])) := by
  refine Tri.forget (ycallee Try.fx21 (Nat.le_of_ble_eq_true rfl) ?_)
  unfold Try.x21
  have hlen := hs.len
  have hbig := hs.big
  have hu := hs.used
  refine yseq ?_
  refine yregion ?_
  refine yp pC ?_
  refine yp pC ?_
  refine ynil ?_
  refine tnorm ?_
  refine yseq ?_
  refine yregion ?_
  refine yp (pI rfl) ?_
  refine ycons (ycall (rfCost n) rfl rfl fun r S' h => ?_)
  obtain ⟨rfl, rfl⟩ := h
  refine yp (pI rfl) ?_
  refine ynil ?_
  refine tnorm ?_
  refine ycutQ (fun E S => Has E [(0, .pointer (some ⟨rb, 0, none⟩)), (1, .int .i64 n)] ∧ (cost n ≠ 0 ∧ ¬ (N : Int) - usedR L < cost n) ∧ Junk S [rseg rb N kv, HB]) ?_ fun E S ⟨hE, hn, hJ⟩ => ?_
  · refine yblock ?_
    refine yseq ?_
    refine yregion ?_
    refine yp (pI rfl) ?_
    refine yp (pEq rfl rfl) ?_
    refine yp (pB rfl) ?_
    refine ynil ?_
    refine tnorm ?_
    by_cases h1 : cost n = 0
    · rw [decide_eq_true h1]
      refine ycondT rfl ?_
      refine yseq ?_
      refine yregion ?_
      refine yp pC ?_
      refine yp pC ?_
      refine ynil ?_
      refine tnorm ?_
      refine yret ?_
      refine bret ?_
      refine tret ?_
      exact yfin (rII rfl rfl) ⟨_, .of, .inl ⟨3, by decide, by rw [if_pos h1], rfl, rfl⟩⟩
    rw [decide_eq_false h1]
    refine ycondF rfl ?_
    refine yseq ?_
    refine yregion ?_
    refine yp (pI rfl) ?_
    refine yp (pP rfl) ?_
    refine ycons (ycall (rfLeft (rb := rb) hL hs) rfl rfl fun r S' h => ?_)
    obtain ⟨rfl, rfl⟩ := h
    refine yp (pGt rfl rfl) ?_
    refine yp (pB rfl) ?_
    refine ynil ?_
    refine tnorm ?_
    by_cases h2 : ((N - usedR L : Nat) : Int) < cost n
    · rw [decide_eq_true h2]
      refine ycondT rfl ?_
      refine yseq ?_
      refine yregion ?_
      refine yp pC ?_
      refine yp pC ?_
      refine ynil ?_
      refine tnorm ?_
      refine yret ?_
      refine bret ?_
      refine tret ?_
      exact yfin (rII rfl rfl) ⟨_, .of, .inl ⟨4, by decide, by rw [if_neg h1, if_pos (by omega)], rfl, rfl⟩⟩
    rw [decide_eq_false h2]
    refine ycondF rfl ?_
    refine yskip ?_
    refine bnorm ?_
    refine tnorm ?_
    exact ⟨⟨rfl, rfl, trivial⟩, ⟨h1, by omega⟩, .of⟩
  obtain ⟨m, rfl, hm, hcm⟩ := cost_pos hn.1
  obtain ⟨a, c, rfl⟩ := hL.isSlice
  obtain ⟨E0, e0⟩ := has_puts hE; subst e0; clear hE
  refine yforget hJ ?_
  refine yseq ?_
  refine yregion ?_
  refine yp pC ?_
  refine ynil ?_
  refine tnorm ?_
  refine ycut (fun E S => ∃ k : Nat, Has E [(0, .pointer (some ⟨rb, 0, none⟩)), (1, .int .i64 (m : Int)), (7, .int .i64 (k : Int))] ∧ Lead k L ∧ (∀ x, L[k]? = some x → x.h ≠ (k : Int) + 1) ∧ Junk S [rseg rb N (.slice a L.length c), HB]) ?_ fun E S ⟨k, hE, hlead, hnext, hJ⟩ => ?_
  · refine yblock ?_
    refine yloop (σ := Nat) (fun k E S => Has E [(0, .pointer (some ⟨rb, 0, none⟩)), (1, .int .i64 (m : Int)), (7, .int .i64 (k : Int))] ∧ Lead k L ∧ Junk S [rseg rb N (.slice a L.length c), HB]) (fun k => L.length - k) 0
      ⟨⟨rfl, rfl, rfl, trivial⟩, ⟨Nat.zero_le _, fun q x hq => by omega⟩, .of⟩ fun k E S ⟨hE, hlead, hJ⟩ => ?_
    have hkl := hlead.le
    obtain ⟨E0, e0⟩ := has_puts hE; subst e0; clear hE
    refine yforget hJ ?_
    refine yseq ?_
    refine yseq ?_
    refine yregion ?_
    refine yp (pI rfl) ?_
    refine yp (pP rfl) ?_
    refine yp (pNilc rfl) ?_
    refine yp (pFadr rfl) ?_
    refine ycons (yload1 rfl rfl ?_)
    refine yp (pLen rfl) ?_
    refine yp (pLt rfl rfl) ?_
    refine yp (pB rfl) ?_
    by_cases hk : k < L.length
    · rw [decide_eq_true (show (k : Int) < (L.length : Int) from by omega)]
      obtain ⟨b, sp, fz2, hz, rfl, _, rfl, rfl⟩ := hL.at' (by intro h; simp [h] at hk)
      have hxk : L[k]? = some L[k] := List.getElem?_eq_getElem hk
      have hld : ((cells (L ++ sp)).toArray.toList)[0 + k * 2 + 0]? = some (.int .i64 L[k].h) := (row_cell (kk := 2) (j := 0) hk rfl (by omega)).trans rfl
      generalize L[k] = x at hxk hld
      refine ygT rfl ?_
      refine yop (pP rfl) ?_
      refine ygT rfl ?_
      refine yop (pNilc rfl) ?_
      refine ygT rfl ?_
      refine yop (pFadr rfl) ?_
      refine ygT rfl ?_
      refine (yload1 rfl rfl ?_)
      refine ygT rfl ?_
      refine yop (pI rfl) ?_
      refine ygT rfl ?_
      refine yop (pIxN rfl rfl (by omega)) ?_
      refine ygT rfl ?_
      refine yop (pFadr rfl) ?_
      refine ygT rfl ?_
      refine yload1 (v := .int .i64 x.h) rfl hld ?_
      refine ygT rfl ?_
      refine yop (pI rfl) ?_
      refine ygT rfl ?_
      refine yop (pInc rfl rfl (by omega)) ?_
      refine ygT rfl ?_
      refine yop (pEq rfl rfl) ?_
      refine yp (pPickT rfl rfl) ?_
      refine ynil ?_
      refine tnorm ?_
      by_cases he : x.h = ((k + 1 : Nat) : Int)
      · rw [decide_eq_true he]
        refine ycondT rfl ?_
        refine yskip ?_
        refine tnorm ?_
        refine yblock ?_
        refine yregion ?_
        refine yp (pI rfl) ?_
        refine yp (pInc rfl rfl (by omega)) ?_
        refine yp (pI rfl) ?_
        refine ynil ?_
        refine bnorm ?_
        refine tnorm ?_
        refine ⟨k + 1, ⟨⟨rfl, rfl, rfl, trivial⟩, ⟨by omega, fun q y hq hy => ?_⟩, .of⟩, by omega⟩
        by_cases hqk : q = k
        · subst hqk; rw [hxk] at hy; obtain rfl := Option.some.inj hy; omega
        · exact hlead.is q y (by omega) hy
      · rw [decide_eq_false he]
        refine ycondF rfl ?_
        refine yexit ?_
        refine texit ?_
        refine texit ?_
        refine bexit ?_
        refine tnorm ?_
        exact ⟨k, ⟨rfl, rfl, rfl, trivial⟩, hlead, fun y hy => by rw [hxk] at hy; obtain rfl := Option.some.inj hy; omega, .of⟩
    · rw [decide_eq_false (show ¬ (k : Int) < (L.length : Int) from by omega)]
      refine ygF rfl ?_
      refine ygF rfl ?_
      refine ygF rfl ?_
      refine ygF rfl ?_
      refine ygF rfl ?_
      refine ygF rfl ?_
      refine ygF rfl ?_
      refine ygF rfl ?_
      refine ygF rfl ?_
      refine ygF rfl ?_
      refine ygF rfl ?_
      refine yp (pPickF rfl rfl) ?_
      refine ynil ?_
      refine tnorm ?_
      refine ycondF rfl ?_
      refine yexit ?_
      refine texit ?_
      refine texit ?_
      refine bexit ?_
      refine tnorm ?_
      exact ⟨k, ⟨rfl, rfl, rfl, trivial⟩, hlead, fun y hy => (by rw [List.getElem?_eq_none (by omega)] at hy; cases hy), .of⟩
  have hkl := hlead.le
  obtain ⟨E0, e0⟩ := has_puts hE; subst e0; clear hE
  refine yforget hJ ?_
  refine yseq ?_
  refine yregion ?_
  refine yp (pI rfl) ?_
  refine yp (pInc rfl rfl (by omega)) ?_
  refine yp (pI rfl) ?_
  refine ycons (ymksl (m := m) (cap := m) rfl rfl (Nat.le_refl _) rfl (by omega) (by omega) fun p44 => ?_)
  rw [replicate_cells (z := [.int .u8 0]) m (0 : UInt8) rfl]
  refine yp (pBuild2 (scI rfl) (scS rfl)) ?_
  refine ycons (yalloc fun p8 => ?_)
  refine ycons (ystAll (c' := [.int .i64 ((k + 1 : Nat) : Int), .slice (some ⟨p44, 0, none⟩) m m]) rfl rfl rfl rfl rfl ?_)
  have hzl : (zeros m).length = m := zlen m
  obtain ⟨a1, c1, hp1, hY1⟩ := hL.headE (S := [rseg rb N (.slice a L.length c), HB]) (by simp) (k := k) (kk := 2) hkl (E := fun _ => .slice a L.length c) (x := .tmp 0) (y := .const (.int .i64 (k : Int))) rfl rfl
  obtain ⟨a2, c2, hp2, hY2⟩ := hL.tailE (S := [rseg rb N (.slice a L.length c), HB]) (by simp) (k := k) (kk := 2) rfl hkl (E := fun _ => .slice a L.length c) (x := .tmp 0) (y := .const (.int .i64 (k : Int))) rfl rfl
  obtain ⟨y, hy⟩ : ∃ y : RB, y = ⟨((k + 1 : Nat) : Int), zeros m, some ⟨p44, 0, none⟩, m⟩ := ⟨_, rfl⟩
  have hye : enc y = [.int .i64 ((k + 1 : Nat) : Int), .slice (some ⟨p44, 0, none⟩) m m] := by rw [hy]; show [_, Value.slice _ (zeros m).length m] = _; rw [hzl]
  have hyS : Slc 5 y.v y.b [(p44, .cells (cells (List.replicate m (0 : UInt8))).toArray 5)] := by
    rw [hy]; show Slc _ (.slice _ (zeros m).length m) (zeros m) _
    rw [hzl]; exact Slc.full hzl.symm
  refine ynil ?_
  refine tnorm ?_
  refine yseq ?_
  refine ydraw ?_
  refine ytq (pP rfl) ?_
  refine ytq (pP rfl) ?_
  refine ytq (pNilc rfl) ?_
  refine ytq (pFadr rfl) ?_
  refine ytl1 rfl rfl ?_
  refine ytq (pI rfl) ?_
  refine ytq (v := .slice a1 k c1) hp1 ?_
  skip
  refine ytlN (l := enc y) rfl (by rw [hye]; rfl) rfl ?_
  refine ytq (pP rfl) ?_
  refine ytq (pNilc rfl) ?_
  refine ytq (pFadr rfl) ?_
  refine ytl1 rfl rfl ?_
  refine ytq (pI rfl) ?_
  refine ytq (v := .slice a2 (L.length - k) c2) hp2 ?_
  refine ytaltC (ybsl0 fun p47 => ⟨by simp, ?_⟩) ?_
  · refine ytaltC (yapp rfl rfl Slc.empty (hY1.mono (by simp)) rfl RB.z rfl (by rw [List.length_take]; simp; omega) (by rw [List.length_take]; simp; omega) fun v1 H1 hL1 => ⟨by simp, ?_⟩) ?_
    · refine ytaltC (ybsl1 y rfl rfl (by decide) (by decide) rfl fun p56 => ⟨by simp, ?_⟩) ytno
      refine ytaltC (yapp (Y := [y]) rfl rfl hL1 (.lit (b := p56) (e := 53) (by simp) rfl) rfl RB.z rfl (by simp; omega) (by simp; omega) fun v2 H2 hL2 => ⟨by simp, ?_⟩) ytno
      refine ytalt (yapp (Y := L.drop k) rfl rfl hL2 (hY2.mono (by simp)) rfl RB.z rfl (by simp; omega) (by simp; omega) fun v3 H3 hL3 => ?_) ytno
      rw [List.nil_append, List.append_assoc, List.singleton_append] at hL3
      obtain ⟨a3, c3, rfl⟩ := hL3.isSlice
      refine ytq (pNilc rfl) ?_
      refine ytq (pFadr rfl) ?_
      refine ytalt (yst2_1 rfl rfl (scS rfl) ?_) ytno
      refine ytdone ?_
      refine tnorm ?_
      refine yseq ?_
      refine yregion ?_
      refine yp (pI rfl) ?_
      refine yp (pInc rfl rfl (by omega)) ?_
      refine yp (pI rfl) ?_
      refine yp pC ?_
      refine ynil ?_
      refine tnorm ?_
      refine yret ?_
      exact yfin (rII rfl rfl) ⟨_, .of, .inr ⟨k, m, y, .slice a3 (L.take k ++ y :: L.drop k).length c3, [(p44, .cells (cells (List.replicate m (0 : UInt8))).toArray 5)], H3, rfl, hlead, hnext, hn.1, hn.2, rfl, by rw [hy]; show ((k + 1 : Nat) : Int) = _; omega, by rw [hy], by rw [hy], hL3, hyS, rfl⟩⟩
    · refine ytaltC (ybsl1 y rfl rfl (by decide) (by decide) rfl fun p56 => ⟨by simp, ?_⟩) ytno
      refine ytaltC (yapp rfl rfl Slc.empty (hY1.mono (by simp)) rfl RB.z rfl (by rw [List.length_take]; simp; omega) (by rw [List.length_take]; simp; omega) fun v1 H1 hL1 => ⟨by simp, ?_⟩) ytno
      refine ytaltC (yapp (Y := [y]) rfl rfl hL1 (.lit (b := p56) (e := 53) (by simp) rfl) rfl RB.z rfl (by simp; omega) (by simp; omega) fun v2 H2 hL2 => ⟨by simp, ?_⟩) ytno
      refine ytalt (yapp (Y := L.drop k) rfl rfl hL2 (hY2.mono (by simp)) rfl RB.z rfl (by simp; omega) (by simp; omega) fun v3 H3 hL3 => ?_) ytno
      rw [List.nil_append, List.append_assoc, List.singleton_append] at hL3
      obtain ⟨a3, c3, rfl⟩ := hL3.isSlice
      refine ytq (pNilc rfl) ?_
      refine ytq (pFadr rfl) ?_
      refine ytalt (yst2_1 rfl rfl (scS rfl) ?_) ytno
      refine ytdone ?_
      refine tnorm ?_
      refine yseq ?_
      refine yregion ?_
      refine yp (pI rfl) ?_
      refine yp (pInc rfl rfl (by omega)) ?_
      refine yp (pI rfl) ?_
      refine yp pC ?_
      refine ynil ?_
      refine tnorm ?_
      refine yret ?_
      exact yfin (rII rfl rfl) ⟨_, .of, .inr ⟨k, m, y, .slice a3 (L.take k ++ y :: L.drop k).length c3, [(p44, .cells (cells (List.replicate m (0 : UInt8))).toArray 5)], H3, rfl, hlead, hnext, hn.1, hn.2, rfl, by rw [hy]; show ((k + 1 : Nat) : Int) = _; omega, by rw [hy], by rw [hy], hL3, hyS, rfl⟩⟩
  · refine ytaltC (ybsl1 y rfl rfl (by decide) (by decide) rfl fun p56 => ⟨by simp, ?_⟩) ytno
    refine ytaltC (ybsl0 fun p47 => ⟨by simp, ?_⟩) ytno
    refine ytaltC (yapp rfl rfl Slc.empty (hY1.mono (by simp)) rfl RB.z rfl (by rw [List.length_take]; simp; omega) (by rw [List.length_take]; simp; omega) fun v1 H1 hL1 => ⟨by simp, ?_⟩) ytno
    refine ytaltC (yapp (Y := [y]) rfl rfl hL1 (.lit (b := p56) (e := 53) (by simp) rfl) rfl RB.z rfl (by simp; omega) (by simp; omega) fun v2 H2 hL2 => ⟨by simp, ?_⟩) ytno
    refine ytalt (yapp (Y := L.drop k) rfl rfl hL2 (hY2.mono (by simp)) rfl RB.z rfl (by simp; omega) (by simp; omega) fun v3 H3 hL3 => ?_) ytno
    rw [List.nil_append, List.append_assoc, List.singleton_append] at hL3
    obtain ⟨a3, c3, rfl⟩ := hL3.isSlice
    refine ytq (pNilc rfl) ?_
    refine ytq (pFadr rfl) ?_
    refine ytalt (yst2_1 rfl rfl (scS rfl) ?_) ytno
    refine ytdone ?_
    refine tnorm ?_
    refine yseq ?_
    refine yregion ?_
    refine yp (pI rfl) ?_
    refine yp (pInc rfl rfl (by omega)) ?_
    refine yp (pI rfl) ?_
    refine yp pC ?_
    refine ynil ?_
    refine tnorm ?_
    refine yret ?_
    exact yfin (rII rfl rfl) ⟨_, .of, .inr ⟨k, m, y, .slice a3 (L.take k ++ y :: L.drop k).length c3, [(p44, .cells (cells (List.replicate m (0 : UInt8))).toArray 5)], H3, rfl, hlead, hnext, hn.1, hn.2, rfl, by rw [hy]; show ((k + 1 : Nat) : Int) = _; omega, by rw [hy], by rw [hy], hL3, hyS, rfl⟩⟩
end Go.Proofs.Ytkdbajfaaifkaaa
namespace Go.Proofs.Ytkdbajfaaifkaaa
open Go.Xs
open Enc (enc)

def blk (i : Nat) : List (Option Bt) → List (Int × Bt)
  | [] => []
  | none :: l => blk (i + 1) l
  | some b :: l => ((i : Int) + 1, b) :: blk (i + 1) l
theorem blk_used : ∀ (D : List (Option Bt)) (i : Nat), ((blk i D).map fun x => costN x.2.length).sum = usedD D
  | [], _ => rfl
  | none :: l, i => by rw [usedD_cons, blk, blk_used l]; simp [wgt]
  | some b :: l, i => by rw [usedD_cons, blk, List.map_cons, List.sum_cons, blk_used l]; simp [wgt]
theorem blk_len : ∀ (D : List (Option Bt)) (i : Nat), (blk i D).length ≤ D.length
  | [], _ => Nat.le_refl _
  | none :: l, i => by rw [blk]; have := blk_len l (i + 1); simp; omega
  | some b :: l, i => by rw [blk]; have := blk_len l (i + 1); simp; omega
theorem blk_mem : ∀ (D : List (Option Bt)) (i : Nat) (e : Int × Bt), e ∈ blk i D → ∃ k : Nat, D[k]? = some (some e.2)
  | [], _, e, h => by cases h
  | none :: l, i, e, h => by
    obtain ⟨k, hk⟩ := blk_mem l (i + 1) e h
    exact ⟨k + 1, by simpa using hk⟩
  | some b :: l, i, e, h => by
    rcases List.mem_cons.1 h with rfl | h
    · exact ⟨0, rfl⟩
    · obtain ⟨k, hk⟩ := blk_mem l (i + 1) e h
      exact ⟨k + 1, by simpa using hk⟩
theorem blk_hlist : ∀ (D : List (Option Bt)) (i : Nat), hlist i D = (blk i D).map fun x => (x.1, (x.2.length : Int))
  | [], _ => rfl
  | none :: l, i => by rw [blk, hlist, blk_hlist l]
  | some b :: l, i => by rw [blk, hlist, blk_hlist l]; rfl
def fb (h : Int) : List (Int × Bt) → Option (Nat × Bt)
  | [] => none
  | x :: l => if x.1 = h then some (0, x.2) else (fb h l).map fun y => (y.1 + 1, y.2)
theorem rix_fb (h : Int) : ∀ L : List RB, (rix h L = none ∧ fb h (told L) = none) ∨ (∃ i x, rix h L = some i ∧ L[i]? = some x ∧ x.h = h ∧ fb h (told L) = some (i, x.b))
  | [] => .inl ⟨rfl, rfl⟩
  | x :: l => by
    by_cases hx : x.h = h
    · exact .inr ⟨0, x, by rw [rix, if_pos hx], rfl, hx, by show (if x.h = h then _ else _) = _; rw [if_pos hx]⟩
    · have e : fb h (told (x :: l)) = (fb h (told l)).map fun y => (y.1 + 1, y.2) := by show (if x.h = h then _ else _) = _; rw [if_neg hx]; rfl
      rcases rix_fb h l with ⟨h1, h2⟩ | ⟨i, y, h1, h2, h3, h4⟩
      · exact .inl ⟨by rw [rix, if_neg hx, h1]; rfl, by rw [e, h2]; rfl⟩
      · exact .inr ⟨i + 1, y, by rw [rix, if_neg hx, h1]; rfl, by simpa using h2, h3, by rw [e, h4]; rfl⟩
theorem fb_above : ∀ (D : List (Option Bt)) (i : Nat) (h : Int), h ≤ i → fb h (blk i D) = none
  | [], _, _, _ => rfl
  | none :: l, i, h, hh => by rw [blk]; exact fb_above l (i + 1) h (by omega)
  | some b :: l, i, h, hh => by
    rw [blk, fb, if_neg (by simp only; omega), fb_above l (i + 1) h (by omega)]; rfl
theorem blk_get : ∀ (D : List (Option Bt)) (i k : Nat), (fb ((i : Int) + k + 1) (blk i D)).map (·.2) = (D[k]?).join
  | [], i, k => by simp [blk, fb]
  | none :: l, i, 0 => by rw [blk, fb_above l (i + 1) _ (by omega)]; rfl
  | none :: l, i, k + 1 => by
    have := blk_get l (i + 1) k
    rw [blk, List.getElem?_cons_succ, ← this]
    congr 2; omega
  | some b :: l, i, 0 => by rw [blk, fb, if_pos (by simp)]; rfl
  | some b :: l, i, k + 1 => by
    have := blk_get l (i + 1) k
    rw [blk, fb, if_neg (by simp only; omega), List.getElem?_cons_succ, ← this, Option.map_map]
    have e : ((i : Int) + ((k + 1 : Nat) : Int) + 1) = (((i + 1 : Nat) : Int) + (k : Int) + 1) := by omega
    rw [e]; rfl
theorem blk_getB (D : List (Option Bt)) (h : Int) : (fb h (blk 0 D)).map (·.2) = getB D h := by
  by_cases h1 : 1 ≤ h
  · obtain ⟨k, rfl⟩ : ∃ k : Nat, h = (k : Int) + 1 := ⟨(h - 1).toNat, by omega⟩
    have := blk_get D 0 k
    rw [getB_idx, ← this]
    congr 2; omega
  · rw [fb_above D 0 h (by omega)]
    unfold getB; rw [if_neg h1]; rfl
theorem blk_set : ∀ (D : List (Option Bt)) (i : Nat) (h : Int) (j : Nat) (b : Bt), fb h (blk i D) = some (j, b) →
    ∃ k : Nat, h = (i : Int) + k + 1 ∧ D[k]? = some (some b) ∧ (∀ Y, blk i (D.set k (some Y)) = (blk i D).set j (h, Y)) ∧ blk i (D.set k none) = (blk i D).eraseIdx j
  | [], i, h, j, b, e => by cases e
  | none :: l, i, h, j, b, e => by
    rw [blk] at e
    obtain ⟨k, h1, h2, h3, h4⟩ := blk_set l (i + 1) h j b e
    exact ⟨k + 1, by omega, by simpa using h2, fun Y => by rw [List.set_cons_succ, blk, blk, h3], by rw [List.set_cons_succ, blk, blk, h4]⟩
  | some c :: l, i, h, j, b, e => by
    rw [blk, fb] at e
    split at e
    · next hx =>
      obtain ⟨rfl, rfl⟩ : 0 = j ∧ c = b := by have := Option.some.inj e; exact ⟨congrArg Prod.fst this, congrArg Prod.snd this⟩
      exact ⟨0, by simp only at hx; omega, rfl, fun Y => by rw [List.set_cons_zero, blk, blk, List.set_cons_zero]; simp only at hx; rw [hx], by rw [List.set_cons_zero, blk, blk]; rfl⟩
    · next hx =>
      cases hf : fb h (blk (i + 1) l) with
      | none => rw [hf] at e; cases e
      | some z =>
        obtain ⟨j2, b2⟩ := z
        rw [hf] at e
        obtain ⟨rfl, rfl⟩ : j2 + 1 = j ∧ b2 = b := by have := Option.some.inj e; exact ⟨congrArg Prod.fst this, congrArg Prod.snd this⟩
        obtain ⟨k, h1, h2, h3, h4⟩ := blk_set l (i + 1) h j2 b2 hf
        exact ⟨k + 1, by omega, by simpa using h2, fun Y => by rw [List.set_cons_succ, blk, blk, h3, List.set_cons_succ], by rw [List.set_cons_succ, blk, blk, h4, List.eraseIdx_cons_succ]⟩
theorem allocD_some (b : Bt) (l : List (Option Bt)) (m : Nat) : allocD (some b :: l) m = some b :: allocD l m := by
  have hp := hnd_pos l
  unfold allocD
  have e : hnd (some b :: l) = hnd l + 1 := rfl
  by_cases h : hnd l ≤ l.length
  · rw [if_pos (by rw [e]; simp; omega), if_pos h, e, show hnd l + 1 - 1 = (hnd l - 1) + 1 from by omega, List.set_cons_succ]
  · rw [if_neg (by rw [e]; simp; omega), if_neg h]; rfl
theorem blk_above : ∀ (D : List (Option Bt)) (i : Nat) (e : Int × Bt), e ∈ blk i D → (i : Int) + 1 ≤ e.1
  | [], _, e, h => by cases h
  | none :: l, i, e, h => by have := blk_above l (i + 1) e h; omega
  | some b :: l, i, e, h => by
    rcases List.mem_cons.1 h with rfl | h
    · simp
    · have := blk_above l (i + 1) e h; omega
theorem blk_alloc (m : Nat) : ∀ (D : List (Option Bt)) (i : Nat), (hnd D - 1 ≤ (blk i D).length) ∧ (∀ q e, q < hnd D - 1 → (blk i D)[q]? = some e → e.1 = (i : Int) + q + 1) ∧ (∀ e, (blk i D)[hnd D - 1]? = some e → e.1 ≠ (i : Int) + (hnd D - 1 : Nat) + 1) ∧
    blk i (allocD D m) = (blk i D).take (hnd D - 1) ++ ((i : Int) + (hnd D - 1 : Nat) + 1, zeros m) :: (blk i D).drop (hnd D - 1)
  | [], i => ⟨Nat.zero_le _, fun q e hq => by simp [hnd] at hq, fun e h => by simp [blk] at h, by simp [allocD, hnd, blk]⟩
  | none :: l, i => by
    refine ⟨Nat.zero_le _, fun q e hq => by simp [hnd] at hq, fun e h => ?_, by simp [allocD, hnd, blk]⟩
    have : e ∈ blk (i + 1) l := List.mem_of_getElem? h
    have := blk_above l (i + 1) e this
    simp [hnd]; omega
  | some b :: l, i => by
    obtain ⟨h0, h1, h2, h3⟩ := blk_alloc m l (i + 1)
    have hp := hnd_pos l
    have e1 : hnd (some b :: l) - 1 = (hnd l - 1) + 1 := by show hnd l + 1 - 1 = _; omega
    rw [e1, blk]
    refine ⟨by simp; omega, fun q e hq he => ?_, fun e he => ?_, ?_⟩
    · cases q with
      | zero => obtain rfl := Option.some.inj he; simp
      | succ q => have := h1 q e (by omega) (by simpa using he); omega
    · have := h2 e (by simpa using he); omega
    · rw [allocD_some, blk, h3, List.take_succ_cons, List.drop_succ_cons, List.cons_append]
      congr 3
      · congr 1; congr 1; omega
/-- what one knows of an arena's blocks -/
structure Dok (N : Nat) (D : List (Option Bt)) : Prop where
  used : usedD D ≤ N
  big : 1024 ≤ N ∧ N ≤ 1048576
  len : D.length * 16 ≤ N
  each : ∀ (i : Nat) (b : Bt), D[i]? = some (some b) → b.length ≤ 4096
theorem Ar.ok {ab N : Nat} {D : List (Option Bt)} {H : List Chunk} (h : Ar ab N D H) : Dok N D := by
  obtain ⟨h1, h2, h3, h4⟩ := h.used_le
  obtain ⟨bb, kv, HK, T, B, used, top, hI, rfl, hK, rfl⟩ := h
  refine ⟨h1, ⟨h2, h3⟩, h4, fun i b hb => ?_⟩
  unfold dof at hb
  rw [List.getElem?_map] at hb
  cases ht : T[i]? with
  | none => rw [ht] at hb; cases hb
  | some x =>
    cases x with
    | none => rw [ht] at hb; cases hb
    | some x =>
      rw [ht] at hb
      obtain rfl : x.2 = b := Option.some.inj (Option.some.inj hb)
      exact (hI.inn i x.1 x.2 ht).1

/-- the document's arena, as one piece of memory, beside what is read -/
def Rf (rb N : Nat) (D : List (Option Bt)) (S1 : Segs) (T : List Chunk) : Prop :=
  ∃ (kv : Value) (L : List RB) (HB : List Chunk), Slc 53 kv L HB ∧ told L = blk 0 D ∧ (∀ x ∈ L, Src S1 x.v x.b ∧ x.b.length ≤ x.c) ∧ T = rseg rb N kv ++ HB
theorem map_erase {α β : Type} (f : α → β) : ∀ (L : List α) (i : Nat), (L.eraseIdx i).map f = (L.map f).eraseIdx i
  | [], _ => rfl
  | a :: L, 0 => rfl
  | a :: L, i + 1 => by rw [List.eraseIdx_cons_succ, List.map_cons, map_erase f L i, List.map_cons, List.eraseIdx_cons_succ]
theorem slc_cap {α : Type} [Enc α] {ty : TypeId} {v : Value} {L : List α} {H : List Chunk} (h : Slc ty v L H) : ∀ a n c, v = .slice a n c → n ≤ c := by
  intro a n c e
  cases h with
  | nil => cases e; exact Nat.le_refl _
  | row _ => cases e; omega
theorem told_usedR (L : List RB) : usedR L = ((told L).map fun x => costN x.2.length).sum := by simp [usedR, told]; rfl
theorem told_ok {N : Nat} {D : List (Option Bt)} {L : List RB} (h : told L = blk 0 D) (hD : Dok N D) : RSm N L ∧ usedR L = usedD D ∧ ∀ x ∈ L, x.b.length ≤ 4096 := by
  have hl : L.length = (blk 0 D).length := by rw [← h]; simp [told]
  have hb := blk_len D 0
  have hu : usedR L = usedD D := by rw [told_usedR, h, blk_used]
  have hl2 := hD.len
  have hb2 := hD.big
  have he : ∀ x ∈ L, x.b.length ≤ 4096 := fun x hx => by
    have : (x.h, x.b) ∈ blk 0 D := by rw [← h]; exact List.mem_map.2 ⟨x, hx, rfl⟩
    obtain ⟨k, hk⟩ := blk_mem D 0 _ this
    exact hD.each k _ hk
  exact ⟨⟨by omega, by omega, he, by rw [hu]; exact hD.used⟩, hu, he⟩
theorem Rf.mono {rb N : Nat} {D : List (Option Bt)} {S1 S2 : Segs} {T : List Chunk} (h : Rf rb N D S1 T) (hs : ∀ s ∈ S1, s ∈ S2) : Rf rb N D S2 T := by
  obtain ⟨kv, L, HB, h1, h2, h3, h4⟩ := h
  exact ⟨kv, L, HB, h1, h2, fun x hx => ⟨(h3 x hx).1.mono hs, (h3 x hx).2⟩, h4⟩
theorem Junk.join2 {a b : List Chunk} {S1 : Segs} : Junk (a :: b :: S1) ((a ++ b) :: S1) := ⟨[], by simp⟩
theorem Tri.split2 {f : FuncId} {args : Array Value} {a b : List Chunk} {S0 : Segs} {R : Value → Segs → Prop} (h : Tri Try.prog f args (a :: b :: S0) R) : Tri Try.prog f args ((a ++ b) :: S0) R := h.perm (by simp)

theorem rdUsed {rb N : Nat} {D : List (Option Bt)} {S1 : Segs} {T : List Chunk} (hR : Rf rb N D S1 T) (hD : Dok N D) : Tri Try.prog 62 #[.pointer (some ⟨rb, 0, none⟩)] [T] (fun r S => r = .int .i64 (usedD D : Nat) ∧ S = [T]) := by
  obtain ⟨kv, L, HB, hL, ht, hS, rfl⟩ := hR
  obtain ⟨hs, hu, he⟩ := told_ok ht hD
  refine Tri.forget (Tri.split2 ((rfUsed (rb := rb) hL hs).mono fun r S h => ?_))
  obtain ⟨rfl, rfl⟩ := h
  exact ⟨_, Junk.join2, by rw [hu], rfl⟩
theorem rdLeft {rb N : Nat} {D : List (Option Bt)} {S1 : Segs} {T : List Chunk} (hR : Rf rb N D S1 T) (hD : Dok N D) : Tri Try.prog 27 #[.pointer (some ⟨rb, 0, none⟩)] [T] (fun r S => r = .int .i64 ((N - usedD D : Nat) : Int) ∧ S = [T]) := by
  obtain ⟨kv, L, HB, hL, ht, hS, rfl⟩ := hR
  obtain ⟨hs, hu, he⟩ := told_ok ht hD
  refine Tri.forget (Tri.split2 ((rfLeft (rb := rb) hL hs).mono fun r S h => ?_))
  obtain ⟨rfl, rfl⟩ := h
  exact ⟨_, Junk.join2, by rw [hu], rfl⟩
theorem rdFree {rb N : Nat} {D : List (Option Bt)} {S1 : Segs} {T : List Chunk} (hR : Rf rb N D S1 T) (hD : Dok N D) (h : Int) : Tri Try.prog 23 #[.pointer (some ⟨rb, 0, none⟩), .int .i64 h] [T] (fun r S => r = .int .i64 (freeR D h) ∧ ∃ T', Rf rb N (freeD D h) S1 T' ∧ S = [T']) := by
  obtain ⟨kv, L, HB, hL, ht, hS, rfl⟩ := hR
  obtain ⟨hs, hu, he⟩ := told_ok ht hD
  have hg := blk_getB D h
  refine Tri.forget (Tri.split2 ((rfFree (rb := rb) (N := (N : Int)) hL hs.len h).mono fun r S h => ?_))
  rcases h with ⟨h1, rfl, rfl⟩ | ⟨i, kv', HB', h1, rfl, hL', rfl⟩
  · rcases rix_fb h L with ⟨_, h2⟩ | ⟨i, x, h2, _⟩
    · rw [← ht, h2] at hg
      have hn : getB D h = none := hg.symm
      refine ⟨_, Junk.join2, by unfold freeR; rw [hn]; rfl, _, ⟨kv, L, HB, hL, ?_, hS, rfl⟩, rfl⟩
      unfold freeD; rw [hn]; exact ht
    · rw [h1] at h2; cases h2
  · rcases rix_fb h L with ⟨h2, _⟩ | ⟨j, x, h2, h3, h4, h5⟩
    · rw [h1] at h2; cases h2
    · rw [h1] at h2
      obtain rfl := Option.some.inj h2
      rw [ht] at h5
      obtain ⟨k, e1, e2, e3, e4⟩ := blk_set D 0 h i x.b h5
      rw [h5] at hg
      have hn : getB D h = some x.b := hg.symm
      refine ⟨_, Junk.join2, by unfold freeR; rw [hn]; rfl, _, ⟨kv', L.eraseIdx i, HB', hL', ?_, fun y hy => hS y ((List.eraseIdx_sublist L i).subset hy), rfl⟩, rfl⟩
      unfold freeD
      rw [hn, if_pos (show (some x.b).isSome = true from rfl), show (h - 1).toNat = k from by omega, e4, ← ht]
      unfold told
      exact (map_erase (fun x : RB => (x.h, x.b)) L i)
theorem rdAlloc {rb N : Nat} {D : List (Option Bt)} {S1 : Segs} {T : List Chunk} (hR : Rf rb N D S1 T) (hD : Dok N D) (n : Int) : Tri Try.prog 21 #[.pointer (some ⟨rb, 0, none⟩), .int .i64 n] [T] (fun r S =>
    (allocE N D n ≠ 0 ∧ r = .tuple #[.int .i64 0, .int .i64 (allocE N D n)] ∧ S = [T]) ∨ (allocE N D n = 0 ∧ ∃ (m : Nat) (T' x : List Chunk), n = m ∧ r = .tuple #[.int .i64 (hnd D : Nat), .int .i64 0] ∧ Rf rb N (allocD D m) (x :: S1) T' ∧ S = [x, T'])) := by
  obtain ⟨kv, L, HB, hL, ht, hS, rfl⟩ := hR
  obtain ⟨hs, hu, he⟩ := told_ok ht hD
  refine Tri.forget (Tri.split2 ((rfAlloc (rb := rb) hL hs n).mono fun r S h => ?_))
  rw [hu] at h
  rcases h with ⟨e, h1, h2, rfl, rfl⟩ | ⟨k, m, y, kv', HN, HB', rfl, hlead, hnext, hc0, hcu, rfl, hyh, hyb, hyc, hL', hyS, rfl⟩
  · have hE : allocE N D n = e := h2.symm
    exact ⟨_, Junk.join2, .inl ⟨by rw [hE]; exact h1, by rw [hE], rfl⟩⟩
  · have hE : allocE N D m = 0 := by unfold allocE; rw [if_neg hc0, if_neg hcu]
    obtain ⟨b0, b1, b2, b3⟩ := blk_alloc m D 0
    have hp := hnd_pos D
    have hget : ∀ (q : Nat) (x : RB), L[q]? = some x → (blk 0 D)[q]? = some (x.h, x.b) := fun q x hq => by rw [← ht]; unfold told; rw [List.getElem?_map, hq]; rfl
    have hll : L.length = (blk 0 D).length := by rw [← ht]; simp [told]
    have hkl := hlead.le
    have hk : k = hnd D - 1 := by
      rcases Nat.lt_trichotomy k (hnd D - 1) with h | h | h
      · have hlt : k < L.length := by omega
        have hxk : L[k]? = some L[k] := List.getElem?_eq_getElem hlt
        have := b1 k _ h (hget k _ hxk)
        have := hnext _ hxk
        simp only at *; omega
      · exact h
      · have hlt : hnd D - 1 < L.length := by omega
        have hxk : L[hnd D - 1]? = some L[hnd D - 1] := List.getElem?_eq_getElem hlt
        have := b2 _ (hget _ _ hxk)
        have := hlead.is _ _ h hxk
        simp only at *; omega
    refine ⟨[HN, rseg rb N kv' ++ HB'], ⟨[], by simp⟩, .inr ⟨hE, m, _, HN, rfl, ?_, ⟨kv', _, HB', hL', ?_, fun x hx => ?_, rfl⟩, rfl⟩⟩
    · rw [show k + 1 = hnd D from by omega]
    · rw [b3, ← ht, ← hk]
      unfold told
      rw [List.map_append, List.map_cons, List.map_take, List.map_drop, hyh, hyb]
      congr 3; omega
    · rcases List.mem_append.1 hx with hx | hx
      · have := hS x (List.mem_of_mem_take hx)
        exact ⟨this.1.mono fun s hs => List.mem_cons_of_mem _ hs, this.2⟩
      · rcases List.mem_cons.1 hx with rfl | hx
        · exact ⟨hyS.src List.mem_cons_self, by rw [hyb, hyc, zlen]; exact Nat.le_refl _⟩
        · have := hS x (List.mem_of_mem_drop hx)
          exact ⟨this.1.mono fun s hs => List.mem_cons_of_mem _ hs, this.2⟩
theorem rdRead {rb N : Nat} {D : List (Option Bt)} {S1 : Segs} {T : List Chunk} (hR : Rf rb N D S1 T) (hD : Dok N D) (h at_ n : Int) : Tri Try.prog 24 #[.pointer (some ⟨rb, 0, none⟩), .int .i64 h, .int .i64 at_, .int .i64 n] (T :: S1) (fun r S => ∃ v Ho, r = .tuple #[v, .int .i64 (partE D h at_ n)] ∧ Slc 5 v (readB D h at_ n) Ho ∧ S = Ho :: T :: S1) := by
  obtain ⟨kv, L, HB, hL, ht, hS, rfl⟩ := hR
  obtain ⟨hs, hu, he⟩ := told_ok ht hD
  have hg := blk_getB D h
  refine Tri.forget (Tri.split2 ((rfRead (rb := rb) (N := (N : Int)) hL hs.len (fun x hx => ⟨(hS x hx).1, (hS x hx).2, he x hx⟩) h at_ n).mono fun r S hh => ?_))
  have hx : ∀ (i : Nat) (x : RB), L[i]? = some x → rix h L = some i → getB D h = some x.b := fun i x h2 h1 => by
    rcases rix_fb h L with ⟨h3, _⟩ | ⟨j, y, h3, h4, h5, h6⟩
    · rw [h1] at h3; cases h3
    · rw [h1] at h3
      obtain rfl := Option.some.inj h3
      rw [h2] at h4
      obtain rfl := Option.some.inj h4
      rw [← ht, h6] at hg; exact hg.symm
  have hpe : ∀ (b : Bt), getB D h = some b → partE D h at_ n = readE b at_ n := fun b hb => by
    unfold partE readE
    rw [hb]
    simp only
    by_cases hc : at_ < 0 ∨ n < 0 ∨ (b.length : Int) < at_ ∨ (b.length : Int) - at_ < n
    · rw [if_pos hc, if_pos (by omega)]
    · rw [if_neg hc, if_neg (by omega)]
  rcases hh with ⟨h1, rfl, rfl⟩ | ⟨i, x, h1, h2, h3, rfl, rfl⟩ | ⟨i, x, v, Ho, h1, h2, h3, rfl, hv, rfl⟩
  · have hn : getB D h = none := by
      rcases rix_fb h L with ⟨_, h2⟩ | ⟨j, y, h3, _⟩
      · rw [← ht, h2] at hg; exact hg.symm
      · rw [h1] at h3; cases h3
    have hp : partE D h at_ n = 5 := by unfold partE; rw [hn]
    refine ⟨[] :: (rseg rb N kv ++ HB) :: S1, ⟨[], by simp⟩, _, [], by rw [hp], ?_, rfl⟩
    unfold readB; rw [hp, if_neg (by decide)]; exact .nil
  · have hp : partE D h at_ n = 1 := by rw [hpe _ (hx i x h1 h2), h3]
    refine ⟨[] :: (rseg rb N kv ++ HB) :: S1, ⟨[], by simp⟩, _, [], by rw [hp], ?_, rfl⟩
    unfold readB; rw [hp, if_neg (by decide)]; exact .nil
  · have hp : partE D h at_ n = 0 := by rw [hpe _ (hx i x h1 h2), h3]
    refine ⟨Ho :: (rseg rb N kv ++ HB) :: S1, ⟨[], by simp⟩, _, Ho, by rw [hp], ?_, rfl⟩
    unfold readB; rw [hp, if_pos rfl, hx i x h1 h2]; exact hv
theorem rdWrite {rb N : Nat} {D : List (Option Bt)} {S1 : Segs} {T : List Chunk} (hR : Rf rb N D S1 T) (hD : Dok N D) (h at_ : Int) {v : Value} {Y : Bt} (hY : Src S1 v Y) (hYl : Y.length ≤ maxLen) : Tri Try.prog 25 #[.pointer (some ⟨rb, 0, none⟩), .int .i64 h, .int .i64 at_, v] (T :: S1) (fun r S => r = .int .i64 (partE D h at_ (Y.length : Nat)) ∧ ∃ x T', Rf rb N (writeD D h at_ Y) (x :: S1) T' ∧ S = T' :: x :: S1) := by
  obtain ⟨kv, L, HB, hL, ht, hS, rfl⟩ := hR
  obtain ⟨hs, hu, he⟩ := told_ok ht hD
  have hg := blk_getB D h
  refine Tri.forget (Tri.split2 ((rfWrite (rb := rb) (N := (N : Int)) hL hs.len (fun x hx => ⟨(hS x hx).1, (hS x hx).2, he x hx⟩) h at_ hY hYl).mono fun r S hh => ?_))
  have hx : ∀ (i : Nat) (x : RB), L[i]? = some x → rix h L = some i → getB D h = some x.b ∧ x.h = h ∧ fb h (blk 0 D) = some (i, x.b) := fun i x h2 h1 => by
    rcases rix_fb h L with ⟨h3, _⟩ | ⟨j, y, h3, h4, h5, h6⟩
    · rw [h1] at h3; cases h3
    · rw [h1] at h3
      obtain rfl := Option.some.inj h3
      rw [h2] at h4
      obtain rfl := Option.some.inj h4
      rw [ht] at h6
      rw [h6] at hg; exact ⟨hg.symm, h5, h6⟩
  have hpe : ∀ (b : Bt), getB D h = some b → partE D h at_ (Y.length : Nat) = writeE b at_ Y.length := fun b hb => by
    unfold partE writeE
    rw [hb]
    simp only
    by_cases hc : at_ < 0 ∨ (b.length : Int) < at_ ∨ (b.length : Int) - at_ < (Y.length : Nat)
    · rw [if_pos hc, if_pos (by omega)]
    · rw [if_neg hc, if_neg (by omega)]
  have hkeep : Rf rb N D ([] :: S1) (rseg rb N kv ++ HB) := ⟨kv, L, HB, hL, ht, fun x hx => ⟨(hS x hx).1.mono fun s hs => List.mem_cons_of_mem _ hs, (hS x hx).2⟩, rfl⟩
  rcases hh with ⟨h1, rfl, rfl⟩ | ⟨i, x, h1, h2, h3, rfl, rfl⟩ | ⟨i, x, kv', HB', HN, a, c, h1, h2, h3, rfl, hL', hN, rfl⟩
  · have hn : getB D h = none := by
      rcases rix_fb h L with ⟨_, h2⟩ | ⟨j, y, h3, _⟩
      · rw [← ht, h2] at hg; exact hg.symm
      · rw [h1] at h3; cases h3
    have hp : partE D h at_ (Y.length : Nat) = 5 := by unfold partE; rw [hn]
    refine ⟨(rseg rb N kv ++ HB) :: [] :: S1, ⟨[], by simp⟩, by rw [hp], [], _, ?_, rfl⟩
    unfold writeD; rw [hp, if_neg (by decide)]; exact hkeep
  · have hp : partE D h at_ (Y.length : Nat) = 1 := by rw [hpe _ (hx i x h1 h2).1, h3]
    refine ⟨(rseg rb N kv ++ HB) :: [] :: S1, ⟨[], by simp⟩, by rw [hp], [], _, ?_, rfl⟩
    unfold writeD; rw [hp, if_neg (by decide)]; exact hkeep
  · obtain ⟨g1, g2, g3⟩ := hx i x h1 h2
    have hp : partE D h at_ (Y.length : Nat) = 0 := by rw [hpe _ g1, h3]
    obtain ⟨k, e1, e2, e3, e4⟩ := blk_set D 0 h i x.b g3
    refine ⟨(rseg rb N kv' ++ HB') :: HN :: S1, ⟨[], by simp⟩, by rw [hp], HN, _, ⟨kv', _, HB', hL', ?_, fun y hy => ?_, rfl⟩, rfl⟩
    · unfold writeD
      rw [hp, if_pos rfl, g1, show (h - 1).toNat = k from by omega]
      show _ = blk 0 (D.set k (some (spl x.b at_.toNat Y)))
      rw [e3, ← ht]
      unfold told
      rw [List.map_set, g2]
    · rcases List.mem_or_eq_of_mem_set hy with hy | rfl
      · exact ⟨(hS y hy).1.mono fun s hs => List.mem_cons_of_mem _ hs, (hS y hy).2⟩
      · refine ⟨hN.src List.mem_cons_self, ?_⟩
        exact slc_cap hN _ _ _ rfl
theorem Rf.start {rb N : Nat} {S1 : Segs} : Rf rb N [] S1 (rseg rb N (.slice none 0 0)) := ⟨.slice none 0 0, [], [], .nil, rfl, fun x hx => by simp at hx, by simp⟩
end Go.Proofs.Ytkdbajfaaifkaaa
