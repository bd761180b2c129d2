/- The lists (chapter 9): LRU's Order, and what it is made of. -/
import Derived.Test.YtmgiamagocefcaaLru
namespace Go.Proofs.Ytmgiamagocefcaa
open Go.Xs
open Enc (enc)

theorem und40 : Try.prog.underlying 40 = some (.slice 3) := by kernel_rfl
theorem und3 : Try.prog.underlying 3 = some (.int .i64) := by kernel_rfl
theorem siz3 : sizeOf? Try.prog 3 = some 1 := by kernel_rfl
theorem zer3 : zero? Try.prog 3 = some [.int .i64 0] := by kernel_rfl
theorem byt3 : bytes? Try.prog 3 = some 8 := by kernel_rfl

theorem c67 {n : Nat} (hn : n ≤ 1099511627776) : Tri Try.prog 67 #[.slice none 0 0, .int .i64 (n : Int)] [] (fun r S => ∃ H, Slc 3 r ([] : List Int) H ∧ S = [H]) := by
  refine Tri.forget (ycallee Try.fx67 (Nat.le_of_ble_eq_true rfl) ?_)
  unfold Try.x67
  refine yseq ?_
  refine yregion ?_
  refine yp pC ?_
  refine ynil ?_
  refine tnorm ?_
  refine yseq ?_
  refine yseq ?_
  refine yregion ?_
  refine yp (pI rfl) ?_
  refine yp (pLt rfl rfl) ?_
  refine ynil ?_
  refine tnorm ?_
  refine ycondF rfl ?_
  refine yskip ?_
  refine tnorm ?_
  refine yseq ?_
  refine yseq ?_
  refine yregion ?_
  refine yp (pI rfl) ?_
  refine yp (pS rfl) ?_
  refine yp (pCap rfl) ?_
  refine yp (pS rfl) ?_
  refine yp (pLen rfl) ?_
  refine yp (pSub rfl rfl (by omega)) ?_
  refine yp (pSub rfl rfl (by omega)) ?_
  refine yp (pI rfl) ?_
  refine ynil ?_
  refine tnorm ?_
  refine yseq ?_
  refine yregion ?_
  refine yp (pI rfl) ?_
  refine yp (pGt rfl rfl) ?_
  refine ynil ?_
  refine tnorm ?_
  rcases Nat.eq_zero_or_pos n with rfl | hp
  · refine ycondF rfl ?_
    refine yskip ?_
    refine tnorm ?_
    refine yseq ?_
    refine yregion ?_
    refine yp (pS rfl) ?_
    refine yp (pS rfl) ?_
    refine ynil ?_
    refine tnorm ?_
    refine yret ?_
    exact yfin (rS rfl) ⟨_, .of, _, .nil, rfl⟩
  rw [show ((n : Int) - (((0 : Nat) : Int) - ((0 : Nat) : Int))) = (n : Int) from by omega]
  rw [decide_eq_true (show (0 : Int) < n from by omega)]
  refine ycondT rfl ?_
  refine yregion ?_
  refine yp (pS rfl) ?_
  refine yp (pS rfl) ?_
  refine yp (pCap rfl) ?_
  refine yp (v := .slice none 0 0) rfl ?_
  refine yp (pI rfl) ?_
  refine ycons (ygrow und40 und3 siz3 zer3 byt3 rfl rfl hp (by decide) (by omega) hn fun b M hM => ?_)
  refine yp (pS rfl) ?_
  refine yp (pLen rfl) ?_
  refine yp (pSlTo (j := 0) rfl rfl (Nat.zero_le _)) ?_
  refine yp (pS rfl) ?_
  refine ynil ?_
  refine tnorm ?_
  refine yseq ?_
  refine yregion ?_
  refine yp (pS rfl) ?_
  refine yp (pS rfl) ?_
  refine ynil ?_
  refine tnorm ?_
  refine yret ?_
  refine yfin (rS rfl) ⟨_, .of, [(b, .cells ((List.replicate M [.int .i64 0]).flatten).toArray 3)], ?_, rfl⟩
  have h := Slc.of (ty := 3) (b := b) (L := ([] : List Int)) (sp := List.replicate M (0 : Int))
  rw [replicate_cells (z := [.int .i64 0]) M (0 : Int) rfl]
  simpa using h

theorem Src.mono {α : Type} [Enc α] {S T : Segs} {v : Value} {Y : List α} (h : Src S v Y) (hs : ∀ s ∈ S, s ∈ T) : Src T v Y := by
  cases h with
  | nil => exact .nil
  | part hm hc => exact .part (hs _ hm) hc

/-- a slice as an element -/
structure SV where
  a : Option Addr
  n : Nat
  c : Nat
instance : Enc SV := ⟨fun s => [.slice s.a s.n s.c], 1, fun _ => rfl, fun _ => rfl⟩

def szAB (A B : List Int) : Nat → Int
  | 0 => 0
  | 1 => A.length
  | _ => A.length + B.length
theorem c62 {u v : Value} {A B : List Int} {S : Segs} {b : Nat} (hA : Src S u A) (hB : Src S v B) (ha : A.length < 2 ^ 38) (hb : B.length < 2 ^ 38) (hm : [(b, .cells #[u, v] 40)] ∈ S) :
    Tri Try.prog 62 #[.slice (some ⟨b, 0, none⟩) 2 2] S (fun r S' => ∃ H, Slc 3 r (A ++ B) H ∧ S' = H :: S) := by
  refine Tri.forget (ycallee Try.fx62 (Nat.le_of_ble_eq_true rfl) ?_)
  unfold Try.x62
  obtain ⟨a1, c1, rfl⟩ := hA.isSlice
  obtain ⟨a2, c2, rfl⟩ := hB.isSlice
  obtain ⟨f, hAt⟩ := At.of_mem hm
  refine yseq ?_
  refine yregion ?_
  refine yp pC ?_
  refine ynil ?_
  refine tnorm ?_
  refine yseq ?_
  refine yregion ?_
  refine yp pC ?_
  refine ynil ?_
  refine tnorm ?_
  refine yseq ?_
  refine yseq ?_
  refine yregion ?_
  refine yp (pS rfl) ?_
  refine yp (pLen rfl) ?_
  refine yp pC ?_
  refine ynil ?_
  refine tnorm ?_
  refine yblock ?_
  refine yloop (σ := Nat) (fun i E S' => Has E [(0, .slice (some ⟨b, 0, none⟩) 2 2), (3, .int .i64 (szAB A B i)), (9, .slice (some ⟨b, 0, none⟩) 2 2), (10, .int .i64 2), (11, .int .i64 i)] ∧ i ≤ 2 ∧ S' = S) (fun i => 2 - i) 0 ⟨⟨rfl, rfl, rfl, rfl, rfl, trivial⟩, Nat.zero_le _, rfl⟩ fun i E S' ⟨hE, hi, hS⟩ => ?_
  subst hS
  obtain ⟨E0, e0⟩ := has_puts hE; subst e0; clear hE
  refine yseq ?_
  refine yregion ?_
  refine yp (pLt rfl rfl) ?_
  refine ynil ?_
  refine tnorm ?_
  refine yseq ?_
  refine ycondD rfl (fun h => ?_) (fun h => ?_)
  · have h01 : i = 0 ∨ i = 1 := by omega
    rcases h01 with rfl | rfl
    · rw [show szAB A B 0 = 0 from rfl]
      refine yskip ?_
      refine tnorm ?_
      refine yseq ?_
      refine yblock ?_
      refine yseq ?_
      refine yregion ?_
      refine yp (pIxN rfl rfl (by omega)) ?_
      refine ycons (yload1 rfl rfl ?_)
      refine yp (pS rfl) ?_
      refine ynil ?_
      refine tnorm ?_
      refine yseq ?_
      refine yregion ?_
      refine yp (pI rfl) ?_
      refine yp (pS rfl) ?_
      refine yp (pLen rfl) ?_
      refine yp (pAdd rfl rfl (by omega)) ?_
      refine yp (pI rfl) ?_
      refine ynil ?_
      refine tnorm ?_
      refine yseq ?_
      refine yregion ?_
      refine yp (pI rfl) ?_
      refine yp (pLt rfl rfl) ?_
      refine ynil ?_
      refine tnorm ?_
      refine ycondF rfl ?_
      refine yskip ?_
      refine bnorm ?_
      refine tnorm ?_
      refine yregion ?_
      refine yp (pInc rfl rfl (by omega)) ?_
      refine yp (pI rfl) ?_
      refine ynil ?_
      refine tnorm ?_
      refine ⟨1, ⟨⟨rfl, ?_, rfl, rfl, rfl, trivial⟩, by omega, rfl⟩, by omega⟩
      show Value.int .i64 (0 + (A.length : Int)) = .int .i64 (A.length : Int)
      rw [Int.zero_add]
    · rw [show szAB A B 1 = A.length from rfl]
      refine yskip ?_
      refine tnorm ?_
      refine yseq ?_
      refine yblock ?_
      refine yseq ?_
      refine yregion ?_
      refine yp (pIxN rfl rfl (by omega)) ?_
      refine ycons (yload1 rfl rfl ?_)
      refine yp (pS rfl) ?_
      refine ynil ?_
      refine tnorm ?_
      refine yseq ?_
      refine yregion ?_
      refine yp (pI rfl) ?_
      refine yp (pS rfl) ?_
      refine yp (pLen rfl) ?_
      refine yp (pAddN rfl rfl (by omega)) ?_
      refine yp (pI rfl) ?_
      refine ynil ?_
      refine tnorm ?_
      refine yseq ?_
      refine yregion ?_
      refine yp (pI rfl) ?_
      refine yp (pLt rfl rfl) ?_
      refine ynil ?_
      refine tnorm ?_
      refine ycondF rfl ?_
      refine yskip ?_
      refine bnorm ?_
      refine tnorm ?_
      refine yregion ?_
      refine yp (pInc rfl rfl (by omega)) ?_
      refine yp (pI rfl) ?_
      refine ynil ?_
      refine tnorm ?_
      exact ⟨2, ⟨⟨rfl, rfl, rfl, rfl, rfl, trivial⟩, by omega, rfl⟩, by omega⟩
  obtain rfl : i = 2 := by omega
  rw [show szAB A B 2 = ((A.length + B.length : Nat) : Int) from by show (A.length : Int) + B.length = _; omega]
  refine yexit ?_
  refine texit ?_
  refine texit ?_
  refine bexit ?_
  refine tnorm ?_
  refine yseq ?_
  refine yregion ?_
  refine yp (pI rfl) ?_
  refine ycons (ycall (c67 (n := A.length + B.length) (by omega)) rfl rfl fun r S' h => ?_)
  obtain ⟨H, hL, rfl⟩ := h
  obtain ⟨a3, c3, rfl⟩ := hL.isSlice
  refine yp (pS rfl) ?_
  refine ynil ?_
  refine tnorm ?_
  refine yseq ?_
  refine yseq ?_
  refine yregion ?_
  refine yp (pS rfl) ?_
  refine yp (pLen rfl) ?_
  refine yp pC ?_
  refine ynil ?_
  refine tnorm ?_
  refine yblock ?_
  refine yloop (σ := Nat) (fun i E S'' => Has E [(25, .slice (some ⟨b, 0, none⟩) 2 2), (26, .int .i64 2), (27, .int .i64 i)] ∧ i ≤ 2 ∧ ∃ v H, Slc 3 v (([A, B].take i).flatten) H ∧ E 6 = v ∧ S'' = H :: S') (fun i => 2 - i) 0 ⟨⟨rfl, rfl, rfl, trivial⟩, Nat.zero_le _, _, _, hL, rfl, rfl⟩ fun i E S'' ⟨hE, hi, v1, H1, hL1, hE6, hS⟩ => ?_
  subst hS
  obtain ⟨a4, c4, rfl⟩ := hL1.isSlice
  have hE2 : Has E [(6, .slice a4 ([A, B].take i).flatten.length c4), (25, .slice (some ⟨b, 0, none⟩) 2 2), (26, .int .i64 2), (27, .int .i64 i)] := ⟨hE6, hE⟩
  obtain ⟨E0, e0⟩ := has_puts hE2; subst e0; clear hE2
  refine yseq ?_
  refine yregion ?_
  refine yp (pLt rfl rfl) ?_
  refine ynil ?_
  refine tnorm ?_
  refine yseq ?_
  refine ycondD rfl (fun h => ?_) (fun h => ?_)
  · have h01 : i = 0 ∨ i = 1 := by omega
    rcases h01 with rfl | rfl
    · refine yskip ?_
      refine tnorm ?_
      refine yseq ?_
      refine yblock ?_
      refine yseq ?_
      refine yregion ?_
      refine yp (pIxN rfl rfl (by omega)) ?_
      refine ycons (yload1 rfl rfl ?_)
      refine yp (pS rfl) ?_
      refine ynil ?_
      refine tnorm ?_
      refine yregion ?_
      refine yp (pS rfl) ?_
      refine yp (pS rfl) ?_
      refine ycons (yapp (Y := A) rfl rfl hL1 (Src.mono hA fun s hs => ?_) rfl 0 rfl (by simp; omega) (by simp; omega) fun v2 H2 hL2 => ?_)
      · exact List.mem_cons_of_mem _ hs
      obtain ⟨a2, c2, rfl⟩ := hL2.isSlice
      refine yp (pS rfl) ?_
      refine ynil ?_
      refine bnorm ?_
      refine tnorm ?_
      refine yregion ?_
      refine yp (pInc rfl rfl (by omega)) ?_
      refine yp (pI rfl) ?_
      refine ynil ?_
      refine tnorm ?_
      exact ⟨1, ⟨⟨rfl, rfl, rfl, trivial⟩, by omega, .slice a2 (([A, B].take 0).flatten ++ A).length c2, H2, by simpa using hL2, rfl, rfl⟩, by omega⟩
    · refine yskip ?_
      refine tnorm ?_
      refine yseq ?_
      refine yblock ?_
      refine yseq ?_
      refine yregion ?_
      refine yp (pIxN rfl rfl (by omega)) ?_
      refine ycons (yload1 rfl rfl ?_)
      refine yp (pS rfl) ?_
      refine ynil ?_
      refine tnorm ?_
      refine yregion ?_
      refine yp (pS rfl) ?_
      refine yp (pS rfl) ?_
      refine ycons (yapp (Y := B) rfl rfl hL1 (Src.mono hB fun s hs => ?_) rfl 0 rfl (by simp; omega) (by simp; omega) fun v2 H2 hL2 => ?_)
      · exact List.mem_cons_of_mem _ hs
      obtain ⟨a2, c2, rfl⟩ := hL2.isSlice
      refine yp (pS rfl) ?_
      refine ynil ?_
      refine bnorm ?_
      refine tnorm ?_
      refine yregion ?_
      refine yp (pInc rfl rfl (by omega)) ?_
      refine yp (pI rfl) ?_
      refine ynil ?_
      refine tnorm ?_
      exact ⟨2, ⟨⟨rfl, rfl, rfl, trivial⟩, by omega, .slice a2 (([A, B].take 1).flatten ++ B).length c2, H2, by simpa using hL2, rfl, rfl⟩, by omega⟩
  obtain rfl : i = 2 := by omega
  refine yexit ?_
  refine texit ?_
  refine texit ?_
  refine bexit ?_
  refine tnorm ?_
  refine yseq ?_
  refine yregion ?_
  refine yp (pS rfl) ?_
  refine yp (pS rfl) ?_
  refine ynil ?_
  refine tnorm ?_
  refine yret ?_
  exact yfin (rS rfl) ⟨_, .self, _, by simpa using hL1, rfl⟩
theorem c52 {p : Option Addr} : Tri Try.prog 52 #[.pointer p] [] (fun r S => ∃ bl, r = .func (.func 61) #[] #[.pointer (some ⟨bl, 0, none⟩)] ∧ S = [[(bl, .cells #[.pointer p] 53)]]) := by
  refine Tri.forget (ycallee Try.fx52 (Nat.le_of_ble_eq_true rfl) ?_)
  unfold Try.x52
  refine yseq ?_
  refine yregion ?_
  refine ycons (ybx (scP rfl) fun p1 => ?_)
  refine yp pC ?_
  refine ynil ?_
  refine tnorm ?_
  refine yseq ?_
  refine yregion ?_
  refine yp (pFn1 (scP rfl)) ?_
  refine yp (pF rfl) ?_
  refine ynil ?_
  refine tnorm ?_
  refine yret ?_
  exact yfin (rF rfl) ⟨_, .of, _, rfl, rfl⟩

def pv1 (k : Int) : Array Value := #[.int .i64 k]
theorem it61 {bl lb : Nat} {most : Int} {u v : Value} {A B : List Int} {H G : List Chunk} {S0 : Segs} (hA : Slc 3 u A H) (hB : Slc 3 v B G) (ha : A.length < 2 ^ 38) (hb : B.length < 2 ^ 38) :
    IterOk Try.prog 61 #[] #[.pointer (some ⟨bl, 0, none⟩)] [[(bl, .cells #[.pointer (some ⟨lb, 0, none⟩)] 53)]] (lseg lb most u v :: H :: G :: S0)
      (fun pre x => pre ++ [x] <+: (A ++ B).map pv1) (fun xs => xs = (A ++ B).map pv1) := by
  intro l c J Jx hJ0 hround
  have e0 : (#[] ++ #[.func (.yield l) #[] #[]] ++ #[.pointer (some ⟨bl, 0, none⟩)] : Array Value) = #[.func (.yield l) #[] #[], .pointer (some ⟨bl, 0, none⟩)] := rfl
  rw [e0]
  refine Tri.forget (ycallee Try.fx61 (Nat.le_of_ble_eq_true rfl) ?_)
  unfold Try.x61
  obtain ⟨a0, c0, rfl⟩ := hA.isSlice
  obtain ⟨a1, c1, rfl⟩ := hB.isSlice
  refine yseq ?_
  refine yseq ?_
  refine yregion ?_
  refine ycons (yload1 rfl rfl ?_)
  refine yp (pNilP rfl rfl) ?_
  refine ynil ?_
  refine tnorm ?_
  refine ycondF rfl ?_
  refine yskip ?_
  refine tnorm ?_
  refine yseq ?_
  refine ydraw ?_
  refine ytl1 rfl rfl ?_
  refine ytq (pNilc rfl) ?_
  refine ytq (pFadr rfl) ?_
  refine ytl1 rfl rfl ?_
  refine ytl1 rfl rfl ?_
  refine ytq (pNilc rfl) ?_
  refine ytq (pFadr rfl) ?_
  refine ytl1 rfl rfl ?_
  refine ytq pC ?_
  refine ytalt (ybsl (l := [.slice a0 A.length c0, .slice a1 B.length c1]) rfl (by decide) (by decide) (by decide) rfl fun p15 => ?_) ytno
  refine ytalt (ycall (c62 (S := [[(p15, .cells #[.slice a0 A.length c0, .slice a1 B.length c1] 40)], H, G]) (b := p15) (hA.src (by simp)) (hB.src (by simp)) ha hb (by simp)) rfl rfl fun r S' h => ?_) ytno
  obtain ⟨H1, hL1, rfl⟩ := h
  obtain ⟨a2, c2, rfl⟩ := hL1.isSlice
  generalize hR : A ++ B = R at hL1 hround ⊢
  have hRl : R.length < 2 ^ 39 := by rw [← hR, List.length_append]; omega
  refine ytq (pLen rfl) ?_
  refine ytdone ?_
  refine tnorm ?_
  refine yblock ?_
  refine yloop (σ := Nat) (fun i E S => Has E [(0, .func (.yield l) #[] #[]), (16, .slice a2 R.length c2), (17, .int .i64 R.length), (18, .int .i64 i)] ∧ i ≤ R.length ∧ ∃ T, J ((R.take i).map pv1) T ∧ Junk S (H1 :: T)) (fun i => R.length - i) 0 ⟨⟨rfl, rfl, rfl, rfl, trivial⟩, Nat.zero_le _, [c] :: lseg lb most (.slice a0 A.length c0) (.slice a1 B.length c1) :: H :: G :: S0, hJ0, .of⟩ fun i E S ⟨hE, hi, T, hJ, hK⟩ => ?_
  obtain ⟨E0, e0⟩ := has_puts hE; subst e0; clear hE
  refine yforget hK ?_
  refine yseq ?_
  refine yregion ?_
  refine yp (pLt rfl rfl) ?_
  refine ynil ?_
  refine tnorm ?_
  refine yseq ?_
  refine ycondD rfl (fun h => ?_) (fun h => ?_)
  · have hlt : i < R.length := by omega
    obtain ⟨bb, sp, fz, hz, rfl, hm, hc, rfl⟩ := hL1.at' (by intro h; simp [h] at hlt)
    have htk : R.take (i + 1) = R.take i ++ [R[i]] := by rw [List.take_add_one, List.getElem?_eq_getElem hlt]; rfl
    refine yskip ?_
    refine tnorm ?_
    refine yseq ?_
    refine yblock ?_
    refine yseq ?_
    refine yregion ?_
    refine yp (pIxN rfl rfl (by omega)) ?_
    refine ycons (yload1 (v := .int .i64 R[i]) rfl ((row_cell (kk := 1) (j := 0) hlt rfl (by omega)).trans rfl) ?_)
    refine yp (pI rfl) ?_
    refine ynil ?_
    refine tnorm ?_
    refine yseq ?_
    refine yregion ?_
    refine yp (pF rfl) ?_
    refine yp (pI rfl) ?_
    have hV : (R.take i).map pv1 ++ [pv1 R[i]] <+: R.map pv1 := by
      have e1 : (R.take i).map pv1 ++ [pv1 R[i]] = (R.take (i + 1)).map pv1 := by rw [htk, List.map_append]; rfl
      rw [e1]
      exact List.IsPrefix.map pv1 (List.take_prefix _ _)
    refine ycons (yyieldI (hround _ _ T hV hJ) rfl rfl fun b T' h => ?_)
    rcases h with ⟨rfl, hJ'⟩ | ⟨rfl, hJx⟩
    · refine yp (pNot rfl) ?_
      refine ynil ?_
      refine tnorm ?_
      refine ycondF rfl ?_
      refine yskip ?_
      refine bnorm ?_
      refine tnorm ?_
      refine yregion ?_
      refine yp (pInc rfl rfl (by omega)) ?_
      refine yp (pI rfl) ?_
      refine ynil ?_
      refine tnorm ?_
      refine ⟨i + 1, ⟨⟨rfl, rfl, rfl, rfl, trivial⟩, by omega, T', ?_, .of⟩, by omega⟩
      rw [htk, List.map_append]; exact hJ'
    · refine yp (pNot rfl) ?_
      refine ynil ?_
      refine tnorm ?_
      refine ycondT rfl ?_
      refine yret ?_
      refine bret ?_
      refine tret ?_
      refine tret ?_
      refine bret ?_
      exact yfin res0 ⟨T', .of, .inr ⟨_, hJx⟩⟩
  · refine yexit ?_
    refine texit ?_
    refine texit ?_
    refine bexit ?_
    refine yfinN res0 ⟨T, .of, .inl ⟨_, ?_, hJ⟩⟩
    rw [List.take_of_length_le (by omega)]
/-- the first so many; below 1: all -/
def firstL (m : Int) (L : List Int) : List Int := if 0 < m then L.take m.toNat else L
theorem keyOf_pv1 (e : Int) : keyOf (pv1 e) = e := rfl
theorem map_keyOf_pv1 (L : List Int) : (L.map pv1).map keyOf = L := by
  rw [List.map_map, show keyOf ∘ pv1 = id from rfl, List.map_id]

theorem c36 {lb : Nat} {most : Int} {u v : Value} {A B : List Int} {H G : List Chunk} (hA : Slc 3 u A H) (hB : Slc 3 v B G) (ha : A.length < 2 ^ 38) (hb : B.length < 2 ^ 38) (m : Int) :
    Tri Try.prog 36 #[.pointer (some ⟨lb, 0, none⟩), .int .i64 m] [lseg lb most u v, H, G] (fun r S => ∃ Ho, Slc 3 r (firstL m (A ++ B)) Ho ∧ S = [Ho, lseg lb most u v, H, G]) := by
  refine Tri.forget (ycallee Try.fx36 (Nat.le_of_ble_eq_true rfl) ?_)
  unfold Try.x36
  refine yseq ?_
  refine yregion ?_
  refine ycons (ybx (scI rfl) fun p3 => ?_)
  refine yp pC ?_
  refine ynil ?_
  refine tnorm ?_
  refine yseq ?_
  refine yregion ?_
  refine ycons (yalloc fun p5 => ?_)
  refine ynil ?_
  refine tnorm ?_
  refine yseq ?_
  refine yregion ?_
  refine yp (pP rfl) ?_
  refine ycons (ycall c52 rfl rfl fun r S' h => ?_)
  obtain ⟨bl, rfl, rfl⟩ := h
  have hRl : (A ++ B).length < 2 ^ 39 := by rw [List.length_append]; omega
  refine yp (pF rfl) ?_
  refine ynil ?_
  refine tnorm ?_
  refine yseq ?_
  refine yseq ?_
  refine yregion ?_
  refine yp (pF rfl) ?_
  refine yp (v := .bool false) rfl ?_
  refine ynil ?_
  refine tnorm ?_
  refine ycondF rfl ?_
  refine yskip ?_
  refine tnorm ?_
  refine yseq ?_
  refine yseq ?_
  refine yregion ?_
  refine yp (pF rfl) ?_
  refine ynil ?_
  refine tnorm ?_
  refine yblock ?_
  refine yrange (fun pre T => pre <+: (A ++ B).map pv1 ∧ (0 < m → (pre.length : Int) < m) ∧ ∃ vo Ho, Slc 3 vo (pre.map keyOf) Ho ∧ Junk T [lseg lb most u v, H, G, [(p3, .cells #[.int .i64 m] 3)], [(p5, .cells #[vo] 40)], Ho])
    (fun e pre T => e = .exit 0 ∧ ∃ vo Ho, Slc 3 vo (firstL m (A ++ B)) Ho ∧ Junk T [lseg lb most u v, H, G, [(p3, .cells #[.int .i64 m] 3)], [(p5, .cells #[vo] 40)], Ho])
    rfl rfl (it61 (lb := lb) (most := most) (S0 := [[(p3, .cells #[.int .i64 m] 3)], [(p5, .cells #[.slice none 0 0] 40)]]) hA hB ha hb) ⟨List.nil_prefix, fun h => h, _, [], .nil, .of⟩ ?_ ?_ ?_ ?_
  · intro pre x hx
    have : x ∈ (A ++ B).map pv1 := hx.subset (by simp)
    obtain ⟨e, _, rfl⟩ := List.mem_map.1 this
    rfl
  · rintro l pre x T hx ⟨_, hmm, vo, Ho, hLo, hJ⟩
    have : x ∈ (A ++ B).map pv1 := hx.subset (by simp)
    obtain ⟨e, _, rfl⟩ := List.mem_map.1 this
    have hpl := hx.length_le
    simp only [List.length_append, List.length_map, List.length_singleton] at hpl
    rw [List.length_append] at hRl
    refine yforget hJ ?_
    obtain ⟨a, c, rfl⟩ := hLo.isSlice
    refine yregion ?_
    refine yp (pI rfl) ?_
    refine ynil ?_
    refine tnorm ?_
    refine yblock ?_
    refine yseq ?_
    refine yregion ?_
    refine ycons (yload1 rfl rfl ?_)
    refine yp (pI rfl) ?_
    refine ycons (ybsl1 e rfl rfl (by decide) (by decide) rfl fun p16 => ?_)
    refine ycons (yapp (Y := [e]) rfl rfl hLo (.lit (by repeat (first | exact List.mem_cons_self | apply List.mem_cons_of_mem)) rfl) rfl 0 rfl (by simp; omega) (by simp; omega) fun v2 H2 hL2 => ?_)
    obtain ⟨a2, c2, rfl⟩ := hL2.isSlice
    have hlen2 : ((pre.map keyOf ++ [e]).length : Int) = pre.length + 1 := by simp
    refine ycons (yst1_0 rfl rfl (scS rfl) ?_)
    refine ynil ?_
    refine tnorm ?_
    refine yseq ?_
    refine yregion ?_
    refine ycons (yload1 rfl rfl ?_)
    refine yp (pLen rfl) ?_
    refine ycons (yload1 rfl rfl ?_)
    refine yp (pEq rfl rfl) ?_
    refine ynil ?_
    refine tnorm ?_
    by_cases hq : (pre.length : Int) + 1 = m
    · rw [decide_eq_true (hlen2.trans hq)]
      refine ycondT rfl ?_
      refine yexit ?_
      refine bexitN rfl ?_
      refine ⟨rfl, .slice a2 (pre.map keyOf ++ [e]).length c2, H2, ?_, .of⟩
      have e2 : firstL m (A ++ B) = pre.map keyOf ++ [e] := by
        rw [firstL, if_pos (by omega)]
        have h1 := List.prefix_iff_eq_take.1 (hx.map keyOf)
        rw [map_keyOf_pv1, List.map_append] at h1
        rw [show List.map keyOf [pv1 e] = [e] from rfl] at h1
        rw [show m.toNat = (List.map keyOf pre ++ [e]).length from by omega]
        exact h1.symm
      rw [e2]; exact hL2
    · rw [decide_eq_false (fun h => hq (hlen2.symm.trans h))]
      refine ycondF rfl ?_
      refine yskip ?_
      refine bnorm ?_
      refine ⟨hx, fun h => ?_, .slice a2 (pre.map keyOf ++ [e]).length c2, H2, ?_, .of⟩
      · have := hmm h
        simp; omega
      · rw [List.map_append]; exact hL2
  · rintro xs S' hd ⟨_, hmm, vo, Ho, hLo, hJ⟩
    rw [hd, map_keyOf_pv1] at hLo
    refine bnorm (tnorm ?_)
    refine yforget hJ ?_
    obtain ⟨a, c, rfl⟩ := hLo.isSlice
    refine yseq ?_
    refine yregion ?_
    refine ycons (yload1 rfl rfl ?_)
    refine yp (pS rfl) ?_
    refine ynil ?_
    refine tnorm ?_
    refine yret ?_
    refine yfin (rS rfl) ⟨_, .of, Ho, ?_, rfl⟩
    rw [firstL]
    split
    · next h =>
      have := hmm h
      rw [hd, List.length_map] at this
      rw [List.take_of_length_le (by omega)]; exact hLo
    · exact hLo
  · rintro e pre S' _ ⟨rfl, vo, Ho, hLo, hJ⟩
    refine yforget hJ ?_
    obtain ⟨a, c, rfl⟩ := hLo.isSlice
    refine yseq ?_
    refine yregion ?_
    refine ycons (yload1 rfl rfl ?_)
    refine yp (pS rfl) ?_
    refine ynil ?_
    refine tnorm ?_
    refine yret ?_
    exact yfin (rS rfl) ⟨_, .of, _, hLo, rfl⟩
end Go.Proofs.Ytmgiamagocefcaa
