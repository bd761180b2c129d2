/- ListsWalk: what it computes. -/
import Derived.Test.YtmgiamagocefcaaRefD
import Derived.Test.YtmgiamagocefcaaNew
import Derived.Test.YtmgiamagocefcaaTypes
namespace Go.Proofs.Ytmgiamagocefcaa
open Go.Xs
open Enc (enc)

def dN (m : Nat) : List (Int × Int) := (List.range m).map fun (j : Nat) => ((j : Int), ((j / 2 : Nat) : Int))
theorem dN_length (m : Nat) : (dN m).length = m := by simp [dN]
theorem dN_succ (m : Nat) : dN (m + 1) = dN m ++ [((m : Int), ((m / 2 : Nat) : Int))] := by simp [dN, List.range_succ]
theorem dN_new (m : Nat) : dropK (m : Int) (dN m) = dN m := by
  have : ∀ L : List (Int × Int), (∀ e ∈ L, e.1 ≠ (m : Int)) → idx (m : Int) L = none := by
    intro L
    induction L with
    | nil => intro _; rfl
    | cons e L ih =>
      intro h
      rw [idx, if_neg (h e List.mem_cons_self), ih fun e he => h e (List.mem_cons_of_mem _ he)]
      rfl
  have h := this (dN m) (by
    intro e he
    obtain ⟨j, hj, rfl⟩ := List.mem_map.1 he
    have := List.mem_range.1 hj
    show (j : Int) ≠ m
    omega)
  unfold dropK
  rw [h]
theorem upto_dN (at_ : Int) (m : Nat) : upto at_ (dN m) = (dN m).filter fun e => decide (byAt e ≤ at_) := by
  rw [upto, ← (SS.eq (key := byAt) (L := dN m) (R := dN m) ⟨?_, fun _ => rfl⟩)]
  refine List.pairwise_map.2 (List.pairwise_lt_range.imp fun {a b} hab => ?_)
  show ((a / 2 : Nat) : Int) ≤ ((b / 2 : Nat) : Int)
  omega

theorem c9 {S : Segs} (n at_ : Int) {v : Value} {T : List Int} (hT : Src S v T) (_hm : T.length ≤ maxLen) (_hq : ∀ a ∈ T, InI a) : Tri Try.prog 9 #[.int .i64 n, .int .i64 at_, v] S (fun r S' => r = .bool true ∧ S' = S) := by
  refine Tri.forget (ycallee Try.fx9 (Nat.le_of_ble_eq_true rfl) ?_)
  unfold Try.x9
  obtain ⟨at0, ct0, rfl⟩ := hT.isSlice
  refine yseq ?_
  refine yregion ?_
  refine ycons (ybx (scS rfl) fun p5 => ?_)
  refine yp pC ?_
  refine ynil ?_
  refine tnorm ?_
  refine yseq ?_
  refine yseq ?_
  refine yregion ?_
  refine yp (pI rfl) ?_
  refine yp (pLt rfl rfl) ?_
  refine yp (pB rfl) ?_
  by_cases h1 : n < 0
  · rw [decide_eq_true h1]
    refine ygF rfl ?_
    refine ygF rfl ?_
    refine yp (pPickT rfl rfl) ?_
    refine yp (pB rfl) ?_
    refine ygF rfl ?_
    refine ygF rfl ?_
    refine ygF rfl ?_
    refine yp (pPickT rfl rfl) ?_
    refine ynil ?_
    refine tnorm ?_
    refine ycondT rfl ?_
    refine yseq ?_
    refine yregion ?_
    refine ycons (ycall c27 rfl rfl fun r S' h => ?_)
    obtain ⟨rfl, rfl⟩ := h
    refine yp (pB rfl) ?_
    refine ynil ?_
    refine tnorm ?_
    refine yret ?_
    refine tret ?_
    exact yfin (rB rfl) ⟨_, .of, rfl, rfl⟩
  rw [decide_eq_false h1]
  refine ygT rfl ?_
  refine yop (pI rfl) ?_
  refine ygT rfl ?_
  refine yop (pGt rfl rfl) ?_
  refine yp (pPickF rfl rfl) ?_
  refine yp (pB rfl) ?_
  by_cases h2 : 30 < n
  · rw [decide_eq_true h2]
    refine ygF rfl ?_
    refine ygF rfl ?_
    refine ygF rfl ?_
    refine yp (pPickT rfl rfl) ?_
    refine ynil ?_
    refine tnorm ?_
    refine ycondT rfl ?_
    refine yseq ?_
    refine yregion ?_
    refine ycons (ycall c27 rfl rfl fun r S' h => ?_)
    obtain ⟨rfl, rfl⟩ := h
    refine yp (pB rfl) ?_
    refine ynil ?_
    refine tnorm ?_
    refine yret ?_
    refine tret ?_
    exact yfin (rB rfl) ⟨_, .of, rfl, rfl⟩
  rw [decide_eq_false h2]
  refine ygT rfl ?_
  refine (yload1 rfl rfl ?_)
  refine ygT rfl ?_
  refine yop (pLen rfl) ?_
  refine ygT rfl ?_
  refine yop (pGt rfl rfl) ?_
  refine yp (pPickF rfl rfl) ?_
  refine ynil ?_
  refine tnorm ?_
  by_cases h5 : 30 < (T.length : Int)
  · rw [decide_eq_true h5]
    refine ycondT rfl ?_
    refine yseq ?_
    refine yregion ?_
    refine ycons (ycall c27 rfl rfl fun r S' h => ?_)
    obtain ⟨rfl, rfl⟩ := h
    refine yp (pB rfl) ?_
    refine ynil ?_
    refine tnorm ?_
    refine yret ?_
    refine tret ?_
    exact yfin (rB rfl) ⟨_, .of, rfl, rfl⟩
  rw [decide_eq_false h5]
  obtain ⟨N, rfl⟩ := Int.eq_ofNat_of_zero_le (show 0 ≤ n from by omega)
  refine ycondF rfl ?_
  refine yskip ?_
  refine tnorm ?_
  refine yseq ?_
  refine yregion ?_
  refine ycons (ycall c38 rfl rfl fun r S' h => ?_)
  obtain ⟨db, rfl, rfl⟩ := h
  refine ycons (yalloc fun p7 => ?_)
  refine ycons (yst1_0 rfl rfl (scP rfl) ?_)
  refine ynil ?_
  refine tnorm ?_
  refine yseq ?_
  refine yseq ?_
  refine yregion ?_
  refine ycons (yload1 rfl rfl ?_)
  refine yp (pNilP rfl rfl) ?_
  refine ynil ?_
  refine tnorm ?_
  refine ycondF rfl ?_
  refine yskip ?_
  refine tnorm ?_
  refine yseq ?_
  refine yregion ?_
  refine yp pC ?_
  refine ynil ?_
  refine tnorm ?_
  refine yseq ?_
  refine yseq ?_
  refine yregion ?_
  refine yp pC ?_
  refine ynil ?_
  refine tnorm ?_
  refine yblock ?_
  refine yloop (σ := Nat) (fun i E S' => Has E [(0, .int .i64 N), (1, .int .i64 at_), (5, .pointer (some ⟨p5, 0, none⟩)), (7, .pointer (some ⟨p7, 0, none⟩)), (9, .int .i64 i)] ∧ i ≤ N ∧ ∃ u H w W, Slc 93 u (dN i) H ∧ Slc 42 w ((dN i).filter fun e => decide (byAt e ≤ at_)) W ∧ E 8 = w ∧ Junk S' (W :: [(p5, .cells #[.slice at0 T.length ct0] 40)] :: [(p7, .cells #[.pointer (some ⟨db, 0, none⟩)] 65)] :: dseg db u :: H :: S)) (fun i => N - i) 0 ⟨⟨rfl, rfl, rfl, rfl, rfl, trivial⟩, Nat.zero_le _, _, [], _, [], .nil, .nil, rfl, .of⟩ fun i E S' ⟨hE, hi, u, H, w, W, hD, hW, hE8, hJ⟩ => ?_
  have hil := dN_length i
  have hfl := List.length_filter_le (fun e => decide (byAt e ≤ at_)) (dN i)
  obtain ⟨aw, cw, rfl⟩ := hW.isSlice
  have hE2 : Has E [(8, .slice aw ((dN i).filter fun e => decide (byAt e ≤ at_)).length cw), (0, .int .i64 N), (1, .int .i64 at_), (5, .pointer (some ⟨p5, 0, none⟩)), (7, .pointer (some ⟨p7, 0, none⟩)), (9, .int .i64 i)] := ⟨hE8, hE⟩
  obtain ⟨E0, e0⟩ := has_puts hE2; subst e0; clear hE2
  refine yforget hJ ?_
  refine yseq ?_
  refine yseq ?_
  refine yregion ?_
  refine yp (pI rfl) ?_
  refine yp (pI rfl) ?_
  refine yp (pLt rfl rfl) ?_
  refine ynil ?_
  refine tnorm ?_
  refine ycondD rfl (fun h => ?_) (fun h => ?_)
  · have hq2 : (i : Int).tdiv 2 = ((i / 2 : Nat) : Int) := by rw [Int.tdiv_eq_ediv_of_nonneg (by omega)]; omega
    refine yskip ?_
    refine tnorm ?_
    refine yseq ?_
    refine yblock ?_
    refine yseq ?_
    refine yregion ?_
    refine ycons (yload1 rfl rfl ?_)
    refine yp (pI rfl) ?_
    refine yp (pI rfl) ?_
    refine yp (pQuo rfl rfl (by omega) (by omega)) ?_
    rw [hq2]
    refine ycons (ycall (c39 (db := db) hD (by omega) (i : Int) ((i / 2 : Nat) : Int)) rfl rfl fun r S' h => ?_)
    obtain ⟨rfl, u1, H1, hD1, rfl⟩ := h
    rw [dN_new, ← dN_succ] at hD1
    refine ynil ?_
    refine tnorm ?_
    refine yseq ?_
    refine yregion ?_
    refine yp (pI rfl) ?_
    refine yp (pQuo rfl rfl (by omega) (by omega)) ?_
    rw [hq2]
    refine yp (pI rfl) ?_
    refine yp (pLe rfl rfl) ?_
    refine ynil ?_
    refine tnorm ?_
    refine ycondD rfl (fun h6 => ?_) (fun h6 => ?_)
    · refine yregion ?_
      refine yp (pS rfl) ?_
      refine yp (pI rfl) ?_
      refine yp (pI rfl) ?_
      refine yp (pQuo rfl rfl (by omega) (by omega)) ?_
      rw [hq2]
      refine yp (pBuild2 (scI rfl) (scI rfl)) ?_
      refine ycons (ybsl1 ((i : Int), ((i / 2 : Nat) : Int)) rfl rfl (by decide) (by decide) rfl fun p49 => ?_)
      refine ycons (yapp (Y := [((i : Int), ((i / 2 : Nat) : Int))]) rfl rfl hW (.lit (by repeat (first | exact List.mem_cons_self | apply List.mem_cons_of_mem)) rfl) rfl (0, 0) rfl (by rw [List.length_singleton]; omega) (by rw [List.length_singleton]; omega) fun w3 K3 hU3 => ?_)
      obtain ⟨a5, c5, rfl⟩ := hU3.isSlice
      refine yp (pS rfl) ?_
      refine ynil ?_
      refine bnorm ?_
      refine tnorm ?_
      refine yregion ?_
      refine yp (pI rfl) ?_
      refine yp (pInc rfl rfl (by omega)) ?_
      refine yp (pI rfl) ?_
      refine ynil ?_
      refine tnorm ?_
      refine ⟨i + 1, ⟨⟨rfl, rfl, rfl, rfl, rfl, trivial⟩, by omega, u1, H1, .slice a5 (((dN i).filter fun e => decide (byAt e ≤ at_)) ++ [((i : Int), ((i / 2 : Nat) : Int))]).length c5, K3, hD1, ?_, rfl, .of⟩, by omega⟩
      rw [dN_succ, List.filter_append, List.filter_cons_of_pos (by exact decide_eq_true h6)]
      exact hU3
    · refine yskip ?_
      refine bnorm ?_
      refine tnorm ?_
      refine yregion ?_
      refine yp (pI rfl) ?_
      refine yp (pInc rfl rfl (by omega)) ?_
      refine yp (pI rfl) ?_
      refine ynil ?_
      refine tnorm ?_
      refine ⟨i + 1, ⟨⟨rfl, rfl, rfl, rfl, rfl, trivial⟩, by omega, u1, H1, .slice aw ((dN i).filter fun e => decide (byAt e ≤ at_)).length cw, W, hD1, ?_, rfl, .of⟩, by omega⟩
      have hne : ([((i : Int), ((i / 2 : Nat) : Int))].filter fun e => decide (byAt e ≤ at_)) = [] := by
        rw [List.filter_eq_nil_iff]
        intro e he
        rw [List.mem_singleton.1 he]
        exact fun h9 => h6 (of_decide_eq_true h9)
      rw [dN_succ, List.filter_append, hne, List.append_nil]
      exact hW
  obtain rfl : i = N := by omega
  rw [← upto_dN] at hW hfl
  rw [← upto_dN]
  generalize hU : upto at_ (dN i) = U at hW hfl
  refine yexit ?_
  refine texit ?_
  refine texit ?_
  refine bexit ?_
  refine tnorm ?_
  refine yseq ?_
  refine yregion ?_
  refine ycons (yalloc fun p10 => ?_)
  refine ynil ?_
  refine tnorm ?_
  refine yseq ?_
  refine yregion ?_
  refine ycons (yalloc fun p11 => ?_)
  refine ycons (yst1_0 rfl rfl (scI rfl) ?_)
  refine ynil ?_
  refine tnorm ?_
  refine yseq ?_
  refine yregion ?_
  refine ycons (yload1 rfl rfl ?_)
  refine yp (pI rfl) ?_
  refine ycons (ycall c45 rfl rfl fun r S' h => ?_)
  obtain ⟨bd, ba, rfl, rfl⟩ := h
  refine yp (pF rfl) ?_
  refine ynil ?_
  refine tnorm ?_
  refine yseq ?_
  refine yseq ?_
  refine yregion ?_
  refine yp (pF rfl) ?_
  refine yp (v := .bool false) rfl ?_
  refine ynil ?_
  refine tnorm ?_
  refine ycondF rfl ?_
  refine yskip ?_
  refine tnorm ?_
  refine yseq ?_
  refine yseq ?_
  refine yregion ?_
  refine yp (pF rfl) ?_
  refine ynil ?_
  refine tnorm ?_
  refine yblock ?_
  have hil := dN_length i
  have hul : U.length ≤ 30 := by have := upto_length at_ (dN i); rw [hU] at this; omega
  refine yrange (fun pre T' => pre <+: U.map pv ∧ ∃ (L' : List (Int × Int)) (u' : Value) (H' : List Chunk) (vo : Value) (Ho : List Chunk), L'.length ≤ i + pre.length ∧ Slc 93 u' L' H' ∧ Slc 42 vo (pre.map unpv) Ho ∧ Junk T' (dseg db u' :: H' :: [(p5, .cells #[.slice at0 T.length ct0] 40)] :: [(p7, .cells #[.pointer (some ⟨db, 0, none⟩)] 65)] :: [(p10, .cells #[vo] 27)] :: [(p11, .cells #[.int .i64 ((pre.length : Nat) : Int)] 3)] :: Ho :: W :: S))
    (fun e pre T' => False)
    rfl rfl (it55 (db := db) (S0 := [(p5, .cells #[.slice at0 T.length ct0] 40)] :: [(p7, .cells #[.pointer (some ⟨db, 0, none⟩)] 65)] :: [(p10, .cells #[.slice none 0 0] 27)] :: [(p11, .cells #[.int .i64 0] 3)] :: W :: S) hD (by omega) at_) ⟨List.nil_prefix, dN i, u, H, _, [], by simp; omega, hD, .nil, .of⟩ ?_ ?_ ?_ ?_
  · rw [hU]
    intro pre x hx
    have : x ∈ U.map pv := hx.subset (by simp)
    obtain ⟨e, _, rfl⟩ := List.mem_map.1 this
    rfl
  · rintro l pre x T' hx ⟨_, L1, u1, H1, vo, Ho, hl1, hD1, hLo, hJ⟩
    rw [hU] at hx
    have : x ∈ U.map pv := hx.subset (by simp)
    obtain ⟨e, _, rfl⟩ := List.mem_map.1 this
    have hpl := hx.length_le
    simp only [List.length_append, List.length_map, List.length_singleton] at hpl
    refine yforget hJ ?_
    obtain ⟨a, c, rfl⟩ := hLo.isSlice
    refine yseq ?_
    refine yregion ?_
    refine yp (pI rfl) ?_
    refine ynil ?_
    refine tnorm ?_
    refine yregion ?_
    refine yp (pI rfl) ?_
    refine ynil ?_
    refine tnorm ?_
    refine yblock ?_
    refine yseq ?_
    refine yregion ?_
    refine ycons (yload1 rfl rfl ?_)
    refine yp (pI rfl) ?_
    refine yp (pI rfl) ?_
    refine yp (pBuild2 (scI rfl) (scI rfl)) ?_
    refine ycons (ybsl1 e rfl rfl (by decide) (by decide) rfl fun p63 => ?_)
    refine ycons (yapp (Y := [e]) rfl rfl hLo (.lit (by repeat (first | exact List.mem_cons_self | apply List.mem_cons_of_mem)) rfl) rfl (0, 0) rfl (by simp; omega) (by simp; omega) fun v2 H2 hL2 => ?_)
    obtain ⟨a2, c2, rfl⟩ := hL2.isSlice
    refine ycons (yst1_0 rfl rfl (scS rfl) ?_)
    refine ynil ?_
    refine tnorm ?_
    refine yseq ?_
    refine yseq ?_
    refine yregion ?_
    refine ycons (yload1 rfl rfl ?_)
    refine ycons (yload1 rfl rfl ?_)
    refine yp (pLen rfl) ?_
    refine yp (pLt rfl rfl) ?_
    refine ynil ?_
    refine tnorm ?_
    have hlen3 : (pre ++ [pv e]).length = pre.length + 1 := by simp
    by_cases hq : ((pre.length : Nat) : Int) < (T.length : Int)
    · rw [decide_eq_true hq]
      have hlt : pre.length < T.length := by omega
      obtain ⟨b, o, ca, ty, fz, rfl, hm', hmem, hg, _⟩ := hT.get (by intro h; simp [h] at hlt)
      have hg0 := hg pre.length 0 hlt (by decide)
      generalize T[pre.length] = t at hg0
      refine ycondT rfl ?_
      refine yseq ?_
      refine ydraw ?_
      refine ytl1 rfl rfl ?_
      refine ytl1 rfl rfl ?_
      refine ytl1 rfl rfl ?_
      refine ytq (pIxN rfl rfl (by omega)) ?_
      refine ytlM (v := .int .i64 t) (by repeat (first | exact hmem | apply List.mem_cons_of_mem)) rfl hg0 ?_
      refine ytaltC (ycall (c26 t 40 (by decide)) rfl rfl fun r S' h => ?_) ytno
      obtain ⟨rfl, rfl⟩ := h
      refine ⟨by simp, ?_⟩
      refine ytalt (ycall (c40 (db := db) hD1 (by omega) (round t 40)) rfl rfl fun r S' h => ?_) ytno
      obtain ⟨rfl, u3, H3, hD3, rfl⟩ := h
      have hdl := dropK_length (round t 40) L1
      refine ytdone ?_
      refine tnorm ?_
      refine yregion ?_
      refine ycons (yload1 rfl rfl ?_)
      refine ycons (yload1 rfl rfl ?_)
      refine yp (pAdd rfl rfl (by omega)) ?_
      refine ycons (ycall (c39 (db := db) hD3 (by omega) _ 0) rfl rfl fun r S' h => ?_)
      obtain ⟨rfl, u4, H4, hD4, rfl⟩ := h
      have hdl2 := fun k => dropK_length k (dropK (round t 40) L1)
      refine ynil ?_
      refine tnorm ?_
      refine yregion ?_
      refine ycons (yload1 rfl rfl ?_)
      refine yp (pInc rfl rfl (by omega)) ?_
      refine ycons (yst1_0 rfl rfl (scI rfl) ?_)
      refine ynil ?_
      refine bnorm ?_
      refine ⟨hx, _, u4, H4, .slice a2 (pre.map unpv ++ [e]).length c2, H2, ?_, hD4, ?_, ?_⟩
      · rw [hlen3, List.length_append, List.length_singleton]
        have := hdl2 (100 + ((pre.length : Nat) : Int))
        omega
      · rw [List.map_append]; exact hL2
      · rw [hlen3]; exact .of
    · rw [decide_eq_false hq]
      refine ycondF rfl ?_
      refine yskip ?_
      refine tnorm ?_
      refine yregion ?_
      refine ycons (yload1 rfl rfl ?_)
      refine yp (pInc rfl rfl (by omega)) ?_
      refine ycons (yst1_0 rfl rfl (scI rfl) ?_)
      refine ynil ?_
      refine bnorm ?_
      refine ⟨hx, L1, u1, H1, .slice a2 (pre.map unpv ++ [e]).length c2, H2, by omega, hD1, ?_, ?_⟩
      · rw [List.map_append]; exact hL2
      · rw [hlen3]; exact .of
  · rintro xs S' hd ⟨_, L1, u1, H1, vo, Ho, hl1, hD1, hLo, hJ⟩
    rw [hU] at hd
    rw [hd, map_unpv_pv] at hLo
    refine bnorm (tnorm ?_)
    refine yforget hJ ?_
    obtain ⟨a, c, rfl⟩ := hLo.isSlice
    refine yseq ?_
    refine yregion ?_
    refine ycons (yload1 rfl rfl ?_)
    refine yp (pS rfl) ?_
    refine ycons (ycall (c43 (S := [Ho, W]) (hLo.src (by simp)) (hW.src (by simp)) (by omega)) rfl rfl fun r S' h => ?_)
    obtain ⟨rfl, rfl⟩ := h
    rw [decide_eq_true (rfl : U = U)]
    refine yp (pB rfl) ?_
    refine ygT rfl ?_
    refine ycall c27 rfl rfl fun r S' h => ?_
    obtain ⟨rfl, rfl⟩ := h
    refine yp (pPickT rfl rfl) ?_
    refine yp (pB rfl) ?_
    refine ynil ?_
    refine tnorm ?_
    refine yret ?_
    exact yfin (rB rfl) ⟨_, .of, rfl, rfl⟩
  · rintro e pre S' _ h
    exact h.elim
end Go.Proofs.Ytmgiamagocefcaa
