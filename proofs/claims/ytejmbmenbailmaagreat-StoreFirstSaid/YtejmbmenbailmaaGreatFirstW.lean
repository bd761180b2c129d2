/- StoreFirst: the walk. -/
import Derived.Test.YtejmbmenbailmaaGreatAwakeS
import Derived.Test.YtejmbmenbailmaaGreatFirstP
import Derived.Test.YtejmbmenbailmaaGreatTimesW
namespace Go.Proofs.YtejmbmenbailmaaGreat
open Go.Xs
open Enc (enc)
/-- when an item is over -/
def vE (X : List Int) (i : Nat) : Int := if X.any (fun x => decide (round x 31 = (i : Int))) then 10 + ((i : Int) * 7).tmod 31 else 1000
theorem aK (X : List Int) (x : Int) (i : Nat) : vE (X ++ [x]) i = if round x 31 = (i : Int) then 10 + ((i : Int) * 7).tmod 31 else vE X i := by
 unfold vE;rw [List.any_append, List.any_cons, List.any_nil, Bool.or_false];by_cases h : round x 31 = (i : Int)
 ·rw [decide_eq_true h, Bool.or_true, if_pos rfl, if_pos h]
 ·rw [decide_eq_false h, Bool.or_false, if_neg h]
theorem Kr (X : List Int) (i : Nat) : vE X i = 1000 ∨ (10 ≤ vE X i ∧ vE X i ≤ 40) := by
 unfold vE;split
 ·right;rw [show ((i : Int) * 7).tmod 31 = ((i * 7 % 31 : Nat) : Int) from rfl];omega
 ·left; rfl
abbrev bg (I : List Bool) : Nat → Bool := fun j => I.getD j false
theorem lu {I : List Bool} {k : Nat} (h : k < I.length) : bg (I.set k true) = fun j => if j = k then true else bg I j := by
 funext j;show (I.set k true).getD j false = _;rw [List.getD_eq_getElem?_getD, List.getElem?_set];by_cases hj : k = j
 ·rw [if_pos hj, if_pos h, if_pos hj.symm]; rfl
 ·rw [if_neg hj, if_neg (fun q => hj q.symm), ← List.getD_eq_getElem?_getD]
theorem lD {I : List Bool} {k : Nat} (h : k < I.length) : bg I k = I[k] := by
 show I.getD k false = _;rw [List.getD_eq_getElem?_getD, List.getElem?_eq_getElem h]; rfl
theorem lC : bg (List.replicate 31 false) = fun _ => false := by
 funext j;show (List.replicate 31 false).getD j false = false;rw [List.getD_eq_getElem?_getD, List.getElem?_replicate];split <;> rfl
theorem QL.some_ {e : Nat → Int} {u : Nat → Bool} {c : Nat} {S : Ss} (h : QL e u c S) (hc : c ≤ 4) : (List.range 31).filter (fun j => !u j) ≠ [] := fun q => by
 have h1 := h.pq.length_eq;rw [h.p, q] at h1;have h2 := h.q;have h3 : (keys S.I).length = 31 := by unfold keys; rw [List.length_map, h.rw.len]
 simp at h1;omega
theorem gQ {n w : Nat} {f : Nat → Bool} (hw : w < n) (hf : f w = true) (hl : ∀ j, j < w → f j = false) : ∃ l, (List.range n).filter f = w :: l := by
 cases hF : (List.range n).filter f with
 | nil =>
  have : w ∈ (List.range n).filter f := List.mem_filter.2 ⟨List.mem_range.2 hw, hf⟩;rw [hF] at this;simp at this
 | cons k l =>
  have h1 := y5 hF;have hk : k ∈ (List.range n).filter f := by rw [hF]; simp
  have h2 := (List.mem_filter.1 hk).2;refine ⟨l, ?_⟩;congr 1;rcases Nat.lt_trichotomy k w with q | q | q
  ·have := hl k q;rw [h2] at this; cases this
  ·exact q
  ·have := h1 w q;rw [hf] at this; cases this
set_option maxRecDepth 10000 in
set_option maxHeartbeats 8000000 in
theorem c6 {S : zw} {v w : Value} {X : List Int} (hX : Src S v X) (_hm : X.length ≤ maxLen) (_hq : ∀ a ∈ X, -9223372036854775808 ≤ a ∧ a ≤ 9223372036854775807) {Y : List Int} (hY : Src S w Y) (_hm2 : Y.length ≤ maxLen) (_hq2 : ∀ a ∈ Y, -9223372036854775808 ≤ a ∧ a ≤ 9223372036854775807) :
 Tri Tryz.prog 6 #[v, w] S (fun r S' => r = .bool true ∧ S' = S) := by
 refine Tri.forget (zm Tryz.LX (Nat.le_of_ble_eq_true rfl) ?_);unfold Tryz.x6;obtain ⟨xa, xc, rfl⟩ := hX.isSlice;obtain ⟨ya, yc, rfl⟩ := hY.isSlice;refine ze (z8 (yp pC (zf (za (ze (ze (z8 (yp (pS rfl) (yp (ZC rfl) (yp (VQ rfl rfl) (yp (pB rfl) ?_)))))))))));by_cases c1 : (10 : Int) < (X.length : Int)
 ·rw [decide_eq_true c1];refine Z0 rfl (Z0 rfl (Z0 rfl (yp (zO rfl rfl) (zf (za (zH rfl (ze (z8 ?_))))))));refine zh (zk XD rfl rfl fun r S' h => ?_);obtain ⟨rfl, rfl⟩ := h;refine yp (pB rfl) (zf (za (zJ (zU ?_))));exact zI (rB rfl) ⟨_, .of, rfl, rfl⟩
 rw [decide_eq_false c1];refine Z7 rfl (Zc (pS rfl) (Z7 rfl (Zc (ZC rfl) (Z7 rfl (Zc (VQ rfl rfl) (yp (zT rfl rfl) (zf (za ?_))))))));by_cases c2 : (10 : Int) < (Y.length : Int)
 ·rw [decide_eq_true c2];refine zH rfl (ze (z8 ?_));refine zh (zk XD rfl rfl fun r S' h => ?_);obtain ⟨rfl, rfl⟩ := h;refine yp (pB rfl) (zf (za (zJ (zU ?_))));exact zI (rB rfl) ⟨_, .of, rfl, rfl⟩
 rw [decide_eq_false c2];refine zA rfl (zu (za (ze (z8 ?_))));refine zh (zk (og (n := 2048) (by decide) rfl) rfl rfl fun r S' h => ?_);obtain ⟨sb, H0, rfl, hS0, rfl⟩ := h;refine yp (pU rfl) (yp (pExt rfl rfl) (yp (pExt rfl rfl) (yp (pP rfl) (yp (pI rfl) (zf (za (ze (ze (z8 (yp (pI rfl) (yp (Xk rfl rfl) (yp (pB rfl) (Z7 rfl (Zc (pP rfl) (Z7 rfl (Zc (ZN rfl rfl) (yp (zT rfl rfl) (zf (za (zA rfl (zu (za (ze (z8 (yp pC (zf (za (ze (ze (z8 (yp pC (zf (za (zq ?_))))))))))))))))))))))))))))))))));refine Z5 (σ := Nat) (fun i E S' => Has E [(0, .slice xa X.length xc), (1, .slice ya Y.length yc), (5, .pointer (some ⟨sb, 0, none⟩)), (8, .int .i64 (i : Int))] ∧ i ≤ 31 ∧ ∃ vk HK S1 H, E 7 = vk ∧ Za 43 vk ((List.range i).map Zj) HK ∧ Sr sb 2048 S1 H ∧ J8 (vE X) (fun _ => 0) i S1 ∧ zB S' (HK :: H :: S)) (fun i => 31 - i) 0 ⟨⟨rfl, rfl, rfl, rfl, trivial⟩, by decide, _, [], mV, H0, rfl, .nil, hS0, J8.nil _ _, .of⟩ fun i E S' ⟨hE, hi, vk, HK, S1, H1, hE5, hK, hS1, hF, hJ⟩ => ?_
 clear hS0;obtain ⟨ka_, kc, rfl⟩ := hK.isSlice;have hE2 : Has E [(0, .slice xa X.length xc), (1, .slice ya Y.length yc), (5, .pointer (some ⟨sb, 0, none⟩)), (8, .int .i64 (i : Int)), (7, .slice ka_ ((List.range i).map Zj).length kc)] := ⟨hE.1, hE.2.1, hE.2.2.1, hE.2.2.2.1, hE5, trivial⟩
 clear hE hE5;obtain ⟨E0, e0⟩ := zx hE2; subst e0; clear hE2;refine zn hJ (ze (ze (z8 (yp (pI rfl) (yp (ZO rfl rfl) (zf (za ?_)))))));refine zP rfl (fun h => ?_) (fun h => ?_)
 ·have hi31 : i < 31 := by omega
  have hq : 0 ≤ (i : Int).tdiv 26 ∧ (i : Int).tdiv 26 ≤ 31 := by rw [show (i : Int).tdiv 26 = ((i / 26 : Nat) : Int) from rfl]; omega
  have hr : 0 ≤ (i : Int).tmod 26 ∧ (i : Int).tmod 26 ≤ 31 := by rw [show (i : Int).tmod 26 = ((i % 26 : Nat) : Int) from rfl]; omega
  have hr2 : 0 ≤ ((i : Int) * 7).tmod 31 ∧ ((i : Int) * 7).tmod 31 ≤ 31 := by rw [show ((i : Int) * 7).tmod 31 = ((i * 7 % 31 : Nat) : Int) from rfl]; omega
  refine zu (za (ze (zq (ze (z8 (yp (pI rfl) (yp (sM rfl rfl (by decide) (by omega)) (yp (vW rfl rfl (by omega)) (yp (YD rfl) (yp (pI rfl) (yp (mH rfl rfl (by decide)) (yp (vW rfl rfl (by omega)) (yp (YD rfl) ?_)))))))))))));refine zh (bL (l := cells [jV (97 + (i : Int).tdiv 26), jV (97 + (i : Int).tmod 26)]) rfl (by decide) (by decide) (by decide) rfl fun p33 => ?_);refine zh (Ji (Y := [jV (97 + (i : Int).tdiv 26), jV (97 + (i : Int).tmod 26)]) rfl (.lit (by repeat (first | exact List.mem_cons_self | apply List.mem_cons_of_mem)) rfl) ?_);refine yp (mK (Y := [2]) (Z := [jV (97 + (i : Int).tdiv 26), jV (97 + (i : Int).tmod 26)]) rfl rfl (by simp)) (yp (mK (Y := [2] ++ [jV (97 + (i : Int).tdiv 26), jV (97 + (i : Int).tmod 26)]) (Z := [0]) rfl rfl (by simp)) ?_);show YL _ _ _ _ _ (Zd _ (sv (xP i)) _) _;refine yp (pT rfl) (zf (za (ze (z8 (yp pC (zf (za (ze (ze (z8 (yp pC (zf (za (zq ?_))))))))))))));refine Z5 (σ := Nat) (fun k E S' => Has E [(0, .slice xa X.length xc), (1, .slice ya Y.length yc), (5, .pointer (some ⟨sb, 0, none⟩)), (8, .int .i64 (i : Int)), (7, .slice ka_ ((List.range i).map Zj).length kc), (9, sv (xP i)), (10, .int .i64 (vE (X.take k) i)), (11, .int .i64 (k : Int))] ∧ k ≤ X.length ∧ zB S' (HK :: H1 :: S)) (fun k => X.length - k) 0 ⟨⟨rfl, rfl, rfl, rfl, rfl, rfl, rfl, rfl, trivial⟩, Nat.zero_le _, .of⟩ fun k E S' ⟨hE, hk, hJ⟩ => ?_
  obtain ⟨E0, e0⟩ := zx hE; subst e0; clear hE;refine zn hJ (ze (ze (z8 (yp (pI rfl) (yp (pS rfl) (yp (ZC rfl) (yp (ZO rfl rfl) (zf (za ?_)))))))));refine zP rfl (fun h => ?_) (fun h => ?_)
  ·have hlt : k < X.length := by omega
   obtain ⟨b, o, ca, ty, fz, rfl, hm', hmem, hg⟩ := hX.get (by intro h; simp [h] at hlt);have hg0 := hg.1 k 0 hlt (by decide);have hsn := aK (X.take k) X[k] i;rw [← List.take_succ_eq_append_getElem hlt] at hsn;refine zu (za (ze (zq (ze (z8 (yp (pS rfl) (yp (pI rfl) (yp (zS rfl rfl (by omega)) ?_))))))));refine zh (Uh (show _ ∈ _ from by repeat (first | exact hmem | apply List.mem_cons_of_mem)) rfl hg0 ?_);refine zh (zk (iC X[k] 31 (by decide)) rfl rfl fun r S' h => ?_);obtain ⟨rfl, rfl⟩ := h;refine yp (pI rfl) (yp (vJ rfl rfl) (zf (za ?_)));by_cases hx : round X[k] 31 = (i : Int)
   ·rw [decide_eq_true hx];rw [if_pos hx] at hsn;refine zH rfl (z8 (yp (pI rfl) (yp (Ka rfl rfl (by omega)) (yp (mH rfl rfl (by decide)) (yp (vW rfl rfl (by omega)) (yp (pI rfl) (zf (zR (za (z8 (yp (pI rfl) (yp (Ze rfl rfl (by omega)) (yp (pI rfl) (zf (za ?_)))))))))))))));exact ⟨k + 1, ⟨⟨rfl, rfl, rfl, rfl, rfl, rfl, by rw [hsn]; rfl, rfl, trivial⟩, by omega, .of⟩, by omega⟩
   ·rw [decide_eq_false hx];rw [if_neg hx] at hsn;refine zA rfl (zu (zR (za (z8 (yp (pI rfl) (yp (Ze rfl rfl (by omega)) (yp (pI rfl) (zf (za ?_)))))))));exact ⟨k + 1, ⟨⟨rfl, rfl, rfl, rfl, rfl, rfl, by rw [hsn]; rfl, rfl, trivial⟩, by omega, .of⟩, by omega⟩
  obtain rfl : k = X.length := by omega
  rw [List.take_length];have hin := Kr X i;have hlen := hF.rw.len;refine zX (zF (zF (zZ (za (ze (ze (z8 (yp (pP rfl) (yp (pT rfl) (yp (pI rfl) ?_))))))))));refine zh (zk (nL (xP i) (i : Int)) rfl rfl fun r S' h => ?_);obtain ⟨d, v, HS, hd, rfl, hR, rfl⟩ := h;obtain ⟨hput, hF2⟩ := hF.put (r := 4) (x := vE X i) hi31 hd rfl rfl ((mQ _ _ _).2 (by omega));refine yp (pI rfl) ?_;refine zh (zk (qN (S0 := [HS]) hS1 (Qp hi31 hd).q.ok (hR.src (by simp)) (by rw [hF.v, List.length_nil]; omega) 4 0 (vE X i)) rfl rfl fun r S' h => ?_);rw [hput] at h;obtain ⟨rfl, H2, hS2, rfl⟩ := h;clear hS1 hF hput;generalize Yg (wS (xP i) d) 4 0 (vE X i) S1 = S2 at *
  refine yp (Xk rfl rfl) (zf (za (zA rfl (zu (za (z8 (yp (pS rfl) (yp (pT rfl) (yp (uZ (rH rfl) (Uf rfl)) ?_)))))))));refine zh (WX (Zj i) rfl rfl (by decide) (by decide) rfl fun p53 => ?_);refine zh (VA (Y := [Zj i]) rfl rfl hK (.lit (by repeat (first | exact List.mem_cons_self | apply List.mem_cons_of_mem)) rfl) rfl (⟨[], 0⟩ : Ky) rfl (by rw [List.length_map, List.length_range, List.length_singleton]; omega) (by rw [List.length_map, List.length_range, List.length_singleton]; omega) fun v2 H4 hK2 => ?_);have hK3 : Za 43 v2 ((List.range (i + 1)).map Zj) H4 := by rw [List.range_succ, List.map_append]; exact hK2
  obtain ⟨a2, c2, rfl⟩ := hK2.isSlice;refine yp (pS rfl) (zf (zR (za (z8 (yp (pI rfl) (yp (Ze rfl rfl (by omega)) (yp (pI rfl) (zf (za ?_)))))))));exact ⟨i + 1, ⟨⟨rfl, rfl, rfl, rfl, trivial⟩, by omega, _, H4, S2, H2, rfl, hK3, hS2, hF2, .of⟩, by omega⟩
 obtain rfl : i = 31 := by omega
 have hlen := hF.rw.len;have hI0 : S1.I ≠ [] := fun q => by rw [q] at hlen; simp at hlen
 have hleft : uK 2048 S1 = 32 := by rw [hF.rw.fam.left, if_neg hI0, hlen]; rfl
 refine zX (zF (zF (zZ (za (ze (ze (z8 (yp (pP rfl) ?_))))))));refine zh (zk (rD hS1) rfl rfl fun r S' h => ?_);rw [hleft] at h;obtain ⟨rfl, rfl⟩ := h;refine yp (Y9 rfl rfl) (yp (pB rfl) (Z7 rfl (Zc (pP rfl) (Z7 rfl ?_))));refine zk (VE hS1) rfl rfl fun r S' h => ?_
 obtain ⟨H3, HV, hV, hS3, rfl⟩ := h;rw [hF.v] at hV;have hF3 : QL (vE X) (bg (List.replicate 31 false)) 0 ⟨S1.I, S1.P, S1.Q, []⟩ := by rw [lC]; exact J8.fst ⟨hF.rw, hF.p, hF.q, rfl⟩
 clear hS1 hF hI0 hleft hlen;generalize (⟨S1.I, S1.P, S1.Q, []⟩ : Ss) = S3 at *
 obtain ⟨va, vc, rfl⟩ := hV.isSlice;obtain ⟨b, sp, fz, hz, rfl, _, rfl, rfl⟩ := hK.at' (by decide);have hrow : ∀ {j : Nat}, j < 31 → ((cells ((List.range 31).map Zj ++ sp)).toArray.toList.drop (0 + j * 2)).take 2 = enc (Zj j) := fun {j} hj => by
  have hjl : j < ((List.range 31).map Zj).length := by rw [List.length_map, List.length_range]; exact hj
  have hjk : ((List.range 31).map Zj)[j] = Zj j := by rw [List.getElem_map, List.getElem_range]
  rw [← hjk]; exact wh hjl rfl
 have hlk : ((List.range 31).map Zj).length = 31 := by rw [List.length_map, List.length_range]
 rw [hlk];refine Z7 rfl (Zc (ZC rfl) (Z7 rfl (Zc (Xk rfl rfl) (yp (zT rfl rfl) (zf (za (zA rfl (zu (za (ze (z8 (yp pC (zf (za (ze (z8 ?_))))))))))))))));refine zh (nR (m := 31) (cap := 31) rfl rfl (Nat.le_refl _) rfl (by omega) (by omega) fun bi => ?_);rw [vP (z := [.bool false]) 31 false rfl];refine yp (pS rfl) (zf (za (ze (ze (z8 (yp pC (zf (za (zq ?_)))))))));refine Z5 (σ := Nat) (fun i E S' => Has E [(0, .slice xa X.length xc), (1, .slice ya Y.length yc), (5, .pointer (some ⟨sb, 0, none⟩)), (7, .slice (some ⟨b, 0, none⟩) 31 (31 + sp.length)), (12, .int .i64 0), (13, .slice (some ⟨bi, 0, none⟩) 31 31), (14, .int .i64 (i : Int))] ∧ i ≤ Y.length ∧ i ≤ 4 ∧ ∃ I S4 H4, I.length = 31 ∧ Sr sb 2048 S4 H4 ∧ QL (vE X) (bg I) i S4 ∧ zB S' ([(bi, .cells (cells I).toArray 4)] :: [(b, .cells (cells ((List.range 31).map Zj ++ sp)).toArray 43 fz)] :: H4 :: S)) (fun i => Y.length - i) 0
  ⟨⟨rfl, rfl, rfl, rfl, rfl, rfl, rfl, trivial⟩, Nat.zero_le _, Nat.zero_le _, _, S3, H3, List.length_replicate, hS3, hF3, .of⟩ fun i E S' ⟨hE, hi, hi4, I, S4, H4, hIl, hS4, hF4, hJ⟩ => ?_
 clear hS3 hF3;have hlen4 := hF4.rw.len;obtain ⟨E0, e0⟩ := zx hE; subst e0; clear hE;refine ze ?_;refine WK (fun E S' => Has E [(0, .slice xa X.length xc), (1, .slice ya Y.length yc), (5, .pointer (some ⟨sb, 0, none⟩)), (7, .slice (some ⟨b, 0, none⟩) 31 (31 + sp.length)), (12, .int .i64 0), (13, .slice (some ⟨bi, 0, none⟩) 31 31), (14, .int .i64 (i : Int)), (101, .bool (decide (i < Y.length ∧ i < 4)))] ∧ zB S' ([(bi, .cells (cells I).toArray 4)] :: [(b, .cells (cells ((List.range 31).map Zj ++ sp)).toArray 43 fz)] :: H4 :: S)) ?_ fun E S' ⟨hE, hJ⟩ => ?_
 ·refine zn hJ (z8 (yp (pI rfl) (yp (pS rfl) (yp (ZC rfl) (yp (ZO rfl rfl) (yp (pB rfl) ?_))))));by_cases h1 : i < Y.length
  ·rw [decide_eq_true (show (i : Int) < (Y.length : Int) from by omega)];refine Z7 rfl (Zc (pI rfl) (Z7 rfl (Zc (ZO rfl rfl) (yp (zO rfl rfl) (zf (za ?_))))));refine ⟨⟨rfl, rfl, rfl, rfl, rfl, rfl, rfl, ?_, trivial⟩, .of⟩;show Value.bool _ = Value.bool _;congr 1;rw [decide_eq_decide];omega
  ·rw [decide_eq_false (show ¬ (i : Int) < (Y.length : Int) from by omega)];refine Z0 rfl (Z0 rfl (yp (zT rfl rfl) (zf (za ?_))));refine ⟨⟨rfl, rfl, rfl, rfl, rfl, rfl, rfl, ?_, trivial⟩, .of⟩;rw [decide_eq_false (show ¬ (i < Y.length ∧ i < 4) from fun h => h1 h.1)];rfl
 obtain ⟨E0, e0⟩ := zx hE; subst e0; clear hE;refine zn hJ ?_;refine zP rfl (fun h => ?_) (fun h => ?_)
 ·obtain ⟨hlt, hi4'⟩ := h;obtain ⟨b2, o, ca, ty, fz2, rfl, hm', hmem, hg⟩ := hY.get (by intro h; simp [h] at hlt);have hg0 := hg.1 i 0 hlt (by decide);refine zu (za (ze (zq (ze (z8 (yp (pS rfl) (yp (pI rfl) (yp (zS rfl rfl (by omega)) ?_))))))));refine zh (Uh (show _ ∈ _ from by repeat (first | exact hmem | apply List.mem_cons_of_mem)) rfl hg0 ?_);refine zh (zk (iC Y[i] 31 (by decide)) rfl rfl fun r S' h => ?_);obtain ⟨rfl, rfl⟩ := h;have hrl := dI Y[i] 31 (by decide);obtain ⟨k, hk⟩ : ∃ k : Nat, round Y[i] 31 = (k : Int) := ⟨(round Y[i] 31).toNat, by omega⟩
  have hk31 : k < 31 := by omega
  rw [hk];refine yp (pI rfl) (zf (za (ze (z8 (yp (pP rfl) (yp (pS rfl) (yp (pI rfl) (yp (zS rfl rfl (by omega)) ?_))))))));refine zh (ZU (l := enc (Zj k)) rfl (hrow hk31) rfl ?_);refine zh (zk (dx hS4 (Zj k) (by show (xP k).length < _; unfold xP; simp) 0) rfl rfl fun r S' h => ?_);obtain ⟨it, hit, h1, h2, h3, h4⟩ := hF4.rw.get hk31;have hein := Kr X k;rcases h with ⟨g1, _⟩ | ⟨i', vv, HR, H5, g1, g2, g3, g4, hS5, rfl⟩
  ·have := g1 it (by rw [tO hk31]; exact h1);omega
  subst g3;rw [tO hk31] at hS5;have hF5 := hF4.touch hi4' hk31;have hS5 : Sr sb 2048 ⟨S4.I, U6 4 (Zj k) S4.P S4.Q, U5 4 (Zj k) S4.P S4.Q, S4.V⟩ H5 := hS5;rw [← lu (by omega)] at hF5;clear hS4 hF4;generalize (⟨S4.I, U6 4 (Zj k) S4.P S4.Q, U5 4 (Zj k) S4.P S4.Q, S4.V⟩ : Ss) = S5 at *
  refine zf (za (z8 (yp (pS rfl) (yp (pI rfl) (yp (zS rfl rfl (by omega)) ?_)))));refine zh (Zh (M := I) (y := true) rfl (by omega) rfl rfl (.inl rfl) ?_);refine zf (zR (za (z8 (yp (pI rfl) (yp (Ze rfl rfl (by omega)) (yp (pI rfl) (zf (za ?_))))))));exact ⟨i + 1, ⟨⟨rfl, rfl, rfl, rfl, rfl, rfl, rfl, trivial⟩, by omega, by omega, _, S5, H5, by rw [List.length_set]; exact hIl, hS5, hF5, .of⟩, by omega⟩
 clear hJ;refine zX (zF (zF (zZ (za (ze (zq ?_))))));refine Z5 (σ := Nat) (fun w E S' => Has E [(0, .slice xa X.length xc), (1, .slice ya Y.length yc), (5, .pointer (some ⟨sb, 0, none⟩)), (7, .slice (some ⟨b, 0, none⟩) 31 (31 + sp.length)), (12, .int .i64 (w : Int)), (13, .slice (some ⟨bi, 0, none⟩) 31 31)] ∧ w ≤ 31 ∧ (∀ j, j < w → bg I j = true) ∧ zB S' ([(bi, .cells (cells I).toArray 4)] :: [(b, .cells (cells ((List.range 31).map Zj ++ sp)).toArray 43 fz)] :: H4 :: S)) (fun w => 31 - w) 0
  ⟨⟨rfl, rfl, rfl, rfl, rfl, rfl, trivial⟩, Nat.zero_le _, fun j hj => absurd hj (Nat.not_lt_zero _), .of⟩ fun w E S' ⟨hE, hw, hwu, hJ⟩ => ?_
 obtain ⟨E0, e0⟩ := zx hE; subst e0; clear hE;refine zn hJ (ze ?_);refine WK (fun E S' => Has E [(0, .slice xa X.length xc), (1, .slice ya Y.length yc), (5, .pointer (some ⟨sb, 0, none⟩)), (7, .slice (some ⟨b, 0, none⟩) 31 (31 + sp.length)), (12, .int .i64 (w : Int)), (13, .slice (some ⟨bi, 0, none⟩) 31 31), (125, .bool (decide (w < 31 ∧ bg I w = true)))] ∧ zB S' ([(bi, .cells (cells I).toArray 4)] :: [(b, .cells (cells ((List.range 31).map Zj ++ sp)).toArray 43 fz)] :: H4 :: S)) ?_ fun E S' ⟨hE, hJ⟩ => ?_
 ·refine z8 (yp (pI rfl) (yp (ZO rfl rfl) (yp (pB rfl) ?_)));by_cases h1 : w < 31
  ·rw [decide_eq_true (show (w : Int) < 31 from by omega)];have hIw : I[w]? = some (bg I w) := by rw [lD (by omega)]; exact List.getElem?_eq_getElem (by omega)
   refine Z7 rfl (Zc (pS rfl) (Z7 rfl (Zc (pI rfl) (Z7 rfl (Zc (zS rfl rfl (by omega)) (Z7 rfl (zC rfl (Aa hIw) (yp (zO rfl rfl) (zf (za ?_))))))))));refine ⟨⟨rfl, rfl, rfl, rfl, rfl, rfl, ?_, trivial⟩, .of⟩;show Value.bool _ = Value.bool _;congr 1;rw [Bool.eq_iff_iff, decide_eq_true_iff];exact ⟨fun h => ⟨h1, h⟩, fun h => h.2⟩
  ·rw [decide_eq_false (show ¬ (w : Int) < 31 from by omega)];refine Z0 rfl (Z0 rfl (Z0 rfl (Z0 rfl (yp (zT rfl rfl) (zf (za ?_))))));refine ⟨⟨rfl, rfl, rfl, rfl, rfl, rfl, ?_, trivial⟩, .of⟩;rw [decide_eq_false (show ¬ (w < 31 ∧ bg I w = true) from fun h => h1 h.1)];rfl
 obtain ⟨E0, e0⟩ := zx hE; subst e0; clear hE;refine zn hJ ?_;refine zP rfl (fun h => ?_) (fun h => ?_)
 ·obtain ⟨hw31, huw⟩ := h;refine zu (za (zq (z8 (yp (pI rfl) (yp (Ze rfl rfl (by omega)) (yp (pI rfl) (zf (zR (za ?_)))))))));exact ⟨w + 1, ⟨⟨rfl, rfl, rfl, rfl, rfl, rfl, trivial⟩, by omega, fun j hj => by
   by_cases hjw : j = w
   ·rw [hjw]; exact huw
   ·exact hwu j (by omega), .of⟩, by omega⟩
 have hw31 : w < 31 := by
  rcases Nat.lt_or_ge w 31 with q | q
  ·exact q
  ·exfalso;refine hF4.some_ hi4 ?_;rw [List.filter_eq_nil_iff];intro j hj;rw [hwu j (by have := List.mem_range.1 hj; omega)]; decide
 have huw : bg I w = false := by
  cases hq : bg I w with
  | false => rfl
  | true => exact absurd ⟨hw31, hq⟩ h
 obtain ⟨fl, hfl⟩ := gQ (f := fun j => !bg I j) hw31 (by rw [huw]; rfl) (fun j hj => by rw [hwu j hj]; rfl);refine zX (zF (zF (zZ (za (ze (z8 (yp pC (zf (za (ze (ze (z8 (yp pC (zf (za (zq ?_))))))))))))))));refine Z5 (σ := Nat) (fun i E S' => Has E [(5, .pointer (some ⟨sb, 0, none⟩)), (7, .slice (some ⟨b, 0, none⟩) 31 (31 + sp.length)), (12, .int .i64 ((wl (vE X) w i).2 : Int)), (16, .int .i64 (wl (vE X) w i).1), (17, .int .i64 (i : Int))] ∧ i ≤ 31 ∧ zB S' ([(b, .cells (cells ((List.range 31).map Zj ++ sp)).toArray 43 fz)] :: H4 :: S)) (fun i => 31 - i) 0
  ⟨⟨rfl, rfl, rfl, rfl, rfl, trivial⟩, Nat.zero_le _, .of⟩ fun j E S' ⟨hE, hj, hJ⟩ => ?_
 obtain ⟨E0, e0⟩ := zx hE; subst e0; clear hE;refine zn hJ (ze (ze (z8 (yp (pI rfl) (yp (ZO rfl rfl) (zf (za ?_)))))));refine zP rfl (fun h => ?_) (fun h => ?_)
 ·have hj31 : j < 31 := by omega
  have hst : wl (vE X) w (j + 1) = if vE X j < (wl (vE X) w j).1 then (vE X j, j) else wl (vE X) w j := rfl
  generalize wl (vE X) w j = R at *
  refine zu (za (ze (zq (ze (z8 (yp (pP rfl) (yp (pS rfl) (yp (pI rfl) (yp (zS rfl rfl (by omega)) ?_)))))))));refine zh (ZU (l := enc (Zj j)) rfl (hrow hj31) rfl ?_);refine zh (zk (rz hS4 (Zj j) (by show (xP j).length < _; unfold xP; simp)) rfl rfl fun r S' h => ?_);obtain ⟨it, ia, ic, HR, rfl, hb, hexp, hpin, rfl⟩ := dR hF4.rw hj31 (tO hj31) h;clear h;refine yp (pU rfl) (yp (pExt rfl rfl) (yp (pExt rfl rfl) ?_));refine zh (Zf fun p18 => ?_);refine zh (vM rfl rfl rfl rfl rfl ?_);refine yp (pB rfl) (zf (za (ze (ze (z8 (yp (pB rfl) (yp (Zi rfl) (zf (za (zA rfl (zu (za (ze (z8 (yp (zo rfl) ?_)))))))))))))));refine zh (zC rfl rfl ?_);refine yp (pI rfl) (yp (ZO rfl rfl) (zf (za ?_)));rw [hexp];by_cases hl : vE X j < R.1
  ·rw [decide_eq_true hl];rw [if_pos hl] at hst;refine zH rfl (ze (z8 (yp (zo rfl) ?_)));refine zh (zC rfl rfl ?_);refine yp (pI rfl) (zf (za (z8 (yp (pI rfl) (yp (pI rfl) (zf (zR (za (z8 (yp (pI rfl) (yp (Ze rfl rfl (by omega)) (yp (pI rfl) (zf (za ?_))))))))))))));exact ⟨j + 1, ⟨⟨rfl, rfl, by rw [hst]; rfl, by rw [hst]; exact congrArg _ hexp, rfl, trivial⟩, by omega, .of⟩, by omega⟩
  ·rw [decide_eq_false hl];rw [if_neg hl] at hst;refine zA rfl (zu (zR (za (z8 (yp (pI rfl) (yp (Ze rfl rfl (by omega)) (yp (pI rfl) (zf (za ?_)))))))));exact ⟨j + 1, ⟨⟨rfl, rfl, by rw [hst]; rfl, by rw [hst]; rfl, rfl, trivial⟩, by omega, .of⟩, by omega⟩
 obtain rfl : j = 31 := by omega
 obtain ⟨q, hq31, hqw, hnx⟩ : ∃ q, q < 31 ∧ (wl (vE X) w 31).2 = q ∧ wX 100 S4 = some (Zj q) := by
  have hee : ∀ j, j < 31 → vE X j = 1000 ∨ vE X j ≤ 100 := fun j _ => by have := Kr X j; omega
  rcases lg hee (w0 := w) with ⟨h1, h2⟩ | ⟨k, l, h1, h2⟩
  ·exact ⟨w, hw31, h2, hF4.CG h1 hfl⟩
  ·exact ⟨k, (jr h1).1, h2, hF4.CJ h1⟩
 rw [hqw];refine zX (zF (zF (zZ (za (ze (ze (z8 (yp (pP rfl) ?_))))))));refine zh (zk (nL [2, 122, 122, 0] 1) rfl rfl fun r S' h => ?_);obtain ⟨d2, v2, HS2, hd2, rfl, hR2, rfl⟩ := h;have hev := hF4.put hd2 (r := 4) (now := 100) (x := 2000) rfl hnx;refine zh (zk (qN (S0 := [HS2]) hS4 (yB hd2).q.ok (hR2.src (by simp)) (by rw [hF4.v, List.length_nil]; omega) 4 100 2000) rfl rfl fun r S' h => ?_);rw [hev] at h;obtain ⟨rfl, H5, hS5, rfl⟩ := h;have hv5 : (Yg (wS [2, 122, 122, 0] d2) 4 100 2000 (Yb (Zj q) S4)).V = [Zj q] := by
  show S4.V ++ [Zj q] = _;rw [hF4.v]; rfl
 clear hS4 hev hnx;generalize Yg (wS [2, 122, 122, 0] d2) 4 100 2000 (Yb (Zj q) S4) = S5 at *
 refine yp (Xk rfl rfl) (zf (za (zA rfl (zu (za (ze (Vb (R := [[(b, .cells (cells ((List.range 31).map Zj ++ sp)).toArray 43 fz)]]) (by simp) (zi (pP rfl) (zi (pS rfl) (zi (pI rfl) (zi (zS rfl rfl (by omega)) (vV (l := enc (Zj q)) rfl (hrow hq31) rfl ?_))))))))))));refine Zk (zk (VE hS5) rfl rfl fun r S' h => ?_) ?_
 ·obtain ⟨H6, HV6, hVe, hS6, rfl⟩ := h;rw [hv5] at hVe;obtain ⟨ea, ec, rfl⟩ := hVe.isSlice;refine ⟨by simp, ?_⟩;refine zM (WX (Zj q) rfl rfl (by decide) (by decide) rfl fun p91 => ?_) zN;have hLit : Za 43 (.slice (some ⟨p91, 0, none⟩) 1 1) [Zj q] [(p91, .cells (cells [Zj q]).toArray 43)] := .full rfl;refine zM (zk (oQ hVe hLit (by show 1 < _; decide)) rfl rfl fun r S' h => ?_) zN;obtain ⟨rfl, rfl⟩ := h;rw [decide_eq_true rfl];refine zi (pB rfl) ?_;refine wu rfl ?_ zN;refine zM (zk XD rfl rfl fun r S' h => ?_) zN;obtain ⟨rfl, rfl⟩ := h;refine zi (zO rfl rfl) (zi (pB rfl) (zL (za (zJ ?_))));exact zI (rB rfl) ⟨S, .of, rfl, rfl⟩
 ·refine zM (WX (Zj q) rfl rfl (by decide) (by decide) rfl fun p91 => ?_) zN;have hLit : Za 43 (.slice (some ⟨p91, 0, none⟩) 1 1) [Zj q] [(p91, .cells (cells [Zj q]).toArray 43)] := .full rfl;refine Zk (zk (VE hS5) rfl rfl fun r S' h => ?_) zN;obtain ⟨H6, HV6, hVe, hS6, rfl⟩ := h;rw [hv5] at hVe;obtain ⟨ea, ec, rfl⟩ := hVe.isSlice;refine ⟨by simp, ?_⟩;refine zM (zk (oQ hVe hLit (by show 1 < _; decide)) rfl rfl fun r S' h => ?_) zN;obtain ⟨rfl, rfl⟩ := h;rw [decide_eq_true rfl];refine zi (pB rfl) ?_;refine wu rfl ?_ zN;refine zM (zk XD rfl rfl fun r S' h => ?_) zN;obtain ⟨rfl, rfl⟩ := h;refine zi (zO rfl rfl) (zi (pB rfl) (zL (za (zJ ?_))));exact zI (rB rfl) ⟨S, .of, rfl, rfl⟩
end Go.Proofs.YtejmbmenbailmaaGreat