/- StoreFirst: the walk. -/
import Derived.Test.YtejmbmenbailmaaGreatAwakeS
import Derived.Test.YtejmbmenbailmaaGreatFirstP
import Derived.Test.YtejmbmenbailmaaGreatTimesW
namespace Go.Proofs.YtejmbmenbailmaaGreat
open Go.Xs
open Enc (enc)
/-- when an item is over -/
def vM (X : List Int) (i : Nat) : Int := if X.any (fun x => decide (round x 31 = (i : Int))) then 10 + ((i : Int) * 7).tmod 31 else 1000
theorem bF (X : List Int) (x : Int) (i : Nat) : vM (X ++ [x]) i = if round x 31 = (i : Int) then 10 + ((i : Int) * 7).tmod 31 else vM X i := by
 unfold vM;rw [List.any_append, List.any_cons, List.any_nil, Bool.or_false];by_cases h : round x 31 = (i : Int)
 ·rw [decide_eq_true h, Bool.or_true, if_pos rfl, if_pos h]
 ·rw [decide_eq_false h, Bool.or_false, if_neg h]
theorem KN (X : List Int) (i : Nat) : vM X i = 1000 ∨ (10 ≤ vM X i ∧ vM X i ≤ 40) := by
 unfold vM;split
 ·right;rw [show ((i : Int) * 7).tmod 31 = ((i * 7 % 31 : Nat) : Int) from rfl];omega
 ·left; rfl
abbrev yh (I : List Bool) : Nat → Bool := fun j => I.getD j false
theorem kZ {I : List Bool} {k : Nat} (h : k < I.length) : yh (I.set k true) = fun j => if j = k then true else yh I j := by
 funext j;show (I.set k true).getD j false = _;rw [List.getD_eq_getElem?_getD, List.getElem?_set];by_cases hj : k = j
 ·rw [if_pos hj, if_pos h, if_pos hj.symm]; rfl
 ·rw [if_neg hj, if_neg (fun q => hj q.symm), ← List.getD_eq_getElem?_getD]
theorem K3 {I : List Bool} {k : Nat} (h : k < I.length) : yh I k = I[k] := by
 show I.getD k false = _;rw [List.getD_eq_getElem?_getD, List.getElem?_eq_getElem h]; rfl
theorem mI : yh (List.replicate 31 false) = fun _ => false := by
 funext j;show (List.replicate 31 false).getD j false = false;rw [List.getD_eq_getElem?_getD, List.getElem?_replicate];split <;> rfl
theorem aG.some_ {e : Nat → Int} {u : Nat → Bool} {c : Nat} {S : Ss} (h : aG e u c S) (hc : c ≤ 4) : (List.range 31).filter (fun j => !u j) ≠ [] := fun q => by
 have h1 := h.pq.length_eq;rw [h.p, q] at h1;have h2 := h.q;have h3 : (keys S.I).length = 31 := by unfold keys; rw [List.length_map, h.rw.len]
 simp at h1;omega
theorem iQ {n w : Nat} {f : Nat → Bool} (hw : w < n) (hf : f w = true) (hl : ∀ j, j < w → f j = false) : ∃ l, (List.range n).filter f = w :: l := by
 cases hF : (List.range n).filter f with
 | nil =>
  have : w ∈ (List.range n).filter f := List.mem_filter.2 ⟨List.mem_range.2 hw, hf⟩;rw [hF] at this;simp at this
 | cons k l =>
  have h1 := yB hF;have hk : k ∈ (List.range n).filter f := by rw [hF]; simp
  have h2 := (List.mem_filter.1 hk).2;refine ⟨l, ?_⟩;congr 1;rcases Nat.lt_trichotomy k w with q | q | q
  ·have := hl k q;rw [h2] at this; cases this
  ·exact q
  ·have := h1 w q;rw [hf] at this; cases this
set_option maxRecDepth 10000 in
set_option maxHeartbeats 8000000 in
theorem c6 {S : zx} {v w : Value} {X : List Int} (hX : Src S v X) (_hm : X.length ≤ maxLen) (_hq : ∀ a ∈ X, -9223372036854775808 ≤ a ∧ a ≤ 9223372036854775807) {Y : List Int} (hY : Src S w Y) (_hm2 : Y.length ≤ maxLen) (_hq2 : ∀ a ∈ Y, -9223372036854775808 ≤ a ∧ a ≤ 9223372036854775807) :
 Tri Tryz.prog 6 #[v, w] S (fun r S' => r = .bool true ∧ S' = S) := by
 refine Tri.forget (zq Tryz.Mg (Nat.le_of_ble_eq_true rfl) ?_);unfold Tryz.x6;obtain ⟨xa, xc, rfl⟩ := hX.isSlice;obtain ⟨ya, yc, rfl⟩ := hY.isSlice;refine ze (z8 (yp pC (zf (za (ze (ze (z8 (yp (pS rfl) (yp (Zy rfl) (yp (VE rfl rfl) (yp (pB rfl) ?_)))))))))));by_cases c1 : (10 : Int) < (X.length : Int)
 ·rw [decide_eq_true c1];refine zV rfl (zV rfl (zV rfl (yp (zM rfl rfl) (zf (za (zG rfl (ze (z8 ?_))))))));refine zh (zk vD rfl rfl fun r S' h => ?_);obtain ⟨rfl, rfl⟩ := h;refine yp (pB rfl) (zf (za (zI (zU ?_))));exact zH (rB rfl) ⟨_, .of, rfl, rfl⟩
 rw [decide_eq_false c1];refine Z4 rfl (Z9 (pS rfl) (Z4 rfl (Z9 (Zy rfl) (Z4 rfl (Z9 (VE rfl rfl) (yp (zQ rfl rfl) (zf (za ?_))))))));by_cases c2 : (10 : Int) < (Y.length : Int)
 ·rw [decide_eq_true c2];refine zG rfl (ze (z8 ?_));refine zh (zk vD rfl rfl fun r S' h => ?_);obtain ⟨rfl, rfl⟩ := h;refine yp (pB rfl) (zf (za (zI (zU ?_))));exact zH (rB rfl) ⟨_, .of, rfl, rfl⟩
 rw [decide_eq_false c2];refine zy rfl (zn (za (ze (z8 ?_))));refine zh (zk (dX (n := 2048) (by decide) rfl) rfl rfl fun r S' h => ?_);obtain ⟨sb, H0, rfl, hS0, rfl⟩ := h;refine yp (pU rfl) (yp (pExt rfl rfl) (yp (pExt rfl rfl) (yp (pP rfl) (yp (pI rfl) (zf (za (ze (ze (z8 (yp (pI rfl) (yp (Uq rfl rfl) (yp (pB rfl) (Z4 rfl (Z9 (pP rfl) (Z4 rfl (Z9 (ZN rfl rfl) (yp (zQ rfl rfl) (zf (za (zy rfl (zn (za (ze (z8 (yp pC (zf (za (ze (ze (z8 (yp pC (zf (za (zo ?_))))))))))))))))))))))))))))))))));refine Z5 (σ := Nat) (fun i E S' => Has E [(0, .slice xa X.length xc), (1, .slice ya Y.length yc), (5, .pointer (some ⟨sb, 0, none⟩)), (8, .int .i64 (i : Int))] ∧ i ≤ 31 ∧ ∃ vk HK S1 H, E 7 = vk ∧ Zb 43 vk ((List.range i).map Zj) HK ∧ Sr sb 2048 S1 H ∧ kP (vM X) (fun _ => 0) i S1 ∧ zB S' (HK :: H :: S)) (fun i => 31 - i) 0 ⟨⟨rfl, rfl, rfl, rfl, trivial⟩, by decide, _, [], aV, H0, rfl, .nil, hS0, kP.nil _ _, .of⟩ fun i E S' ⟨hE, hi, vk, HK, S1, H1, hE5, hK, hS1, hF, hJ⟩ => ?_
 clear hS0;obtain ⟨ka_, kc, rfl⟩ := hK.isSlice;have hE2 : Has E [(0, .slice xa X.length xc), (1, .slice ya Y.length yc), (5, .pointer (some ⟨sb, 0, none⟩)), (8, .int .i64 (i : Int)), (7, .slice ka_ ((List.range i).map Zj).length kc)] := ⟨hE.1, hE.2.1, hE.2.2.1, hE.2.2.2.1, hE5, trivial⟩
 clear hE hE5;obtain ⟨E0, e0⟩ := zw hE2; subst e0; clear hE2;refine zm hJ (ze (ze (z8 (yp (pI rfl) (yp (ZK rfl rfl) (zf (za ?_)))))));refine zO rfl (fun h => ?_) (fun h => ?_)
 ·have hi31 : i < 31 := by omega
  have hq : 0 ≤ (i : Int).tdiv 26 ∧ (i : Int).tdiv 26 ≤ 31 := by rw [show (i : Int).tdiv 26 = ((i / 26 : Nat) : Int) from rfl]; omega
  have hr : 0 ≤ (i : Int).tmod 26 ∧ (i : Int).tmod 26 ≤ 31 := by rw [show (i : Int).tmod 26 = ((i % 26 : Nat) : Int) from rfl]; omega
  have hr2 : 0 ≤ ((i : Int) * 7).tmod 31 ∧ ((i : Int) * 7).tmod 31 ≤ 31 := by rw [show ((i : Int) * 7).tmod 31 = ((i * 7 % 31 : Nat) : Int) from rfl]; omega
  refine zn (za (ze (zo (ze (z8 (yp (pI rfl) (yp (fT rfl rfl (by decide) (by omega)) (yp (WL rfl rfl (by omega)) (yp (Ur rfl) (yp (pI rfl) (yp (aT rfl rfl (by decide)) (yp (WL rfl rfl (by omega)) (yp (Ur rfl) ?_)))))))))))));refine zh (JB (l := cells [U0 (97 + (i : Int).tdiv 26), U0 (97 + (i : Int).tmod 26)]) rfl (by decide) (by decide) (by decide) rfl fun p33 => ?_);refine zh (kU (Y := [U0 (97 + (i : Int).tdiv 26), U0 (97 + (i : Int).tmod 26)]) rfl (.lit (by repeat (first | exact List.mem_cons_self | apply List.mem_cons_of_mem)) rfl) ?_);refine yp (jQ (Y := [2]) (Z := [U0 (97 + (i : Int).tdiv 26), U0 (97 + (i : Int).tmod 26)]) rfl rfl (by simp)) (yp (jQ (Y := [2] ++ [U0 (97 + (i : Int).tdiv 26), U0 (97 + (i : Int).tmod 26)]) (Z := [0]) rfl rfl (by simp)) ?_);show YL _ _ _ _ _ (Zf _ (sv (X3 i)) _) _;refine yp (pT rfl) (zf (za (ze (z8 (yp pC (zf (za (ze (ze (z8 (yp pC (zf (za (zo ?_))))))))))))));refine Z5 (σ := Nat) (fun k E S' => Has E [(0, .slice xa X.length xc), (1, .slice ya Y.length yc), (5, .pointer (some ⟨sb, 0, none⟩)), (8, .int .i64 (i : Int)), (7, .slice ka_ ((List.range i).map Zj).length kc), (9, sv (X3 i)), (10, .int .i64 (vM (X.take k) i)), (11, .int .i64 (k : Int))] ∧ k ≤ X.length ∧ zB S' (HK :: H1 :: S)) (fun k => X.length - k) 0 ⟨⟨rfl, rfl, rfl, rfl, rfl, rfl, rfl, rfl, trivial⟩, Nat.zero_le _, .of⟩ fun k E S' ⟨hE, hk, hJ⟩ => ?_
  obtain ⟨E0, e0⟩ := zw hE; subst e0; clear hE;refine zm hJ (ze (ze (z8 (yp (pI rfl) (yp (pS rfl) (yp (Zy rfl) (yp (ZK rfl rfl) (zf (za ?_)))))))));refine zO rfl (fun h => ?_) (fun h => ?_)
  ·have hlt : k < X.length := by omega
   obtain ⟨b, o, ca, ty, fz, rfl, hm', hmem, hg⟩ := hX.get (by intro h; simp [h] at hlt);have hg0 := hg.1 k 0 hlt (by decide);have hsn := bF (X.take k) X[k] i;rw [← List.take_succ_eq_append_getElem hlt] at hsn;refine zn (za (ze (zo (ze (z8 (yp (pS rfl) (yp (pI rfl) (yp (zT rfl rfl (by omega)) ?_))))))));refine zh (uO (show _ ∈ _ from by repeat (first | exact hmem | apply List.mem_cons_of_mem)) rfl hg0 ?_);refine zh (zk (qE X[k] 31 (by decide)) rfl rfl fun r S' h => ?_);obtain ⟨rfl, rfl⟩ := h;refine yp (pI rfl) (yp (vB rfl rfl) (zf (za ?_)));by_cases hx : round X[k] 31 = (i : Int)
   ·rw [decide_eq_true hx];rw [if_pos hx] at hsn;refine zG rfl (z8 (yp (pI rfl) (yp (Kw rfl rfl (by omega)) (yp (aT rfl rfl (by decide)) (yp (WL rfl rfl (by omega)) (yp (pI rfl) (zf (zS (za (z8 (yp (pI rfl) (yp (Zc rfl rfl (by omega)) (yp (pI rfl) (zf (za ?_)))))))))))))));exact ⟨k + 1, ⟨⟨rfl, rfl, rfl, rfl, rfl, rfl, by rw [hsn]; rfl, rfl, trivial⟩, by omega, .of⟩, by omega⟩
   ·rw [decide_eq_false hx];rw [if_neg hx] at hsn;refine zy rfl (zn (zS (za (z8 (yp (pI rfl) (yp (Zc rfl rfl (by omega)) (yp (pI rfl) (zf (za ?_)))))))));exact ⟨k + 1, ⟨⟨rfl, rfl, rfl, rfl, rfl, rfl, by rw [hsn]; rfl, rfl, trivial⟩, by omega, .of⟩, by omega⟩
  obtain rfl : k = X.length := by omega
  rw [List.take_length];have hin := KN X i;have hlen := hF.rw.len;refine zW (zF (zF (zX (za (ze (ze (z8 (yp (pP rfl) (yp (pT rfl) (yp (pI rfl) ?_))))))))));refine zh (zk (lJ (X3 i) (i : Int)) rfl rfl fun r S' h => ?_);obtain ⟨d, v, HS, hd, rfl, hR, rfl⟩ := h;obtain ⟨hput, hF2⟩ := hF.put (r := 4) (x := vM X i) hi31 hd rfl rfl ((Qx _ _ _).2 (by omega));refine yp (pI rfl) ?_;refine zh (zk (jy (S0 := [HS]) hS1 (QJ hi31 hd).q.ok (hR.src (by simp)) (by rw [hF.v, List.length_nil]; omega) 4 0 (vM X i)) rfl rfl fun r S' h => ?_);rw [hput] at h;obtain ⟨rfl, H2, hS2, rfl⟩ := h;clear hS1 hF hput;generalize xR (ZV (X3 i) d) 4 0 (vM X i) S1 = S2 at *
  refine yp (Uq rfl rfl) (zf (za (zy rfl (zn (za (z8 (yp (pS rfl) (yp (pT rfl) (yp (V4 (lX rfl) (uR rfl)) ?_)))))))));refine zh (vE (Zj i) rfl rfl (by decide) (by decide) rfl fun p53 => ?_);refine zh (VK (Y := [Zj i]) rfl rfl hK (.lit (by repeat (first | exact List.mem_cons_self | apply List.mem_cons_of_mem)) rfl) rfl (⟨[], 0⟩ : Ky) rfl (by rw [List.length_map, List.length_range, List.length_singleton]; omega) (by rw [List.length_map, List.length_range, List.length_singleton]; omega) fun v2 H4 hK2 => ?_);have hK3 : Zb 43 v2 ((List.range (i + 1)).map Zj) H4 := by rw [List.range_succ, List.map_append]; exact hK2
  obtain ⟨a2, c2, rfl⟩ := hK2.isSlice;refine yp (pS rfl) (zf (zS (za (z8 (yp (pI rfl) (yp (Zc rfl rfl (by omega)) (yp (pI rfl) (zf (za ?_)))))))));exact ⟨i + 1, ⟨⟨rfl, rfl, rfl, rfl, trivial⟩, by omega, _, H4, S2, H2, rfl, hK3, hS2, hF2, .of⟩, by omega⟩
 obtain rfl : i = 31 := by omega
 have hlen := hF.rw.len;have hI0 : S1.I ≠ [] := fun q => by rw [q] at hlen; simp at hlen
 have hleft : uV 2048 S1 = 32 := by rw [hF.rw.fam.left, if_neg hI0, hlen]; rfl
 refine zW (zF (zF (zX (za (ze (ze (z8 (yp (pP rfl) ?_))))))));refine zh (zk (JK hS1) rfl rfl fun r S' h => ?_);rw [hleft] at h;obtain ⟨rfl, rfl⟩ := h;refine yp (Yl rfl rfl) (yp (pB rfl) (Z4 rfl (Z9 (pP rfl) (Z4 rfl ?_))));refine zk (Ve hS1) rfl rfl fun r S' h => ?_
 obtain ⟨H3, HV, hV, hS3, rfl⟩ := h;rw [hF.v] at hV;have hF3 : aG (vM X) (yh (List.replicate 31 false)) 0 ⟨S1.I, S1.P, S1.Q, []⟩ := by rw [mI]; exact kP.fst ⟨hF.rw, hF.p, hF.q, rfl⟩
 clear hS1 hF hI0 hleft hlen;generalize (⟨S1.I, S1.P, S1.Q, []⟩ : Ss) = S3 at *
 obtain ⟨va, vc, rfl⟩ := hV.isSlice;obtain ⟨b, sp, fz, hz, rfl, _, rfl, rfl⟩ := hK.at' (by decide);have hrow : ∀ {j : Nat}, j < 31 → ((cells ((List.range 31).map Zj ++ sp)).toArray.toList.drop (0 + j * 2)).take 2 = enc (Zj j) := fun {j} hj => by
  have hjl : j < ((List.range 31).map Zj).length := by rw [List.length_map, List.length_range]; exact hj
  have hjk : ((List.range 31).map Zj)[j] = Zj j := by rw [List.getElem_map, List.getElem_range]
  rw [← hjk]; exact ZW hjl rfl
 have hlk : ((List.range 31).map Zj).length = 31 := by rw [List.length_map, List.length_range]
 rw [hlk];refine Z4 rfl (Z9 (Zy rfl) (Z4 rfl (Z9 (Uq rfl rfl) (yp (zQ rfl rfl) (zf (za (zy rfl (zn (za (ze (z8 (yp pC (zf (za (ze (z8 ?_))))))))))))))));refine zh (dh (m := 31) (cap := 31) rfl rfl (Nat.le_refl _) rfl (by omega) (by omega) fun bi => ?_);rw [Wn (z := [.bool false]) 31 false rfl];refine yp (pS rfl) (zf (za (ze (ze (z8 (yp pC (zf (za (zo ?_)))))))));refine Z5 (σ := Nat) (fun i E S' => Has E [(0, .slice xa X.length xc), (1, .slice ya Y.length yc), (5, .pointer (some ⟨sb, 0, none⟩)), (7, .slice (some ⟨b, 0, none⟩) 31 (31 + sp.length)), (12, .int .i64 0), (13, .slice (some ⟨bi, 0, none⟩) 31 31), (14, .int .i64 (i : Int))] ∧ i ≤ Y.length ∧ i ≤ 4 ∧ ∃ I S4 H4, I.length = 31 ∧ Sr sb 2048 S4 H4 ∧ aG (vM X) (yh I) i S4 ∧ zB S' ([(bi, .cells (cells I).toArray 4)] :: [(b, .cells (cells ((List.range 31).map Zj ++ sp)).toArray 43 fz)] :: H4 :: S)) (fun i => Y.length - i) 0
  ⟨⟨rfl, rfl, rfl, rfl, rfl, rfl, rfl, trivial⟩, Nat.zero_le _, Nat.zero_le _, _, S3, H3, List.length_replicate, hS3, hF3, .of⟩ fun i E S' ⟨hE, hi, hi4, I, S4, H4, hIl, hS4, hF4, hJ⟩ => ?_
 clear hS3 hF3;have hlen4 := hF4.rw.len;obtain ⟨E0, e0⟩ := zw hE; subst e0; clear hE;refine ze ?_;refine Wz (fun E S' => Has E [(0, .slice xa X.length xc), (1, .slice ya Y.length yc), (5, .pointer (some ⟨sb, 0, none⟩)), (7, .slice (some ⟨b, 0, none⟩) 31 (31 + sp.length)), (12, .int .i64 0), (13, .slice (some ⟨bi, 0, none⟩) 31 31), (14, .int .i64 (i : Int)), (101, .bool (decide (i < Y.length ∧ i < 4)))] ∧ zB S' ([(bi, .cells (cells I).toArray 4)] :: [(b, .cells (cells ((List.range 31).map Zj ++ sp)).toArray 43 fz)] :: H4 :: S)) ?_ fun E S' ⟨hE, hJ⟩ => ?_
 ·refine zm hJ (z8 (yp (pI rfl) (yp (pS rfl) (yp (Zy rfl) (yp (ZK rfl rfl) (yp (pB rfl) ?_))))));by_cases h1 : i < Y.length
  ·rw [decide_eq_true (show (i : Int) < (Y.length : Int) from by omega)];refine Z4 rfl (Z9 (pI rfl) (Z4 rfl (Z9 (ZK rfl rfl) (yp (zM rfl rfl) (zf (za ?_))))));refine ⟨⟨rfl, rfl, rfl, rfl, rfl, rfl, rfl, ?_, trivial⟩, .of⟩;show Value.bool _ = Value.bool _;congr 1;rw [decide_eq_decide];omega
  ·rw [decide_eq_false (show ¬ (i : Int) < (Y.length : Int) from by omega)];refine zV rfl (zV rfl (yp (zQ rfl rfl) (zf (za ?_))));refine ⟨⟨rfl, rfl, rfl, rfl, rfl, rfl, rfl, ?_, trivial⟩, .of⟩;rw [decide_eq_false (show ¬ (i < Y.length ∧ i < 4) from fun h => h1 h.1)];rfl
 obtain ⟨E0, e0⟩ := zw hE; subst e0; clear hE;refine zm hJ ?_;refine zO rfl (fun h => ?_) (fun h => ?_)
 ·obtain ⟨hlt, hi4'⟩ := h;obtain ⟨b2, o, ca, ty, fz2, rfl, hm', hmem, hg⟩ := hY.get (by intro h; simp [h] at hlt);have hg0 := hg.1 i 0 hlt (by decide);refine zn (za (ze (zo (ze (z8 (yp (pS rfl) (yp (pI rfl) (yp (zT rfl rfl (by omega)) ?_))))))));refine zh (uO (show _ ∈ _ from by repeat (first | exact hmem | apply List.mem_cons_of_mem)) rfl hg0 ?_);refine zh (zk (qE Y[i] 31 (by decide)) rfl rfl fun r S' h => ?_);obtain ⟨rfl, rfl⟩ := h;have hrl := eT Y[i] 31 (by decide);obtain ⟨k, hk⟩ : ∃ k : Nat, round Y[i] 31 = (k : Int) := ⟨(round Y[i] 31).toNat, by omega⟩
  have hk31 : k < 31 := by omega
  rw [hk];refine yp (pI rfl) (zf (za (ze (z8 (yp (pP rfl) (yp (pS rfl) (yp (pI rfl) (yp (zT rfl rfl (by omega)) ?_))))))));refine zh (ZT (l := enc (Zj k)) rfl (hrow hk31) rfl ?_);refine zh (zk (dZ hS4 (Zj k) (by show (X3 k).length < _; unfold X3; simp) 0) rfl rfl fun r S' h => ?_);obtain ⟨it, hit, h1, h2, h3, h4⟩ := hF4.rw.get hk31;have hein := KN X k;rcases h with ⟨g1, _⟩ | ⟨i', vv, HR, H5, g1, g2, g3, g4, hS5, rfl⟩
  ·have := g1 it (by rw [oh hk31]; exact h1);omega
  subst g3;rw [oh hk31] at hS5;have hF5 := hF4.touch hi4' hk31;have hS5 : Sr sb 2048 ⟨S4.I, Uh 4 (Zj k) S4.P S4.Q, Ug 4 (Zj k) S4.P S4.Q, S4.V⟩ H5 := hS5;rw [← kZ (by omega)] at hF5;clear hS4 hF4;generalize (⟨S4.I, Uh 4 (Zj k) S4.P S4.Q, Ug 4 (Zj k) S4.P S4.Q, S4.V⟩ : Ss) = S5 at *
  refine zf (za (z8 (yp (pS rfl) (yp (pI rfl) (yp (zT rfl rfl (by omega)) ?_)))));refine zh (Zh (M := I) (y := true) rfl (by omega) rfl rfl (.inl rfl) ?_);refine zf (zS (za (z8 (yp (pI rfl) (yp (Zc rfl rfl (by omega)) (yp (pI rfl) (zf (za ?_))))))));exact ⟨i + 1, ⟨⟨rfl, rfl, rfl, rfl, rfl, rfl, rfl, trivial⟩, by omega, by omega, _, S5, H5, by rw [List.length_set]; exact hIl, hS5, hF5, .of⟩, by omega⟩
 clear hJ;refine zW (zF (zF (zX (za (ze (zo ?_))))));refine Z5 (σ := Nat) (fun w E S' => Has E [(0, .slice xa X.length xc), (1, .slice ya Y.length yc), (5, .pointer (some ⟨sb, 0, none⟩)), (7, .slice (some ⟨b, 0, none⟩) 31 (31 + sp.length)), (12, .int .i64 (w : Int)), (13, .slice (some ⟨bi, 0, none⟩) 31 31)] ∧ w ≤ 31 ∧ (∀ j, j < w → yh I j = true) ∧ zB S' ([(bi, .cells (cells I).toArray 4)] :: [(b, .cells (cells ((List.range 31).map Zj ++ sp)).toArray 43 fz)] :: H4 :: S)) (fun w => 31 - w) 0
  ⟨⟨rfl, rfl, rfl, rfl, rfl, rfl, trivial⟩, Nat.zero_le _, fun j hj => absurd hj (Nat.not_lt_zero _), .of⟩ fun w E S' ⟨hE, hw, hwu, hJ⟩ => ?_
 obtain ⟨E0, e0⟩ := zw hE; subst e0; clear hE;refine zm hJ (ze ?_);refine Wz (fun E S' => Has E [(0, .slice xa X.length xc), (1, .slice ya Y.length yc), (5, .pointer (some ⟨sb, 0, none⟩)), (7, .slice (some ⟨b, 0, none⟩) 31 (31 + sp.length)), (12, .int .i64 (w : Int)), (13, .slice (some ⟨bi, 0, none⟩) 31 31), (125, .bool (decide (w < 31 ∧ yh I w = true)))] ∧ zB S' ([(bi, .cells (cells I).toArray 4)] :: [(b, .cells (cells ((List.range 31).map Zj ++ sp)).toArray 43 fz)] :: H4 :: S)) ?_ fun E S' ⟨hE, hJ⟩ => ?_
 ·refine z8 (yp (pI rfl) (yp (ZK rfl rfl) (yp (pB rfl) ?_)));by_cases h1 : w < 31
  ·rw [decide_eq_true (show (w : Int) < 31 from by omega)];have hIw : I[w]? = some (yh I w) := by rw [K3 (by omega)]; exact List.getElem?_eq_getElem (by omega)
   refine Z4 rfl (Z9 (pS rfl) (Z4 rfl (Z9 (pI rfl) (Z4 rfl (Z9 (zT rfl rfl (by omega)) (Z4 rfl (zC rfl (qH hIw) (yp (zM rfl rfl) (zf (za ?_))))))))));refine ⟨⟨rfl, rfl, rfl, rfl, rfl, rfl, ?_, trivial⟩, .of⟩;show Value.bool _ = Value.bool _;congr 1;rw [Bool.eq_iff_iff, decide_eq_true_iff];exact ⟨fun h => ⟨h1, h⟩, fun h => h.2⟩
  ·rw [decide_eq_false (show ¬ (w : Int) < 31 from by omega)];refine zV rfl (zV rfl (zV rfl (zV rfl (yp (zQ rfl rfl) (zf (za ?_))))));refine ⟨⟨rfl, rfl, rfl, rfl, rfl, rfl, ?_, trivial⟩, .of⟩;rw [decide_eq_false (show ¬ (w < 31 ∧ yh I w = true) from fun h => h1 h.1)];rfl
 obtain ⟨E0, e0⟩ := zw hE; subst e0; clear hE;refine zm hJ ?_;refine zO rfl (fun h => ?_) (fun h => ?_)
 ·obtain ⟨hw31, huw⟩ := h;refine zn (za (zo (z8 (yp (pI rfl) (yp (Zc rfl rfl (by omega)) (yp (pI rfl) (zf (zS (za ?_)))))))));exact ⟨w + 1, ⟨⟨rfl, rfl, rfl, rfl, rfl, rfl, trivial⟩, by omega, fun j hj => by
   by_cases hjw : j = w
   ·rw [hjw]; exact huw
   ·exact hwu j (by omega), .of⟩, by omega⟩
 have hw31 : w < 31 := by
  rcases Nat.lt_or_ge w 31 with q | q
  ·exact q
  ·exfalso;refine hF4.some_ hi4 ?_;rw [List.filter_eq_nil_iff];intro j hj;rw [hwu j (by have := List.mem_range.1 hj; omega)]; decide
 have huw : yh I w = false := by
  cases hq : yh I w with
  | false => rfl
  | true => exact absurd ⟨hw31, hq⟩ h
 obtain ⟨fl, hfl⟩ := iQ (f := fun j => !yh I j) hw31 (by rw [huw]; rfl) (fun j hj => by rw [hwu j hj]; rfl);refine zW (zF (zF (zX (za (ze (z8 (yp pC (zf (za (ze (ze (z8 (yp pC (zf (za (zo ?_))))))))))))))));refine Z5 (σ := Nat) (fun i E S' => Has E [(5, .pointer (some ⟨sb, 0, none⟩)), (7, .slice (some ⟨b, 0, none⟩) 31 (31 + sp.length)), (12, .int .i64 ((wl (vM X) w i).2 : Int)), (16, .int .i64 (wl (vM X) w i).1), (17, .int .i64 (i : Int))] ∧ i ≤ 31 ∧ zB S' ([(b, .cells (cells ((List.range 31).map Zj ++ sp)).toArray 43 fz)] :: H4 :: S)) (fun i => 31 - i) 0
  ⟨⟨rfl, rfl, rfl, rfl, rfl, trivial⟩, Nat.zero_le _, .of⟩ fun j E S' ⟨hE, hj, hJ⟩ => ?_
 obtain ⟨E0, e0⟩ := zw hE; subst e0; clear hE;refine zm hJ (ze (ze (z8 (yp (pI rfl) (yp (ZK rfl rfl) (zf (za ?_)))))));refine zO rfl (fun h => ?_) (fun h => ?_)
 ·have hj31 : j < 31 := by omega
  have hst : wl (vM X) w (j + 1) = if vM X j < (wl (vM X) w j).1 then (vM X j, j) else wl (vM X) w j := rfl
  generalize wl (vM X) w j = R at *
  refine zn (za (ze (zo (ze (z8 (yp (pP rfl) (yp (pS rfl) (yp (pI rfl) (yp (zT rfl rfl (by omega)) ?_)))))))));refine zh (ZT (l := enc (Zj j)) rfl (hrow hj31) rfl ?_);refine zh (zk (K9 hS4 (Zj j) (by show (X3 j).length < _; unfold X3; simp)) rfl rfl fun r S' h => ?_);obtain ⟨it, ia, ic, HR, rfl, hb, hexp, hpin, rfl⟩ := fE hF4.rw hj31 (oh hj31) h;clear h;refine yp (pU rfl) (yp (pExt rfl rfl) (yp (pExt rfl rfl) ?_));refine zh (Ze fun p18 => ?_);refine zh (WK rfl rfl rfl rfl rfl ?_);refine yp (pB rfl) (zf (za (ze (ze (z8 (yp (pB rfl) (yp (Zg rfl) (zf (za (zy rfl (zn (za (ze (z8 (yp (zu rfl) ?_)))))))))))))));refine zh (zC rfl rfl ?_);refine yp (pI rfl) (yp (ZK rfl rfl) (zf (za ?_)));rw [hexp];by_cases hl : vM X j < R.1
  ·rw [decide_eq_true hl];rw [if_pos hl] at hst;refine zG rfl (ze (z8 (yp (zu rfl) ?_)));refine zh (zC rfl rfl ?_);refine yp (pI rfl) (zf (za (z8 (yp (pI rfl) (yp (pI rfl) (zf (zS (za (z8 (yp (pI rfl) (yp (Zc rfl rfl (by omega)) (yp (pI rfl) (zf (za ?_))))))))))))));exact ⟨j + 1, ⟨⟨rfl, rfl, by rw [hst]; rfl, by rw [hst]; exact congrArg _ hexp, rfl, trivial⟩, by omega, .of⟩, by omega⟩
  ·rw [decide_eq_false hl];rw [if_neg hl] at hst;refine zy rfl (zn (zS (za (z8 (yp (pI rfl) (yp (Zc rfl rfl (by omega)) (yp (pI rfl) (zf (za ?_)))))))));exact ⟨j + 1, ⟨⟨rfl, rfl, by rw [hst]; rfl, by rw [hst]; rfl, rfl, trivial⟩, by omega, .of⟩, by omega⟩
 obtain rfl : j = 31 := by omega
 obtain ⟨q, hq31, hqw, hnx⟩ : ∃ q, q < 31 ∧ (wl (vM X) w 31).2 = q ∧ wN 100 S4 = some (Zj q) := by
  have hee : ∀ j, j < 31 → vM X j = 1000 ∨ vM X j ≤ 100 := fun j _ => by have := KN X j; omega
  rcases mG hee (w0 := w) with ⟨h1, h2⟩ | ⟨k, l, h1, h2⟩
  ·exact ⟨w, hw31, h2, hF4.D6 h1 hfl⟩
  ·exact ⟨k, (jR h1).1, h2, hF4.D7 h1⟩
 rw [hqw];refine zW (zF (zF (zX (za (ze (ze (z8 (yp (pP rfl) ?_))))))));refine zh (zk (lJ [2, 122, 122, 0] 1) rfl rfl fun r S' h => ?_);obtain ⟨d2, v2, HS2, hd2, rfl, hR2, rfl⟩ := h;have hev := hF4.put hd2 (r := 4) (now := 100) (x := 2000) rfl hnx;refine zh (zk (jy (S0 := [HS2]) hS4 (yN hd2).q.ok (hR2.src (by simp)) (by rw [hF4.v, List.length_nil]; omega) 4 100 2000) rfl rfl fun r S' h => ?_);rw [hev] at h;obtain ⟨rfl, H5, hS5, rfl⟩ := h;have hv5 : (xR (ZV [2, 122, 122, 0] d2) 4 100 2000 (Xb (Zj q) S4)).V = [Zj q] := by
  show S4.V ++ [Zj q] = _;rw [hF4.v]; rfl
 clear hS4 hev hnx;generalize xR (ZV [2, 122, 122, 0] d2) 4 100 2000 (Xb (Zj q) S4) = S5 at *
 refine yp (Uq rfl rfl) (zf (za (zy rfl (zn (za (ze (Vj (R := [[(b, .cells (cells ((List.range 31).map Zj ++ sp)).toArray 43 fz)]]) (by simp) (zi (pP rfl) (zi (pS rfl) (zi (pI rfl) (zi (zT rfl rfl (by omega)) (vZ (l := enc (Zj q)) rfl (hrow hq31) rfl ?_))))))))))));refine Zl (zk (Ve hS5) rfl rfl fun r S' h => ?_) ?_
 ·obtain ⟨H6, HV6, hVe, hS6, rfl⟩ := h;rw [hv5] at hVe;obtain ⟨ea, ec, rfl⟩ := hVe.isSlice;refine ⟨by simp, ?_⟩;refine zN (vE (Zj q) rfl rfl (by decide) (by decide) rfl fun p91 => ?_) zP;have hLit : Zb 43 (.slice (some ⟨p91, 0, none⟩) 1 1) [Zj q] [(p91, .cells (cells [Zj q]).toArray 43)] := .full rfl;refine zN (zk (rE hVe hLit (by show 1 < _; decide)) rfl rfl fun r S' h => ?_) zP;obtain ⟨rfl, rfl⟩ := h;rw [decide_eq_true rfl];refine zi (pB rfl) ?_;refine wB rfl ?_ zP;refine zN (zk vD rfl rfl fun r S' h => ?_) zP;obtain ⟨rfl, rfl⟩ := h;refine zi (zM rfl rfl) (zi (pB rfl) (zL (za (zI ?_))));exact zH (rB rfl) ⟨S, .of, rfl, rfl⟩
 ·refine zN (vE (Zj q) rfl rfl (by decide) (by decide) rfl fun p91 => ?_) zP;have hLit : Zb 43 (.slice (some ⟨p91, 0, none⟩) 1 1) [Zj q] [(p91, .cells (cells [Zj q]).toArray 43)] := .full rfl;refine Zl (zk (Ve hS5) rfl rfl fun r S' h => ?_) zP;obtain ⟨H6, HV6, hVe, hS6, rfl⟩ := h;rw [hv5] at hVe;obtain ⟨ea, ec, rfl⟩ := hVe.isSlice;refine ⟨by simp, ?_⟩;refine zN (zk (rE hVe hLit (by show 1 < _; decide)) rfl rfl fun r S' h => ?_) zP;obtain ⟨rfl, rfl⟩ := h;rw [decide_eq_true rfl];refine zi (pB rfl) ?_;refine wB rfl ?_ zP;refine zN (zk vD rfl rfl fun r S' h => ?_) zP;obtain ⟨rfl, rfl⟩ := h;refine zi (zM rfl rfl) (zi (pB rfl) (zL (za (zI ?_))));exact zH (rB rfl) ⟨S, .of, rfl, rfl⟩
end Go.Proofs.YtejmbmenbailmaaGreat