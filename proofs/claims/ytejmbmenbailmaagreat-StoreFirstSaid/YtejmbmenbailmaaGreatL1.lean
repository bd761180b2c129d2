/- Keys by their use (lists.LRU, for a store): contracts. Keys by their use: Order. Keys by their times (lists.Due, for a store): contracts. -/
import Derived.Test.YtejmbmenbailmaaGreatY1
import Derived.Test.YtejmbmenbailmaaGreatL0
import Derived.Test.YtejmbmenbailmaaGreatN1
import Derived.Test.YtejmbmenbailmaaGreatA1
import Derived.Test.YtejmbmenbailmaaGreatFLists
namespace Go.Proofs.YtejmbmenbailmaaGreat
open Go.Xs
open Enc (enc)
def fV (o : Option Nat) : Value := .int .i64 (match o with | some i => (i : Int) | none => -1)
def kpos (k : Ky) : List Ky → Option Nat
 | [] => none
 | e :: l => if k = e then some 0 else (kpos k l).map (· + 1)
theorem Qm {k : Ky} : ∀ {l : List Ky} {i : Nat}, kpos k l = some i → i < l.length
 | e :: l, i, h => by
  unfold kpos at h;split at h
  ·simp at h; subst h; simp
  ·cases h' : kpos k l with
   | none => simp [h'] at h
   | some j => simp [h'] at h; have := Qm h'; subst h; simp; omega
theorem xR {k : Ky} : ∀ {l : List Ky}, kpos k l = none → k ∉ l
 | [], _ => by simp
 | e :: l, h => by
  unfold kpos at h;split at h
  ·simp at h
  ·next hk =>
   rw [Option.map_eq_none_iff] at h;have := xR h;simp [hk, this]
theorem U2 {k : Ky} : ∀ {l : List Ky} {i : Nat}, kpos k l = some i → k ∈ l ∧ l.eraseIdx i = l.erase k
 | e :: l, i, h => by
  unfold kpos at h;split at h
  ·next hk => simp at h; subst h; subst hk; simp
  ·next hk =>
   cases h' : kpos k l with
   | none => simp [h'] at h
   | some j =>
    simp [h'] at h; subst h;obtain ⟨h1, h2⟩ := U2 h';refine ⟨List.mem_cons_of_mem _ h1, ?_⟩;rw [List.eraseIdx_cons_succ, h2, List.erase_cons_tail (by simpa using fun h => hk h.symm)]
/-- where a key stands -/
theorem oD {v : Value} {L : List Ky} {H : List Chunk} (hL : Za 43 v L H) (hlen : L.length < 2 ^ 40) (k : Ky) :
 Tri Tryz.prog 151 #[v, .agg (Wi k)] [H] (fun r S => r = fV (kpos k L) ∧ S = [H]) := by
 refine Tri.forget (zm Tryz.DR (Nat.le_of_ble_eq_true rfl) ?_);unfold Tryz.x151;obtain ⟨a, c, rfl⟩ := hL.isSlice;refine ze (z8 ?_);refine zh (Zq rfl fun p3 => ?_);refine yp pC (zf (za (ze (ze (z8 (yp (pS rfl) (yp (ZC rfl) (yp pC (zf (za (zq ?_)))))))))));refine Z5 (σ := Nat) (fun i E S => Has E [(0, .slice a L.length c), (3, .pointer (some ⟨p3, 0, none⟩)), (7, .int .i64 L.length), (8, .int .i64 i)] ∧ i ≤ L.length ∧ (kpos k L = (kpos k (L.drop i)).map (· + i)) ∧ zB S [[(p3, .cells (Wi k) 43)], H]) (fun i => L.length - i) 0 ⟨⟨rfl, rfl, rfl, rfl, trivial⟩, Nat.zero_le _, by simp, .of⟩ fun i E S ⟨hE, hi, hx, hS⟩ => ?_
 obtain ⟨E0, e0⟩ := zx hE; subst e0; clear hE;refine zn hS (ze (z8 (yp (ZO rfl rfl) (zf (za (ze ?_))))));refine zP rfl (fun h => ?_) (fun h => ?_)
 ·have hlt : i < L.length := by omega
  have hd : L.drop i = L[i] :: L.drop (i + 1) := List.drop_eq_getElem_cons hlt;obtain ⟨b, sp, fz2, hz, rfl, _, rfl, rfl⟩ := hL.at' (by intro h; simp [h] at hlt);refine zu (za (ze (zq (ze (z8 (yp (pI rfl) (yp (pI rfl) (zf (za (ze (zW (WC rfl rfl (zi (pS rfl) (zi (pI rfl) (zi (zS rfl rfl (by omega)) (vV (l := enc L[i]) rfl (wh hlt rfl) rfl ?_))))))))))))))));by_cases h2 : k = L[i]
  ·refine zi (mI (a := k) (b := L[i]) rfl rfl) ?_;rw [decide_eq_true h2];refine zL (za (zH rfl (ze (z8 (yp (pI rfl) (yp (pI rfl) (zf (za (zJ (bret (zU (zU (bret (zU ?_))))))))))))));exact zI (rI rfl) ⟨_, .of, by rw [hx, hd, kpos, if_pos h2]; simp [fV], rfl⟩
  ·refine zi (mI (a := k) (b := L[i]) rfl rfl) ?_;rw [decide_eq_false h2];refine zL (za (zA rfl (zu (zR (za (z8 (yp (Ze rfl rfl (by omega)) (yp (pI rfl) (zf (za ?_))))))))));refine ⟨i + 1, ⟨⟨rfl, rfl, rfl, rfl, trivial⟩, by omega, ?_, .of⟩, by omega⟩;rw [hx, hd, kpos, if_neg h2, Option.map_map];congr 1;funext x;simp; omega
 ·refine zX (zF (zF (zZ (za (ze (z8 (yp pC (zf (za (zJ ?_))))))))));have : L.drop i = [] := List.drop_eq_nil_of_le (by omega);exact zI (rI rfl) ⟨_, .of, by rw [hx, this]; rfl, rfl⟩
theorem oF {v : Value} {L : List Ky} {H : List Chunk} (hL : Za 43 v L H) (hlen : L.length < 2 ^ 40) (k : Ky) :
 Tri Tryz.prog 125 #[v, .agg (Wi k)] [H] (fun r S => r = .bool (decide (k ∈ L)) ∧ S = [H]) := by
 refine Tri.forget (zm Tryz.Eo (Nat.le_of_ble_eq_true rfl) ?_);unfold Tryz.Br;obtain ⟨a, c, rfl⟩ := hL.isSlice;refine ze (z8 ?_);refine zh (Zq rfl fun p3 => ?_);refine yp pC (zf (za (ze (z8 (yp (pS rfl) ?_)))));refine zh (Zx rfl rfl ?_);refine zh (zk (oD hL hlen k) rfl rfl fun r S' h => ?_);obtain ⟨rfl, rfl⟩ := h;cases h : kpos k L with
 | none =>
  rw [decide_eq_false (xR h)];simp only [fV];refine yp (Y9 rfl rfl) (yp (pB rfl) (zf (za (zJ ?_))));exact zI (rB rfl) ⟨_, .of, rfl, rfl⟩
 | some i =>
  rw [decide_eq_true (U2 h).1];simp only [fV];refine yp (Y9 rfl rfl) (yp (pB rfl) (zf (za (zJ ?_))));exact zI (rB rfl) ⟨_, .of, by simp, rfl⟩
theorem oH {v : Value} {L : List Ky} {H : List Chunk} (hL : Za 43 v L H) (hlen : L.length < 2 ^ 40) {i j : Nat} (hi : i < L.length) (hj : j = i + 1) :
 Tri Tryz.prog 127 #[v, .int .i64 (i : Int), .int .i64 (j : Int)] [H] (fun r S => ∃ H', Za 43 r (L.eraseIdx i) H' ∧ S = [H']) :=
 yO Tryz.El rfl (⟨[], 0⟩ : Ky) rfl hL hlen hi hj
theorem oI {v : Value} {L : List Ky} {H : List Chunk} (hL : Za 43 v L H) (hlen : L.length < 2 ^ 40) (k : Ky) :
 Tri Tryz.prog 146 #[v, .agg (Wi k)] [H] (fun r S => ∃ v' H', r = .tuple #[v', .bool (decide (k ∈ L))] ∧ Za 43 v' (L.erase k) H' ∧ S = [H']) := by
 refine Tri.forget (zm Tryz.DX (Nat.le_of_ble_eq_true rfl) ?_);unfold Tryz.AZ;obtain ⟨a, c, rfl⟩ := hL.isSlice;refine ze (z8 ?_);refine zh (Zq rfl fun p3 => ?_);refine yp pC (yp pC (zf (za (ze (z8 (yp (pS rfl) ?_))))));refine zh (Zx rfl rfl ?_);refine zh (zk (oD hL hlen k) rfl rfl fun r S' h => ?_);obtain ⟨rfl, rfl⟩ := h;cases h : kpos k L with
 | none =>
  have h1 := xR h;rw [decide_eq_false h1, List.erase_of_not_mem h1];simp only [fV];refine yp (pI rfl) (zf (za (ze (ze (z8 (yp (pI rfl) (yp (ZO rfl rfl) (zf (za (zH rfl (ze (z8 (yp (pS rfl) (yp (pS rfl) (yp pC (zf (za (zJ (zU ?_)))))))))))))))))));exact zI (rR rfl rfl) ⟨_, .of, _, _, rfl, hL, rfl⟩
 | some i =>
  have hi := Qm h;rw [decide_eq_true (U2 h).1, ← (U2 h).2];simp only [fV];refine yp (pI rfl) (zf (za (ze (ze (z8 (yp (pI rfl) (yp (ZO rfl rfl) (zf (za (zA rfl (zu (za (ze (z8 (yp (pS rfl) (yp (pI rfl) (yp (pI rfl) (yp (Ze rfl rfl (by omega)) ?_))))))))))))))))));refine zh (zk (oH hL hlen hi rfl) rfl rfl fun r S' h => ?_);obtain ⟨H', hL', rfl⟩ := h;obtain ⟨a', c', rfl⟩ := hL'.isSlice;refine yp (pS rfl) (yp pC (zf (za (zJ ?_))));exact zI (rR rfl rfl) ⟨_, .of, _, _, rfl, hL', rfl⟩
/-- its room, and its two lists -/
abbrev Xm (lb : Nat) (most : Int) (u v : Value) : List Chunk := [(lb, .cells #[.int .i64 most, u, v] 183)]
def Lr (lb : Nat) (most : Int) (A B : List Ky) (T : List Chunk) : Prop := ∃ u v H G, Za 43 u A H ∧ Za 43 v B G ∧ T = Xm lb most u v ++ H ++ G
theorem Lr.mk {lb : Nat} {most : Int} {u v : Value} {A B : List Ky} {H G : List Chunk} (hA : Za 43 u A H) (hB : Za 43 v B G) : Lr lb most A B (Xm lb most u v ++ H ++ G) := ⟨u, v, H, G, hA, hB, rfl⟩
theorem CK (most : Int) : Tri Tryz.prog 73 #[.int .i64 most] [] (fun r S => ∃ lb T, r = .pointer (some ⟨lb, 0, none⟩) ∧ Lr lb (max most 0) [] [] T ∧ S = [T]) := by
 refine Tri.forget (zm Tryz.GD (Nat.le_of_ble_eq_true rfl) ?_);unfold Tryz.IJ;refine ze (z8 (yp pC (zf (za (ze (z8 (yp (pI rfl) (yp (Ct rfl rfl) (yp (v := .agg #[.int .i64 (max most 0), .slice none 0 0, .slice none 0 0]) rfl ?_)))))))));refine zh (Zq rfl fun p6 => ?_);refine yp (pP rfl) (zf (za (zJ ?_)));exact zI (rP rfl) ⟨_, zB.re (S1 := [Xm p6 (max most 0) (.slice none 0 0) (.slice none 0 0)]) (by simp), _, _, rfl, Lr.mk .nil .nil, rfl⟩
theorem Qi {lb : Nat} {most : Int} {u v : Value} {A B : List Ky} {H G : List Chunk} (hA : Za 43 u A H) (hB : Za 43 v B G) (ha : A.length < 2 ^ 40) (hb : B.length < 2 ^ 40) (k : Ky) :
 Tri Tryz.prog 122 #[.pointer (some ⟨lb, 0, none⟩), .agg (Wi k)] [Xm lb most u v, H, G] (fun r S => r = .bool (decide (k ∈ A) || decide (k ∈ B)) ∧ ∃ u' H' v' G', Za 43 u' (A.erase k) H' ∧ Za 43 v' (B.erase k) G' ∧ S = [Xm lb most u' v', H', G']) := by
 refine Tri.forget (zm Tryz.Et (Nat.le_of_ble_eq_true rfl) ?_);unfold Tryz.Bw;obtain ⟨a, c, rfl⟩ := hA.isSlice;obtain ⟨a', c', rfl⟩ := hB.isSlice;refine ze (z8 ?_);refine zh (Zq rfl fun p3 => ?_);refine yp pC (zf (za (ze (ze (z8 (yp (pP rfl) (yp (ZN rfl rfl) (zf (za (zA rfl (zu (za (ze (z8 (yp pC (yp pC (zf (za (ze (zW (zi (pP rfl) (zi (pP rfl) (zi (zG rfl) (zi (zo rfl) (Z4 rfl rfl (WC rfl rfl ?_))))))))))))))))))))))))));refine zM (zk (oI hA ha k) rfl rfl fun r S' h => ?_) zN;obtain ⟨u1, H1, rfl, hA1, rfl⟩ := h;obtain ⟨a1, c1, rfl⟩ := hA1.isSlice;refine zi (pU rfl) (zi (pExt rfl rfl) (zi (pExt rfl rfl) (zi (zG rfl) (zi (zo rfl) ?_))));refine zM (Jh rfl rfl (Ye rfl) ?_) zN;refine zi (pB rfl) (zL (za (ze (zW (zi (pP rfl) (zi (pP rfl) (zi (zG rfl) (zi (zo rfl) (Z4 rfl rfl (WC rfl rfl ?_))))))))));refine zM (zk (oI hB hb k) rfl rfl fun r S' h => ?_) zN;obtain ⟨v1, G1, rfl, hB1, rfl⟩ := h;obtain ⟨a2, c2, rfl⟩ := hB1.isSlice;refine zi (pU rfl) (zi (pExt rfl rfl) (zi (pExt rfl rfl) (zi (zG rfl) (zi (zo rfl) ?_))));refine zM (Jg rfl rfl (Ye rfl) ?_) zN;refine zi (pB rfl) (zL (za (ze (z8 (yp (pB rfl) (yp (pB rfl) ?_))))));by_cases h1 : k ∈ A
 ·rw [decide_eq_true h1];refine Z0 rfl (yp (zO rfl rfl) (yp (pB rfl) (zf (za (zJ ?_)))));exact zI (rB rfl) ⟨_, .of, by simp, _, _, _, _, hA1, hB1, rfl⟩
 ·rw [decide_eq_false h1];refine Z7 rfl (Zc (pB rfl) (yp (zT rfl rfl) (yp (pB rfl) (zf (za (zJ ?_))))));exact zI (rB rfl) ⟨_, .of, by simp, _, _, _, _, hA1, hB1, rfl⟩
theorem tq {lb : Nat} {most : Int} {A B : List Ky} {T : List Chunk} (hT : Lr lb most A B T) (ha : A.length < 2 ^ 40) (hb : B.length < 2 ^ 40) (k : Ky) :
 Tri Tryz.prog 122 #[.pointer (some ⟨lb, 0, none⟩), .agg (Wi k)] [T] (fun r S => r = .bool (decide (k ∈ A) || decide (k ∈ B)) ∧ ∃ T', Lr lb most (A.erase k) (B.erase k) T' ∧ S = [T']) := by
 obtain ⟨u, v, H, G, hA, hB, rfl⟩ := hT;refine Tri.forget (Tri.vN ((Qi hA hB ha hb k).mono fun r S ⟨h1, u', H', v', G', h2, h3, h4⟩ => ⟨[Xm lb most u' v' ++ H' ++ G'], ?_, h1, _, Lr.mk h2 h3, rfl⟩));subst h4;exact zB.vC
/-- what Add makes of the probation -/
def iT (k : Ky) (A B : List Ky) : List Ky := if k ∈ A ∨ k ∈ B then A else A ++ [k]
theorem CO {lb : Nat} {most : Int} {A B : List Ky} {T : List Chunk} (hT : Lr lb most A B T) (ha : A.length < 2 ^ 40 - 1) (hb : B.length < 2 ^ 40) (k : Ky) :
 Tri Tryz.prog 80 #[.pointer (some ⟨lb, 0, none⟩), .agg (Wi k)] [T] (fun r S => r = .tuple #[] ∧ ∃ T', Lr lb most (iT k A B) B T' ∧ S = [T']) := by
 obtain ⟨u, v, H, G, hA, hB, rfl⟩ := hT;refine Tri.vN (Tri.forget (zm Tryz.Gu (Nat.le_of_ble_eq_true rfl) ?_));unfold Tryz.x80;obtain ⟨a, c, rfl⟩ := hA.isSlice;obtain ⟨a', c', rfl⟩ := hB.isSlice;refine ze (z8 ?_);refine zh (Zq rfl fun p3 => ?_);refine zf (za (ze (zW (zi (pP rfl) (zi (K9 rfl rfl) (zi (pB rfl) (zQ rfl (zi (pP rfl) (zQ rfl (zi (zG rfl) (zQ rfl (zi (zo rfl) (zQ rfl (Z4 rfl rfl (zQ rfl (WC rfl rfl ?_))))))))))))))));refine wu rfl ?_ zN;refine Zk (zk (oF hA (by omega) k) rfl rfl fun r S' h => ?_) zN;obtain ⟨rfl, rfl⟩ := h;refine ⟨by simp, ?_⟩;refine zQ rfl (zi (Zi rfl) (zi (zO rfl rfl) (zi (pB rfl) ?_)));by_cases h1 : k ∈ A
 ·rw [decide_eq_true h1];refine zV rfl (zV rfl (zV rfl (zV rfl (zV rfl ?_))));refine vK rfl ?_ zN;refine zV rfl (zi (zT rfl rfl) (zL (za (zA rfl (zu ?_)))));exact ZX wm ⟨_, zB.vC, rfl, _, by rw [iT, if_pos (.inl h1)]; exact Lr.mk hA hB, rfl⟩
 rw [decide_eq_false h1];refine zQ rfl (zi (pP rfl) (zQ rfl (zi (zG rfl) (zQ rfl (zi (zo rfl) (zQ rfl (Z4 rfl rfl (zQ rfl (WC rfl rfl ?_)))))))));refine wu rfl ?_ zN;refine zM (zk (oF hB (by omega) k) rfl rfl fun r S' h => ?_) zN;obtain ⟨rfl, rfl⟩ := h;refine zQ rfl (zi (Zi rfl) (zi (zO rfl rfl) (zL (za ?_))));by_cases h2 : k ∈ B
 ·rw [decide_eq_true h2];refine zA rfl (zu ?_);exact ZX wm ⟨_, zB.vC, rfl, _, by rw [iT, if_pos (.inr h2)]; exact Lr.mk hA hB, rfl⟩
 rw [decide_eq_false h2];refine zH rfl (zW (zi (pP rfl) (zi (pP rfl) (zi (zG rfl) (zi (zo rfl) (Z4 rfl rfl (WC rfl rfl ?_)))))));refine Zk (WX k rfl rfl (by decide) (by decide) rfl fun p30 => ⟨by simp, ?_⟩) zN;refine zM (VA (Y := [k]) rfl rfl hA (.lit (by repeat (first | exact List.mem_cons_self | apply List.mem_cons_of_mem)) rfl) rfl (⟨[], 0⟩ : Ky) rfl (by simp; omega) (by simp; omega) fun v2 H2 hL2 => ?_) zN;obtain ⟨a2, c2, rfl⟩ := hL2.isSlice;refine zi (zG rfl) (zi (zo rfl) ?_);refine zM (Jh rfl rfl (Ye rfl) ?_) zN;refine zL ?_;exact ZX wm ⟨_, zB.vC, rfl, _, by rw [iT, if_neg (by simp [h1, h2])]; exact Lr.mk hL2 hB, rfl⟩
/-- what Touch makes of both -/
def U6 (most : Int) (k : Ky) (A B : List Ky) : List Ky := if k ∈ A ∨ k ∈ B then (if most < ((B.erase k ++ [k]).length : Int) then A.erase k ++ (B.erase k ++ [k]).take 1 else A.erase k) else A
def U5 (most : Int) (k : Ky) (A B : List Ky) : List Ky := if k ∈ A ∨ k ∈ B then (if most < ((B.erase k ++ [k]).length : Int) then (B.erase k ++ [k]).eraseIdx 0 else B.erase k ++ [k]) else B
theorem fI {lb : Nat} {most : Int} {u v : Value} {A B : List Ky} {H G : List Chunk} (hA : Za 43 u A H) (hB : Za 43 v B G) (ha : A.length < 2 ^ 40 - 1) (hb : B.length < 2 ^ 40 - 1) (k : Ky) :
 Tri Tryz.prog 86 #[.pointer (some ⟨lb, 0, none⟩), .agg (Wi k)] [Xm lb most u v, H, G] (fun r S => r = .bool (decide (k ∈ A ∨ k ∈ B)) ∧ ∃ u' H' v' G', Za 43 u' (U6 most k A B) H' ∧ Za 43 v' (U5 most k A B) G' ∧ S = [Xm lb most u' v', H', G']) := by
 refine Tri.forget (zm Tryz.Gq (Nat.le_of_ble_eq_true rfl) ?_);unfold Tryz.Ir;refine ze (z8 ?_);refine zh (Zq rfl fun p3 => ?_);refine yp pC (zf (za (ze (ze (z8 (yp (pP rfl) ?_))))));refine zh (Zx rfl rfl ?_);refine zh (zk (Qi (lb := lb) (most := most) hA hB (by omega) (by omega) k) rfl rfl fun r S' h => ?_);obtain ⟨rfl, u1, H1, v1, G1, hA1, hB1, rfl⟩ := h;unfold U6 U5;by_cases hk : k ∈ A ∨ k ∈ B
 ·rw [show (decide (k ∈ A) || decide (k ∈ B)) = true from by rw [← Bool.decide_or]; exact decide_eq_true hk, decide_eq_true hk];rw [if_pos hk, if_pos hk];have hle : (B.erase k).length ≤ B.length := List.length_erase_le;have hla : (A.erase k).length ≤ A.length := List.length_erase_le;obtain ⟨a, c, rfl⟩ := hB1.isSlice;refine yp (Zi rfl) (zf (za (zA rfl (zu (za (ze (zW (zi (pP rfl) (zi (pP rfl) (zi (zG rfl) (zi (zo rfl) (Z4 rfl rfl (WC rfl rfl ?_)))))))))))));refine Zk (WX k rfl rfl (by decide) (by decide) rfl fun p15 => ⟨by simp, ?_⟩) zN;refine zM (VA (Y := [k]) rfl rfl hB1 (.lit (by repeat (first | exact List.mem_cons_self | apply List.mem_cons_of_mem)) rfl) rfl (⟨[], 0⟩ : Ky) rfl (by simp; omega) (by simp; omega) fun v2 G2 hB2 => ?_) zN;generalize hBB : B.erase k ++ [k] = BB at hB2;have hlen : BB.length = (B.erase k).length + 1 := by rw [← hBB]; simp
  obtain ⟨a2, c2, rfl⟩ := hB2.isSlice;obtain ⟨a1, c1, rfl⟩ := hA1.isSlice;refine zi (zG rfl) (zi (zo rfl) ?_);refine zM (Jg rfl rfl (Ye rfl) ?_) zN;refine zL (za (ze (ze (zW (zi (pP rfl) (zi (zG rfl) (zi (zo rfl) (Z4 rfl rfl (zi (ZC rfl) (zi (pP rfl) (zi (zG rfl) (zi (zo rfl) (Z4 rfl rfl (zi (VQ rfl rfl) (zL (za ?_))))))))))))))));by_cases hm : most < (BB.length : Int)
  ·rw [decide_eq_true hm, if_pos hm, if_pos hm];have h0 : 0 < BB.length := by omega
   obtain ⟨b2, sp2, fz2, hz2, rfl, _, rfl, rfl⟩ := hB2.at' (by intro h; simp [h] at h0);refine zH rfl (ze (zW (zi (pP rfl) (zi (pP rfl) (zi (zG rfl) (zi (zo rfl) (Z4 rfl rfl (zi (pP rfl) (zi (zG rfl) (zi (zo rfl) (Z4 rfl rfl (zi (zS rfl rfl (by omega)) (vV (l := enc BB[0]) rfl (wh (i := 0) h0 rfl) rfl ?_)))))))))))));refine Zk (WX BB[0] rfl rfl (by decide) (by decide) rfl fun p40 => ⟨by simp, ?_⟩) zN;refine zM (VA (Y := [BB[0]]) rfl rfl hA1 (.lit (by repeat (first | exact List.mem_cons_self | apply List.mem_cons_of_mem)) rfl) rfl (⟨[], 0⟩ : Ky) rfl (by simp; omega) (by simp; omega) fun v3 H3 hA3 => ?_) zN;obtain ⟨a3, c3, rfl⟩ := hA3.isSlice;refine zi (zG rfl) (zi (zo rfl) ?_);refine zM (Jh rfl rfl (Ye rfl) ?_) zN;refine zL (za (z8 (yp (pP rfl) (yp (pP rfl) (yp (zG rfl) (yp (zo rfl) ?_))))));refine zh (zC rfl rfl ?_);have hc : Tri Tryz.prog 127 #[.slice (some ⟨b2, 0, none⟩) BB.length (BB.length + sp2.length), .int .i64 0, .int .i64 1] _ _ := oH hB2 (by omega) (i := 0) (j := 1) h0 rfl;refine zh (zk hc rfl rfl fun r S' h => ?_);obtain ⟨G4, hB4, rfl⟩ := h;obtain ⟨a4, c4, rfl⟩ := hB4.isSlice;refine yp (zG rfl) (yp (zo rfl) ?_);refine zh (Jg rfl rfl (Ye rfl) ?_);refine zf (za (ze (z8 (yp pC (zf (za (zJ ?_)))))));have e1 : BB.take 1 = [BB[0]] := by
    cases BB with
    | nil => simp at h0
    | cons x l => rfl
   rw [e1];exact zI (rB rfl) ⟨_, .of, rfl, _, _, _, _, hA3, hB4, rfl⟩
  ·rw [decide_eq_false hm, if_neg hm, if_neg hm];refine zA rfl (zu (za (ze (z8 (yp pC (zf (za (zJ ?_))))))));exact zI (rB rfl) ⟨_, .of, rfl, _, _, _, _, hA1, hB2, rfl⟩
 ·rw [show (decide (k ∈ A) || decide (k ∈ B)) = false from by rw [← Bool.decide_or]; exact decide_eq_false hk, decide_eq_false hk];rw [if_neg hk, if_neg hk];rw [List.erase_of_not_mem (fun h => hk (.inl h))] at hA1;rw [List.erase_of_not_mem (fun h => hk (.inr h))] at hB1;refine yp (Zi rfl) (zf (za (zH rfl (ze (z8 (yp pC (zf (za (zJ (zU ?_))))))))));exact zI (rB rfl) ⟨_, .of, rfl, _, _, _, _, hA1, hB1, rfl⟩
theorem mY {lb : Nat} {most : Int} {A B : List Ky} {T : List Chunk} (hT : Lr lb most A B T) (ha : A.length < 2 ^ 40 - 1) (hb : B.length < 2 ^ 40 - 1) (k : Ky) :
 Tri Tryz.prog 86 #[.pointer (some ⟨lb, 0, none⟩), .agg (Wi k)] [T] (fun r S => r = .bool (decide (k ∈ A ∨ k ∈ B)) ∧ ∃ T', Lr lb most (U6 most k A B) (U5 most k A B) T' ∧ S = [T']) := by
 obtain ⟨u, v, H, G, hA, hB, rfl⟩ := hT;refine Tri.forget (Tri.vN ((fI hA hB ha hb k).mono fun r S ⟨h1, u', H', v', G', h2, h3, h4⟩ => ⟨[Xm lb most u' v' ++ H' ++ G'], ?_, h1, _, Lr.mk h2 h3, rfl⟩));subst h4;exact zB.vC
end Go.Proofs.YtejmbmenbailmaaGreat
namespace Go.Proofs.YtejmbmenbailmaaGreat
open Go.Xs
open Enc (enc)
theorem BO : Tryz.prog.underlying 66 = some (.slice 43) := by kernel_rfl
theorem G9 : Tryz.prog.underlying 3 = some (.int .i64) := by kernel_rfl
theorem BU : sizeOf? Tryz.prog 43 = some 2 := by kernel_rfl
theorem Ao : zero? Tryz.prog 43 = some [.string ⟨#[]⟩, .int .i64 0] := by kernel_rfl
theorem EX : bytes? Tryz.prog 43 = some 24 := by kernel_rfl
theorem sZ {n : Nat} (hn : n ≤ 1099511627776) : Tri Tryz.prog 171 #[.slice none 0 0, .int .i64 (n : Int)] [] (fun r S => ∃ H, Za 43 r ([] : List Ky) H ∧ S = [H]) := by
 refine Tri.forget (zm Tryz.Dz (Nat.le_of_ble_eq_true rfl) ?_);unfold Tryz.AP;refine ze (z8 (yp pC (zf (za (ze (ze (z8 (yp (pI rfl) (yp (ZO rfl rfl) (zf (za (zA rfl (zu (za (ze (ze (z8 (yp (pI rfl) (yp (pS rfl) (yp (Cy rfl) (yp (pS rfl) (yp (ZC rfl) (yp (ZI rfl rfl (by omega)) (yp (ZI rfl rfl (by omega)) (yp (pI rfl) (zf (za (ze (z8 (yp (pI rfl) (yp (VQ rfl rfl) (zf (za ?_)))))))))))))))))))))))))))))))));rcases Nat.eq_zero_or_pos n with rfl | hp
 ·refine zA rfl (zu (za (ze (z8 (yp (pS rfl) (yp (pS rfl) (zf (za (zJ ?_)))))))));exact zI (rS rfl) ⟨_, .of, _, .nil, rfl⟩
 rw [show ((n : Int) - (((0 : Nat) : Int) - ((0 : Nat) : Int))) = (n : Int) from by omega];rw [decide_eq_true (show (0 : Int) < n from by omega)];refine zH rfl (z8 (yp (pS rfl) (yp (pS rfl) (yp (Cy rfl) (yp (v := .slice none 0 0) rfl (yp (pI rfl) ?_))))));refine zh (Aq BO G9 BU Ao EX rfl rfl hp (by decide) (by omega) hn fun b M hM => ?_);refine yp (pS rfl) (yp (ZC rfl) (yp (dX (j := 0) rfl rfl (Nat.zero_le _)) (yp (pS rfl) (zf (za (ze (z8 (yp (pS rfl) (yp (pS rfl) (zf (za (zJ ?_))))))))))));refine zI (rS rfl) ⟨_, .of, [(b, .cells ((List.replicate M [.string ⟨#[]⟩, .int .i64 0]).flatten).toArray 43)], ?_, rfl⟩;have h := Za.of (ty := 43) (b := b) (L := ([] : List Ky)) (sp := List.replicate M (⟨[], 0⟩ : Ky));rw [vP (z := [.string ⟨#[]⟩, .int .i64 0]) M (⟨[], 0⟩ : Ky) rfl];simpa using h
def lG (A B : List Ky) : Nat → Int
 | 0 => 0
 | 1 => A.length
 | _ => A.length + B.length
theorem fJ {u v : Value} {A B : List Ky} {S : zw} {b : Nat} (hA : Src S u A) (hB : Src S v B) (ha : A.length < 2 ^ 36) (hb : B.length < 2 ^ 36) (hm : [(b, .cells #[u, v] 66)] ∈ S) :
 Tri Tryz.prog 150 #[.slice (some ⟨b, 0, none⟩) 2 2] S (fun r S' => ∃ H, Za 43 r (A ++ B) H ∧ S' = H :: S) := by
 refine Tri.forget (zm Tryz.DT (Nat.le_of_ble_eq_true rfl) ?_);unfold Tryz.x150;obtain ⟨a1, c1, rfl⟩ := hA.isSlice;obtain ⟨a2, c2, rfl⟩ := hB.isSlice;obtain ⟨f, hAt⟩ := At.Ke hm;refine ze (z8 (yp pC (zf (za (ze (z8 (yp pC (zf (za (ze (ze (z8 (yp (pS rfl) (yp (ZC rfl) (yp pC (zf (za (zq ?_))))))))))))))))));refine Z5 (σ := Nat) (fun i E S' => Has E [(0, .slice (some ⟨b, 0, none⟩) 2 2), (3, .int .i64 (lG A B i)), (9, .slice (some ⟨b, 0, none⟩) 2 2), (10, .int .i64 2), (11, .int .i64 i)] ∧ i ≤ 2 ∧ S' = S) (fun i => 2 - i) 0 ⟨⟨rfl, rfl, rfl, rfl, rfl, trivial⟩, Nat.zero_le _, rfl⟩ fun i E S' ⟨hE, hi, hS⟩ => ?_
 subst hS;obtain ⟨E0, e0⟩ := zx hE; subst e0; clear hE;refine ze (z8 (yp (ZO rfl rfl) (zf (za (ze ?_)))));refine zP rfl (fun h => ?_) (fun h => ?_)
 ·have h01 : i = 0 ∨ i = 1 := by omega
  rcases h01 with rfl | rfl
  ·rw [show lG A B 0 = 0 from rfl];refine zu (za (ze (zq (ze (z8 (yp (zS rfl rfl (by omega)) ?_))))));refine zh (zC rfl rfl ?_);refine yp (pS rfl) (zf (za (ze (z8 (yp (pI rfl) (yp (pS rfl) (yp (ZC rfl) (yp (vW rfl rfl (by omega)) (yp (pI rfl) (zf (za (ze (z8 (yp (pI rfl) (yp (ZO rfl rfl) (zf (za (zA rfl (zu (zR (za (z8 (yp (Ze rfl rfl (by omega)) (yp (pI rfl) (zf (za ?_))))))))))))))))))))))))));refine ⟨1, ⟨⟨rfl, ?_, rfl, rfl, rfl, trivial⟩, by omega, rfl⟩, by omega⟩;show Value.int .i64 (0 + (A.length : Int)) = .int .i64 (A.length : Int);rw [Int.zero_add]
  ·rw [show lG A B 1 = A.length from rfl];refine zu (za (ze (zq (ze (z8 (yp (zS rfl rfl (by omega)) ?_))))));refine zh (zC rfl rfl ?_);refine yp (pS rfl) (zf (za (ze (z8 (yp (pI rfl) (yp (pS rfl) (yp (ZC rfl) (yp (Zo rfl rfl (by omega)) (yp (pI rfl) (zf (za (ze (z8 (yp (pI rfl) (yp (ZO rfl rfl) (zf (za (zA rfl (zu (zR (za (z8 (yp (Ze rfl rfl (by omega)) (yp (pI rfl) (zf (za ?_))))))))))))))))))))))))));exact ⟨2, ⟨⟨rfl, rfl, rfl, rfl, rfl, trivial⟩, by omega, rfl⟩, by omega⟩
 obtain rfl : i = 2 := by omega
 rw [show lG A B 2 = ((A.length + B.length : Nat) : Int) from by show (A.length : Int) + B.length = _; omega];refine zX (zF (zF (zZ (za (ze (z8 (yp (pI rfl) ?_)))))));refine zh (zk (sZ (n := A.length + B.length) (by omega)) rfl rfl fun r S' h => ?_);obtain ⟨H, hL, rfl⟩ := h;obtain ⟨a3, c3, rfl⟩ := hL.isSlice;refine yp (pS rfl) (zf (za (ze (ze (z8 (yp (pS rfl) (yp (ZC rfl) (yp pC (zf (za (zq ?_)))))))))));refine Z5 (σ := Nat) (fun i E S'' => Has E [(25, .slice (some ⟨b, 0, none⟩) 2 2), (26, .int .i64 2), (27, .int .i64 i)] ∧ i ≤ 2 ∧ ∃ v H, Za 43 v (([A, B].take i).flatten) H ∧ E 6 = v ∧ S'' = H :: S') (fun i => 2 - i) 0 ⟨⟨rfl, rfl, rfl, trivial⟩, Nat.zero_le _, _, _, hL, rfl, rfl⟩ fun i E S'' ⟨hE, hi, v1, H1, hL1, hE6, hS⟩ => ?_
 subst hS;obtain ⟨a4, c4, rfl⟩ := hL1.isSlice;have hE2 : Has E [(6, .slice a4 ([A, B].take i).flatten.length c4), (25, .slice (some ⟨b, 0, none⟩) 2 2), (26, .int .i64 2), (27, .int .i64 i)] := ⟨hE6, hE⟩
 obtain ⟨E0, e0⟩ := zx hE2; subst e0; clear hE2;refine ze (z8 (yp (ZO rfl rfl) (zf (za (ze ?_)))));refine zP rfl (fun h => ?_) (fun h => ?_)
 ·have h01 : i = 0 ∨ i = 1 := by omega
  rcases h01 with rfl | rfl
  ·refine zu (za (ze (zq (ze (z8 (yp (zS rfl rfl (by omega)) ?_))))));refine zh (zC rfl rfl ?_);refine yp (pS rfl) (zf (za (z8 (yp (pS rfl) (yp (pS rfl) ?_)))));refine zh (VA (Y := A) rfl rfl hL1 (Src.mono hA fun s hs => ?_) rfl (⟨[], 0⟩ : Ky) rfl (by simp; omega) (by simp; omega) fun v2 H2 hL2 => ?_)
   ·exact List.mem_cons_of_mem _ hs
   obtain ⟨a2, c2, rfl⟩ := hL2.isSlice;refine yp (pS rfl) (zf (zR (za (z8 (yp (Ze rfl rfl (by omega)) (yp (pI rfl) (zf (za ?_))))))));exact ⟨1, ⟨⟨rfl, rfl, rfl, trivial⟩, by omega, .slice a2 (([A, B].take 0).flatten ++ A).length c2, H2, by simpa using hL2, rfl, rfl⟩, by omega⟩
  ·refine zu (za (ze (zq (ze (z8 (yp (zS rfl rfl (by omega)) ?_))))));refine zh (zC rfl rfl ?_);refine yp (pS rfl) (zf (za (z8 (yp (pS rfl) (yp (pS rfl) ?_)))));refine zh (VA (Y := B) rfl rfl hL1 (Src.mono hB fun s hs => ?_) rfl (⟨[], 0⟩ : Ky) rfl (by simp; omega) (by simp; omega) fun v2 H2 hL2 => ?_)
   ·exact List.mem_cons_of_mem _ hs
   obtain ⟨a2, c2, rfl⟩ := hL2.isSlice;refine yp (pS rfl) (zf (zR (za (z8 (yp (Ze rfl rfl (by omega)) (yp (pI rfl) (zf (za ?_))))))));exact ⟨2, ⟨⟨rfl, rfl, rfl, trivial⟩, by omega, .slice a2 (([A, B].take 1).flatten ++ B).length c2, H2, by simpa using hL2, rfl, rfl⟩, by omega⟩
 obtain rfl : i = 2 := by omega
 refine zX (zF (zF (zZ (za (ze (z8 (yp (pS rfl) (yp (pS rfl) (zf (za (zJ ?_)))))))))));exact zI (rS rfl) ⟨_, .self, _, by simpa using hL1, rfl⟩
theorem mZ {p : Option Addr} : Tri Tryz.prog 124 #[.pointer p] [] (fun r S => ∃ bl, r = .func (.func 149) #[] #[.pointer (some ⟨bl, 0, none⟩)] ∧ S = [[(bl, .cells #[.pointer p] 128)]]) := by
 refine Tri.forget (zm Tryz.Ep (Nat.le_of_ble_eq_true rfl) ?_);unfold Tryz.Bu;refine ze (z8 ?_);refine zh (iU (Jb rfl) fun p1 => ?_);refine yp pC (zf (za (ze (z8 (yp (eD (Jb rfl)) (yp (pF rfl) (zf (za (zJ ?_)))))))));exact zI (rF rfl) ⟨_, .of, _, rfl, rfl⟩
def iW (k : Ky) : Array Value := #[.agg (Wi k)]
theorem aB {bl lb : Nat} {most : Int} {A B : List Ky} {T0 : List Chunk} {S0 : zw} (hT : Lr lb most A B T0) (ha : A.length < 2 ^ 36) (hb : B.length < 2 ^ 36) :
 Y6 Tryz.prog 149 #[] #[.pointer (some ⟨bl, 0, none⟩)] [[(bl, .cells #[.pointer (some ⟨lb, 0, none⟩)] 128)]] (T0 :: S0)
  (fun pre x => pre ++ [x] <+: (A ++ B).map iW) (fun xs => xs = (A ++ B).map iW) := by
 obtain ⟨u, v, H, G, hA, hB, rfl⟩ := hT;intro l c J Jx hJ0 hround;have e0 : (#[] ++ #[.func (.yield l) #[] #[]] ++ #[.pointer (some ⟨bl, 0, none⟩)] : Array Value) = #[.func (.yield l) #[] #[], .pointer (some ⟨bl, 0, none⟩)] := rfl;rw [e0];refine Tri.forget (zm Tryz.DU (Nat.le_of_ble_eq_true rfl) ?_);unfold Tryz.AX;refine zn (zB.pm (S2 := [c] :: [(bl, .cells #[.pointer (some ⟨lb, 0, none⟩)] 128)] :: Xm lb most u v :: H :: G :: S0) (by simp)) ?_;obtain ⟨a0, c0, rfl⟩ := hA.isSlice;obtain ⟨a1, c1, rfl⟩ := hB.isSlice;refine ze (ze (z8 ?_));refine zh (zC rfl rfl ?_);refine yp (ZN rfl rfl) (zf (za (zA rfl (zu (za (ze (zW (Z4 rfl rfl (zi (zG rfl) (zi (zo rfl) (Z4 rfl rfl (Z4 rfl rfl (zi (zG rfl) (zi (zo rfl) (Z4 rfl rfl (zi pC ?_))))))))))))))));refine zM (bL (l := [.slice a0 A.length c0, .slice a1 B.length c1]) rfl (by decide) (by decide) (by decide) rfl fun p15 => ?_) zN;refine zM (zk (fJ (S := [[(p15, .cells #[.slice a0 A.length c0, .slice a1 B.length c1] 66)], H, G]) (b := p15) (hA.src (by simp)) (hB.src (by simp)) ha hb (by simp)) rfl rfl fun r S' h => ?_) zN;obtain ⟨H1, hL1, rfl⟩ := h;obtain ⟨a2, c2, rfl⟩ := hL1.isSlice;generalize hR : A ++ B = R at hL1 hround ⊢;have hRl : R.length < 2 ^ 39 := by rw [← hR, List.length_append]; omega
 refine zi (ZC rfl) (zL (za (zq ?_)));refine Z5 (σ := Nat) (fun i E S => Has E [(0, .func (.yield l) #[] #[]), (16, .slice a2 R.length c2), (17, .int .i64 R.length), (18, .int .i64 i)] ∧ i ≤ R.length ∧ ∃ T, J ((R.take i).map iW) T ∧ zB S (H1 :: T)) (fun i => R.length - i) 0 ⟨⟨rfl, rfl, rfl, rfl, trivial⟩, Nat.zero_le _, [c] :: (Xm lb most (.slice a0 A.length c0) (.slice a1 B.length c1) ++ H ++ G) :: S0, hJ0, (zB.re (S1 := H1 :: [c] :: Xm lb most (.slice a0 A.length c0) (.slice a1 B.length c1) :: H :: G :: S0) (by simp))⟩ fun i E S ⟨hE, hi, T, hJ, hK⟩ => ?_
 obtain ⟨E0, e0⟩ := zx hE; subst e0; clear hE;refine zn hK (ze (z8 (yp (ZO rfl rfl) (zf (za (ze ?_))))));refine zP rfl (fun h => ?_) (fun h => ?_)
 ·have hlt : i < R.length := by omega
  obtain ⟨bb, sp, fz, hz, rfl, hm, hc, rfl⟩ := hL1.at' (by intro h; simp [h] at hlt);have htk : R.take (i + 1) = R.take i ++ [R[i]] := by rw [List.take_add_one, List.getElem?_eq_getElem hlt]; rfl
  refine zu (za (ze (zq (ze (z8 (yp (zS rfl rfl (by omega)) ?_))))));refine zh (ZU (l := enc R[i]) rfl (wh hlt rfl) rfl ?_);refine zh (Zf fun p4 => ?_);refine zh (vM rfl rfl rfl rfl rfl ?_);refine zf (za (ze (z8 (yp (pF rfl) ?_))));refine zh (Zx rfl rfl ?_);have hV : (R.take i).map iW ++ [iW R[i]] <+: R.map iW := by
   have e1 : (R.take i).map iW ++ [iW R[i]] = (R.take (i + 1)).map iW := by rw [htk, List.map_append]; rfl
   rw [e1];exact List.IsPrefix.map iW (List.take_prefix _ _)
  refine zh (Xr (hround _ _ T hV hJ) rfl rfl fun b T' h => ?_);rcases h with ⟨rfl, hJ'⟩ | ⟨rfl, hJx⟩
  ·refine yp (Zi rfl) (zf (za (zA rfl (zu (zR (za (z8 (yp (Ze rfl rfl (by omega)) (yp (pI rfl) (zf (za ?_)))))))))));refine ⟨i + 1, ⟨⟨rfl, rfl, rfl, rfl, trivial⟩, by omega, T', ?_, .of⟩, by omega⟩;rw [htk, List.map_append]; exact hJ'
  ·refine yp (Zi rfl) (zf (za (zH rfl (zJ (bret (zU (zU (bret ?_))))))));exact zI wm ⟨T', .of, .inr ⟨_, hJx⟩⟩
 ·refine zX (zF (zF (zZ ?_)));refine ZX wm ⟨T, .of, .inl ⟨_, ?_, hJ⟩⟩;rw [List.take_of_length_le (by omega)]
end Go.Proofs.YtejmbmenbailmaaGreat
namespace Go.Proofs.YtejmbmenbailmaaGreat
open Go.Xs
open Enc (enc)
structure De where
 k : Ky
 at_ : Int
abbrev Ih (e : De) : Array Value := #[.string ⟨e.k.n.toArray⟩, .int .i64 e.k.t, .int .i64 e.at_]
instance : Enc De := ⟨fun e => [.string ⟨e.k.n.toArray⟩, .int .i64 e.k.t, .int .i64 e.at_], 3, fun _ => rfl, fun _ => rfl⟩
/-- by their times -/
theorem CW (a b : De) : Tri Tryz.prog 131 #[.agg (Ih a), .agg (Ih b)] [] (fun r S => r = .int .i64 (q9 a.at_ b.at_) ∧ S = []) := by
 refine Tri.forget (zm Tryz.Ef (Nat.le_of_ble_eq_true rfl) ?_);unfold Tryz.Bl;refine ze (z8 ?_);refine zh (Zq rfl fun p2 => ?_);refine zh (Zq rfl fun p3 => ?_);refine yp pC (zf (za (ze (z8 (yp (zo rfl) ?_)))));refine zh (zC rfl rfl ?_);refine yp (zo rfl) ?_;refine zh (zC rfl rfl ?_);refine zh (zk (iw a.at_ b.at_) rfl rfl fun v S' h => ?_);obtain ⟨rfl, rfl⟩ := h;refine yp (pI rfl) (zf (za (zJ ?_)));exact zI (rI rfl) ⟨_, .of, rfl, rfl⟩
/-- is it this key? -/
theorem Gf (e : De) (b : Nat) (k : Ky) (t : TypeId) (fz : Nat × Nat) : Tri Tryz.prog 170 #[.agg (Ih e), .pointer (some ⟨b, 0, none⟩)] [[(b, .cells (Wi k) t fz)]] (fun r S => r = .bool (decide (e.k = k)) ∧ S = [[(b, .cells (Wi k) t fz)]]) := by
 refine Tri.forget (zm Tryz.DC (Nat.le_of_ble_eq_true rfl) ?_);unfold Tryz.AQ;refine ze (z8 ?_);refine zh (Zq rfl fun p2 => ?_);refine yp pC (zf (za (ze (z8 (yp (zo rfl) ?_)))));refine zh (ZU (l := [.string ⟨e.k.n.toArray⟩, .int .i64 e.k.t]) rfl rfl rfl ?_);refine zh (Zx rfl rfl ?_);refine yp (mI (a := e.k) (b := k) rfl rfl) (yp (pB rfl) (zf (za (zJ ?_))));exact zI (rB rfl) ⟨_, .of, rfl, rfl⟩
def idx (k : Ky) : List De → Option Nat
 | [] => none
 | e :: l => if e.k = k then some 0 else (idx k l).map (· + 1)
theorem gq {k : Ky} : ∀ {l : List De} {i : Nat}, idx k l = some i → i < l.length
 | e :: l, i, h => by
  unfold idx at h;split at h
  ·simp at h; subst h; simp
  ·cases h' : idx k l with
   | none => simp [h'] at h
   | some j => simp [h'] at h; have := gq h'; subst h; simp; omega
/-- where a key stands -/
theorem CU (v : Value) (L : List De) (H : List Chunk) (hL : Za 191 v L H) (hlen : L.length < 2 ^ 40) (kb : Nat) (k : Ky) (t : TypeId) (fz : Nat × Nat) :
 Tri Tryz.prog 169 #[v, .func (.func 170) #[] #[.pointer (some ⟨kb, 0, none⟩)]] [H, [(kb, .cells (Wi k) t fz)]] (fun r S => r = fV (idx k L) ∧ S = [H, [(kb, .cells (Wi k) t fz)]]) := by
 refine Tri.forget (zm Tryz.DF (Nat.le_of_ble_eq_true rfl) ?_);unfold Tryz.AU;obtain ⟨a, c, rfl⟩ := hL.isSlice;refine ze (z8 (yp pC (zf (za (ze (ze (z8 (yp (pS rfl) (yp (ZC rfl) (yp pC (zf (za (zq ?_)))))))))))));refine Z5 (σ := Nat) (fun i E S => Has E [(0, .slice a L.length c), (1, .func (.func 170) #[] #[.pointer (some ⟨kb, 0, none⟩)]), (7, .int .i64 L.length), (8, .int .i64 i)] ∧ i ≤ L.length ∧ (idx k L = (idx k (L.drop i)).map (· + i)) ∧ zB S [H, [(kb, .cells (Wi k) t fz)]]) (fun i => L.length - i) 0 ⟨⟨rfl, rfl, rfl, rfl, trivial⟩, Nat.zero_le _, by simp, .self⟩ fun i E S ⟨hE, hi, hx, hS⟩ => ?_
 obtain ⟨E0, e0⟩ := zx hE; subst e0; clear hE;refine zn hS (ze (z8 (yp (ZO rfl rfl) (zf (za (ze ?_))))));refine zP rfl (fun h => ?_) (fun h => ?_)
 ·have hlt : i < L.length := by omega
  have hd : L.drop i = L[i] :: L.drop (i + 1) := List.drop_eq_getElem_cons hlt;refine zu (za (ze (zq (ze (z8 (yp (pI rfl) (yp (pI rfl) (zf (za (ze (z8 (yp (pF rfl) (yp (pS rfl) (yp (pI rfl) ?_))))))))))))));obtain ⟨b, sp, fz2, hz, rfl, _, rfl, rfl⟩ := hL.at' (by intro h; simp [h] at hlt);refine yp (zS rfl rfl (by omega)) ?_;refine zh (ZU (l := enc L[i]) rfl (wh hlt rfl) rfl ?_);refine zh (zk (Gf L[i] kb k t fz) rfl rfl fun v S' h => ?_);obtain ⟨rfl, rfl⟩ := h;refine zf (za ?_);refine zP rfl (fun h2 => ?_) (fun h2 => ?_)
  ·refine ze (z8 (yp (pI rfl) (yp (pI rfl) (zf (za (zJ (bret (zU (zU (bret (zU ?_)))))))))));exact zI (rI rfl) ⟨_, .of, by rw [hx, hd, idx, if_pos h2]; simp [fV], rfl⟩
  ·refine zu (zR (za (z8 (yp (Ze rfl rfl (by omega)) (yp (pI rfl) (zf (za ?_)))))));refine ⟨i + 1, ⟨⟨rfl, rfl, rfl, rfl, trivial⟩, by omega, ?_, .of⟩, by omega⟩;rw [hx, hd, idx, if_neg h2, Option.map_map];congr 1;funext x;simp; omega
 ·refine zX (zF (zF (zZ (za (ze (z8 (yp pC (zf (za (zJ ?_))))))))));have : L.drop i = [] := List.drop_eq_nil_of_le (by omega);exact zI (rI rfl) ⟨_, .of, by rw [hx, this]; rfl, rfl⟩
theorem ng (db : Nat) (dt : TypeId) (dfz : Nat × Nat) (v : Value) (L : List De) (H : List Chunk) (hL : Za 191 v L H) (hlen : L.length < 2 ^ 40) (k : Ky) :
 Tri Tryz.prog 147 #[.pointer (some ⟨db, 0, none⟩), .agg (Wi k)] [[(db, .cells #[v] dt dfz)], H] (fun r S => r = fV (idx k L) ∧ S = [[(db, .cells #[v] dt dfz)], H]) := by
 refine Tri.forget (zm Tryz.DW (Nat.le_of_ble_eq_true rfl) ?_);unfold Tryz.AY;obtain ⟨a, c, rfl⟩ := hL.isSlice;refine ze (z8 ?_);refine zh (Zq rfl fun p3 => ?_);refine yp pC (zf (za (ze (ze (z8 (yp (pP rfl) (yp (ZN rfl rfl) (zf (za (zA rfl (zu (za (ze (z8 (yp (pP rfl) (yp (zG rfl) (yp (zo rfl) ?_)))))))))))))))));refine zh (zC rfl rfl ?_);refine yp (eD (Jb rfl)) ?_;refine zh (zk (CU _ L H hL hlen p3 k 43 (0, 0)) rfl rfl fun v S' h => ?_);obtain ⟨rfl, rfl⟩ := h;refine yp (pI rfl) (zf (za (zJ ?_)));exact zI (rI rfl) ⟨_, .of, rfl, rfl⟩
theorem CV {v : Value} {L : List De} {H : List Chunk} (hL : Za 191 v L H) (hlen : L.length < 2 ^ 40) {i j : Nat} (hi : i < L.length) (hj : j = i + 1) :
 Tri Tryz.prog 148 #[v, .int .i64 (i : Int), .int .i64 (j : Int)] [H] (fun r S => ∃ H', Za 191 r (L.eraseIdx i) H' ∧ S = [H']) :=
 yO Tryz.DV rfl (⟨⟨[], 0⟩, 0⟩ : De) rfl hL hlen hi hj
def Vn (k : Ky) (L : List De) : List De := match idx k L with | some i => L.eraseIdx i | none => L
def aH (k : Ky) (L : List De) : Bool := (idx k L).isSome
theorem Kv (k : Ky) (L : List De) : (Vn k L).length ≤ L.length := by
 unfold Vn;split
 ·rw [List.length_eraseIdx]; split <;> omega
 ·exact Nat.le_refl _
theorem Ql {db : Nat} {v : Value} {L : List De} {H : List Chunk} (hL : Za 191 v L H) (hlen : L.length < 2 ^ 40) (k : Ky) :
 Tri Tryz.prog 123 #[.pointer (some ⟨db, 0, none⟩), .agg (Wi k)] [[(db, .cells #[v] 186)], H] (fun r S => r = .bool (aH k L) ∧ ∃ v' H', Za 191 v' (Vn k L) H' ∧ S = [[(db, .cells #[v'] 186)], H']) := by
 refine Tri.forget (zm Tryz.Er (Nat.le_of_ble_eq_true rfl) ?_);unfold Tryz.Bv;refine ze (z8 ?_);refine zh (Zq rfl fun p3 => ?_);refine yp pC (zf (za (ze (z8 (yp (pP rfl) ?_)))));refine zh (Zx rfl rfl ?_);refine zh (zk (ng db 186 (0, 0) v L H hL hlen k) rfl rfl fun r S' h => ?_);obtain ⟨rfl, rfl⟩ := h;cases h : idx k L with
 | none =>
  have h1 : aH k L = false := by simp [aH, h]
  have h2 : Vn k L = L := by simp [Vn, h]
  rw [h1, h2];simp only [fV];refine yp (pI rfl) (zf (za (ze (ze (z8 (yp (pI rfl) (yp (ZO rfl rfl) (zf (za (zH rfl (ze (z8 (yp pC (zf (za (zJ (zU ?_)))))))))))))))));exact zI (rB rfl) ⟨_, .of, rfl, _, _, hL, rfl⟩
 | some i =>
  have h1 : aH k L = true := by simp [aH, h]
  have h2 : Vn k L = L.eraseIdx i := by simp [Vn, h]
  have hi := gq h;rw [h1, h2];simp only [fV];refine yp (pI rfl) (zf (za (ze (ze (z8 (yp (pI rfl) (yp (ZO rfl rfl) (zf (za (zA rfl (zu (za (ze (z8 (yp (pP rfl) (yp (pP rfl) (yp (zG rfl) (yp (zo rfl) ?_))))))))))))))))));refine zh (zC rfl rfl ?_);refine yp (pI rfl) (yp (pI rfl) (yp (Ze rfl rfl (by omega)) ?_));obtain ⟨a, c, rfl⟩ := hL.isSlice
  skip
  refine zh (zk (CV hL hlen hi rfl) rfl rfl fun r S' h => ?_);obtain ⟨H', hL', rfl⟩ := h;obtain ⟨a', c', rfl⟩ := hL'.isSlice;refine yp (zG rfl) (yp (zo rfl) ?_);refine zh (ZJ rfl rfl (Ye rfl) ?_);refine zf (za (ze (z8 (yp pC (zf (za (zJ ?_)))))));exact zI (rB rfl) ⟨_, .of, rfl, _, _, hL', rfl⟩
theorem tH : Tri Tryz.prog 74 #[] [] (fun r S => ∃ db, r = .pointer (some ⟨db, 0, none⟩) ∧ S = [[(db, .cells #[.slice none 0 0] 186)]]) := by
 refine Tri.forget (zm Tryz.GA (Nat.le_of_ble_eq_true rfl) ?_);unfold Tryz.II;refine ze (z8 (yp pC (zf (za (ze (z8 (yp VY ?_)))))));refine zh (Zq rfl fun p2 => ?_);refine yp (pP rfl) (zf (za (zJ ?_)));exact zI (rP rfl) ⟨_, .of, _, rfl, rfl⟩
theorem tF {db : Nat} {v : Value} {L : List De} {H : List Chunk} (hL : Za 191 v L H) (hlen : L.length < 2 ^ 40 - 1) (k : Ky) (t : Int) :
 Tri Tryz.prog 81 #[.pointer (some ⟨db, 0, none⟩), .agg (Wi k), .int .i64 t] [[(db, .cells #[v] 186)], H] (fun r S => r = .tuple #[] ∧ ∃ v' H', Za 191 v' (Vn k L ++ [(⟨k, t⟩ : De)]) H' ∧ S = [[(db, .cells #[v'] 186)], H']) := by
 refine Tri.forget (zm Tryz.Gt (Nat.le_of_ble_eq_true rfl) ?_);unfold Tryz.Iy;refine ze (z8 ?_);refine zh (Zq rfl fun p4 => ?_);refine zf (za (ze (ze (z8 (yp (pP rfl) (yp (ZN rfl rfl) (zf (za (zA rfl (zu (za (ze (z8 (yp (pP rfl) ?_))))))))))))));refine zh (Zx rfl rfl ?_);refine zh (zk (Ql hL (by omega) k) rfl rfl fun r S' h => ?_);obtain ⟨rfl, v1, H1, hL1, rfl⟩ := h;refine zf (za (zW (zi (pP rfl) (zi (pP rfl) (zi (zG rfl) (zi (zo rfl) (Z4 rfl rfl (WC rfl rfl (zi (pI rfl) ?_)))))))));obtain ⟨a, c, rfl⟩ := hL1.isSlice
 skip
 refine zi (v := .agg #[.string ⟨k.n.toArray⟩, .int .i64 k.t, .int .i64 t]) rfl ?_;refine Zk (WX (⟨k, t⟩ : De) rfl rfl (by decide) (by decide) rfl fun p19 => ⟨by simp, ?_⟩) zN;have hdl := Kv k L;refine zM (VA (Y := [(⟨k, t⟩ : De)]) rfl rfl hL1 (.lit (by repeat (first | exact List.mem_cons_self | apply List.mem_cons_of_mem)) rfl) rfl (⟨⟨[], 0⟩, 0⟩ : De) rfl (by simp; omega) (by simp; omega) fun v2 H2 hL2 => ?_) zN;obtain ⟨a2, c2, rfl⟩ := hL2.isSlice;refine zi (zG rfl) (zi (zo rfl) ?_);refine zM (ZJ rfl rfl (Ye rfl) ?_) zN;refine zL ?_;exact ZX wm ⟨_, .of, rfl, _, _, hL2, rfl⟩
theorem nu {v : Value} {L : List De} {H : List Chunk} (hL : Za 191 v L H) (hlen : L.length < 2 ^ 40) :
 Tri Tryz.prog 129 #[v] [H] (fun r S => ∃ H', Za 191 r L H' ∧ S = [H', H]) := by
 refine Tri.forget (zm Tryz.Ei (Nat.le_of_ble_eq_true rfl) ?_);unfold Tryz.Bo;rcases hL.inv with ⟨rfl, rfl, rfl⟩ | ⟨b, sp, fz, hz, rfl, rfl⟩
 ·refine ze (z8 (yp pC (zf (za (ze (ze (z8 (yp (pS rfl) (yp (Q9 rfl rfl) (zf (za (zH rfl (ze (z8 (yp pC (zf (za (zJ (zU ?_)))))))))))))))))));exact zI (rS rfl) ⟨_, .of, _, .nil, rfl⟩
 ·refine ze (z8 (yp pC (zf (za (ze (ze (z8 (yp (pS rfl) (yp (Q9 rfl rfl) (zf (za (zA rfl (zu (za (ze (z8 ?_))))))))))))))));refine zh (nU fun p5 => ?_);refine yp (pS rfl) ?_;refine zh (VA rfl rfl Za.empty (hL.src (by repeat (first | exact List.mem_cons_self | apply List.mem_cons_of_mem))) rfl (⟨⟨[], 0⟩, 0⟩ : De) rfl (by simp; omega) (by simp; omega) fun v2 H2 hL2 => ?_);obtain ⟨a2, c2, rfl⟩ := hL2.isSlice;refine yp (pS rfl) (zf (za (zJ ?_)));exact zI (rS rfl) ⟨_, .of, _, hL2, rfl⟩
def Ua (e : De) : Int := e.at_
theorem tu {v : Value} {L : List De} {H : List Chunk} (hL : Za 191 v L H) (hlen : L.length < 2 ^ 38) {n : Nat} (hn : n = L.length) :
 Tri Tryz.prog 152 #[v, .int .i64 (n : Int), .func (.func 131) #[] #[]] [H] (fun r S => r = .tuple #[] ∧ ∃ L' H', SS Ua L L' ∧ L'.length = L.length ∧ Za 191 v L' H' ∧ S = [H']) :=
 j3 Tryz.DN Tryz.Dy Tryz.Dx Tryz.Di Tryz.Dc rfl Ua (fun a b => (CW a b).mono fun _ _ ⟨h1, h2⟩ => ⟨⟨_, h1, Qy _ _⟩, h2⟩) hL hlen hn
theorem tC {v : Value} {L : List De} {H : List Chunk} (hL : Za 191 v L H) (hlen : L.length < 2 ^ 38) :
 Tri Tryz.prog 130 #[v, .func (.func 131) #[] #[]] [H] (fun r S => r = .tuple #[] ∧ ∃ L' H', SS Ua L L' ∧ L'.length = L.length ∧ Za 191 v L' H' ∧ S = [H']) := by
 refine Tri.forget (zm Tryz.Eh (Nat.le_of_ble_eq_true rfl) ?_);unfold Tryz.Bn;obtain ⟨a0, c0, rfl⟩ := hL.isSlice;refine z8 (yp (pS rfl) (yp (pS rfl) (yp (ZC rfl) (yp (pF rfl) ?_))));refine zh (zk (tu hL hlen rfl) rfl rfl fun v S' h => ?_);obtain ⟨rfl, L2, H2, hS2, hl2, hL2, rfl⟩ := h;refine zf ?_;exact ZX wm ⟨_, .of, rfl, _, _, hS2, hl2, hL2, rfl⟩
/-- those whose time has come, in their order -/
def upto (at_ : Int) (L : List De) : List De := (Xe Ua L).filter fun e => decide (Ua e ≤ at_)
def bB (e : De) : Array Value := #[.agg (Wi e.k), .int .i64 e.at_]
theorem fP {p : Option Addr} {at_ : Int} : Tri Tryz.prog 87 #[.pointer p, .int .i64 at_] [] (fun r S => ∃ bd ba, r = .func (.func 128) #[] #[.pointer (some ⟨bd, 0, none⟩), .pointer (some ⟨ba, 0, none⟩)] ∧ S = [[(bd, .cells #[.pointer p] 130)], [(ba, .cells #[.int .i64 at_] 3)]]) := by
 refine Tri.forget (zm Tryz.Gp (Nat.le_of_ble_eq_true rfl) ?_);unfold Tryz.Iq;refine ze (z8 ?_);refine zh (iU (Jb rfl) fun p2 => ?_);refine zh (iU (Uf rfl) fun p3 => ?_);refine yp pC (zf (za (ze (z8 (yp (Cu (Jb rfl) (Jb rfl)) (yp (pF rfl) (zf (za (zJ ?_)))))))));exact zI (rF rfl) ⟨_, .of, _, _, rfl, rfl⟩
/-- all of it as one piece of memory -/
abbrev JV (db : Nat) (v : Value) : List Chunk := [(db, .cells #[v] 186)]
def Du (db : Nat) (L : List De) (T : List Chunk) : Prop := ∃ v H, Za 191 v L H ∧ T = JV db v ++ H
theorem Du.mk {db : Nat} {v : Value} {L : List De} {H : List Chunk} (h : Za 191 v L H) : Du db L (JV db v ++ H) := ⟨v, H, h, rfl⟩
theorem zB.j2 {S : zw} {a b : List Chunk} {G : zw} [h : Sub S [a, b] G] : zB S [a ++ b] := zB.trans (zB.of (h := h)) ⟨[], by simp⟩
theorem Tri.s2 {P : Program} {f : FuncId} {args : Array Value} {a b : List Chunk} {S0 : zw} {R : Value → zw → Prop} (h : Tri P f args (a :: b :: S0) R) : Tri P f args ((a ++ b) :: S0) R := h.perm (by simp)
theorem CQ : Tri Tryz.prog 74 #[] [] (fun r S => ∃ db T, r = .pointer (some ⟨db, 0, none⟩) ∧ Du db [] T ∧ S = [T]) :=
 tH.mono fun r S ⟨db, h1, h2⟩ => ⟨db, _, h1, Du.mk .nil, by rw [h2]; rfl⟩
theorem tJ {db : Nat} {L : List De} {T : List Chunk} (hT : Du db L T) (hlen : L.length < 2 ^ 40) (k : Ky) :
 Tri Tryz.prog 123 #[.pointer (some ⟨db, 0, none⟩), .agg (Wi k)] [T] (fun r S => r = .bool (aH k L) ∧ ∃ T', Du db (Vn k L) T' ∧ S = [T']) := by
 obtain ⟨v, H, hL, rfl⟩ := hT;refine Tri.forget (Tri.s2 ((Ql hL hlen k).mono fun r S ⟨h1, v', H', h2, h3⟩ => ⟨[JV db v' ++ H'], ?_, h1, _, Du.mk h2, rfl⟩));subst h3;exact zB.j2
theorem CP {db : Nat} {L : List De} {T : List Chunk} (hT : Du db L T) (hlen : L.length < 2 ^ 40 - 1) (k : Ky) (t : Int) :
 Tri Tryz.prog 81 #[.pointer (some ⟨db, 0, none⟩), .agg (Wi k), .int .i64 t] [T] (fun r S => r = .tuple #[] ∧ ∃ T', Du db (Vn k L ++ [(⟨k, t⟩ : De)]) T' ∧ S = [T']) := by
 obtain ⟨v, H, hL, rfl⟩ := hT;refine Tri.forget (Tri.s2 ((tF hL hlen k t).mono fun r S ⟨h1, v', H', h2, h3⟩ => ⟨[JV db v' ++ H'], ?_, h1, _, Du.mk h2, rfl⟩));subst h3;exact zB.j2
theorem jB {db bd ba : Nat} {L : List De} {T0 : List Chunk} {S0 : zw} (hT : Du db L T0) (hlen : L.length < 2 ^ 38) (at_ : Int) :
 Y6 Tryz.prog 128 #[] #[.pointer (some ⟨bd, 0, none⟩), .pointer (some ⟨ba, 0, none⟩)] [[(bd, .cells #[.pointer (some ⟨db, 0, none⟩)] 130)], [(ba, .cells #[.int .i64 at_] 3)]] (T0 :: S0)
  (fun pre x => pre ++ [x] <+: (upto at_ L).map bB) (fun xs => xs = (upto at_ L).map bB) := by
 obtain ⟨v, H, hL, rfl⟩ := hT;intro l c J Jx hJ0 hround;have e0 : (#[] ++ #[.func (.yield l) #[] #[]] ++ #[.pointer (some ⟨bd, 0, none⟩), .pointer (some ⟨ba, 0, none⟩)] : Array Value) = #[.func (.yield l) #[] #[], .pointer (some ⟨bd, 0, none⟩), .pointer (some ⟨ba, 0, none⟩)] := rfl;rw [e0];refine Tri.forget (zm Tryz.Ej (Nat.le_of_ble_eq_true rfl) ?_);unfold Tryz.Bp;refine zn (zB.pm (S2 := [c] :: [(bd, .cells #[.pointer (some ⟨db, 0, none⟩)] 130)] :: [(ba, .cells #[.int .i64 at_] 3)] :: JV db v :: H :: S0) (by simp)) ?_;obtain ⟨a0, c0, rfl⟩ := hL.isSlice;refine ze (ze (z8 ?_));refine zh (zC rfl rfl ?_);refine yp (ZN rfl rfl) (zf (za (zA rfl (zu (za (ze (z8 ?_)))))));refine zh (zC rfl rfl ?_);refine yp (zG rfl) (yp (zo rfl) ?_);refine zh (zC rfl rfl ?_);refine zh (zk (nu hL (by omega)) rfl rfl fun v S' h => ?_);obtain ⟨H1, hL1, rfl⟩ := h;obtain ⟨a1, c1, rfl⟩ := hL1.isSlice;refine yp (pS rfl) (zf (za (ze (z8 (yp (pS rfl) ?_)))));refine zh (zk (tC hL1 hlen) rfl rfl fun v S' h => ?_);obtain ⟨rfl, R, H2, hS, hl, hL2, rfl⟩ := h;have hR := hS.eq;have hU : upto at_ L = R.filter fun e => decide (Ua e ≤ at_) := by rw [upto, ← hR]
 rw [hU];rw [hU] at hround;clear hU hR;have hso := hS.1;refine zf (za (ze (z8 (yp (pS rfl) (yp (ZC rfl) (yp pC (zf (za (zq ?_)))))))));refine Z5 (σ := Nat) (fun i E S => Has E [(0, .func (.yield l) #[] #[]), (2, .pointer (some ⟨ba, 0, none⟩)), (16, .slice a1 L.length c1), (17, .int .i64 L.length), (18, .int .i64 i)] ∧ i ≤ R.length ∧ (∀ e ∈ R.take i, Ua e ≤ at_) ∧ ∃ T, J ((R.take i).map bB) T ∧ zB S ([(ba, .cells #[.int .i64 at_] 3)] :: H2 :: T)) (fun i => L.length - i) 0 ⟨⟨rfl, rfl, rfl, rfl, rfl, trivial⟩, Nat.zero_le _, by simp, [c] :: (JV db (.slice a0 L.length c0) ++ H) :: S0, hJ0, (zB.re (S1 := [(ba, .cells #[.int .i64 at_] 3)] :: H2 :: [c] :: JV db (.slice a0 L.length c0) :: H :: S0) (by simp))⟩ fun i E S ⟨hE, hi, hle, T, hJ, hK⟩ => ?_
 obtain ⟨E0, e0⟩ := zx hE; subst e0; clear hE;refine zn hK (ze (z8 (yp (ZO rfl rfl) (zf (za (ze ?_))))));refine zP rfl (fun h => ?_) (fun h => ?_)
 ·have hlt : i < R.length := by omega
  obtain ⟨bb, sp, fz, hz, rfl, hm, hc, rfl⟩ := hL2.at' (by intro h; simp [h] at hlt);have htk : R.take (i + 1) = R.take i ++ [R[i]] := by rw [List.take_add_one, List.getElem?_eq_getElem hlt]; rfl
  have hdr : R.drop i = R[i] :: R.drop (i + 1) := List.drop_eq_getElem_cons hlt;refine zu (za (ze (zq (ze (z8 (yp (zS rfl rfl (by omega)) ?_))))));refine zh (ZU (l := enc R[i]) rfl (wh hlt rfl) rfl ?_);refine zh (Zf fun p6 => ?_);refine zh (vM rfl rfl rfl rfl rfl ?_);refine zf (za (ze (z8 (yp (zo rfl) ?_))));refine zh (zC rfl rfl ?_);refine zh (zC rfl rfl ?_);refine yp (VQ rfl rfl) (yp (pB rfl) ?_);by_cases hat : at_ < R[i].at_
  ·rw [decide_eq_true hat];refine Z0 rfl (Z0 rfl (Z0 rfl (Z0 rfl (Z0 rfl (Z0 rfl (Z0 rfl (yp (zO rfl rfl) (zf (za (zH rfl (zJ (bret (zU (zU (bret ?_)))))))))))))));refine zI wm ⟨T, .of, .inl ⟨_, ?_, hJ⟩⟩;have h1 : R.filter (fun e => decide (Ua e ≤ at_)) = R.take i := by
    conv => lhs; rw [← List.take_append_drop i R]
    rw [List.filter_append, List.filter_eq_self.2 (by intro e he; simpa using hle e he)];have : (R.drop i).filter (fun e => decide (Ua e ≤ at_)) = [] := by
     rw [List.filter_eq_nil_iff];intro e he;have hp := (List.pairwise_append.1 (by rw [List.take_append_drop]; exact hso : (R.take i ++ R.drop i).Pairwise _)).2.1;rw [hdr] at hp he;rcases List.mem_cons.1 he with rfl | he
     ·have h9 : Ua R[i] = R[i].at_ := rfl;simp; omega
     ·have := (List.pairwise_cons.1 hp).1 e he;have h9 : Ua R[i] = R[i].at_ := rfl;simp; omega
    rw [this, List.append_nil]
   rw [h1]
  ·rw [decide_eq_false hat];refine Z7 rfl (Zc (pF rfl) (Z7 rfl (Zc (zo rfl) (Z7 rfl ?_))));have hle' : ∀ e ∈ R.take (i + 1), Ua e ≤ at_ := by
    intro e he;rw [htk] at he;rcases List.mem_append.1 he with he | he
    ·exact hle e he
    ·rw [List.mem_singleton.1 he]; show R[i].at_ ≤ at_; omega
   have hV : (R.take i).map bB ++ [bB R[i]] <+: (R.filter fun e => decide (Ua e ≤ at_)).map bB := by
    have e1 : (R.take i).map bB ++ [bB R[i]] = (R.take (i + 1)).map bB := by rw [htk, List.map_append]; rfl
    rw [e1];refine List.IsPrefix.map bB ?_
    conv => rhs; rw [← List.take_append_drop (i + 1) R]
    rw [List.filter_append, List.filter_eq_self.2 (by intro e he; simpa using hle' e he)];exact List.prefix_append _ _
   refine ZU (l := [.string ⟨R[i].k.n.toArray⟩, .int .i64 R[i].k.t]) rfl rfl rfl (Z7 rfl (Zc (zo rfl) (Z7 rfl ?_)));refine (zC rfl rfl ?_);refine Z7 rfl ?_;refine Xr (hround _ _ T hV hJ) rfl rfl fun b T' h => ?_
   rcases h with ⟨rfl, hJ'⟩ | ⟨rfl, hJx⟩
   ·refine Z7 rfl (Zc (Zi rfl) (yp (zT rfl rfl) (zf (za (zA rfl (zu (zR (za (z8 (yp (Ze rfl rfl (by omega)) (yp (pI rfl) (zf (za ?_)))))))))))));refine ⟨i + 1, ⟨⟨rfl, rfl, rfl, rfl, rfl, trivial⟩, by omega, hle', T', ?_, .of⟩, by omega⟩;rw [htk, List.map_append]; exact hJ'
   ·refine Z7 rfl (Zc (Zi rfl) (yp (zT rfl rfl) (zf (za (zH rfl (zJ (bret (zU (zU (bret ?_))))))))));exact zI wm ⟨T', .of, .inr ⟨_, hJx⟩⟩
 ·refine zX (zF (zF (zZ ?_)));refine ZX wm ⟨T, .of, .inl ⟨_, ?_, hJ⟩⟩;rw [List.take_of_length_le (by omega)] at hle ⊢;rw [List.filter_eq_self.2 (by intro e he; simpa using hle e he)]
end Go.Proofs.YtejmbmenbailmaaGreat
