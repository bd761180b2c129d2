/- Keys by their use (lists.LRU, for a store): contracts. -/
import Derived.Test.YtejmbmenbailmaaGreatStab
import Derived.Test.YtejmbmenbailmaaGreatGrow
import Derived.Test.YtejmbmenbailmaaGreatKys
import Derived.Test.YtejmbmenbailmaaGreatAgg
import Derived.Test.YtejmbmenbailmaaGreatN1
import Derived.Test.YtejmbmenbailmaaGreatA1
import Derived.Test.YtejmbmenbailmaaGreatFLists
namespace Go.Proofs.YtejmbmenbailmaaGreat
open Go.Xs
open Enc (enc)
def eG (o : Option Nat) : Value := .int .i64 (match o with | some i => (i : Int) | none => -1)
def kpos (k : Ky) : List Ky → Option Nat
 | [] => none
 | e :: l => if k = e then some 0 else (kpos k l).map (· + 1)
theorem Q9 {k : Ky} : ∀ {l : List Ky} {i : Nat}, kpos k l = some i → i < l.length
 | e :: l, i, h => by
  unfold kpos at h;split at h
  ·simp at h; subst h; simp
  ·cases h' : kpos k l with
   | none => simp [h'] at h
   | some j => simp [h'] at h; have := Q9 h'; subst h; simp; omega
theorem xK {k : Ky} : ∀ {l : List Ky}, kpos k l = none → k ∉ l
 | [], _ => by simp
 | e :: l, h => by
  unfold kpos at h;split at h
  ·simp at h
  ·next hk =>
   rw [Option.map_eq_none_iff] at h;have := xK h;simp [hk, this]
theorem uX {k : Ky} : ∀ {l : List Ky} {i : Nat}, kpos k l = some i → k ∈ l ∧ l.eraseIdx i = l.erase k
 | e :: l, i, h => by
  unfold kpos at h;split at h
  ·next hk => simp at h; subst h; subst hk; simp
  ·next hk =>
   cases h' : kpos k l with
   | none => simp [h'] at h
   | some j =>
    simp [h'] at h; subst h;obtain ⟨h1, h2⟩ := uX h';refine ⟨List.mem_cons_of_mem _ h1, ?_⟩;rw [List.eraseIdx_cons_succ, h2, List.erase_cons_tail (by simpa using fun h => hk h.symm)]
/-- where a key stands -/
theorem nD {v : Value} {L : List Ky} {H : List Chunk} (hL : Zc 43 v L H) (hlen : L.length < 2 ^ 40) (k : Ky) :
 zP Tryz.prog 151 #[v, .agg (Wn k)] [H] (fun r S => r = eG (kpos k L) ∧ S = [H]) := by
 refine zP.forget (zm Tryz.CO (Nat.le_of_ble_eq_true rfl) ?_);unfold Tryz.x151;obtain ⟨a, c, rfl⟩ := hL.isSlice;refine ze (z8 ?_);refine zh (Zr rfl fun p3 => ?_);refine yp pC (zf (za (ze (ze (z8 (yp (pS rfl) (yp (ZP rfl) (yp pC (zf (za (zw ?_)))))))))));refine Z9 (σ := Nat) (fun i E S => Has E [(0, .slice a L.length c), (3, .pointer (some ⟨p3, 0, none⟩)), (7, .int .i64 L.length), (8, .int .i64 i)] ∧ i ≤ L.length ∧ (kpos k L = (kpos k (L.drop i)).map (· + i)) ∧ zC S [[(p3, .cells (Wn k) 43)], H]) (fun i => L.length - i) 0 ⟨⟨rfl, rfl, rfl, rfl, trivial⟩, Nat.zero_le _, by simp, .of⟩ fun i E S ⟨hE, hi, hx, hS⟩ => ?_
 obtain ⟨E0, e0⟩ := zy hE; subst e0; clear hE;refine zq hS (ze (z8 (yp (ZO rfl rfl) (zf (za (ze ?_))))));refine zQ rfl (fun h => ?_) (fun h => ?_)
 ·have hlt : i < L.length := by omega
  have hd : L.drop i = L[i] :: L.drop (i + 1) := List.drop_eq_getElem_cons hlt;obtain ⟨b, sp, fz2, hz, rfl, _, rfl, rfl⟩ := hL.at' (by intro h; simp [h] at hlt);refine zu (za (ze (zw (ze (z8 (yp (pI rfl) (yp (pI rfl) (zf (za (ze (zX (Wz rfl rfl (zi (pS rfl) (zi (pI rfl) (zi (zU rfl rfl (by omega)) (Vi (l := enc L[i]) rfl (wV hlt rfl) rfl ?_))))))))))))))));by_cases h2 : k = L[i]
  ·refine zi (l8 (a := k) (b := L[i]) rfl rfl) ?_;rw [decide_eq_true h2];refine zL (za (zH rfl (ze (z8 (yp (pI rfl) (yp (pI rfl) (zf (za (zJ (bret (zV (zV (bret (zV ?_))))))))))))));exact zI (rI rfl) ⟨_, .of, by rw [hx, hd, kpos, if_pos h2]; simp [eG], rfl⟩
  ·refine zi (l8 (a := k) (b := L[i]) rfl rfl) ?_;rw [decide_eq_false h2];refine zL (za (zA rfl (zu (zT (za (z8 (yp (Zg rfl rfl (by omega)) (yp (pI rfl) (zf (za ?_))))))))));refine ⟨i + 1, ⟨⟨rfl, rfl, rfl, rfl, trivial⟩, by omega, ?_, .of⟩, by omega⟩;rw [hx, hd, kpos, if_neg h2, Option.map_map];congr 1;funext x;simp; omega
 ·refine Z4 (zF (zF (Z5 (za (ze (z8 (yp pC (zf (za (zJ ?_))))))))));have : L.drop i = [] := List.drop_eq_nil_of_le (by omega);exact zI (rI rfl) ⟨_, .of, by rw [hx, this]; rfl, rfl⟩
theorem nE {v : Value} {L : List Ky} {H : List Chunk} (hL : Zc 43 v L H) (hlen : L.length < 2 ^ 40) (k : Ky) :
 zP Tryz.prog 125 #[v, .agg (Wn k)] [H] (fun r S => r = .bool (decide (k ∈ L)) ∧ S = [H]) := by
 refine zP.forget (zm Tryz.Dj (Nat.le_of_ble_eq_true rfl) ?_);unfold Tryz.Ag;obtain ⟨a, c, rfl⟩ := hL.isSlice;refine ze (z8 ?_);refine zh (Zr rfl fun p3 => ?_);refine yp pC (zf (za (ze (z8 (yp (pS rfl) ?_)))));refine zh (Zk rfl rfl ?_);refine zh (zk (nD hL hlen k) rfl rfl fun r S' h => ?_);obtain ⟨rfl, rfl⟩ := h;cases h : kpos k L with
 | none =>
  rw [decide_eq_false (xK h)];simp only [eG];refine yp (Y3 rfl rfl) (yp (pB rfl) (zf (za (zJ ?_))));exact zI (rB rfl) ⟨_, .of, rfl, rfl⟩
 | some i =>
  rw [decide_eq_true (uX h).1];simp only [eG];refine yp (Y3 rfl rfl) (yp (pB rfl) (zf (za (zJ ?_))));exact zI (rB rfl) ⟨_, .of, by simp, rfl⟩
theorem nG {v : Value} {L : List Ky} {H : List Chunk} (hL : Zc 43 v L H) (hlen : L.length < 2 ^ 40) {i j : Nat} (hi : i < L.length) (hj : j = i + 1) :
 zP Tryz.prog 127 #[v, .int .i64 (i : Int), .int .i64 (j : Int)] [H] (fun r S => ∃ H', Zc 43 r (L.eraseIdx i) H' ∧ S = [H']) :=
 yC Tryz.Dh rfl (⟨[], 0⟩ : Ky) rfl hL hlen hi hj
theorem nH {v : Value} {L : List Ky} {H : List Chunk} (hL : Zc 43 v L H) (hlen : L.length < 2 ^ 40) (k : Ky) :
 zP Tryz.prog 146 #[v, .agg (Wn k)] [H] (fun r S => ∃ v' H', r = .tuple #[v', .bool (decide (k ∈ L))] ∧ Zc 43 v' (L.erase k) H' ∧ S = [H']) := by
 refine zP.forget (zm Tryz.CV (Nat.le_of_ble_eq_true rfl) ?_);unfold Tryz.tO;obtain ⟨a, c, rfl⟩ := hL.isSlice;refine ze (z8 ?_);refine zh (Zr rfl fun p3 => ?_);refine yp pC (yp pC (zf (za (ze (z8 (yp (pS rfl) ?_))))));refine zh (Zk rfl rfl ?_);refine zh (zk (nD hL hlen k) rfl rfl fun r S' h => ?_);obtain ⟨rfl, rfl⟩ := h;cases h : kpos k L with
 | none =>
  have h1 := xK h;rw [decide_eq_false h1, List.erase_of_not_mem h1];simp only [eG];refine yp (pI rfl) (zf (za (ze (ze (z8 (yp (pI rfl) (yp (ZO rfl rfl) (zf (za (zH rfl (ze (z8 (yp (pS rfl) (yp (pS rfl) (yp pC (zf (za (zJ (zV ?_)))))))))))))))))));exact zI (oI rfl rfl) ⟨_, .of, _, _, rfl, hL, rfl⟩
 | some i =>
  have hi := Q9 h;rw [decide_eq_true (uX h).1, ← (uX h).2];simp only [eG];refine yp (pI rfl) (zf (za (ze (ze (z8 (yp (pI rfl) (yp (ZO rfl rfl) (zf (za (zA rfl (zu (za (ze (z8 (yp (pS rfl) (yp (pI rfl) (yp (pI rfl) (yp (Zg rfl rfl (by omega)) ?_))))))))))))))))));refine zh (zk (nG hL hlen hi rfl) rfl rfl fun r S' h => ?_);obtain ⟨H', hL', rfl⟩ := h;obtain ⟨a', c', rfl⟩ := hL'.isSlice;refine yp (pS rfl) (yp pC (zf (za (zJ ?_))));exact zI (oI rfl rfl) ⟨_, .of, _, _, rfl, hL', rfl⟩
/-- its room, and its two lists -/
abbrev Xd (lb : Nat) (most : Int) (u v : Value) : List Chunk := [(lb, .cells #[.int .i64 most, u, v] 183)]
def Lr (lb : Nat) (most : Int) (A B : List Ky) (T : List Chunk) : Prop := ∃ u v H G, Zc 43 u A H ∧ Zc 43 v B G ∧ T = Xd lb most u v ++ H ++ G
theorem Lr.mk {lb : Nat} {most : Int} {u v : Value} {A B : List Ky} {H G : List Chunk} (hA : Zc 43 u A H) (hB : Zc 43 v B G) : Lr lb most A B (Xd lb most u v ++ H ++ G) := ⟨u, v, H, G, hA, hB, rfl⟩
theorem BH (most : Int) : zP Tryz.prog 73 #[.int .i64 most] [] (fun r S => ∃ lb T, r = .pointer (some ⟨lb, 0, none⟩) ∧ Lr lb (max most 0) [] [] T ∧ S = [T]) := by
 refine zP.forget (zm Tryz.FH (Nat.le_of_ble_eq_true rfl) ?_);unfold Tryz.GR;refine ze (z8 (yp pC (zf (za (ze (z8 (yp (pI rfl) (yp (nC rfl rfl) (yp (v := .agg #[.int .i64 (max most 0), .slice none 0 0, .slice none 0 0]) rfl ?_)))))))));refine zh (Zr rfl fun p6 => ?_);refine yp (pP rfl) (zf (za (zJ ?_)));exact zI (rP rfl) ⟨_, zC.re (S1 := [Xd p6 (max most 0) (.slice none 0 0) (.slice none 0 0)]) (by simp), _, _, rfl, Lr.mk .nil .nil, rfl⟩
theorem Q5 {lb : Nat} {most : Int} {u v : Value} {A B : List Ky} {H G : List Chunk} (hA : Zc 43 u A H) (hB : Zc 43 v B G) (ha : A.length < 2 ^ 40) (hb : B.length < 2 ^ 40) (k : Ky) :
 zP Tryz.prog 122 #[.pointer (some ⟨lb, 0, none⟩), .agg (Wn k)] [Xd lb most u v, H, G] (fun r S => r = .bool (decide (k ∈ A) || decide (k ∈ B)) ∧ ∃ u' H' v' G', Zc 43 u' (A.erase k) H' ∧ Zc 43 v' (B.erase k) G' ∧ S = [Xd lb most u' v', H', G']) := by
 refine zP.forget (zm Tryz.Dn (Nat.le_of_ble_eq_true rfl) ?_);unfold Tryz.Aj;obtain ⟨a, c, rfl⟩ := hA.isSlice;obtain ⟨a', c', rfl⟩ := hB.isSlice;refine ze (z8 ?_);refine zh (Zr rfl fun p3 => ?_);refine yp pC (zf (za (ze (ze (z8 (yp (pP rfl) (yp (ZM rfl rfl) (zf (za (zA rfl (zu (za (ze (z8 (yp pC (yp pC (zf (za (ze (zX (zi (pP rfl) (zi (pP rfl) (zi (zG rfl) (zi (zn rfl) (Z7 rfl rfl (Wz rfl rfl ?_))))))))))))))))))))))))));refine zN (zk (nH hA ha k) rfl rfl fun r S' h => ?_) zO;obtain ⟨u1, H1, rfl, hA1, rfl⟩ := h;obtain ⟨a1, c1, rfl⟩ := hA1.isSlice;refine zi (pU rfl) (zi (pExt rfl rfl) (zi (pExt rfl rfl) (zi (zG rfl) (zi (zn rfl) ?_))));refine zN (J4 rfl rfl (Y0 rfl) ?_) zO;refine zi (pB rfl) (zL (za (ze (zX (zi (pP rfl) (zi (pP rfl) (zi (zG rfl) (zi (zn rfl) (Z7 rfl rfl (Wz rfl rfl ?_))))))))));refine zN (zk (nH hB hb k) rfl rfl fun r S' h => ?_) zO;obtain ⟨v1, G1, rfl, hB1, rfl⟩ := h;obtain ⟨a2, c2, rfl⟩ := hB1.isSlice;refine zi (pU rfl) (zi (pExt rfl rfl) (zi (pExt rfl rfl) (zi (zG rfl) (zi (zn rfl) ?_))));refine zN (J3 rfl rfl (Y0 rfl) ?_) zO;refine zi (pB rfl) (zL (za (ze (z8 (yp (pB rfl) (yp (pB rfl) ?_))))));by_cases h1 : k ∈ A
 ·rw [decide_eq_true h1];refine Z0 rfl (yp (zM rfl rfl) (yp (pB rfl) (zf (za (zJ ?_)))));exact zI (rB rfl) ⟨_, .of, by simp, _, _, _, _, hA1, hB1, rfl⟩
 ·rw [decide_eq_false h1];refine zZ rfl (Zb (pB rfl) (yp (zS rfl rfl) (yp (pB rfl) (zf (za (zJ ?_))))));exact zI (rB rfl) ⟨_, .of, by simp, _, _, _, _, hA1, hB1, rfl⟩
theorem pY {lb : Nat} {most : Int} {A B : List Ky} {T : List Chunk} (hT : Lr lb most A B T) (ha : A.length < 2 ^ 40) (hb : B.length < 2 ^ 40) (k : Ky) :
 zP Tryz.prog 122 #[.pointer (some ⟨lb, 0, none⟩), .agg (Wn k)] [T] (fun r S => r = .bool (decide (k ∈ A) || decide (k ∈ B)) ∧ ∃ T', Lr lb most (A.erase k) (B.erase k) T' ∧ S = [T']) := by
 obtain ⟨u, v, H, G, hA, hB, rfl⟩ := hT;refine zP.forget (zP.vH ((Q5 hA hB ha hb k).mono fun r S ⟨h1, u', H', v', G', h2, h3, h4⟩ => ⟨[Xd lb most u' v' ++ H' ++ G'], ?_, h1, _, Lr.mk h2 h3, rfl⟩));subst h4;exact zC.WY
/-- what Add makes of the probation -/
def gP (k : Ky) (A B : List Ky) : List Ky := if k ∈ A ∨ k ∈ B then A else A ++ [k]
theorem BI {lb : Nat} {most : Int} {A B : List Ky} {T : List Chunk} (hT : Lr lb most A B T) (ha : A.length < 2 ^ 40 - 1) (hb : B.length < 2 ^ 40) (k : Ky) :
 zP Tryz.prog 80 #[.pointer (some ⟨lb, 0, none⟩), .agg (Wn k)] [T] (fun r S => r = .tuple #[] ∧ ∃ T', Lr lb most (gP k A B) B T' ∧ S = [T']) := by
 obtain ⟨u, v, H, G, hA, hB, rfl⟩ := hT;refine zP.vH (zP.forget (zm Tryz.Fx (Nat.le_of_ble_eq_true rfl) ?_));unfold Tryz.x80;obtain ⟨a, c, rfl⟩ := hA.isSlice;obtain ⟨a', c', rfl⟩ := hB.isSlice;refine ze (z8 ?_);refine zh (Zr rfl fun p3 => ?_);refine zf (za (ze (zX (zi (pP rfl) (zi (kT rfl rfl) (zi (pB rfl) (zR rfl (zi (pP rfl) (zR rfl (zi (zG rfl) (zR rfl (zi (zn rfl) (zR rfl (Z7 rfl rfl (zR rfl (Wz rfl rfl ?_))))))))))))))));refine wJ rfl ?_ zO;refine Zp (zk (nE hA (by omega) k) rfl rfl fun r S' h => ?_) zO;obtain ⟨rfl, rfl⟩ := h;refine ⟨by simp, ?_⟩;refine zR rfl (zi (Zi rfl) (zi (zM rfl rfl) (zi (pB rfl) ?_)));by_cases h1 : k ∈ A
 ·rw [decide_eq_true h1];refine zW rfl (zW rfl (zW rfl (zW rfl (zW rfl ?_))));refine vC rfl ?_ zO;refine zW rfl (zi (zS rfl rfl) (zL (za (zA rfl (zu ?_)))));exact ZW w9 ⟨_, zC.WY, rfl, _, by rw [gP, if_pos (.inl h1)]; exact Lr.mk hA hB, rfl⟩
 rw [decide_eq_false h1];refine zR rfl (zi (pP rfl) (zR rfl (zi (zG rfl) (zR rfl (zi (zn rfl) (zR rfl (Z7 rfl rfl (zR rfl (Wz rfl rfl ?_)))))))));refine wJ rfl ?_ zO;refine zN (zk (nE hB (by omega) k) rfl rfl fun r S' h => ?_) zO;obtain ⟨rfl, rfl⟩ := h;refine zR rfl (zi (Zi rfl) (zi (zM rfl rfl) (zL (za ?_))));by_cases h2 : k ∈ B
 ·rw [decide_eq_true h2];refine zA rfl (zu ?_);exact ZW w9 ⟨_, zC.WY, rfl, _, by rw [gP, if_pos (.inr h2)]; exact Lr.mk hA hB, rfl⟩
 rw [decide_eq_false h2];refine zH rfl (zX (zi (pP rfl) (zi (pP rfl) (zi (zG rfl) (zi (zn rfl) (Z7 rfl rfl (Wz rfl rfl ?_)))))));refine Zp (Va k rfl rfl (by decide) (by decide) rfl fun p30 => ⟨by simp, ?_⟩) zO;refine zN (VK (Y := [k]) rfl rfl hA (.lit (by repeat (first | exact List.mem_cons_self | apply List.mem_cons_of_mem)) rfl) rfl (⟨[], 0⟩ : Ky) rfl (by simp; omega) (by simp; omega) fun v2 H2 hL2 => ?_) zO;obtain ⟨a2, c2, rfl⟩ := hL2.isSlice;refine zi (zG rfl) (zi (zn rfl) ?_);refine zN (J4 rfl rfl (Y0 rfl) ?_) zO;refine zL ?_;exact ZW w9 ⟨_, zC.WY, rfl, _, by rw [gP, if_neg (by simp [h1, h2])]; exact Lr.mk hL2 hB, rfl⟩
/-- what Touch makes of both -/
def yY (most : Int) (k : Ky) (A B : List Ky) : List Ky := if k ∈ A ∨ k ∈ B then (if most < ((B.erase k ++ [k]).length : Int) then A.erase k ++ (B.erase k ++ [k]).take 1 else A.erase k) else A
def yX (most : Int) (k : Ky) (A B : List Ky) : List Ky := if k ∈ A ∨ k ∈ B then (if most < ((B.erase k ++ [k]).length : Int) then (B.erase k ++ [k]).eraseIdx 0 else B.erase k ++ [k]) else B
theorem dY {lb : Nat} {most : Int} {u v : Value} {A B : List Ky} {H G : List Chunk} (hA : Zc 43 u A H) (hB : Zc 43 v B G) (ha : A.length < 2 ^ 40 - 1) (hb : B.length < 2 ^ 40 - 1) (k : Ky) :
 zP Tryz.prog 86 #[.pointer (some ⟨lb, 0, none⟩), .agg (Wn k)] [Xd lb most u v, H, G] (fun r S => r = .bool (decide (k ∈ A ∨ k ∈ B)) ∧ ∃ u' H' v' G', Zc 43 u' (yY most k A B) H' ∧ Zc 43 v' (yX most k A B) G' ∧ S = [Xd lb most u' v', H', G']) := by
 refine zP.forget (zm Tryz.Fq (Nat.le_of_ble_eq_true rfl) ?_);unfold Tryz.Gz;refine ze (z8 ?_);refine zh (Zr rfl fun p3 => ?_);refine yp pC (zf (za (ze (ze (z8 (yp (pP rfl) ?_))))));refine zh (Zk rfl rfl ?_);refine zh (zk (Q5 (lb := lb) (most := most) hA hB (by omega) (by omega) k) rfl rfl fun r S' h => ?_);obtain ⟨rfl, u1, H1, v1, G1, hA1, hB1, rfl⟩ := h;unfold yY yX;by_cases hk : k ∈ A ∨ k ∈ B
 ·rw [show (decide (k ∈ A) || decide (k ∈ B)) = true from by rw [← Bool.decide_or]; exact decide_eq_true hk, decide_eq_true hk];rw [if_pos hk, if_pos hk];have hle : (B.erase k).length ≤ B.length := List.length_erase_le;have hla : (A.erase k).length ≤ A.length := List.length_erase_le;obtain ⟨a, c, rfl⟩ := hB1.isSlice;refine yp (Zi rfl) (zf (za (zA rfl (zu (za (ze (zX (zi (pP rfl) (zi (pP rfl) (zi (zG rfl) (zi (zn rfl) (Z7 rfl rfl (Wz rfl rfl ?_)))))))))))));refine Zp (Va k rfl rfl (by decide) (by decide) rfl fun p15 => ⟨by simp, ?_⟩) zO;refine zN (VK (Y := [k]) rfl rfl hB1 (.lit (by repeat (first | exact List.mem_cons_self | apply List.mem_cons_of_mem)) rfl) rfl (⟨[], 0⟩ : Ky) rfl (by simp; omega) (by simp; omega) fun v2 G2 hB2 => ?_) zO;generalize hBB : B.erase k ++ [k] = BB at hB2;have hlen : BB.length = (B.erase k).length + 1 := by rw [← hBB]; simp
  obtain ⟨a2, c2, rfl⟩ := hB2.isSlice;obtain ⟨a1, c1, rfl⟩ := hA1.isSlice;refine zi (zG rfl) (zi (zn rfl) ?_);refine zN (J3 rfl rfl (Y0 rfl) ?_) zO;refine zL (za (ze (ze (zX (zi (pP rfl) (zi (zG rfl) (zi (zn rfl) (Z7 rfl rfl (zi (ZP rfl) (zi (pP rfl) (zi (zG rfl) (zi (zn rfl) (Z7 rfl rfl (zi (Vs rfl rfl) (zL (za ?_))))))))))))))));by_cases hm : most < (BB.length : Int)
  ·rw [decide_eq_true hm, if_pos hm, if_pos hm];have h0 : 0 < BB.length := by omega
   obtain ⟨b2, sp2, fz2, hz2, rfl, _, rfl, rfl⟩ := hB2.at' (by intro h; simp [h] at h0);refine zH rfl (ze (zX (zi (pP rfl) (zi (pP rfl) (zi (zG rfl) (zi (zn rfl) (Z7 rfl rfl (zi (pP rfl) (zi (zG rfl) (zi (zn rfl) (Z7 rfl rfl (zi (zU rfl rfl (by omega)) (Vi (l := enc BB[0]) rfl (wV (i := 0) h0 rfl) rfl ?_)))))))))))));refine Zp (Va BB[0] rfl rfl (by decide) (by decide) rfl fun p40 => ⟨by simp, ?_⟩) zO;refine zN (VK (Y := [BB[0]]) rfl rfl hA1 (.lit (by repeat (first | exact List.mem_cons_self | apply List.mem_cons_of_mem)) rfl) rfl (⟨[], 0⟩ : Ky) rfl (by simp; omega) (by simp; omega) fun v3 H3 hA3 => ?_) zO;obtain ⟨a3, c3, rfl⟩ := hA3.isSlice;refine zi (zG rfl) (zi (zn rfl) ?_);refine zN (J4 rfl rfl (Y0 rfl) ?_) zO;refine zL (za (z8 (yp (pP rfl) (yp (pP rfl) (yp (zG rfl) (yp (zn rfl) ?_))))));refine zh (zB rfl rfl ?_);have hc : zP Tryz.prog 127 #[.slice (some ⟨b2, 0, none⟩) BB.length (BB.length + sp2.length), .int .i64 0, .int .i64 1] _ _ := nG hB2 (by omega) (i := 0) (j := 1) h0 rfl;refine zh (zk hc rfl rfl fun r S' h => ?_);obtain ⟨G4, hB4, rfl⟩ := h;obtain ⟨a4, c4, rfl⟩ := hB4.isSlice;refine yp (zG rfl) (yp (zn rfl) ?_);refine zh (J3 rfl rfl (Y0 rfl) ?_);refine zf (za (ze (z8 (yp pC (zf (za (zJ ?_)))))));have e1 : BB.take 1 = [BB[0]] := by
    cases BB with
    | nil => simp at h0
    | cons x l => rfl
   rw [e1];exact zI (rB rfl) ⟨_, .of, rfl, _, _, _, _, hA3, hB4, rfl⟩
  ·rw [decide_eq_false hm, if_neg hm, if_neg hm];refine zA rfl (zu (za (ze (z8 (yp pC (zf (za (zJ ?_))))))));exact zI (rB rfl) ⟨_, .of, rfl, _, _, _, _, hA1, hB2, rfl⟩
 ·rw [show (decide (k ∈ A) || decide (k ∈ B)) = false from by rw [← Bool.decide_or]; exact decide_eq_false hk, decide_eq_false hk];rw [if_neg hk, if_neg hk];rw [List.erase_of_not_mem (fun h => hk (.inl h))] at hA1;rw [List.erase_of_not_mem (fun h => hk (.inr h))] at hB1;refine yp (Zi rfl) (zf (za (zH rfl (ze (z8 (yp pC (zf (za (zJ (zV ?_))))))))));exact zI (rB rfl) ⟨_, .of, rfl, _, _, _, _, hA1, hB1, rfl⟩
theorem lJ {lb : Nat} {most : Int} {A B : List Ky} {T : List Chunk} (hT : Lr lb most A B T) (ha : A.length < 2 ^ 40 - 1) (hb : B.length < 2 ^ 40 - 1) (k : Ky) :
 zP Tryz.prog 86 #[.pointer (some ⟨lb, 0, none⟩), .agg (Wn k)] [T] (fun r S => r = .bool (decide (k ∈ A ∨ k ∈ B)) ∧ ∃ T', Lr lb most (yY most k A B) (yX most k A B) T' ∧ S = [T']) := by
 obtain ⟨u, v, H, G, hA, hB, rfl⟩ := hT;refine zP.forget (zP.vH ((dY hA hB ha hb k).mono fun r S ⟨h1, u', H', v', G', h2, h3, h4⟩ => ⟨[Xd lb most u' v' ++ H' ++ G'], ?_, h1, _, Lr.mk h2 h3, rfl⟩));subst h4;exact zC.WY
end Go.Proofs.YtejmbmenbailmaaGreat