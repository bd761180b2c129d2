/- A store of one item, plainly. -/
import Derived.Test.YtejmbmenbailmaaGreatStP
import Derived.Test.YtejmbmenbailmaaGreatStI
namespace Go.Proofs.YtejmbmenbailmaaGreat
open Go.Xs
open Enc (enc)
abbrev mh : Ss := ⟨[], [], [], []⟩
abbrev aU (s : St) (p r c x : Int) : It := ⟨Z9 s, s, r, c, x, p⟩
abbrev one (s : St) (p r c x : Int) (P Q : List Ky) : Ss := ⟨[aU s p r c x], P, Q, []⟩
theorem X6 (s : St) (p r c x : Int) : WC [aU s p r c x] (Z9 s) = some (aU s p r c x) := by
 unfold WC;rw [List.find?_cons, decide_eq_true rfl]
theorem rM (s : St) (p r c x : Int) : vL [aU s p r c x] (Z9 s) = [] := by
 unfold vL;rw [List.filter_cons, if_neg (by simp)]; rfl
theorem Q0 {s : St} {k : Ky} (hk : fk k = Z9 s) {p r c x b : Int} {P Q : List Ky} (h : 0 ≤ p + b ∧ p + b ≤ 1000) : Vu k b (one s p r c x P Q) = (one s (p + b) r c x P Q, 0) := by
 unfold Vu;rw [hk, show WC (one s p r c x P Q).I (Z9 s) = _ from X6 s p r c x];show (if KO (p + b) 1000 = false then _ else _) = _;rw [(Xn _ _).2 h, if_neg (by decide)];show ((⟨[if Z9 s = Z9 s then _ else _], P, Q, []⟩ : Ss), (0 : Int)) = _;rw [if_pos rfl]
theorem dX {s : St} {k : Ky} (hk : fk k = Z9 s) {p r c x b : Int} {P Q : List Ky} (h : ¬ (0 ≤ p + b ∧ p + b ≤ 1000)) : Vu k b (one s p r c x P Q) = (one s p r c x P Q, 1) := by
 unfold Vu;rw [hk, show WC (one s p r c x P Q).I (Z9 s) = _ from X6 s p r c x];show (if KO (p + b) 1000 = false then _ else _) = _;rw [if_pos];cases hw : KO (p + b) 1000 with
 | false => rfl
 | true => exact absurd ((Xn _ _).1 hw) h
theorem QO {s : St} {k : Ky} (hk : fk k = Z9 s) {p r c x : Int} {P Q : List Ky} (hp : 0 < p) : yG k (one s p r c x P Q) = (one s p r c x P Q, 6) := by
 unfold yG;rw [hk, show WC (one s p r c x P Q).I (Z9 s) = _ from X6 s p r c x];show (if 0 < p then _ else _) = _;rw [if_pos hp]
theorem mg {s : St} (hs : Yb s) {r c x : Int} (hk : KC r c x = true) : uE 2048 s r c x mh = (one s 0 r c x [Z9 s] [], 0) := Fam.nil.nP (S := mh) hs rfl hk (by decide)
theorem dW {s s' : St} (hs : Yb s') (he : Z9 s' = Z9 s) {p r c x r' c' x' : Int} {P Q : List Ky} (hk : KC r' c' x' = true) (hp : 0 < p) : uE 2048 s' r' c' x' (one s p r c x P Q) = (one s p r c x P Q, 6) := by
 rw [kU hs hk, Yw (i := aU s p r c x) (by rw [he]; exact X6 s p r c x), if_pos hp]
theorem Ql {s : St} {p r c x now : Int} : due now [aU s p r c x] = if x ≤ now then [Z9 s] else [] := by
 show ((List.filter (fun e => decide (U8 e ≤ now)) [(⟨Z9 s, x⟩ : De)]).map (·.k)) = _;rw [List.filter_cons];by_cases h : x ≤ now
 ·rw [if_pos h, if_pos (by show decide (x ≤ now) = true; rw [decide_eq_true h])]; rfl
 ·rw [if_neg h, if_neg (by show ¬ decide (x ≤ now) = true; rw [decide_eq_false h]; decide)]; rfl
theorem dV {s : St} {p r c x now : Int} {P Q : List Ky} (h : now < x ∨ 0 < p) : KT now (one s p r c x P Q) = (one s p r c x P Q, 0) := by
 unfold KT;rw [show (one s p r c x P Q).I = [aU s p r c x] from rfl, Ql];split
 ·next h2 =>
  show swp _ _ = _;unfold swp free;rw [show WC (one s p r c x P Q, 0).1.I (Z9 s) = _ from X6 s p r c x];show (if decide (p = 0) = true then _ else _) = _;rw [if_neg (by simp; omega)]
 ·rfl
theorem lX {s : St} {r c x now : Int} {P Q : List Ky} (h : x ≤ now) : KT now (one s 0 r c x P Q) = (⟨[], P.erase (Z9 s), Q.erase (Z9 s), [Z9 s]⟩, 1) := by
 unfold KT;rw [show (one s 0 r c x P Q).I = [aU s 0 r c x] from rfl, Ql, if_pos h];show swp _ _ = _;unfold swp free;rw [show WC (one s 0 r c x P Q, 0).1.I (Z9 s) = _ from X6 s 0 r c x];show (if decide ((0 : Int) = 0) = true then _ else _) = _;rw [if_pos (by decide)];unfold KD;rw [show vL (one s 0 r c x P Q, 0).1.I (Z9 s) = [] from rM s 0 r c x];rfl
theorem qZ {K : Ky} : Y5 4 K [K] [] = [] ∧ Y4 4 K [K] [] = [K] := by
 unfold Y5 Y4;constructor <;> simp
/-- the document's name -/
theorem sS : Av [1, 97, 0] := ⟨by decide +kernel, by decide +kernel, by decide, by decide⟩
theorem fD {d : Bs} (hd : d.length = 4) : Yb (wT [1, 97, 0] d) := ⟨_, d, sS, hd, rfl⟩
theorem Ct {d : Bs} (hd : d.length = 4) : Z9 (wT [1, 97, 0] d) = ⟨[1, 97, 0], 1⟩ := (fD hd).q.key
end Go.Proofs.YtejmbmenbailmaaGreat