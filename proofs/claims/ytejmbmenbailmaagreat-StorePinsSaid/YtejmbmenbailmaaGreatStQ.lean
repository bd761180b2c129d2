/- A store of one item, plainly. -/
import Derived.Test.YtejmbmenbailmaaGreatStP
import Derived.Test.YtejmbmenbailmaaGreatStI
namespace Go.Proofs.YtejmbmenbailmaaGreat
open Go.Xs
open Enc (enc)
abbrev Ju : Ss := ⟨[], [], [], []⟩
abbrev jX (s : St) (p r c x : Int) : It := ⟨Z6 s, s, r, c, x, p⟩
abbrev one (s : St) (p r c x : Int) (P Q : List Ky) : Ss := ⟨[jX s p r c x], P, Q, []⟩
theorem uF (s : St) (p r c x : Int) : WM [jX s p r c x] (Z6 s) = some (jX s p r c x) := by
 unfold WM;rw [List.find?_cons, decide_eq_true rfl]
theorem Jq (s : St) (p r c x : Int) : vJ [jX s p r c x] (Z6 s) = [] := by
 unfold vJ;rw [List.filter_cons, if_neg (by simp)]; rfl
theorem Xq {s : St} {k : Ky} (hk : fk k = Z6 s) {p r c x b : Int} {P Q : List Ky} (h : 0 ≤ p + b ∧ p + b ≤ 1000) : UE k b (one s p r c x P Q) = (one s (p + b) r c x P Q, 0) := by
 unfold UE;rw [hk, show WM (one s p r c x P Q).I (Z6 s) = _ from uF s p r c x];show (if jU (p + b) 1000 = false then _ else _) = _;rw [(YX _ _).2 h, if_neg (by decide)];show ((⟨[if Z6 s = Z6 s then _ else _], P, Q, []⟩ : Ss), (0 : Int)) = _;rw [if_pos rfl]
theorem j5 {s : St} {k : Ky} (hk : fk k = Z6 s) {p r c x b : Int} {P Q : List Ky} (h : ¬ (0 ≤ p + b ∧ p + b ≤ 1000)) : UE k b (one s p r c x P Q) = (one s p r c x P Q, 1) := by
 unfold UE;rw [hk, show WM (one s p r c x P Q).I (Z6 s) = _ from uF s p r c x];show (if jU (p + b) 1000 = false then _ else _) = _;rw [if_pos];cases hw : jU (p + b) 1000 with
 | false => rfl
 | true => exact absurd ((YX _ _).1 hw) h
theorem lF (k : Ky) (b : Int) : UE k b Ju = (Ju, 5) := rfl
theorem dP {s : St} {k : Ky} (hk : fk k = Z6 s) {r c x : Int} {P Q : List Ky} : UU k (one s 0 r c x P Q) = (⟨[], P.erase (Z6 s), Q.erase (Z6 s), []⟩, 0) := by
 unfold UU;rw [hk, show WM (one s 0 r c x P Q).I (Z6 s) = _ from uF s 0 r c x];show (if (0 : Int) < 0 then _ else _) = _;rw [if_neg (by decide)];unfold uH;rw [show vJ (one s 0 r c x P Q).I (Z6 s) = [] from Jq s 0 r c x]
theorem Yt {s : St} {k : Ky} (hk : fk k = Z6 s) {p r c x : Int} {P Q : List Ky} (hp : 0 < p) : UU k (one s p r c x P Q) = (one s p r c x P Q, 6) := by
 unfold UU;rw [hk, show WM (one s p r c x P Q).I (Z6 s) = _ from uF s p r c x];show (if 0 < p then _ else _) = _;rw [if_pos hp]
theorem qZ {s : St} (hs : jS s) {r c x : Int} (hk : qW r c x = true) : UD 2048 s r c x Ju = (one s 0 r c x [Z6 s] [], 0) := Fam.nil.AU (S := Ju) hs rfl hk (by decide)
theorem j4 {s s' : St} (hs : jS s') (he : Z6 s' = Z6 s) {p r c x r' c' x' : Int} {P Q : List Ky} (hk : qW r' c' x' = true) (hp : 0 < p) : UD 2048 s' r' c' x' (one s p r c x P Q) = (one s p r c x P Q, 6) := by
 rw [Jj hs hk, xH (i := jX s p r c x) (by rw [he]; exact uF s p r c x), if_pos hp]
theorem lC {s s' : St} (hs : jS s') (he : Z6 s' = Z6 s) {r c x r' c' x' : Int} (hk : qW r' c' x' = true) : UD 2048 s' r' c' x' (one s 0 r c x [Z6 s] []) = (one s' 0 r' c' x' [Z6 s'] [], 0) := by
 rw [Jj hs hk, xH (i := jX s 0 r c x) (by rw [he]; exact uF s 0 r c x), if_neg (show ¬ (0 : Int) < 0 by decide)];have e : uH (Z6 s') (one s 0 r c x [Z6 s] []) = Ju := by
  unfold uH;rw [he, show vJ (one s 0 r c x [Z6 s] []).I (Z6 s) = [] from Jq s 0 r c x];simp
 rw [e];exact Fam.nil.room (S := Ju) hs rfl (by decide)
theorem Qg {s : St} {p r c x now : Int} : due now [jX s p r c x] = if x ≤ now then [Z6 s] else [] := by
 show ((List.filter (fun e => decide (U3 e ≤ now)) [(⟨Z6 s, x⟩ : De)]).map (·.k)) = _;rw [List.filter_cons];by_cases h : x ≤ now
 ·rw [if_pos h, if_pos (by show decide (x ≤ now) = true; rw [decide_eq_true h])]; rfl
 ·rw [if_neg h, if_neg (by show ¬ decide (x ≤ now) = true; rw [decide_eq_false h]; decide)]; rfl
theorem XU {s : St} {p r c x now : Int} {P Q : List Ky} (h : now < x ∨ 0 < p) : KH now (one s p r c x P Q) = (one s p r c x P Q, 0) := by
 unfold KH;rw [show (one s p r c x P Q).I = [jX s p r c x] from rfl, Qg];split
 ·next h2 =>
  show swp _ _ = _;unfold swp free;rw [show WM (one s p r c x P Q, 0).1.I (Z6 s) = _ from uF s p r c x];show (if decide (p = 0) = true then _ else _) = _;rw [if_neg (by simp; omega)]
 ·rfl
theorem lu {s : St} {r c x now : Int} {P Q : List Ky} (h : x ≤ now) : KH now (one s 0 r c x P Q) = (⟨[], P.erase (Z6 s), Q.erase (Z6 s), [Z6 s]⟩, 1) := by
 unfold KH;rw [show (one s 0 r c x P Q).I = [jX s 0 r c x] from rfl, Qg, if_pos h];show swp _ _ = _;unfold swp free;rw [show WM (one s 0 r c x P Q, 0).1.I (Z6 s) = _ from uF s 0 r c x];show (if decide ((0 : Int) = 0) = true then _ else _) = _;rw [if_pos (by decide)];unfold aL;rw [show vJ (one s 0 r c x P Q, 0).1.I (Z6 s) = [] from Jq s 0 r c x];rfl
theorem qV {K : Ky} : yY 4 K [K] [] = [] ∧ yX 4 K [K] [] = [K] := by
 unfold yY yX;constructor <;> simp
/-- the document's name -/
theorem rW : Av [1, 97, 0] := ⟨by decide +kernel, by decide +kernel, by decide, by decide⟩
theorem jh {d : Bs} (hd : d.length = 4) : jS (WV [1, 97, 0] d) := ⟨_, d, rW, hd, rfl⟩
theorem nJ {d : Bs} (hd : d.length = 4) : Z6 (WV [1, 97, 0] d) = ⟨[1, 97, 0], 1⟩ := (jh hd).q.key
end Go.Proofs.YtejmbmenbailmaaGreat