/- StoreFull, plainly. -/
import Derived.Test.YtejmbmenbailmaaGreatC2
namespace Go.Proofs.YtejmbmenbailmaaGreat
open Go.Xs
open Enc (enc)
/-- the name of a number below 31 -/
def xP (i : Nat) : Bs := [2, jV (97 + (i : Int).tdiv 26), jV (97 + (i : Int).tmod 26), 0]
def Zj (i : Nat) : Ky := ⟨xP i, 1⟩
theorem fE {i : Nat} (h : i < 31) : Av (xP i) := by
 have : ∀ i, i < 31 → vI (xP i) = true ∧ zy (xP i) = xP i := by decide +kernel
 obtain ⟨h1, h2⟩ := this i h;exact ⟨h1, h2, by show 1 ≤ 4 ∧ 4 ≤ 16; decide, by unfold xP; simp⟩
theorem Qe {i j : Nat} (hi : i < 31) (hj : j < 31) (h : xP i = xP j) : i = j := by
 have : ∀ i, i < 31 → ∀ j, j < 31 → xP i = xP j → i = j := by decide +kernel
 exact this i hi j hj h
theorem EY : Av [2, 122, 122, 0] := ⟨by decide +kernel, by decide +kernel, by decide, by decide⟩
theorem fD {i : Nat} (h : i < 31) : xP i ≠ [2, 122, 122, 0] := by
 have : ∀ i, i < 31 → xP i ≠ [2, 122, 122, 0] := by decide +kernel
 exact this i h
theorem Qp {i : Nat} (h : i < 31) {d : Bs} (hd : d.length = 4) : ku (wS (xP i) d) := ⟨_, d, fE h, hd, rfl⟩
theorem fT {i : Nat} (h : i < 31) {d : Bs} (hd : d.length = 4) : Z8 (wS (xP i) d) = Zj i := (Qp h hd).q.key
theorem tO {i : Nat} (h : i < 31) : fk (Zj i) = Zj i := gP (fE h) 1
theorem yB {d : Bs} (hd : d.length = 4) : ku (wS [2, 122, 122, 0] d) := ⟨_, d, EY, hd, rfl⟩
theorem Qo {n j : Nat} (hn : n < 31) (hj : j < n) : Zj j ≠ Zj n := fun h => by
 have := Qe (by omega) hn (congrArg Ky.n h);omega
/-- n of them are there, pinned as p says -/
structure J8 (e p : Nat → Int) (n : Nat) (S : Ss) : Prop where
 rw : Rw Zj e p n S.I
 p : S.P = (List.range n).map Zj
 q : S.Q = []
 v : S.V = []
theorem J8.nil (e p : Nat → Int) : J8 e p 0 mV := ⟨Rw.nil, rfl, rfl, rfl⟩
theorem J8.put {e p : Nat → Int} {n : Nat} {S : Ss} (h : J8 e p n S) (hn : n < 31) {d : Bs} (hd : d.length = 4) {r x : Int} (he : e n = x) (hp : p n = 0) (hk : Kc r 0 x = true) :
 uH 2048 (wS (xP n) d) r 0 x S = (Yg (wS (xP n) d) r 0 x S, 0) ∧ J8 e p (n + 1) (Yg (wS (xP n) d) r 0 x S) := by
 have hb : Wm S.I (Z8 (wS (xP n) d)) = none := h.rw.non fun j hj q => Qo hn hj (by rw [← fT hn hd]; exact q)
 refine ⟨h.rw.fam.oq (Qp hn hd) hb hk (by rw [h.rw.len]; omega), h.rw.add (Qp hn hd) (fT hn hd) (fun j hj => Qo hn hj) he hp, ?_, h.q, h.v⟩;show S.P ++ [Z8 (wS (xP n) d)] = _;rw [h.p, fT hn hd, List.range_succ, List.map_append]; rfl
theorem J8.mono {e p e' p' : Nat → Int} {n : Nat} {S : Ss} (h : J8 e p n S) (he : ∀ j, j < n → e j = e' j) (hp : ∀ j, j < n → p j = p' j) : J8 e' p' n S := ⟨h.rw.mono he hp, h.p, h.q, h.v⟩
theorem J8.all {e p : Nat → Int} {n : Nat} {S : Ss} (h : J8 e p n S) (now : Int) : ∀ x ∈ due now S.I ++ (S.P ++ S.Q), ∃ j, j < n ∧ x = Zj j := fun x hx => by
 rcases List.mem_append.1 hx with hx | hx
 ·obtain ⟨j, hj, rfl⟩ := h.rw.mem.1 (Ku hx);exact ⟨j, hj, rfl⟩
 ·rw [h.p, h.q, List.append_nil] at hx;obtain ⟨j, hj, rfl⟩ := List.mem_map.1 hx;exact ⟨j, List.mem_range.1 hj, rfl⟩
theorem J8.ev {e p : Nat → Int} {j : Nat} {S : Ss} (h : J8 e p 31 S) (hj : j < 31) {d : Bs} (hd : d.length = 4) {r now x : Int} (hk : Kc r now x = true) (hn : wX now S = some (Zj j)) :
 uH 2048 (wS [2, 122, 122, 0] d) r now x S = (Yg (wS [2, 122, 122, 0] d) r now x (Yb (Zj j) S), 0) := by
 have hl := h.rw.len;refine h.rw.fam.ow (yB hd) (h.rw.non fun j hj q => fD hj ?_) hk (fun q => by rw [q] at hl; simp at hl) (by omega) (by omega) hn;have := (yB hd).q.key;rw [this] at q;exact congrArg Ky.n q
end Go.Proofs.YtejmbmenbailmaaGreat