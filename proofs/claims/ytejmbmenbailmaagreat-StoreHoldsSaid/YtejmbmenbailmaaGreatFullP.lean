/- StoreFull, plainly. -/
import Derived.Test.YtejmbmenbailmaaGreatC2
namespace Go.Proofs.YtejmbmenbailmaaGreat
open Go.Xs
open Enc (enc)
/-- the name of a number below 31 -/
def X3 (i : Nat) : Bs := [2, U0 (97 + (i : Int).tdiv 26), U0 (97 + (i : Int).tmod 26), 0]
def Zj (i : Nat) : Ky := ⟨X3 i, 1⟩
theorem gT {i : Nat} (h : i < 31) : Av (X3 i) := by
 have : ∀ i, i < 31 → vG (X3 i) = true ∧ zA (X3 i) = X3 i := by decide +kernel
 obtain ⟨h1, h2⟩ := this i h;exact ⟨h1, h2, by show 1 ≤ 4 ∧ 4 ≤ 16; decide, by unfold X3; simp⟩
theorem Qz {i j : Nat} (hi : i < 31) (hj : j < 31) (h : X3 i = X3 j) : i = j := by
 have : ∀ i, i < 31 → ∀ j, j < 31 → X3 i = X3 j → i = j := by decide +kernel
 exact this i hi j hj h
theorem Fy : Av [2, 122, 122, 0] := ⟨by decide +kernel, by decide +kernel, by decide, by decide⟩
theorem gQ {i : Nat} (h : i < 31) : X3 i ≠ [2, 122, 122, 0] := by
 have : ∀ i, i < 31 → X3 i ≠ [2, 122, 122, 0] := by decide +kernel
 exact this i h
theorem QJ {i : Nat} (h : i < 31) {d : Bs} (hd : d.length = 4) : Yo (ZV (X3 i) d) := ⟨_, d, gT h, hd, rfl⟩
theorem iy {i : Nat} (h : i < 31) {d : Bs} (hd : d.length = 4) : Z8 (ZV (X3 i) d) = Zj i := (QJ h hd).q.key
theorem oh {i : Nat} (h : i < 31) : fk (Zj i) = Zj i := QO (gT h) 1
theorem yN {d : Bs} (hd : d.length = 4) : Yo (ZV [2, 122, 122, 0] d) := ⟨_, d, Fy, hd, rfl⟩
theorem QI {n j : Nat} (hn : n < 31) (hj : j < n) : Zj j ≠ Zj n := fun h => by
 have := Qz (by omega) hn (congrArg Ky.n h);omega
/-- n of them are there, pinned as p says -/
structure kP (e p : Nat → Int) (n : Nat) (S : Ss) : Prop where
 rw : Rw Zj e p n S.I
 p : S.P = (List.range n).map Zj
 q : S.Q = []
 v : S.V = []
theorem kP.nil (e p : Nat → Int) : kP e p 0 aV := ⟨Rw.nil, rfl, rfl, rfl⟩
theorem kP.put {e p : Nat → Int} {n : Nat} {S : Ss} (h : kP e p n S) (hn : n < 31) {d : Bs} (hd : d.length = 4) {r x : Int} (he : e n = x) (hp : p n = 0) (hk : Yu r 0 x = true) :
 VO 2048 (ZV (X3 n) d) r 0 x S = (xR (ZV (X3 n) d) r 0 x S, 0) ∧ kP e p (n + 1) (xR (ZV (X3 n) d) r 0 x S) := by
 have hb : wG S.I (Z8 (ZV (X3 n) d)) = none := h.rw.non fun j hj q => QI hn hj (by rw [← iy hn hd]; exact q)
 refine ⟨h.rw.fam.fA (QJ hn hd) hb hk (by rw [h.rw.len]; omega), h.rw.add (QJ hn hd) (iy hn hd) (fun j hj => QI hn hj) he hp, ?_, h.q, h.v⟩;show S.P ++ [Z8 (ZV (X3 n) d)] = _;rw [h.p, iy hn hd, List.range_succ, List.map_append]; rfl
theorem kP.pin {e p : Nat → Int} {n j : Nat} {S : Ss} (h : kP e p n S) (hn : n ≤ 31) (hj : j < n) {b : Int} (hb : 0 ≤ p j + b ∧ p j + b ≤ 1000) :
 (V3 (Zj j) b S).2 = 0 ∧ kP e (fun x => if x = j then p j + b else p x) n (V3 (Zj j) b S).1 := by
 rw [nH h.rw hj (oh (by omega)) hb];exact ⟨rfl, h.rw.WS hj _, h.p, h.q, h.v⟩
theorem kP.mono {e p e' p' : Nat → Int} {n : Nat} {S : Ss} (h : kP e p n S) (he : ∀ j, j < n → e j = e' j) (hp : ∀ j, j < n → p j = p' j) : kP e' p' n S := ⟨h.rw.mono he hp, h.p, h.q, h.v⟩
theorem kP.all {e p : Nat → Int} {n : Nat} {S : Ss} (h : kP e p n S) (now : Int) : ∀ x ∈ due now S.I ++ (S.P ++ S.Q), ∃ j, j < n ∧ x = Zj j := fun x hx => by
 rcases List.mem_append.1 hx with hx | hx
 ·obtain ⟨j, hj, rfl⟩ := h.rw.mem.1 (KP hx);exact ⟨j, hj, rfl⟩
 ·rw [h.p, h.q, List.append_nil] at hx;obtain ⟨j, hj, rfl⟩ := List.mem_map.1 hx;exact ⟨j, List.mem_range.1 hj, rfl⟩
theorem kP.ev {e p : Nat → Int} {j : Nat} {S : Ss} (h : kP e p 31 S) (hj : j < 31) {d : Bs} (hd : d.length = 4) {r now x : Int} (hk : Yu r now x = true) (hn : wN now S = some (Zj j)) :
 VO 2048 (ZV [2, 122, 122, 0] d) r now x S = (xR (ZV [2, 122, 122, 0] d) r now x (Xb (Zj j) S), 0) := by
 have hl := h.rw.len;refine h.rw.fam.fB (yN hd) (h.rw.non fun j hj q => gQ hj ?_) hk (fun q => by rw [q] at hl; simp at hl) (by omega) (by omega) hn;have := (yN hd).q.key;rw [this] at q;exact congrArg Ky.n q
end Go.Proofs.YtejmbmenbailmaaGreat