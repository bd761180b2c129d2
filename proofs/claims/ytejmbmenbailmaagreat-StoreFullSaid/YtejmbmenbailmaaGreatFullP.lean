/- StoreFull, plainly. -/
import Derived.Test.YtejmbmenbailmaaGreatStR
namespace Go.Proofs.YtejmbmenbailmaaGreat
open Go.Xs
open Enc (enc)
/-- the name of a number below 31 -/
def X7 (i : Nat) : Bs := [2, jT (97 + (i : Int).tdiv 26), jT (97 + (i : Int).tmod 26), 0]
def ZU (i : Nat) : Ky := ⟨X7 i, 1⟩
theorem eH {i : Nat} (h : i < 31) : Av (X7 i) := by
 have : ∀ i, i < 31 → vF (X7 i) = true ∧ zx (X7 i) = X7 i := by decide +kernel
 obtain ⟨h1, h2⟩ := this i h;exact ⟨h1, h2, by show 1 ≤ 4 ∧ 4 ≤ 16; decide, by unfold X7; simp⟩
theorem lY {i j : Nat} (hi : i < 31) (hj : j < 31) (h : X7 i = X7 j) : i = j := by
 have : ∀ i, i < 31 → ∀ j, j < 31 → X7 i = X7 j → i = j := by decide +kernel
 exact this i hi j hj h
theorem EC : Av [2, 122, 122, 0] := ⟨by decide +kernel, by decide +kernel, by decide, by decide⟩
theorem eG {i : Nat} (h : i < 31) : X7 i ≠ [2, 122, 122, 0] := by
 have : ∀ i, i < 31 → X7 i ≠ [2, 122, 122, 0] := by decide +kernel
 exact this i h
theorem Qg {i : Nat} (h : i < 31) {d : Bs} (hd : d.length = 4) : Yb (wT (X7 i) d) := ⟨_, d, eH h, hd, rfl⟩
theorem fA {i : Nat} (h : i < 31) {d : Bs} (hd : d.length = 4) : Z9 (wT (X7 i) d) = ZU i := (Qg h hd).q.key
theorem Hl {i : Nat} (h : i < 31) : fk (ZU i) = ZU i := fU (eH h) 1
theorem xK {d : Bs} (hd : d.length = 4) : Yb (wT [2, 122, 122, 0] d) := ⟨_, d, EC, hd, rfl⟩
theorem Qf {n j : Nat} (hn : n < 31) (hj : j < n) : ZU j ≠ ZU n := fun h => by
 have := lY (by omega) hn (congrArg Ky.n h);omega
/-- n of them are there, pinned as p says -/
structure Ux (e p : Nat → Int) (n : Nat) (S : Ss) : Prop where
 rw : Rw ZU e p n S.I
 p : S.P = (List.range n).map ZU
 q : S.Q = []
 v : S.V = []
theorem Ux.nil (e p : Nat → Int) : Ux e p 0 mh := ⟨Rw.nil, rfl, rfl, rfl⟩
theorem Ux.put {e p : Nat → Int} {n : Nat} {S : Ss} (h : Ux e p n S) (hn : n < 31) {d : Bs} (hd : d.length = 4) {r x : Int} (he : e n = x) (hp : p n = 0) (hk : KC r 0 x = true) :
 uE 2048 (wT (X7 n) d) r 0 x S = (Ya (wT (X7 n) d) r 0 x S, 0) ∧ Ux e p (n + 1) (Ya (wT (X7 n) d) r 0 x S) := by
 have hb : WC S.I (Z9 (wT (X7 n) d)) = none := h.rw.non fun j hj q => Qf hn hj (by rw [← fA hn hd]; exact q)
 refine ⟨h.rw.fam.nP (Qg hn hd) hb hk (by rw [h.rw.len]; omega), h.rw.add (Qg hn hd) (fA hn hd) (fun j hj => Qf hn hj) he hp, ?_, h.q, h.v⟩;show S.P ++ [Z9 (wT (X7 n) d)] = _;rw [h.p, fA hn hd, List.range_succ, List.map_append]; rfl
theorem Ux.pin {e p : Nat → Int} {n j : Nat} {S : Ss} (h : Ux e p n S) (hn : n ≤ 31) (hj : j < n) {b : Int} (hb : 0 ≤ p j + b ∧ p j + b ≤ 1000) :
 (Vu (ZU j) b S).2 = 0 ∧ Ux e (fun x => if x = j then p j + b else p x) n (Vu (ZU j) b S).1 := by
 rw [lI h.rw hj (Hl (by omega)) hb];exact ⟨rfl, h.rw.vS hj _, h.p, h.q, h.v⟩
theorem Ux.mono {e p e' p' : Nat → Int} {n : Nat} {S : Ss} (h : Ux e p n S) (he : ∀ j, j < n → e j = e' j) (hp : ∀ j, j < n → p j = p' j) : Ux e' p' n S := ⟨h.rw.mono he hp, h.p, h.q, h.v⟩
theorem Ux.all {e p : Nat → Int} {n : Nat} {S : Ss} (h : Ux e p n S) (now : Int) : ∀ x ∈ due now S.I ++ (S.P ++ S.Q), ∃ j, j < n ∧ x = ZU j := fun x hx => by
 rcases List.mem_append.1 hx with hx | hx
 ·obtain ⟨j, hj, rfl⟩ := h.rw.mem.1 (Kk hx);exact ⟨j, hj, rfl⟩
 ·rw [h.p, h.q, List.append_nil] at hx;obtain ⟨j, hj, rfl⟩ := List.mem_map.1 hx;exact ⟨j, List.mem_range.1 hj, rfl⟩
theorem Ux.Cg {e p : Nat → Int} {n : Nat} {S : Ss} (h : Ux e p n S) (now : Int) (hp : ∀ j, j < n → p j ≠ 0) : Ww now S = none := xR fun x hx => by
 obtain ⟨j, hj, rfl⟩ := h.all now x hx;rw [h.rw.free hj, decide_eq_false (hp j hj)]
theorem Ux.Ce {e p : Nat → Int} {n j : Nat} {S : Ss} (h : Ux e p n S) {now : Int} (he : ∀ j, j < n → now < e j) (hj : j < n) (hp : ∀ a, a < n → (p a = 0 ↔ a = j)) : Ww now S = some (ZU j) := by
 unfold Ww;have hd : due now S.I = [] := by rw [h.rw.due, lU he]; rfl
 have ha := h.all now;rw [hd] at ha ⊢;refine YF (fun x hx => ?_) ?_
 ·obtain ⟨a, ha, rfl⟩ := ha x hx;rw [h.rw.free ha, decide_eq_true_iff, hp a ha];exact ⟨fun q => by rw [q], fun q => h.rw.inj ha hj q⟩
 ·rw [h.p, List.nil_append];exact List.mem_append.2 (.inl (List.mem_map.2 ⟨j, List.mem_range.2 hj, rfl⟩))
/-- all are pinned: no room -/
theorem Ux.no {e p : Nat → Int} {S : Ss} (h : Ux e p 31 S) (hp : ∀ j, j < 31 → p j ≠ 0) {d : Bs} (hd : d.length = 4) {r now x : Int} (hk : KC r now x = true) : uE 2048 (wT [2, 122, 122, 0] d) r now x S = (S, 4) := by
 have hl := h.rw.len;refine h.rw.fam.Bv (xK hd) (h.rw.non fun j hj q => eG hj ?_) hk (fun q => by rw [q] at hl; simp at hl) (by omega) (h.Cg now hp);have := (xK hd).q.key;rw [this] at q;exact congrArg Ky.n q
theorem Ux.ev {e p : Nat → Int} {j : Nat} {S : Ss} (h : Ux e p 31 S) (hj : j < 31) {d : Bs} (hd : d.length = 4) {r now x : Int} (hk : KC r now x = true) (hn : Ww now S = some (ZU j)) :
 uE 2048 (wT [2, 122, 122, 0] d) r now x S = (Ya (wT [2, 122, 122, 0] d) r now x (KD (ZU j) S), 0) := by
 have hl := h.rw.len;refine h.rw.fam.Bw (xK hd) (h.rw.non fun j hj q => eG hj ?_) hk (fun q => by rw [q] at hl; simp at hl) (by omega) (by omega) hn;have := (xK hd).q.key;rw [this] at q;exact congrArg Ky.n q
theorem Ux.Et {e p : Nat → Int} {n j : Nat} {S : Ss} (h : Ux e p n S) (hj : j < n) (s : St) (r now x : Int) : (Ya s r now x (KD (ZU j) S)).I.length = n := by
 obtain ⟨i, _, hb, _⟩ := h.rw.get hj;have h1 := VH h.rw.fam.n hb;have hl := h.rw.len;show (vL S.I (ZU j) ++ [_]).length = n;rw [List.length_append, List.length_singleton]; omega
end Go.Proofs.YtejmbmenbailmaaGreat