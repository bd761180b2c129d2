/- Sets in blocks (chapter 8): what may be, its names, its size. Sets in blocks (chapter 8): a set's names, its size. Sets in blocks (chapter 8): what a set would cost. Sets in blocks (chapter 8): a set's bytes. -/
import Derived.Test.YtejmbmenbailmaaGreatP1
import Derived.Test.YtejmbmenbailmaaGreatI1
namespace Go.Proofs.YtejmbmenbailmaaGreat
open Go.Xs
open Enc (enc)
theorem sV (a b : Bs) (ha : a.length < 2 ^ 62) (hb : b.length < 2 ^ 62) : Tri Tryz.prog 94 #[sv a, sv b] [] (fun r S => r = .bool (Yx a b) ∧ S = []) := by
 refine Tri.forget (zm Tryz.Gj (Nat.le_of_ble_eq_true rfl) ?_);unfold Tryz.Io Yx;refine ze (z8 (yp pC (zf (za (ze (z8 (yp (pT rfl) ?_)))))));refine zh (zk (u6 a ha) rfl rfl fun r S' h => ?_);obtain ⟨rfl, rfl⟩ := h;cases vI a with
 | false =>
  refine yp (pB rfl) (Z0 rfl (Z0 rfl (yp (zT rfl rfl) (yp (pB rfl) (Z0 rfl (Z0 rfl (Z0 rfl (Z0 rfl (Z0 rfl (yp (zT rfl rfl) (yp (pB rfl) (zf (za (zJ ?_))))))))))))));exact zI (rB rfl) ⟨_, .of, rfl, rfl⟩
 | true =>
  refine yp (pB rfl) (Z7 rfl (Zc (pT rfl) (Z7 rfl ?_)));refine zk (u6 b hb) rfl rfl fun r S' h => ?_
  obtain ⟨rfl, rfl⟩ := h;cases vI b with
  | false =>
   refine yp (zO rfl rfl) (yp (pB rfl) (Z0 rfl (Z0 rfl (Z0 rfl (Z0 rfl (Z0 rfl (yp (zT rfl rfl) (yp (pB rfl) (zf (za (zJ ?_)))))))))));exact zI (rB rfl) ⟨_, .of, rfl, rfl⟩
  | true =>
   refine yp (zO rfl rfl) (yp (pB rfl) (Z7 rfl (Zc (pT rfl) (Z7 rfl ?_))));refine zk (JG a ha) rfl rfl fun r S' h => ?_
   obtain ⟨rfl, rfl⟩ := h;refine Z7 rfl (Zc (pT rfl) (Z7 rfl ?_));refine zk (JG b hb) rfl rfl fun r S' h => ?_
   obtain ⟨rfl, rfl⟩ := h;refine Z7 rfl (Zc (Cv rfl rfl) (yp (zO rfl rfl) (yp (pB rfl) (zf (za (zJ ?_))))));exact zI (rB rfl) ⟨_, .of, by
    congr 1;by_cases h : a.map low = b.map low
    ·rw [decide_eq_true (Jp.2 h)]; simp [h]
    ·rw [decide_eq_false (fun h2 => h (Jp.1 h2))]; simp [h], rfl⟩
/-- how long a set's texts are -/
structure J6 (s : St) : Prop where
 name : s.name.length < 2 ^ 40
 zone : s.zone.length < 2 ^ 40
 rrs : s.rrs.length < 2 ^ 20
 each : ∀ r ∈ s.rrs, r.n.length < 2 ^ 40 ∧ r.d.length < 2 ^ 40
abbrev bA (s : St) (w : Value) : Array Value := #[sv s.name, .int .i64 s.typ, w, .int .i64 s.kind, sv s.zone]
abbrev jf (b : Nat) (s : St) (w : Value) : List Chunk := [(b, .cells (bA s w) 46)]
abbrev om (r : RR) : Array Value := #[sv r.n, .int .i64 r.t, .int .i64 r.c, .int .i64 r.ttl, sv r.d]
theorem rV {bs : Nat} {s : St} {w : Value} (r : RR) (h1 : s.name.length < 2 ^ 40) (h2 : r.n.length < 2 ^ 40) (h3 : r.d.length < 2 ^ 40) : Tri Tryz.prog 93 #[.agg (om r), .pointer (some ⟨bs, 0, none⟩)] [jf bs s w] (fun x S => x = .bool (!Xj s r) ∧ S = [jf bs s w]) := by
 refine Tri.forget (zm Tryz.Gl (Nat.le_of_ble_eq_true rfl) ?_);unfold Tryz.x93 Xj;refine ze (z8 ?_);refine zh (Zq rfl fun p2 => ?_);refine yp pC (zf (za (ze (z8 (yp (zo rfl) ?_)))));refine zh (zC rfl rfl ?_);refine yp (zo rfl) (yp (zo rfl) ?_);refine zh (zC rfl rfl ?_);refine zh (zk (sV r.n s.name (by omega) (by omega)) rfl rfl fun r' S' h => ?_);obtain ⟨rfl, rfl⟩ := h;cases Yx r.n s.name with
 | false =>
  refine yp (Zi rfl) (yp (pB rfl) (Z0 rfl (Z0 rfl (Z0 rfl (Z0 rfl (Z0 rfl (Z0 rfl (yp (zO rfl rfl) (yp (pB rfl) (Z0 rfl (Z0 rfl (Z0 rfl (yp (zO rfl rfl) (yp (pB rfl) (Z0 rfl (Z0 rfl (Z0 rfl (Z0 rfl (Z0 rfl (Z0 rfl (yp (zO rfl rfl) (yp (pB rfl) (zf (za (zJ ?_)))))))))))))))))))))))));exact zI (rB rfl) ⟨_, .of, rfl, rfl⟩
 | true =>
  refine yp (Zi rfl) (yp (pB rfl) (Z7 rfl (Zc (zo rfl) (Z7 rfl ?_))));refine (zC rfl rfl ?_);refine Z7 rfl (Zc (zo rfl) (Z7 rfl (Zc (zo rfl) (Z7 rfl ?_))));refine (zC rfl rfl ?_);refine Z7 rfl (Zc (Xk rfl rfl) (yp (zT rfl rfl) (yp (pB rfl) ?_)));by_cases ht : r.t = s.typ
  ·rw [decide_eq_true ht];refine Z7 rfl (Zc (zo rfl) (Z7 rfl ?_));refine (zC rfl rfl ?_);refine Z7 rfl (Zc (Xk rfl rfl) (yp (zT rfl rfl) (yp (pB rfl) ?_)));by_cases hc : r.c = 1
   ·rw [decide_eq_true hc];refine Z7 rfl (Zc (zo rfl) (Z7 rfl ?_));refine (zC rfl rfl ?_);refine Z7 rfl (Zc (zo rfl) (Z7 rfl ?_));refine (zC rfl rfl ?_);refine Z7 rfl ?_;refine zk (dN r.t r.d h3) rfl rfl fun r' S' h => ?_
    obtain ⟨rfl, rfl⟩ := h;refine Z7 rfl (Zc (Zi rfl) (yp (zT rfl rfl) (yp (pB rfl) (zf (za (zJ ?_))))));exact zI (rB rfl) ⟨_, .of, by cases ZH r.t r.d <;> rfl, rfl⟩
   ·rw [decide_eq_false hc];refine Z0 rfl (Z0 rfl (Z0 rfl (Z0 rfl (Z0 rfl (Z0 rfl (yp (zO rfl rfl) (yp (pB rfl) (zf (za (zJ ?_))))))))));exact zI (rB rfl) ⟨_, .of, rfl, rfl⟩
  ·rw [decide_eq_false ht];refine Z0 rfl (Z0 rfl (Z0 rfl (yp (zO rfl rfl) (yp (pB rfl) (Z0 rfl (Z0 rfl (Z0 rfl (Z0 rfl (Z0 rfl (Z0 rfl (yp (zO rfl rfl) (yp (pB rfl) (zf (za (zJ ?_)))))))))))))));exact zI (rB rfl) ⟨_, .of, rfl, rfl⟩
theorem C9 {S : zw} {bs : Nat} {s : St} {w v : Value} (hs : J6 s) (hv : Src S v s.rrs) : Tri Tryz.prog 137 #[v, .func (.func 93) #[] #[.pointer (some ⟨bs, 0, none⟩)]] (jf bs s w :: S)
 (fun x S' => ∃ z, x = .int .i64 z ∧ decide (0 ≤ z) = !(s.rrs.all (Xj s)) ∧ S' = jf bs s w :: S) := by
 refine Tri.forget (zm Tryz.Ec (Nat.le_of_ble_eq_true rfl) ?_);unfold Tryz.Bg;obtain ⟨a, c, rfl⟩ := hv.isSlice;have hrr := hs.rrs;refine ze (z8 (yp pC (zf (za (ze (ze (z8 (yp (pS rfl) (yp (ZC rfl) (yp pC (zf (za (zq ?_)))))))))))));refine Z5 (σ := Nat) (fun i E S' => Has E [(0, .slice a s.rrs.length c), (1, .func (.func 93) #[] #[.pointer (some ⟨bs, 0, none⟩)]), (7, .int .i64 (s.rrs.length : Int)), (8, .int .i64 (i : Int))] ∧ (i ≤ s.rrs.length ∧ ∀ r ∈ s.rrs.take i, Xj s r = true) ∧ zB S' (jf bs s w :: S)) (fun i => s.rrs.length - i) 0
  ⟨⟨rfl, rfl, rfl, rfl, trivial⟩, ⟨Nat.zero_le _, fun r h => by simp at h⟩, .of⟩ fun i E S' ⟨hE, ⟨hi, hall⟩, hJ⟩ => ?_
 obtain ⟨E0, e0⟩ := zx hE; subst e0; clear hE;refine zn hJ (ze (z8 (yp (ZO rfl rfl) (zf (za (ze ?_))))));refine zP rfl (fun h => ?_) (fun h => ?_)
 ·have hlt : i < s.rrs.length := by omega
  obtain ⟨b, o, ca, ty, fz, rfl, _, hmem, _, hg⟩ := hv.get (by intro h; simp [h] at hlt);have hge := hg i hlt;have hr := List.getElem_mem hlt;have hts : s.rrs.take (i + 1) = s.rrs.take i ++ [s.rrs[i]] := List.take_succ_eq_append_getElem hlt;generalize s.rrs[i] = r at hge hr hts;obtain ⟨hn, hd⟩ := hs.each r hr;refine zu (za (ze (zq (ze (z8 (yp (pI rfl) (yp (pI rfl) (zf (za (ze (z8 (yp (pF rfl) (yp (pS rfl) (yp (pI rfl) (yp (zS rfl rfl (by omega)) ?_)))))))))))))));refine zh (Xt (S := jf bs s w :: S) (l := enc r) (List.mem_cons_of_mem _ hmem) rfl hge rfl ?_)
  skip
  refine zh (zk (rV (s := s) (w := w) r hs.name hn hd) rfl rfl fun r' S' h => ?_);obtain ⟨rfl, rfl⟩ := h;cases hok : Xj s r with
  | false =>
   refine zf (za (zH rfl (ze (z8 (yp (pI rfl) (yp (pI rfl) (zf (za (zJ (bret (zU (zU (bret (zU ?_))))))))))))));refine zI (rI rfl) ⟨_, .of, _, rfl, ?_, rfl⟩;rw [decide_eq_true (by omega)];cases ha : s.rrs.all (Xj s) with
   | false => rfl
   | true => have := List.all_eq_true.1 ha r hr; rw [hok] at this; cases this
  | true =>
   refine zf (za (zA rfl (zu (zR (za (z8 (yp (Ze rfl rfl (by omega)) (yp (pI rfl) (zf (za ?_))))))))));refine ⟨i + 1, ⟨⟨rfl, rfl, rfl, rfl, trivial⟩, ⟨by omega, fun x hx => ?_⟩, .of⟩, by omega⟩;rw [hts] at hx;rcases List.mem_append.1 hx with hx | hx
   ·exact hall x hx
   ·rw [List.mem_singleton.1 hx]; exact hok
 ·refine zX (zF (zF (zZ (za (ze (z8 (yp pC (zf (za (zJ ?_))))))))));refine zI (rI rfl) ⟨_, .of, _, rfl, ?_, rfl⟩;have : s.rrs.all (Xj s) = true := List.all_eq_true.2 fun r hr => hall r (by rw [List.take_of_length_le (by omega)]; exact hr)
  rw [this]; rfl
theorem Cb {S : zw} {bs : Nat} {s : St} {w v : Value} (hs : J6 s) (hv : Src S v s.rrs) : Tri Tryz.prog 92 #[v, .func (.func 93) #[] #[.pointer (some ⟨bs, 0, none⟩)]] (jf bs s w :: S)
 (fun x S' => x = .bool (!(s.rrs.all (Xj s))) ∧ S' = jf bs s w :: S) := by
 refine Tri.forget (zm Tryz.Gm (Nat.le_of_ble_eq_true rfl) ?_);unfold Tryz.Ip;obtain ⟨a, c, rfl⟩ := hv.isSlice;refine ze (z8 (yp pC (zf (za (ze (z8 (yp (pS rfl) (yp (pF rfl) ?_))))))));refine zh (zk (C9 (bs := bs) (w := w) hs hv) rfl rfl fun r' S' h => ?_);obtain ⟨z, rfl, hz, rfl⟩ := h;refine yp (Y9 rfl rfl) (yp (pB rfl) (zf (za (zJ ?_))));exact zI (rB rfl) ⟨_, .of, by rw [hz], rfl⟩
theorem C8 {S : zw} {s : St} {v : Value} (hs : J6 s) (hv : Src S v s.rrs) : Tri Tryz.prog 47 #[.agg (bA s v)] S (fun x S' => x = .bool (vQ s) ∧ S' = S) := by
 refine Tri.forget (zm Tryz.He (Nat.le_of_ble_eq_true rfl) ?_);unfold Tryz.Lc vQ;have hno : ∀ {x : Value} {b : Bool} {S' : zw}, b = false → x = .bool false → zB S' S → ∃ S'', zB S' S'' ∧ x = .bool b ∧ S'' = S := fun h1 h2 h3 => ⟨S, h3, by rw [h1, h2], rfl⟩
 refine ze (z8 ?_);refine zh (Zq rfl fun p1 => ?_);refine yp pC (zf (za (ze (ze (z8 (yp (zo rfl) (yp (zo rfl) ?_)))))));refine zh (zC rfl rfl ?_);refine zh (zk (u6 s.name (by have := hs.name; omega)) rfl rfl fun r' S' h => ?_);obtain ⟨rfl, rfl⟩ := h;cases vI s.name with
 | false =>
  refine yp (Zi rfl) (yp (pB rfl) (Z0 rfl (Z0 rfl (Z0 rfl (Z0 rfl (yp (zO rfl rfl) (yp (pB rfl) (Z0 rfl (Z0 rfl (Z0 rfl (Z0 rfl (yp (zO rfl rfl) (yp (pB rfl) (Z0 rfl (Z0 rfl (Z0 rfl (Z0 rfl (yp (zO rfl rfl) (yp (pB rfl) (Z0 rfl (Z0 rfl (Z0 rfl (yp (zO rfl rfl) (yp (pB rfl) (Z0 rfl (Z0 rfl (Z0 rfl (yp (zO rfl rfl) (zf (za (zH rfl (ze (z8 (yp pC (zf (za (zJ (zU ?_))))))))))))))))))))))))))))))))))))));exact zI (rB rfl) (hno rfl rfl .of)
 | true =>
 refine yp (Zi rfl) (yp (pB rfl) (Z7 rfl (Zc (zo rfl) (Z7 rfl ?_))));refine (zC rfl rfl ?_);refine Z7 rfl ?_;refine zk (u6 s.zone (by have := hs.zone; omega)) rfl rfl fun r' S' h => ?_
 obtain ⟨rfl, rfl⟩ := h;cases vI s.zone with
 | false =>
  refine Z7 rfl (Zc (Zi rfl) (yp (zT rfl rfl) (yp (pB rfl) (Z0 rfl (Z0 rfl (Z0 rfl (Z0 rfl (yp (zO rfl rfl) (yp (pB rfl) (Z0 rfl (Z0 rfl (Z0 rfl (Z0 rfl (yp (zO rfl rfl) (yp (pB rfl) (Z0 rfl (Z0 rfl (Z0 rfl (yp (zO rfl rfl) (yp (pB rfl) (Z0 rfl (Z0 rfl (Z0 rfl (yp (zO rfl rfl) (zf (za (zH rfl (ze (z8 (yp pC (zf (za (zJ (zU ?_))))))))))))))))))))))))))))))))));exact zI (rB rfl) (hno rfl rfl .of)
 | true =>
 refine Z7 rfl (Zc (Zi rfl) (yp (zT rfl rfl) (yp (pB rfl) (Z7 rfl (Zc (zo rfl) (Z7 rfl (Zc (zo rfl) (Z7 rfl ?_))))))));refine (zC rfl rfl ?_);refine Z7 rfl (Zc (ZO rfl rfl) (yp (zT rfl rfl) (yp (pB rfl) ?_)));by_cases h1 : s.typ < 1
 ·rw [decide_eq_true h1];refine Z0 rfl (Z0 rfl (Z0 rfl (Z0 rfl (yp (zO rfl rfl) (yp (pB rfl) (Z0 rfl (Z0 rfl (Z0 rfl (yp (zO rfl rfl) (yp (pB rfl) (Z0 rfl (Z0 rfl (Z0 rfl (yp (zO rfl rfl) (zf (za (zH rfl (ze (z8 (yp pC (zf (za (zJ (zU ?_))))))))))))))))))))))));exact zI (rB rfl) (hno (by rw [decide_eq_false (by omega)]; simp) rfl .of)
 rw [decide_eq_false h1];refine Z7 rfl (Zc (zo rfl) (Z7 rfl (Zc (zo rfl) (Z7 rfl ?_))));refine (zC rfl rfl ?_);refine Z7 rfl (Zc (VQ rfl rfl) (yp (zT rfl rfl) (yp (pB rfl) ?_)));by_cases h2 : 65535 < s.typ
 ·rw [decide_eq_true h2];refine Z0 rfl (Z0 rfl (Z0 rfl (yp (zO rfl rfl) (yp (pB rfl) (Z0 rfl (Z0 rfl (Z0 rfl (yp (zO rfl rfl) (zf (za (zH rfl (ze (z8 (yp pC (zf (za (zJ (zU ?_))))))))))))))))));exact zI (rB rfl) (hno (by rw [decide_eq_false (by omega)]; simp) rfl .of)
 rw [decide_eq_false h2];refine Z7 rfl (Zc (zo rfl) (Z7 rfl ?_));refine (zC rfl rfl ?_);refine Z7 rfl (Zc (ZO rfl rfl) (yp (zT rfl rfl) (yp (pB rfl) ?_)));by_cases h3 : s.kind < 0
 ·rw [decide_eq_true h3];refine Z0 rfl (Z0 rfl (Z0 rfl (yp (zO rfl rfl) (zf (za (zH rfl (ze (z8 (yp pC (zf (za (zJ (zU ?_)))))))))))));exact zI (rB rfl) (hno (by rw [decide_eq_false (show ¬ (1 ≤ s.typ ∧ s.typ ≤ 65535 ∧ 0 ≤ s.kind ∧ s.kind ≤ 2) from by omega)]; simp) rfl .of)
 rw [decide_eq_false h3];refine Z7 rfl (Zc (zo rfl) (Z7 rfl ?_));refine (zC rfl rfl ?_);refine Z7 rfl (Zc (VQ rfl rfl) (yp (zT rfl rfl) (zf (za ?_))));by_cases h4 : 2 < s.kind
 ·rw [decide_eq_true h4];refine zH rfl (ze (z8 (yp pC (zf (za (zJ (zU ?_)))))));exact zI (rB rfl) (hno (by rw [decide_eq_false (show ¬ (1 ≤ s.typ ∧ s.typ ≤ 65535 ∧ 0 ≤ s.kind ∧ s.kind ≤ 2) from by omega)]; simp) rfl .of)
 rw [decide_eq_false h4, decide_eq_true (show 1 ≤ s.typ ∧ s.typ ≤ 65535 ∧ 0 ≤ s.kind ∧ s.kind ≤ 2 from by omega)];obtain ⟨a, c, rfl⟩ := hv.isSlice;refine zA rfl (zu (za (ze (ze (z8 (yp (zo rfl) ?_))))));refine zh (zC rfl rfl ?_);refine yp (ZC rfl) (yp (VQ rfl rfl) (yp (pB rfl) ?_));by_cases h5 : 32 < (s.rrs.length : Int)
 ·rw [decide_eq_true h5];refine Z0 rfl (Z0 rfl (Z0 rfl (Z0 rfl (Z0 rfl (Z0 rfl (Z0 rfl (Z0 rfl (yp (zO rfl rfl) (zf (za (zH rfl (ze (z8 (yp pC (zf (za (zJ (zU ?_))))))))))))))))));exact zI (rB rfl) (hno (by rw [decide_eq_false (show ¬ s.rrs.length ≤ 32 from by omega)]; simp) rfl .of)
 rw [decide_eq_false h5, decide_eq_true (show s.rrs.length ≤ 32 from by omega)];refine Z7 rfl (Zc (zo rfl) (Z7 rfl ?_));refine (zC rfl rfl ?_);refine Z7 rfl (Zc (ZC rfl) (Z7 rfl (Zc (VQ rfl rfl) (Z7 rfl (Zc (zo rfl) (Z7 rfl ?_))))));refine (zC rfl rfl ?_);refine Z7 rfl (Zc (vJ rfl rfl) (Z7 rfl (Zc (Gc rfl rfl) (yp (zT rfl rfl) (zf (za ?_))))));rw [show decide (0 < (s.rrs.length : Int)) = decide (0 < s.rrs.length) from decide_eq_decide.2 (by omega)];cases h6 : (decide (0 < s.rrs.length) == decide (s.kind = 0)) with
 | false =>
  refine zH rfl (ze (z8 (yp pC (zf (za (zJ (zU ?_)))))));exact zI (rB rfl) (hno rfl rfl .of)
 | true =>
 refine zA rfl (zu (za (ze (z8 (yp (zo rfl) ?_)))));refine zh (zC rfl rfl ?_);refine yp (eD (Jb rfl)) ?_;refine zh (zk (Cb (w := .slice a s.rrs.length c) hs hv) rfl rfl fun r' S' h => ?_);obtain ⟨rfl, rfl⟩ := h;refine yp (Zi rfl) (yp (pB rfl) (zf (za (zJ ?_))));exact zI (rB rfl) ⟨_, .of, by cases s.rrs.all (Xj s) <;> rfl, rfl⟩
end Go.Proofs.YtejmbmenbailmaaGreat
namespace Go.Proofs.YtejmbmenbailmaaGreat
open Go.Xs
open Enc (enc)
def bss (l : List Bs) : List ByteArray := l.map fun Y => ⟨Y.toArray⟩
theorem uo (l : List Bs) : (bss l).length = l.length := by unfold bss; simp
theorem qc (l m : List Bs) : bss (l ++ m) = bss l ++ bss m := by unfold bss; simp
theorem UU : ∀ (l : List RR), ((l.map Zr).flatten).length ≤ 2 * l.length
 | [] => Nat.le_refl _
 | r :: l => by
  have h := UU l;have h2 : (Zr r).length ≤ 2 := by
   unfold Zr prt;rw [List.length_map];split
   ·cases hp : xM r.t r.d with
    | none => simp
    | some x => exact K3 hp
   ·simp
  rw [List.map_cons, List.flatten_cons, List.length_append, List.length_cons]; omega
/-- the names of the first i records, and of the next one's first k -/
theorem yg {l : List RR} {i : Nat} (h : i < l.length) : ((l.take (i + 1)).map Zr).flatten = ((l.take i).map Zr).flatten ++ Zr l[i] := by
 rw [List.take_succ_eq_append_getElem h, List.map_append, List.flatten_append]; simp
theorem Q5 {S : zw} {s : St} {v : Value} (hs : J6 s) (hv : Src S v s.rrs) : Tri Tryz.prog 52 #[.agg (bA s v)] S (fun x S' => ∃ H, Za 9 x (bss (Z6 s)) H ∧ S' = H :: S) := by
 refine Tri.forget (zm Tryz.GX (Nat.le_of_ble_eq_true rfl) ?_);unfold Tryz.L8;obtain ⟨a, c, rfl⟩ := hv.isSlice;have hrr := hs.rrs;refine ze (z8 ?_);refine zh (Zq rfl fun p1 => ?_);refine yp pC (zf (za (ze (z8 (yp (zo rfl) (yp (zo rfl) ?_))))));refine zh (zC rfl rfl ?_);refine yp (zo rfl) ?_;refine zh (zC rfl rfl ?_);refine zh (bL (l := [sv s.name, sv s.zone]) rfl (by decide) (by decide) (by decide) rfl fun p13 => ?_);refine zh (Zf fun p3 => ?_);refine zh (ZJ rfl rfl (Ye rfl) ?_);refine zf (za (ze (ze (z8 (yp (zo rfl) ?_)))));refine zh (zC rfl rfl ?_);refine yp (ZC rfl) (yp pC (zf (za (zq ?_))));have h0 : Za 9 (.slice (some ⟨p13, 0, none⟩) 2 2) (bss (s.name :: s.zone :: ((s.rrs.take 0).map Zr).flatten)) [(p13, .cells [sv s.name, sv s.zone].toArray 9)] := Za.full (L := bss [s.name, s.zone]) rfl;refine Z5 (σ := Nat) (fun i E S' => ∃ vo Ho, Has E [(3, .pointer (some ⟨p3, 0, none⟩)), (15, .slice a s.rrs.length c), (16, .int .i64 (s.rrs.length : Int)), (17, .int .i64 (i : Int))] ∧ i ≤ s.rrs.length ∧ Za 9 vo (bss (s.name :: s.zone :: ((s.rrs.take i).map Zr).flatten)) Ho ∧ zB S' (Ho :: [(p3, .cells #[vo] 85)] :: S)) (fun i => s.rrs.length - i) 0
  ⟨_, _, ⟨rfl, rfl, rfl, rfl, trivial⟩, Nat.zero_le _, h0, .of⟩ fun i E S' ⟨vo, Ho, hE, hi, hL, hJ⟩ => ?_
 obtain ⟨E0, e0⟩ := zx hE; subst e0; clear hE;refine zn hJ ?_;obtain ⟨la, lc, rfl⟩ := hL.isSlice;refine ze (z8 (yp (ZO rfl rfl) (zf (za (ze ?_)))));refine zP rfl (fun h => ?_) (fun h => ?_)
 ·have hlt : i < s.rrs.length := by omega
  obtain ⟨b, o, ca, ty, fz, rfl, _, hmem, _, hg⟩ := hv.get (by intro h; simp [h] at hlt);have hge := hg i hlt;have hr := List.getElem_mem hlt;have hts := yg hlt;have hnl := UU (s.rrs.take i);have hil : (s.rrs.take i).length = i := by rw [List.length_take]; omega
  generalize s.rrs[i] = r at hge hr hts;obtain ⟨hn, hd⟩ := hs.each r hr;refine zu (za (ze (zq (ze (z8 (yp (zS rfl rfl (by omega)) ?_))))));refine zh (Xt (S := Ho :: [(p3, .cells #[.slice la (bss (s.name :: s.zone :: ((s.rrs.take i).map Zr).flatten)).length lc] 85)] :: S) (l := enc r) (List.mem_cons_of_mem _ (List.mem_cons_of_mem _ hmem)) rfl hge rfl ?_);refine zh (Zf fun p5 => ?_);refine zh (vL (c' := [sv r.n, .int .i64 r.t, .int .i64 r.c, .int .i64 r.ttl, sv r.d]) rfl rfl rfl rfl rfl ?_);refine zf (za (ze (z8 (yp (zo rfl) ?_))));refine zh (zC rfl rfl ?_);refine yp (zo rfl) ?_;refine zh (zC rfl rfl ?_);refine zh (zk (kZ r.t r.d) rfl rfl fun r' S' h => ?_);obtain ⟨bt, bd, rfl, rfl⟩ := h;refine zf (za (zq ?_));refine kE (t := r.t) (d := r.d) (S := [(p5, .cells (om r) 88)] :: Ho :: [(p3, .cells #[.slice la (bss (s.name :: s.zone :: ((s.rrs.take i).map Zr).flatten)).length lc] 85)] :: S)
   (fun k T => ∃ vo Ho, Za 9 vo (bss (s.name :: s.zone :: ((s.rrs.take i).map Zr).flatten ++ (Zr r).take k)) Ho ∧ zB T ([(p5, .cells (om r) 88)] :: Ho :: [(p3, .cells #[vo] 85)] :: S)) rfl rfl hd ⟨_, Ho, by rw [List.take_zero, List.append_nil]; exact hL, .self⟩ ?_ ?_
  ·rintro l k x T hx ⟨vo, Ho, hL, hJ⟩;obtain ⟨hv1, hv2, hv3⟩ := Xy (List.mem_of_getElem? hx);obtain ⟨la2, lc2, rfl⟩ := hL.isSlice;have hkl := (List.getElem?_eq_some_iff.1 hx).1;have htk : (Zr r).take (k + 1) = (Zr r).take k ++ [U9 r.d x] := by
    unfold Zr;rw [← List.map_take, ← List.map_take, List.take_add_one, hx]; simp
   have hlen : (bss (s.name :: s.zone :: ((s.rrs.take i).map Zr).flatten ++ (Zr r).take k)).length ≤ 2 ^ 22 + 2 := by
    have h1 := UU (s.rrs.take (i + 1));rw [hts, List.length_append, List.length_take] at h1;rw [uo, List.cons_append, List.cons_append, List.length_cons, List.length_cons, List.length_append, List.length_take];omega
   refine zn hJ (ze (z8 (yp (pI rfl) (zf (za (z8 (yp (pI rfl) (zf (za (zq (zW (Z4 rfl rfl (zi (zo rfl) (Z4 rfl rfl (zi (pI rfl) (zi (pI rfl) (zi (pI rfl) (zi (Zo rfl rfl (by omega)) (zi (oz (Y := r.d) (j := x.at_) (k := x.at_ + x.n) rfl rfl rfl ⟨by omega, hv3⟩) ?_)))))))))))))))))));rw [show x.at_ + x.n - x.at_ = x.n from by omega];refine Zk (WX (⟨(U9 r.d x).toArray⟩ : ByteArray) rfl rfl (by decide) (by decide) rfl fun p36 => ⟨fun _ hs => List.mem_cons_of_mem _ hs, ?_⟩) zN;refine zM (VA (Y := [(⟨(U9 r.d x).toArray⟩ : ByteArray)]) rfl rfl hL (.lit (by repeat (first | exact List.mem_cons_self | apply List.mem_cons_of_mem)) rfl) rfl (⟨#[]⟩ : ByteArray) rfl (by rw [List.length_singleton]; omega) (by rw [List.length_singleton]; omega) fun v2 H2 hL2 => ?_) zN;obtain ⟨la3, lc3, rfl⟩ := hL2.isSlice;refine zM (ZJ rfl rfl (Ye rfl) ?_) zN;refine zL (zR ?_);exact ⟨.slice la3 (bss (s.name :: s.zone :: ((s.rrs.take i).map Zr).flatten ++ (Zr r).take k) ++ [(⟨(U9 r.d x).toArray⟩ : ByteArray)]).length lc3, H2, by rw [htk, ← List.append_assoc, qc _ [U9 r.d x]]; exact hL2, .of⟩
  ·rintro T ⟨vo, Ho, hL, hJ⟩;have hkt : (Zr r).take (prt r.t r.d).length = Zr r := List.take_of_length_le (by unfold Zr; rw [List.length_map]; exact Nat.le_refl _);rw [hkt, List.cons_append, List.cons_append, ← hts] at hL;refine zR (zR (za ?_));refine zn hJ (z8 (yp (Ze rfl rfl (by omega)) (yp (pI rfl) (zf (za ?_)))));exact ⟨i + 1, ⟨vo, Ho, ⟨rfl, rfl, rfl, rfl, trivial⟩, by omega, hL, .of⟩, by omega⟩
 ·refine zX (zF (zF (zZ (za (ze (z8 ?_))))));refine zh (zC rfl rfl ?_);refine yp (pS rfl) (zf (za (zJ ?_)));have hni : s.rrs.take i = s.rrs := List.take_of_length_le (by omega);have hfin : bss (Z6 s) = bss (s.name :: s.zone :: ((s.rrs.take i).map Zr).flatten) := by unfold Z6; rw [hni]
  exact zI (rS rfl) ⟨_, .of, Ho, by rw [hfin]; exact hL, rfl⟩
theorem QW {l : List Int} {i : Nat} (h : i < l.length) : wV (l.take (i + 1)) = wV (l.take i) + l[i] := by
 rw [List.take_succ_eq_append_getElem h, X9];show _ + (l[i] + 0) = _; omega
theorem qW {t : Int} {d : Bs} (k : Nat) : -(255 * (k : Int)) ≤ wV (((prt t d).take k).map fun p => 4 - (p.n : Int)) ∧ wV (((prt t d).take k).map fun p => 4 - (p.n : Int)) ≤ 4 * (k : Int) := by
 have key : ∀ (l : List Pl) (k : Nat), (∀ p ∈ l, p.n ≤ 255) → -(255 * (k : Int)) ≤ wV ((l.take k).map fun p => 4 - (p.n : Int)) ∧ wV ((l.take k).map fun p => 4 - (p.n : Int)) ≤ 4 * (k : Int) := by
  intro l
  induction l with
  | nil => intro k _; rw [List.take_nil]; show -(255 * (k : Int)) ≤ 0 ∧ (0 : Int) ≤ 4 * (k : Int); omega
  | cons p l ih =>
   intro k h;cases k with
   | zero => show -(255 * ((0 : Nat) : Int)) ≤ 0 ∧ (0 : Int) ≤ 4 * ((0 : Nat) : Int); omega
   | succ k =>
    have := ih k fun q hq => h q (List.mem_cons_of_mem _ hq)
    have h1 := h p (by simp);rw [List.take_succ_cons, List.map_cons, V7]
    push_cast
    omega
 refine key _ k fun p hp => ?_
 obtain ⟨h1, h2, _⟩ := Xy hp;have := Wv h1;omega
theorem qY (t : Int) (d : Bs) : (prt t d).length ≤ 2 := by
 unfold prt;split
 ·cases hp : xM t d with
  | none => simp
  | some x => exact K3 hp
 ·simp
theorem dA {s : St} (hm : vQ s = true) (i : Nat) : 0 ≤ wV ((s.rrs.map WZ).take i) ∧ wV ((s.rrs.map WZ).take i) ≤ 1100 * (i : Int) := by
 have key : ∀ (l : List RR) (i : Nat), (∀ r ∈ l, ZH r.t r.d = true) → 0 ≤ wV ((l.map WZ).take i) ∧ wV ((l.map WZ).take i) ≤ 1100 * (i : Int) := by
  intro l
  induction l with
  | nil => intro i _; rw [List.map_nil, List.take_nil]; show (0 : Int) ≤ 0 ∧ (0 : Int) ≤ 1100 * (i : Int); omega
  | cons r l ih =>
   intro i h;cases i with
   | zero => show (0 : Int) ≤ 0 ∧ (0 : Int) ≤ 1100 * ((0 : Nat) : Int); omega
   | succ i =>
    have := ih i fun q hq => h q (List.mem_cons_of_mem _ hq)
    have h1 := h r (by simp);have h2 := lS h1;have h3 := wN h1;have h4 := (qW (t := r.t) (d := r.d) (prt r.t r.d).length).2;have h5 := qY r.t r.d;rw [List.take_length] at h4;have h6 : WZ r ≤ 1100 := by unfold WZ; omega
    rw [List.map_cons, List.take_succ_cons, V7]
    push_cast
    omega
 exact key _ i fun r hr => (Wp hm r hr).1
set_option maxRecDepth 10000 in
theorem K6 {S : zw} {s : St} {v : Value} (hs : J6 s) (hv : Src S v s.rrs) : Tri Tryz.prog 13 #[.agg (bA s v)] S (fun x S' => x = .tuple #[.int .i64 (xI s), .int .i64 (wC s)] ∧ S' = S) := by
 refine Tri.forget (zm Tryz.Ie (Nat.le_of_ble_eq_true rfl) ?_);unfold Tryz.Lx;obtain ⟨a, c, rfl⟩ := hv.isSlice;have hrr := hs.rrs;refine ze (z8 ?_);refine zh (Zq rfl fun p1 => ?_);refine yp pC (yp pC (zf (za (ze (ze (z8 ?_))))));refine zh (ZU (l := [sv s.name, .int .i64 s.typ, .slice a s.rrs.length c, .int .i64 s.kind, sv s.zone]) rfl rfl rfl ?_);refine zh (zk (C8 hs hv) rfl rfl fun r' S' h => ?_);obtain ⟨rfl, hSS⟩ := h;have hSS := hSS.symm;subst hSS;cases hm : vQ s with
 | false =>
  have hE : wC s = 1 := by unfold wC; rw [if_pos hm]
  have hZ : xI s = 0 := by unfold xI; rw [hE, if_neg (by decide)]
  refine yp (Zi rfl) (zf (za (zH rfl (ze (z8 (yp pC (yp pC (zf (za (zJ (zU ?_)))))))))));exact zI (jm rfl rfl) ⟨_, .of, by rw [hE, hZ], rfl⟩
 | true =>
 have hE0 : wC s = if 4096 < Zm s then 3 else 0 := by unfold wC; rw [if_neg (by rw [hm]; decide)]
 have hbd := dA hm;have hlen32 := (VJ hm).2.2.2.2.2.2.1;refine yp (Zi rfl) (zf (za (zA rfl (zu (za (ze (z8 ?_)))))));refine zh (Zf fun p4 => ?_);refine zh (ZJ rfl rfl (Uf rfl) ?_);refine zf (za (ze (ze (z8 (yp (zo rfl) ?_)))));refine zh (zC rfl rfl ?_);refine yp (ZC rfl) (yp pC (zf (za (zq ?_))));refine Z5 (σ := Nat) (fun i E S' => Has E [(4, .pointer (some ⟨p4, 0, none⟩)), (13, .slice a s.rrs.length c), (14, .int .i64 (s.rrs.length : Int)), (15, .int .i64 (i : Int))] ∧ i ≤ s.rrs.length ∧ zB S' ([(p4, .cells #[.int .i64 (16 + wV ((s.rrs.map WZ).take i))] 3)] :: S)) (fun i => s.rrs.length - i) 0
  ⟨⟨rfl, rfl, rfl, rfl, trivial⟩, Nat.zero_le _, by rw [show (16 : Int) + wV ((s.rrs.map WZ).take 0) = 16 from rfl]; exact .of⟩ fun i E S' ⟨hE, hi, hJ⟩ => ?_
 obtain ⟨E0, e0⟩ := zx hE; subst e0; clear hE;refine zn hJ ?_;have hbi := hbd i;refine ze (z8 (yp (ZO rfl rfl) (zf (za (ze ?_)))));refine zP rfl (fun h => ?_) (fun h => ?_)
 ·have hlt : i < s.rrs.length := by omega
  obtain ⟨b, o, ca, ty, fz, rfl, _, hmem, _, hg⟩ := hv.get (by intro h; simp [h] at hlt);have hge := hg i hlt;have hr := List.getElem_mem hlt;have hts := QW (l := s.rrs.map WZ) (i := i) (by rw [List.length_map]; exact hlt);rw [List.getElem_map] at hts;generalize s.rrs[i] = r at hge hr hts;obtain ⟨hn, hd⟩ := hs.each r hr;have hd1000 := wN (Wp hm r hr).1;generalize wV ((s.rrs.map WZ).take i) = A at hts hbi;refine zu (za (ze (zq (ze (z8 (yp (zS rfl rfl (by omega)) ?_))))));refine zh (Xt (S := [(p4, .cells #[.int .i64 (16 + A)] 3)] :: S) (l := enc r) (List.mem_cons_of_mem _ hmem) rfl hge rfl ?_);refine zh (Zf fun p6 => ?_);refine zh (vL (c' := [sv r.n, .int .i64 r.t, .int .i64 r.c, .int .i64 r.ttl, sv r.d]) rfl rfl rfl rfl rfl ?_);refine zf (za (ze (z8 ?_)));refine zh (zC rfl rfl ?_);refine yp (zo rfl) ?_;refine zh (zC rfl rfl ?_);refine yp (uJ rfl) ?_;rw [qI];refine yp (vW rfl rfl (by omega)) (yp (vW rfl rfl (by omega)) ?_);refine zh (ZJ rfl rfl (Uf rfl) ?_);refine zf (za (ze (z8 (yp (zo rfl) ?_))));refine zh (zC rfl rfl ?_);refine yp (zo rfl) ?_;refine zh (zC rfl rfl ?_);refine zh (zk (kZ r.t r.d) rfl rfl fun r' S' h => ?_);obtain ⟨bt, bd, rfl, rfl⟩ := h;refine zf (za (zq ?_));refine kE (t := r.t) (d := r.d) (S := [(p4, .cells #[.int .i64 (16 + A + (2 + (r.d.length : Int)))] 3)] :: S)
   (fun k T => zB T ([(p4, .cells #[.int .i64 (16 + A + (2 + (r.d.length : Int)) + wV (((prt r.t r.d).take k).map fun p => 4 - (p.n : Int)))] 3)] :: S)) rfl rfl hd ?_ ?_ ?_
  ·rw [List.take_zero, List.map_nil, show wV [] = 0 from rfl, Int.add_zero]; exact .self
  ·rintro l k x T hx hJ;have hk2 := qW (t := r.t) (d := r.d) k;obtain ⟨hv1, hv2, hv3⟩ := Xy (List.mem_of_getElem? hx);have h255 := Wv hv1;have hkl := (List.getElem?_eq_some_iff.1 hx).1;have hpl := qY r.t r.d;have hst : wV (((prt r.t r.d).take (k + 1)).map fun p => 4 - (p.n : Int)) = wV (((prt r.t r.d).take k).map fun p => 4 - (p.n : Int)) + (4 - (x.n : Int)) := by
    rw [List.take_add_one, hx, List.map_append, X9];show _ + ((4 - (x.n : Int)) + 0) = _; omega
   show Y _ _ _ _ (VD (fun E1 S1 => Y _ _ _ _ (kX (fun _ S' => zB S' _) _ _) E1 S1) _) _ _;rw [hst];generalize wV (((prt r.t r.d).take k).map fun p => 4 - (p.n : Int)) = B at hJ hk2;refine zn hJ (z8 (yp (pI rfl) (zf (za (zq (z8 ?_))))));refine zh (zC rfl rfl ?_);refine yp (pI rfl) (yp (ZI rfl rfl (by omega)) (yp (vW rfl rfl (by omega)) ?_));refine zh (ZJ rfl rfl (Uf rfl) ?_);refine zf (zR ?_);rw [show 16 + A + (2 + (r.d.length : Int)) + (B + (4 - (x.n : Int))) = 16 + A + (2 + (r.d.length : Int)) + B + (4 - (x.n : Int)) from by omega];exact .of
  ·rintro T hJ;rw [List.take_length] at hJ;have hsz : 16 + A + (2 + (r.d.length : Int)) + wV ((prt r.t r.d).map fun p => 4 - (p.n : Int)) = 16 + wV ((s.rrs.map WZ).take (i + 1)) := by rw [hts]; unfold WZ; omega
   rw [hsz] at hJ;refine zR (zR (za ?_));refine zn hJ (z8 (yp (Ze rfl rfl (by omega)) (yp (pI rfl) (zf (za ?_)))));exact ⟨i + 1, ⟨⟨rfl, rfl, rfl, rfl, trivial⟩, by omega, .of⟩, by omega⟩
 ·have hni : (s.rrs.map WZ).take i = s.rrs.map WZ := List.take_of_length_le (by rw [List.length_map]; omega);have hsz : 16 + wV ((s.rrs.map WZ).take i) = Zm s := by rw [hni]; rfl
  rw [hsz];refine zX (zF (zF (zZ (za (ze (ze (z8 ?_)))))));refine zh (zC rfl rfl ?_);refine yp (VQ rfl rfl) (zf (za ?_));by_cases h4 : 4096 < Zm s
  ·rw [if_pos h4] at hE0;have hZ : xI s = 0 := by unfold xI; rw [hE0, if_neg (by decide)]
   rw [decide_eq_true h4];refine zH rfl (ze (z8 (yp pC (yp pC (zf (za (zJ (zU ?_))))))));exact zI (jm rfl rfl) ⟨_, .of, by rw [hE0, hZ], rfl⟩
  ·rw [if_neg h4] at hE0;have hZ : xI s = Zm s := by unfold xI; rw [hE0, if_pos rfl]
   rw [decide_eq_false h4];refine zA rfl (zu (za (ze (z8 ?_))));refine zh (zC rfl rfl ?_);refine yp (pI rfl) (yp pC (zf (za (zJ ?_))));exact zI (jm rfl rfl) ⟨_, .of, by rw [hE0, hZ], rfl⟩
end Go.Proofs.YtejmbmenbailmaaGreat
namespace Go.Proofs.YtejmbmenbailmaaGreat
open Go.Xs
open Enc (enc)
theorem bW : Tryz.prog.underlying 104 = some (.map 9 4) := by kernel_rfl
def JH (l : List Bs) : ByteArray → Option Bool := fun s => if s.data.toList ∈ l then some true else none
theorem fH : (fun _ : ByteArray => (none : Option Bool)) = JH [] := by funext s; simp [JH]
theorem aA (l : List Bs) (n : Bs) : wK (JH l) (⟨n.toArray⟩ : ByteArray) (some true) = JH (n :: l) := by
 funext s;unfold wK JH;by_cases h : s = ⟨n.toArray⟩
 ·rw [if_pos h, if_pos (by rw [h]; simp)]
 ·rw [if_neg h];have : s.data.toList ∈ n :: l ↔ s.data.toList ∈ l := by
   rw [List.mem_cons];exact ⟨fun h2 => h2.resolve_left fun e => h ((yV s n).2 e), .inr⟩
  simp only [this]
def uM (L : List Nm) (s : St) : Int := if wC s = 0 then cost (Zm s) + (wF L [] (Z6 s) : Nat) else 0
theorem jQ (k : Nat) : zY k ≤ 8192 := by
 unfold zY
 (repeat' split) <;> omega
theorem jR (L : List Nm) : ∀ (l s : List Bs), wF L s l ≤ 8192 * l.length
 | [], _ => Nat.le_refl _
 | n :: l, s => by
  have h1 := jR L l (zy n :: s);have h2 := jQ (8 + n.length);unfold wF;rw [List.length_cons];split <;> omega
theorem VG (s : St) : (Z6 s).length ≤ 2 + 2 * s.rrs.length := by
 have := UU s.rrs;unfold Z6;rw [List.length_cons, List.length_cons]; omega
set_option maxRecDepth 10000 in
theorem rX {S : zw} {s : St} {v : Value} {tb ab : Nat} {L : List Nm} {T : List Chunk} (hT : Tb tb ab L T) (hs : J6 s) (hv : Src S v s.rrs) : Tri Tryz.prog 15 #[.pointer (some ⟨tb, 0, none⟩), .agg (bA s v)] (T :: S) (fun x S' => x = .int .i64 (uM L s) ∧ S' = T :: S) := by
 refine Tri.forget (zm Tryz.Ic (Nat.le_of_ble_eq_true rfl) ?_);unfold Tryz.Lv;obtain ⟨a, c, rfl⟩ := hv.isSlice;refine ze (z8 ?_);refine zh (Zq rfl fun p3 => ?_);refine yp pC (zf (za (ze (z8 ?_))));refine zh (ZU (l := [sv s.name, .int .i64 s.typ, .slice a s.rrs.length c, .int .i64 s.kind, sv s.zone]) rfl rfl rfl ?_);refine zh (zk (K6 hs hv) rfl rfl fun r' S' h => ?_);obtain ⟨rfl, hSS⟩ := h;have hSS := hSS.symm;subst hSS;refine yp (pU rfl) (yp (pExt rfl rfl) (yp (pExt rfl rfl) (yp (pI rfl) (yp (pI rfl) (zf (za (ze (ze (z8 (yp (pI rfl) (yp (Xk rfl rfl) (zf (za ?_)))))))))))));by_cases hE : wC s = 0
 case neg =>
  have hC : uM L s = 0 := by unfold uM; rw [if_neg hE]
  rw [decide_eq_false hE];refine zH rfl (ze (z8 (yp pC (zf (za (zJ (zU ?_)))))));exact zI (rI rfl) ⟨_, .of, by rw [hC], rfl⟩
 have hm : vQ s = true := by
  cases hm : vQ s with
  | true => rfl
  | false => unfold wC at hE; rw [if_pos hm] at hE; cases hE
 have hZ : xI s = Zm s := by unfold xI; rw [if_pos hE]
 have hC : uM L s = cost (Zm s) + (wF L [] (Z6 s) : Nat) := by unfold uM; rw [if_pos hE]
 rw [decide_eq_true hE, hZ];refine zA rfl (zu (za (ze (z8 (yp (pI rfl) ?_)))));refine zh (zk (X5 (Zm s)) rfl rfl fun r' S' h => ?_);obtain ⟨rfl, rfl⟩ := h;refine yp (pI rfl) (zf (za (ze (z8 ?_))));refine zh (kG ByteArray Bool fun mb HM hM => ?_);rw [fH] at hM;refine yp (pM rfl) (zf (za (ze (ze (z8 ?_)))));refine zh (ZU (l := [sv s.name, .int .i64 s.typ, .slice a s.rrs.length c, .int .i64 s.kind, sv s.zone]) rfl rfl rfl ?_);refine zh (zk (Q5 hs hv) rfl rfl fun r' S' h => ?_);obtain ⟨HN, hN, hSS⟩ := h;subst hSS;obtain ⟨na, nc, rfl⟩ := hN.isSlice;rw [uo] at hN ⊢;have hnl := VG s;have hrr := hs.rrs;have hcb : 0 ≤ cost (Zm s) ∧ cost (Zm s) ≤ 8192 := by
  have := jQ (Zm s).toNat;unfold cost;split <;> omega
 refine yp (ZC rfl) (yp pC (zf (za (zq ?_))));refine Z5 (σ := Nat) (fun i E S' => ∃ (seen : List Bs) (acc m : Nat) (HM : List Chunk), Has E [(0, .pointer (some ⟨tb, 0, none⟩)), (7, .int .i64 (cost (Zm s) + (acc : Nat))), (8, .map (some mb)), (22, .slice na (Z6 s).length nc), (23, .int .i64 ((Z6 s).length : Int)), (24, .int .i64 (i : Int))] ∧ i ≤ (Z6 s).length ∧ acc + wF L seen ((Z6 s).drop i) = wF L [] (Z6 s) ∧ Mp mb (JH seen) m HM ∧ zB S' (HM :: T :: HN :: S)) (fun i => (Z6 s).length - i) 0
  ⟨[], 0, 0, HM, ⟨rfl, by show Value.int _ _ = _; congr 1; omega, rfl, rfl, rfl, rfl, trivial⟩, Nat.zero_le _, by rw [List.drop_zero, Nat.zero_add], hM, .of⟩ fun i E S' ⟨seen, acc, m, HM, hE2, hi, hacc, hM, hJ⟩ => ?_
 have htot := jR L (Z6 s) [];obtain ⟨E0, e0⟩ := zx hE2; subst e0; clear hE2;refine zn hJ (ze (z8 (yp (ZO rfl rfl) (zf (za (ze ?_))))));refine zP rfl (fun h => ?_) (fun h => ?_)
 ·have hlt : i < (Z6 s).length := by omega
  have hdr : (Z6 s).drop i = (Z6 s)[i] :: (Z6 s).drop (i + 1) := List.drop_eq_getElem_cons hlt;have hvl := yh hm _ (List.getElem_mem hlt);obtain ⟨b, sp, fz, hz, rfl, _, hc', rfl⟩ := hN.at' (by intro h; rw [← List.length_eq_zero_iff, uo] at h; omega);have hld : ((cells (bss (Z6 s) ++ sp)).toArray.toList)[0 + i * 1 + 0]? = some (sv (Z6 s)[i]) := (wD (kk := 1) (j := 0) (by rw [uo]; exact hlt) rfl (by omega)).trans (by unfold bss; rw [List.getElem_map]; rfl);generalize (Z6 s)[i] = n at hdr hvl hld;have h255 := Wv hvl;rw [hdr, wF] at hacc;refine zu (za (ze (zq (ze (z8 (yp (zS rfl rfl (by omega)) ?_))))));refine zh (zC (v := sv n) rfl hld ?_);refine yp (pT rfl) (zf (za (ze (z8 (yp (pT rfl) ?_)))));refine zh (zk (Kh n (by omega)) rfl rfl fun r' S' h => ?_);obtain ⟨rfl, rfl⟩ := h;refine yp (pT rfl) (zf (za (ze (z8 (yp (pM rfl) (yp (pT rfl) ?_))))));refine zh (Vr (v := .bool (decide (zy n ∈ seen))) hM (by simp) (⟨(zy n).toArray⟩ : ByteArray) bW xH Xq rfl rfl ?_ ?_)
  ·unfold JH;by_cases h : zy n ∈ seen
   ·rw [if_pos h, decide_eq_true h]; rfl
   ·rw [if_neg h, decide_eq_false h]; rfl
  by_cases hin : zy n ∈ seen
  ·rw [decide_eq_true hin];rw [if_pos (.inl hin)] at hacc;refine yp (Zi rfl) (zf (za (zA rfl (zu (zR (za (z8 (yp (Ze rfl rfl (by omega)) (yp (pI rfl) (zf (za ?_)))))))))));have hcg := uN (L := L) (l := (Z6 s).drop (i + 1)) (s := zy n :: seen) (s' := seen) fun m => by
    rw [List.mem_cons];exact ⟨fun h => by rcases h with rfl | h <;> assumption, .inr⟩
   exact ⟨i + 1, ⟨seen, acc, m, HM, ⟨rfl, rfl, rfl, rfl, rfl, rfl, trivial⟩, by omega, by rw [hcg] at hacc; omega, hM, .of⟩, by omega⟩
  ·rw [decide_eq_false hin];refine yp (Zi rfl) (zf (za (zH rfl (ze (z8 (yp (pM rfl) (yp (pT rfl) ?_)))))));refine zh (nQ hM (⟨(zy n).toArray⟩ : ByteArray) true bW xH rfl rfl rfl fun HM2 hM2 => ?_);rw [aA] at hM2;refine zf (za (z8 (yp (pI rfl) (yp (pP rfl) (yp (pT rfl) ?_)))));refine zh (zk (r9 hT (zy n) (by rw [wU]; omega)) rfl rfl fun r' S' h => ?_);obtain ⟨rfl, rfl⟩ := h;rw [xW, VB, hvl, wU];have hcc : cost (8 + (n.length : Int)) = (zY (8 + n.length) : Nat) := by
    unfold cost; rw [if_neg (by omega)]; congr 1
   have hval : (if (Vi L (zy n)).isSome = true ∨ true = false then (0 : Int) else cost (8 + (n.length : Int))) = ((if zy n ∈ seen ∨ (Vi L (zy n)).isSome = true then 0 else zY (8 + n.length) : Nat) : Int) := by
    by_cases hb : (Vi L (zy n)).isSome = true
    ·rw [if_pos (.inl hb), if_pos (.inr hb)]; rfl
    ·rw [if_neg (by simp [hb]), if_neg (by simp [hb, hin]), hcc]
   rw [hval];generalize (if zy n ∈ seen ∨ (Vi L (zy n)).isSome = true then 0 else zY (8 + n.length) : Nat) = q at hacc;refine yp (vW rfl rfl (by omega)) (yp (pI rfl) (zf (zR (za (z8 (yp (Ze rfl rfl (by omega)) (yp (pI rfl) (zf (za ?_)))))))));exact ⟨i + 1, ⟨zy n :: seen, acc + q, _, HM2, ⟨rfl, by show Value.int _ _ = _; congr 1; omega, rfl, rfl, rfl, rfl, trivial⟩, by omega, by omega, hM2, .of⟩, by omega⟩
 ·have hd0 : (Z6 s).drop i = [] := List.drop_eq_nil_of_le (by omega);rw [hd0, wF] at hacc;refine zX (zF (zF (zZ (za (ze (z8 (yp (pI rfl) (yp (pI rfl) (zf (za (zJ ?_)))))))))));exact zI (rI rfl) ⟨_, .of, by rw [hC, ← hacc]; rfl, rfl⟩
end Go.Proofs.YtejmbmenbailmaaGreat
namespace Go.Proofs.YtejmbmenbailmaaGreat
open Go.Xs
open Enc (enc)
theorem sN {E : Env} {x : Operand} {j : Nat} (h : ev E x = .int .i64 (j : Int)) : zl (ev E) (.conv .u8 x) = some (.int .u8 ((UInt8.ofNat (j % 256)).toNat : Int)) := by
 simp only [zl, h, XT];have : (UInt8.ofNat (j % 256)).toNat = j % 256 % 256 := by simp
 rw [this];congr 2;omega
theorem Ck {E : Env} {x : Operand} {j : Nat} (h : ev E x = .int .i64 (j : Int)) : zl (ev E) (.bin .shr x (.const (.int .u64 8))) = some (.int .i64 ((j / 256 : Nat) : Int)) := by
 have h2 : (j : Int).fdiv 256 = ((j / 256 : Nat) : Int) := by rw [Int.fdiv_eq_ediv_of_nonneg _ (by decide)]; omega
 rw [← h2];simp only [zl, h];rfl
theorem fM (k n : Nat) : U7 (k + 1) n = UInt8.ofNat (n % 256) :: U7 k (n / 256) := rfl
theorem BZ {v : Value} {L : Bs} {H : List Chunk} (hL : Za 5 v L H) (hLl : L.length < 2 ^ 40) (n size : Nat) (hs : size ≤ 8) : Tri Tryz.prog 112 #[v, .int .i64 (n : Int), .int .i64 (size : Int)] [H] (fun x S => ∃ H', Za 5 x (L ++ U7 size n) H' ∧ S = [H']) := by
 refine Tri.forget (zm Tryz.EB (Nat.le_of_ble_eq_true rfl) ?_);unfold Tryz.x112;refine ze (z8 (yp pC (zf (za (ze (ze (z8 (yp (pI rfl) (yp pC (zf (za (zq ?_))))))))))));refine Z5 (σ := Nat) (fun i E S => ∃ (v : Value) (L' : Bs) (H' : List Chunk) (m : Nat), Has E [(1, .int .i64 (m : Int)), (7, .int .i64 (size : Int)), (8, .int .i64 (i : Int))] ∧ E 0 = v ∧ Za 5 v L' H' ∧ i ≤ size ∧ m ≤ n ∧ L'.length ≤ L.length + i ∧ L' ++ U7 (size - i) m = L ++ U7 size n ∧ zB S [H']) (fun i => size - i) 0
  ⟨v, L, H, n, ⟨rfl, rfl, rfl, trivial⟩, rfl, hL, Nat.zero_le _, Nat.le_refl _, Nat.le_refl _, rfl, .of⟩ fun i E S ⟨v', L', H', m, hE, hE0, hL', hi, hm, hll, heq, hJ⟩ => ?_
 obtain ⟨la, lc, rfl⟩ := hL'.isSlice;have hE2 : Has E [(0, .slice la L'.length lc), (1, .int .i64 (m : Int)), (7, .int .i64 (size : Int)), (8, .int .i64 (i : Int))] := ⟨hE0, hE⟩
 clear hE hE0;obtain ⟨E0, e0⟩ := zx hE2; subst e0; clear hE2;refine zn hJ (ze (z8 (yp (ZO rfl rfl) (zf (za (ze ?_))))));refine zP rfl (fun h => ?_) (fun h => ?_)
 ·obtain ⟨j, hj⟩ : ∃ j, size - i = j + 1 := ⟨size - i - 1, by omega⟩
  rw [hj, fM] at heq;refine zu (za (ze (zq (ze (z8 (yp (pS rfl) (yp (pI rfl) (yp (sN rfl) ?_))))))));generalize UInt8.ofNat (m % 256) = b at heq;refine zh (WX b rfl rfl (by decide) (by decide) rfl fun p13 => ?_);refine zh (VA (Y := [b]) rfl rfl hL' (.lit (by repeat (first | exact List.mem_cons_self | apply List.mem_cons_of_mem)) rfl) rfl (0 : UInt8) rfl (by rw [List.length_singleton]; omega) (by rw [List.length_singleton]; omega) fun v2 H2 hL2 => ?_);obtain ⟨la2, lc2, rfl⟩ := hL2.isSlice;refine yp (pS rfl) (zf (za (z8 (yp (pI rfl) (yp (Ck rfl) (yp (pI rfl) (zf (zR (za (z8 (yp (Ze rfl rfl (by omega)) (yp (pI rfl) (zf (za ?_))))))))))))));refine ⟨i + 1, ⟨.slice la2 (L' ++ [b]).length lc2, L' ++ [b], H2, m / 256, ⟨rfl, rfl, rfl, trivial⟩, rfl, hL2, by omega, by omega, by rw [List.length_append, List.length_singleton]; omega, ?_, .of⟩, by omega⟩;rw [show size - (i + 1) = j from by omega, List.append_assoc]; exact heq
 ·rw [show size - i = 0 from by omega] at heq;have heq2 : L' = L ++ U7 size n := by rw [← heq]; show L' = L' ++ []; rw [List.append_nil]
  refine zX (zF (zF (zZ (za (ze (z8 (yp (pS rfl) (yp (pS rfl) (zf (za (zJ ?_)))))))))));exact zI (rS rfl) ⟨_, .of, H', by rw [← heq2]; exact hL', rfl⟩
theorem Uo {v : Value} {L : Bs} {H : List Chunk} (hL : Za 5 v L H) (hLl : L.length < 2 ^ 40) (n : Int) (size : Nat) (hn : 0 ≤ n) (hs : size ≤ 8) : Tri Tryz.prog 112 #[v, .int .i64 n, .int .i64 (size : Int)] [H] (fun x S => ∃ H', Za 5 x (L ++ U7 size n.toNat) H' ∧ S = [H']) := by
 have := BZ hL hLl n.toNat size hs
 rwa [show ((n.toNat : Nat) : Int) = n from by omega] at this
/-- an element of a list that is read -/
theorem j5 {α : Type} [Enc α] {S : zw} {a : Option Addr} {c : Nat} {L : List α} (h : Src S (.slice a L.length c) L) {i : Nat} (hi : i < L.length) : ∃ (b o : Nat) (ca : Array Value) (ty : TypeId) (fz : Nat × Nat), a = some ⟨b, o, none⟩ ∧ [(b, Obj.cells ca ty fz)] ∈ S ∧ (ca.toList.drop (o + i * Enc.k α)).take (Enc.k α) = enc L[i] ∧ ∀ j, j < Enc.k α → ca.toList[o + i * Enc.k α + j]? = (enc L[i])[j]? := by
 obtain ⟨b, o, ca, ty, fz, rfl, _, hmem, h1, h2⟩ := h.get (by intro h; simp [h] at hi);exact ⟨b, o, ca, ty, fz, rfl, hmem, h2 i hi, fun j hj => h1 i j hi hj⟩
set_option maxRecDepth 10000 in
theorem mD {S : zw} {s : St} {v iv : Value} {ids : List Int} (hs : J6 s) (hv : Src S v s.rrs) (hi : Src S iv ids) (hE : wC s = 0) (hlen : ids.length = (Z6 s).length) (hnn : ∀ i ∈ ids, 0 ≤ i) :
 Tri Tryz.prog 63 #[.agg (bA s v), iv] S (fun x S' => ∃ H, Za 5 x (Wd s ids) H ∧ S' = H :: S) := by
 refine Tri.forget (zm Tryz.GK (Nat.le_of_ble_eq_true rfl) ?_);unfold Tryz.IU;obtain ⟨a, c, rfl⟩ := hv.isSlice;obtain ⟨ia, ic, rfl⟩ := hi.isSlice;have hrr := hs.rrs;have hl2 : 2 ≤ ids.length := by rw [hlen]; unfold Z6; simp
 have hidb : ids.length ≤ 2 ^ 22 := by
  have := VG s;omega
 obtain ⟨b0, o0, ca0, ty0, fz0, rfl, hm0, _, hg0⟩ := j5 hi (i := 0) (by omega);obtain ⟨b1, o1, ca1, ty1, fz1, hb1, hm1, _, hg1⟩ := j5 hi (i := 1) (by omega);have hg0 := hg0 0 (by decide);have hg1 := hg1 0 (by decide);have hn0 := hnn ids[0] (List.getElem_mem _);have hn1 := hnn ids[1] (List.getElem_mem _);have hi0 : ids.getD 0 0 = ids[0] := by rw [List.getD_eq_getElem?_getD, List.getElem?_eq_getElem (by omega)]; rfl
 have hi1 : ids.getD 1 0 = ids[1] := by rw [List.getD_eq_getElem?_getD, List.getElem?_eq_getElem (by omega)]; rfl
 have hld0 : ca0.toList[o0 + 0 * 1 + 0]? = some (.int .i64 ids[0]) := hg0;have hld1 : ca1.toList[o1 + 1 * 1 + 0]? = some (.int .i64 ids[1]) := hg1;have hm : vQ s = true := by
  cases hm : vQ s with
  | true => rfl
  | false => unfold wC at hE; rw [if_pos hm] at hE; cases hE
 have hnum := VJ hm;have hhead : Wd s ids = [] ++ U7 4 ids[0].toNat ++ U7 2 s.typ.toNat ++ U7 2 s.kind.toNat ++ U7 4 ids[1].toNat ++ U7 4 1585123525 ++ Um s.rrs (ids.drop 2) := by
  unfold Wd U8;rw [hi0, hi1]; rfl
 generalize ids[0] = z0 at hld0 hn0 hhead;generalize ids[1] = z1 at hld1 hn1 hhead;refine ze (z8 ?_);refine zh (Zq rfl fun p2 => ?_);refine zh (iU (Ye rfl) fun p3 => ?_);refine yp pC (zf (za (ze (z8 ?_))));refine zh (zC rfl rfl ?_);refine yp (zS (k := 0) rfl rfl (by omega)) ?_;refine zh (Uh (by repeat (first | exact hm0 | apply List.mem_cons_of_mem)) rfl hld0 ?_);refine zh (zk (Uo (v := .slice none 0 0) (L := []) (H := []) .nil (by decide) z0 4 hn0 (by decide)) rfl rfl fun x S' h => ?_);obtain ⟨H1, hL1, rfl⟩ := h;obtain ⟨la1, lc1, rfl⟩ := hL1.isSlice;refine yp (pS rfl) (zf (za (ze (z8 (yp (pS rfl) (yp (zo rfl) (yp (zo rfl) ?_)))))));refine zh (zC rfl rfl ?_);refine zh (zk (Uo hL1 (by simp [Zu]) s.typ 2 (by omega) (by decide)) rfl rfl fun x S' h => ?_);obtain ⟨H2, hL2, rfl⟩ := h;obtain ⟨la2, lc2, rfl⟩ := hL2.isSlice;refine yp (pS rfl) (zf (za (ze (z8 (yp (pS rfl) (yp (zo rfl) ?_))))));refine zh (zC rfl rfl ?_);refine zh (zk (Uo hL2 (by simp [Zu]) s.kind 2 (by omega) (by decide)) rfl rfl fun x S' h => ?_);obtain ⟨H3, hL3, rfl⟩ := h;obtain ⟨la3, lc3, rfl⟩ := hL3.isSlice;refine yp (pS rfl) (zf (za (ze (z8 (yp (pS rfl) ?_)))));refine zh (zC rfl rfl ?_);obtain ⟨rfl, rfl⟩ : b0 = b1 ∧ o0 = o1 := by cases hb1; exact ⟨rfl, rfl⟩
 refine yp (zS (k := 1) rfl rfl (by omega)) ?_;refine zh (Uh (by repeat (first | exact hm1 | apply List.mem_cons_of_mem)) rfl hld1 ?_);refine zh (zk (Uo hL3 (by simp [Zu]) z1 4 hn1 (by decide)) rfl rfl fun x S' h => ?_);obtain ⟨H4, hL4, rfl⟩ := h;obtain ⟨la4, lc4, rfl⟩ := hL4.isSlice;refine yp (pS rfl) (zf (za (ze (z8 (yp (pS rfl) ?_)))));refine zh (zk (Uo hL4 (by simp [Zu]) 1585123525 4 (by decide) (by decide)) rfl rfl fun x S' h => ?_);obtain ⟨H5, hL5, rfl⟩ := h;obtain ⟨la5, lc5, rfl⟩ := hL5.isSlice;refine yp (pS rfl) (zf (za (ze (z8 ?_))));refine zh (Zf fun p6 => ?_);refine zh (ZJ rfl rfl (Uf rfl) ?_);refine zf (za (ze (ze (z8 (yp (zo rfl) ?_)))));refine zh (zC rfl rfl ?_);refine yp (ZC rfl) (yp pC (zf (za (zq ?_))));have hblk : (Wd s ids).length ≤ 4096 := by
  have h1 := xB (fun r hr => (Wp hm r hr).1) hlen;unfold wC at hE;rw [if_neg (by rw [hm]; decide)] at hE;split at hE
  ·cases hE
  ·omega
 refine Z5 (σ := Nat) (fun i E S' => ∃ (v : Value) (Lb : Bs) (Hb : List Chunk), Has E [(3, .pointer (some ⟨p3, 0, none⟩)), (6, .pointer (some ⟨p6, 0, none⟩)), (34, .slice a s.rrs.length c), (35, .int .i64 (s.rrs.length : Int)), (36, .int .i64 (i : Int))] ∧ E 5 = v ∧ Za 5 v Lb Hb ∧ i ≤ s.rrs.length ∧ Lb ++ Um (s.rrs.drop i) (ids.drop (2 + ((s.rrs.take i).map Zr).flatten.length)) = Wd s ids ∧
  zB S' (Hb :: [(p6, .cells #[.int .i64 ((2 + ((s.rrs.take i).map Zr).flatten.length : Nat) : Int)] 3)] :: [(p3, .cells #[.slice (some ⟨b0, o0, none⟩) ids.length ic] 23)] :: S)) (fun i => s.rrs.length - i) 0
  ⟨.slice la5 _ lc5, _, H5, ⟨rfl, rfl, rfl, rfl, rfl, trivial⟩, rfl, hL5, Nat.zero_le _, hhead.symm, by
   show zB _ (H5 :: [(p6, .cells #[.int .i64 2] 3)] :: [(p3, .cells #[.slice (some ⟨b0, o0, none⟩) ids.length ic] 23)] :: S);exact .of⟩ fun i E S' ⟨vb, Lb, Hb, hE2, hE5, hLb, hile, heq, hJ⟩ => ?_
 clear hL1 hL2 hL3 hL4 hL5 hhead;obtain ⟨la, lc, rfl⟩ := hLb.isSlice;have hE3 : Has E [(3, .pointer (some ⟨p3, 0, none⟩)), (5, .slice la Lb.length lc), (6, .pointer (some ⟨p6, 0, none⟩)), (34, .slice a s.rrs.length c), (35, .int .i64 (s.rrs.length : Int)), (36, .int .i64 (i : Int))] := ⟨hE2.1, hE5, hE2.2⟩
 clear hE2 hE5;obtain ⟨E0, e0⟩ := zx hE3; subst e0; clear hE3;refine zn hJ (ze (z8 (yp (ZO rfl rfl) (zf (za (ze ?_))))));refine zP rfl (fun h => ?_) (fun h => ?_)
 ·have hlt : i < s.rrs.length := by omega
  obtain ⟨rb, ro, rca, rty, rfz, rfl, rmem, hge, _⟩ := j5 hv hlt;have hr := List.getElem_mem hlt;have hts := yg hlt;have hdr : s.rrs.drop i = s.rrs[i] :: s.rrs.drop (i + 1) := List.drop_eq_getElem_cons hlt;rw [hdr] at heq;have hnt : ((s.rrs.take (i + 1)).map Zr).flatten.length ≤ ((s.rrs.map Zr).flatten).length := by
   have e : s.rrs.map Zr = (s.rrs.take (i + 1)).map Zr ++ (s.rrs.drop (i + 1)).map Zr := by rw [← List.map_append, List.take_append_drop]
   rw [e, List.flatten_append, List.length_append]; omega
  have hidl : ids.length = 2 + ((s.rrs.map Zr).flatten).length := by rw [hlen]; unfold Z6; simp; omega
  rw [hts, List.length_append] at hnt;have hts2 : ((s.rrs.take (i + 1)).map Zr).flatten.length = ((s.rrs.take i).map Zr).flatten.length + (prt s.rrs[i].t s.rrs[i].d).length := by rw [hts, List.length_append]; unfold Zr; rw [List.length_map]
  have hnr : (Zr s.rrs[i]).length = (prt s.rrs[i].t s.rrs[i].d).length := by unfold Zr; rw [List.length_map]
  rw [hnr] at hnt;clear hts hnr hdr;generalize hnk : ((s.rrs.take (i + 1)).map Zr).flatten.length = nk' at hts2;generalize s.rrs[i] = r at hge hr hts2 hnt heq;generalize ((s.rrs.take i).map Zr).flatten.length = nk at hts2 hnt heq;obtain ⟨hn, hd⟩ := hs.each r hr;obtain ⟨hok, _⟩ := Wp hm r hr;have hd1000 := wN hok;have hrow : ∃ a0, Row r.d a0 (prt r.t r.d) := by
   rcases qX r.t r.d with h | ⟨a0, k, b, e, _, ha, hc, _⟩
   ·exact ⟨0, by rw [h]; exact Nat.zero_le _⟩
   ·exact ⟨a0, K4 hc ha⟩
  obtain ⟨a0, hrow⟩ := hrow;rw [Um] at heq;refine zu (za (ze (zq (ze (z8 (yp (zS rfl rfl (by omega)) ?_))))));refine zh (Xt (l := enc r) (by repeat (first | exact rmem | apply List.mem_cons_of_mem)) rfl hge rfl ?_);refine zh (Zf fun p8 => ?_);refine zh (vL (c' := [sv r.n, .int .i64 r.t, .int .i64 r.c, .int .i64 r.ttl, sv r.d]) rfl rfl rfl rfl rfl ?_);refine zf (za (ze (z8 ?_)));refine zh (Zf fun p9 => ?_);refine zf (za (ze (z8 ?_)));refine zh (Zf fun p10 => ?_);refine zh (ZJ rfl rfl (Uf rfl) ?_);refine zf (za (ze (ze (z8 (yp (zo rfl) ?_)))));refine zh (zC rfl rfl ?_);refine yp (zo rfl) ?_;refine zh (zC rfl rfl ?_);refine zh (zk (kZ r.t r.d) rfl rfl fun r' S' h => ?_);obtain ⟨bt, bd, rfl, rfl⟩ := h;refine zf (za (zq ?_));have hrle : ∀ {a0 : Nat} {l : List Pl}, Row r.d a0 l → a0 ≤ r.d.length := fun {a0 l} h => by
   cases l with
   | nil => exact h
   | cons p l =>
    have := (vB h.2.1).2.2;have h0 := (vB h.2.1).1;rw [List.length_drop] at this; omega
  refine kE (t := r.t) (d := r.d) (S := [(p8, .cells (om r) 88)] :: [] :: [(p9, .cells #[.slice none 0 0] 67)] :: [(p10, .cells #[.int .i64 0] 3)] :: Hb :: [(p6, .cells #[.int .i64 ((2 + nk : Nat) : Int)] 3)] :: [(p3, .cells #[.slice (some ⟨b0, o0, none⟩) ids.length ic] 23)] :: S)
   (fun q T => ∃ (vd : Value) (Ld : Bs) (Hd : List Chunk) (fr a0 : Nat), Za 5 vd Ld Hd ∧ fr ≤ a0 ∧ Row r.d a0 ((prt r.t r.d).drop q) ∧ Ld ++ splice r.d fr ((prt r.t r.d).drop q) ((ids.drop (2 + nk + q)).map U8) = WQ r (ids.drop (2 + nk)) ∧
    zB T ([(p8, .cells (om r) 88)] :: Hd :: [(p9, .cells #[vd] 67)] :: [(p10, .cells #[.int .i64 (fr : Int)] 3)] :: Hb :: [(p6, .cells #[.int .i64 ((2 + nk + q : Nat) : Int)] 3)] :: [(p3, .cells #[.slice (some ⟨b0, o0, none⟩) ids.length ic] 23)] :: S)) rfl rfl hd ⟨_, [], [], 0, a0, .nil, Nat.zero_le _, hrow, rfl, .self⟩ ?_ ?_
  ·rintro l q x T hx ⟨vd, Ld, Hd, fr, a1, hLd, hfr, hrw, hsp, hJ⟩;have hql := (List.getElem?_eq_some_iff.1 hx).1;have hdq : (prt r.t r.d).drop q = x :: (prt r.t r.d).drop (q + 1) := by
    rw [List.drop_eq_getElem_cons hql, (List.getElem?_eq_some_iff.1 hx).2]
   rw [hdq] at hrw hsp;obtain ⟨hxa, hxl, hrw2⟩ := hrw;obtain ⟨hx1, hx2, hx3⟩ := vB hxl;rw [List.length_drop] at hx3;have hidq : 2 + nk + q < ids.length := by omega
   have hid : ids.drop (2 + nk + q) = ids[2 + nk + q] :: ids.drop (2 + nk + (q + 1)) := List.drop_eq_getElem_cons hidq;have hz := hnn _ (List.getElem_mem hidq);obtain ⟨b2, o2, ca2, ty2, fz2, hb2, hm2, _, hg2⟩ := j5 hi hidq;have hg2 := hg2 0 (by decide);obtain ⟨rfl, rfl⟩ : b0 = b2 ∧ o0 = o2 := by cases hb2; exact ⟨rfl, rfl⟩
   have hld2 : ca2.toList[o0 + (2 + nk + q) * 1 + 0]? = some (.int .i64 ids[2 + nk + q]) := hg2;rw [hid, List.map_cons, splice] at hsp;generalize ids[2 + nk + q] = z at hz hld2 hsp;obtain ⟨lda, ldc, rfl⟩ := hLd.isSlice;have hdl : (WQ r (ids.drop (2 + nk))).length ≤ 4096 := by
    rw [← heq] at hblk;simp only [List.length_append] at hblk; omega
   have hLdl : Ld.length + (x.at_ - fr) ≤ 4096 := by
    rw [← hsp] at hdl;simp only [List.length_append, List.length_take, List.length_drop] at hdl; omega
   refine zn hJ ?_
   skip
   refine ze (z8 (yp (pI rfl) (zf (za (z8 (yp (pI rfl) (zf (za (zq (ze ?_))))))))));have hR : ∀ (S' : zw) (x9 : List Chunk), (∀ s ∈ [[(p8, Obj.cells (om r) 88)], x9, [(p10, Obj.cells #[.int .i64 (fr : Int)] 3)], [(p6, Obj.cells #[.int .i64 ((2 + nk + q : Nat) : Int)] 3)], [(p3, Obj.cells #[.slice (some ⟨b0, o0, none⟩) ids.length ic] 23)]], s ∈ S') → [(b0, Obj.cells ca2 ty2 fz2)] ∈ S' →
    ∀ s ∈ [[(p8, Obj.cells (om r) 88)], x9, [(p10, Obj.cells #[.int .i64 (fr : Int)] 3)], [(p6, Obj.cells #[.int .i64 ((2 + nk + q : Nat) : Int)] 3)], [(p3, Obj.cells #[.slice (some ⟨b0, o0, none⟩) ids.length ic] 23)], [(b0, Obj.cells ca2 ty2 fz2)]], s ∈ S' := fun S' x9 h1 h2 s hs => by
    simp only [List.mem_cons, List.not_mem_nil, or_false] at hs;rcases hs with rfl | rfl | rfl | rfl | rfl | rfl
    ·exact h1 _ (by simp)
    ·exact h1 _ (by simp)
    ·exact h1 _ (by simp)
    ·exact h1 _ (by simp)
    ·exact h1 _ (by simp)
    ·exact h2
   refine Vb (R := [[(p8, Obj.cells (om r) 88)], [(p9, Obj.cells #[.slice lda Ld.length ldc] 67)], [(p10, Obj.cells #[.int .i64 (fr : Int)] 3)], [(p6, Obj.cells #[.int .i64 ((2 + nk + q : Nat) : Int)] 3)], [(p3, Obj.cells #[.slice (some ⟨b0, o0, none⟩) ids.length ic] 23)], [(b0, Obj.cells ca2 ty2 fz2)]]) (hR _ _ (by simp) (by repeat (first | exact hm2 | apply List.mem_cons_of_mem))) (Z4 rfl rfl (zi (zo rfl) (Z4 rfl rfl (Z4 rfl rfl (zi (pI rfl) (zi (oz (Y := r.d) (j := fr) (k := x.at_) rfl rfl rfl ⟨by omega, by omega⟩) (Z4 rfl rfl (Z4 rfl rfl (zi (zS rfl rfl (by omega)) (l5 (b := b0) (c := ca2) (ty := ty2) (fz := fz2) (by repeat (first | exact List.mem_cons_self | apply List.mem_cons_of_mem)) rfl hld2 ?_))))))))));refine Zk (nW (L := Ld) (H := Hd) rfl rfl hLd rfl (by rw [List.length_take, List.length_drop]; omega) (by rw [List.length_take, List.length_drop]; omega) fun v3 H3 hL3 => ⟨hR _ _ (by simp) (by repeat (first | exact hm2 | apply List.mem_cons_of_mem)), ?_⟩) zN;obtain ⟨l3a, l3c, rfl⟩ := hL3.isSlice;refine zM (zk (Uo hL3 (by rw [List.length_append, List.length_take, List.length_drop]; omega) z 4 hz (by decide)) rfl rfl fun x3 S3 h => ?_) zN;obtain ⟨H4, hL4, rfl⟩ := h;obtain ⟨l4a, l4c, rfl⟩ := hL4.isSlice;refine zM (ZJ rfl rfl (Ye rfl) ?_) zN;refine zL (za (ze (z8 (yp (pI rfl) (yp (pI rfl) (yp (Zo rfl rfl (by omega)) ?_))))));refine zh (ZJ rfl rfl (Uf rfl) ?_);refine zf (za (z8 ?_));refine zh (zC rfl rfl ?_);refine yp (Ze rfl rfl (by omega)) ?_;refine zh (ZJ rfl rfl (Uf rfl) ?_);refine zf (zR ?_);refine ⟨.slice l4a (Ld ++ (r.d.drop fr).take (x.at_ - fr) ++ U7 4 z.toNat).length l4c, _, H4, x.at_ + x.n, a1 + x.n, hL4, by omega, hrw2, ?_, .of⟩;rw [← hsp];simp only [List.append_assoc];rfl
  ·rintro T ⟨vd, Ld, Hd, fr, a1, hLd, hfr, hrw, hsp, hJ⟩;refine zR (za ?_);refine zn hJ ?_;rw [List.drop_length] at hrw hsp;have hfl : fr ≤ r.d.length := Nat.le_trans hfr hrw;obtain ⟨lda, ldc, rfl⟩ := hLd.isSlice;have hdat : Ld ++ r.d.drop fr = WQ r (ids.drop (2 + nk)) := by
    rw [← hsp];cases (ids.drop (2 + nk + (prt r.t r.d).length)).map U8 <;> rfl
   have hdl : (WQ r (ids.drop (2 + nk))).length ≤ 4096 := by
    rw [← heq] at hblk;simp only [List.length_append] at hblk; omega
   have hLdl : Ld.length + (r.d.length - fr) ≤ 4096 := by
    rw [← hdat] at hdl;simp only [List.length_append, List.length_drop] at hdl; omega
   refine ze (zW (Z4 rfl rfl (zi (zo rfl) (Z4 rfl rfl (Z4 rfl rfl (zi (K8 (Y := r.d) (j := fr) rfl rfl hfl) ?_))))));refine zM (nW (L := Ld) (H := Hd) rfl rfl hLd rfl (by rw [List.length_drop]; omega) (by rw [List.length_drop]; omega) fun v3 H3 hL3 => ?_) zN;obtain ⟨l3a, l3c, rfl⟩ := hL3.isSlice;rw [hdat] at hL3 ⊢;refine zM (ZJ rfl rfl (Ye rfl) ?_) zN;refine zL (za ?_);refine Vb (R := [[(p9, Obj.cells #[.slice l3a (WQ r (ids.drop (2 + nk))).length l3c] 67)]]) (by simp) (zi (pS rfl) (Z4 rfl rfl (zi (ZC rfl) (Z4 rfl rfl ?_))));refine Zk (zk (Uo hLb (by rw [← heq, List.length_append] at hblk; omega) ((WQ r (ids.drop (2 + nk))).length : Nat) 2 (by omega) (by decide)) rfl rfl fun x3 S3 h => ?_) zN;obtain ⟨H4, hL4, rfl⟩ := h;refine ⟨by simp, ?_⟩;obtain ⟨l4a, l4c, rfl⟩ := hL4.isSlice;have hbl4 : (Lb ++ U7 2 (WQ r (ids.drop (2 + nk))).length).length + (WQ r (ids.drop (2 + nk))).length ≤ 4096 := by
    rw [← heq] at hblk;simp only [List.length_append] at hblk ⊢; omega
   refine zM (VA (Y := WQ r (ids.drop (2 + nk))) rfl rfl hL4 (hL3.src (by simp)) rfl (0 : UInt8) rfl (by simp only [Int.toNat_natCast]; omega) (by simp only [Int.toNat_natCast]; omega) fun v5 H5 hL5 => ?_) zN;obtain ⟨l5a, l5c, rfl⟩ := hL5.isSlice;refine zi (pS rfl) (zL (zR (za (z8 (yp (Ze rfl rfl (by omega)) (yp (pI rfl) (zf (za ?_))))))));refine ⟨i + 1, ⟨.slice l5a _ l5c, _, H5, ⟨rfl, rfl, rfl, rfl, rfl, trivial⟩, rfl, hL5, by omega, ?_, ?_⟩, by omega⟩
   ·rw [hnk, hts2, ← heq, List.drop_drop, ← Nat.add_assoc, Int.toNat_natCast];simp only [List.append_assoc]
   ·rw [hnk, hts2, ← Nat.add_assoc];exact .of
 ·have hni : s.rrs.drop i = [] := List.drop_eq_nil_of_le (by omega);rw [hni, Um, List.append_nil] at heq;refine zX (zF (zF (zZ (za (ze (z8 (yp (pS rfl) (yp (pS rfl) (zf (za (zJ ?_)))))))))));exact zI (rS rfl) ⟨_, .of, Hb, by rw [← heq]; exact hLb, rfl⟩
end Go.Proofs.YtejmbmenbailmaaGreat
