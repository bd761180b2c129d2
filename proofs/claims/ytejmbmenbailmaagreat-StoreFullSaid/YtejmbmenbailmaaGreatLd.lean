/- Keys by their times (lists.Due, for a store): contracts. -/
import Derived.Test.YtejmbmenbailmaaGreatLk
namespace Go.Proofs.YtejmbmenbailmaaGreat
open Go.Xs
open Enc (enc)
structure De where
 k : Ky
 at_ : Int
abbrev Hq (e : De) : Array Value := #[.string ⟨e.k.n.toArray⟩, .int .i64 e.k.t, .int .i64 e.at_]
instance : Enc De := ⟨fun e => [.string ⟨e.k.n.toArray⟩, .int .i64 e.k.t, .int .i64 e.at_], 3, fun _ => rfl, fun _ => rfl⟩
/-- by their times -/
theorem Cr (a b : De) : zQ Tryz.prog 131 #[.agg (Hq a), .agg (Hq b)] [] (fun r S => r = .int .i64 (JW a.at_ b.at_) ∧ S = []) := by
 refine zQ.forget (zm Tryz.DL (Nat.le_of_ble_eq_true rfl) ?_);unfold Tryz.AF;refine ze (z8 ?_);refine zh (Zv rfl fun p2 => ?_);refine zh (Zv rfl fun p3 => ?_);refine yp pC (zf (za (ze (z8 (yp (zn rfl) ?_)))));refine zh (zC rfl rfl ?_);refine yp (zn rfl) ?_;refine zh (zC rfl rfl ?_);refine zh (zk (gI a.at_ b.at_) rfl rfl fun v S' h => ?_);obtain ⟨rfl, rfl⟩ := h;refine yp (pI rfl) (zf (za (zI ?_)));exact zH (rI rfl) ⟨_, .of, rfl, rfl⟩
/-- is it this key? -/
theorem FQ (e : De) (b : Nat) (k : Ky) (t : TypeId) (fz : Nat × Nat) : zQ Tryz.prog 170 #[.agg (Hq e), .pointer (some ⟨b, 0, none⟩)] [[(b, .cells (Wo k) t fz)]] (fun r S => r = .bool (decide (e.k = k)) ∧ S = [[(b, .cells (Wo k) t fz)]]) := by
 refine zQ.forget (zm Tryz.Dc (Nat.le_of_ble_eq_true rfl) ?_);unfold Tryz.Ah;refine ze (z8 ?_);refine zh (Zv rfl fun p2 => ?_);refine yp pC (zf (za (ze (z8 (yp (zn rfl) ?_)))));refine zh (w9 (l := [.string ⟨e.k.n.toArray⟩, .int .i64 e.k.t]) rfl rfl rfl ?_);refine zh (Zu rfl rfl ?_);refine yp (lN (a := e.k) (b := k) rfl rfl) (yp (pB rfl) (zf (za (zI ?_))));exact zH (rB rfl) ⟨_, .of, rfl, rfl⟩
def idx (k : Ky) : List De → Option Nat
 | [] => none
 | e :: l => if e.k = k then some 0 else (idx k l).map (· + 1)
theorem fE {k : Ky} : ∀ {l : List De} {i : Nat}, idx k l = some i → i < l.length
 | e :: l, i, h => by
  unfold idx at h;split at h
  ·simp at h; subst h; simp
  ·cases h' : idx k l with
   | none => simp [h'] at h
   | some j => simp [h'] at h; have := fE h'; subst h; simp; omega
/-- where a key stands -/
theorem Co (v : Value) (L : List De) (H : List Chunk) (hL : Zb 191 v L H) (hlen : L.length < 2 ^ 40) (kb : Nat) (k : Ky) (t : TypeId) (fz : Nat × Nat) :
 zQ Tryz.prog 169 #[v, .func (.func 170) #[] #[.pointer (some ⟨kb, 0, none⟩)]] [H, [(kb, .cells (Wo k) t fz)]] (fun r S => r = fC (idx k L) ∧ S = [H, [(kb, .cells (Wo k) t fz)]]) := by
 refine zQ.forget (zm Tryz.Df (Nat.le_of_ble_eq_true rfl) ?_);unfold Tryz.Ai;obtain ⟨a, c, rfl⟩ := hL.isSlice;refine ze (z8 (yp pC (zf (za (ze (ze (z8 (yp (pS rfl) (yp (ZK rfl) (yp pC (zf (za (zw ?_)))))))))))));refine Z8 (σ := Nat) (fun i E S => Has E [(0, .slice a L.length c), (1, .func (.func 170) #[] #[.pointer (some ⟨kb, 0, none⟩)]), (7, .int .i64 L.length), (8, .int .i64 i)] ∧ i ≤ L.length ∧ (idx k L = (idx k (L.drop i)).map (· + i)) ∧ zD S [H, [(kb, .cells (Wo k) t fz)]]) (fun i => L.length - i) 0 ⟨⟨rfl, rfl, rfl, rfl, trivial⟩, Nat.zero_le _, by simp, .self⟩ fun i E S ⟨hE, hi, hx, hS⟩ => ?_
 obtain ⟨E0, e0⟩ := zy hE; subst e0; clear hE;refine zq hS (ze (z8 (yp (ZT rfl rfl) (zf (za (ze ?_))))));refine zR rfl (fun h => ?_) (fun h => ?_)
 ·have hlt : i < L.length := by omega
  have hd : L.drop i = L[i] :: L.drop (i + 1) := List.drop_eq_getElem_cons hlt;refine zu (za (ze (zw (ze (z8 (yp (pI rfl) (yp (pI rfl) (zf (za (ze (z8 (yp (pF rfl) (yp (pS rfl) (yp (pI rfl) ?_))))))))))))));obtain ⟨b, sp, fz2, hz, rfl, _, rfl, rfl⟩ := hL.at' (by intro h; simp [h] at hlt);refine yp (zT rfl rfl (by omega)) ?_;refine zh (w9 (l := enc L[i]) rfl (wo hlt rfl) rfl ?_);refine zh (zk (FQ L[i] kb k t fz) rfl rfl fun v S' h => ?_);obtain ⟨rfl, rfl⟩ := h;refine zf (za ?_);refine zR rfl (fun h2 => ?_) (fun h2 => ?_)
  ·refine ze (z8 (yp (pI rfl) (yp (pI rfl) (zf (za (zI (bret (zV (zV (bret (zV ?_)))))))))));exact zH (rI rfl) ⟨_, .of, by rw [hx, hd, idx, if_pos h2]; simp [fC], rfl⟩
  ·refine zu (zS (za (z8 (yp (Zh rfl rfl (by omega)) (yp (pI rfl) (zf (za ?_)))))));refine ⟨i + 1, ⟨⟨rfl, rfl, rfl, rfl, trivial⟩, by omega, ?_, .of⟩, by omega⟩;rw [hx, hd, idx, if_neg h2, Option.map_map];congr 1;funext x;simp; omega
 ·refine zZ (zF (zF (Z0 (za (ze (z8 (yp pC (zf (za (zI ?_))))))))));have : L.drop i = [] := List.drop_eq_nil_of_le (by omega);exact zH (rI rfl) ⟨_, .of, by rw [hx, this]; rfl, rfl⟩
theorem mF (db : Nat) (dt : TypeId) (dfz : Nat × Nat) (v : Value) (L : List De) (H : List Chunk) (hL : Zb 191 v L H) (hlen : L.length < 2 ^ 40) (k : Ky) :
 zQ Tryz.prog 147 #[.pointer (some ⟨db, 0, none⟩), .agg (Wo k)] [[(db, .cells #[v] dt dfz)], H] (fun r S => r = fC (idx k L) ∧ S = [[(db, .cells #[v] dt dfz)], H]) := by
 refine zQ.forget (zm Tryz.Dr (Nat.le_of_ble_eq_true rfl) ?_);unfold Tryz.Am;obtain ⟨a, c, rfl⟩ := hL.isSlice;refine ze (z8 ?_);refine zh (Zv rfl fun p3 => ?_);refine yp pC (zf (za (ze (ze (z8 (yp (pP rfl) (yp (ZQ rfl rfl) (zf (za (zA rfl (zu (za (ze (z8 (yp (pP rfl) (yp (zG rfl) (yp (zn rfl) ?_)))))))))))))))));refine zh (zC rfl rfl ?_);refine yp (dO (J7 rfl)) ?_;refine zh (zk (Co _ L H hL hlen p3 k 43 (0, 0)) rfl rfl fun v S' h => ?_);obtain ⟨rfl, rfl⟩ := h;refine yp (pI rfl) (zf (za (zI ?_)));exact zH (rI rfl) ⟨_, .of, rfl, rfl⟩
theorem Cq {v : Value} {L : List De} {H : List Chunk} (hL : Zb 191 v L H) (hlen : L.length < 2 ^ 40) {i j : Nat} (hi : i < L.length) (hj : j = i + 1) :
 zQ Tryz.prog 148 #[v, .int .i64 (i : Int), .int .i64 (j : Int)] [H] (fun r S => ∃ H', Zb 191 r (L.eraseIdx i) H' ∧ S = [H']) :=
 yH Tryz.Dq rfl (⟨⟨[], 0⟩, 0⟩ : De) rfl hL hlen hi hj
def Vn (k : Ky) (L : List De) : List De := match idx k L with | some i => L.eraseIdx i | none => L
def au (k : Ky) (L : List De) : Bool := (idx k L).isSome
theorem Kl (k : Ky) (L : List De) : (Vn k L).length ≤ L.length := by
 unfold Vn;split
 ·rw [List.length_eraseIdx]; split <;> omega
 ·exact Nat.le_refl _
theorem Qc {db : Nat} {v : Value} {L : List De} {H : List Chunk} (hL : Zb 191 v L H) (hlen : L.length < 2 ^ 40) (k : Ky) :
 zQ Tryz.prog 123 #[.pointer (some ⟨db, 0, none⟩), .agg (Wo k)] [[(db, .cells #[v] 186)], H] (fun r S => r = .bool (au k L) ∧ ∃ v' H', Zb 191 v' (Vn k L) H' ∧ S = [[(db, .cells #[v'] 186)], H']) := by
 refine zQ.forget (zm Tryz.DY (Nat.le_of_ble_eq_true rfl) ?_);unfold Tryz.AV;refine ze (z8 ?_);refine zh (Zv rfl fun p3 => ?_);refine yp pC (zf (za (ze (z8 (yp (pP rfl) ?_)))));refine zh (Zu rfl rfl ?_);refine zh (zk (mF db 186 (0, 0) v L H hL hlen k) rfl rfl fun r S' h => ?_);obtain ⟨rfl, rfl⟩ := h;cases h : idx k L with
 | none =>
  have h1 : au k L = false := by simp [au, h]
  have h2 : Vn k L = L := by simp [Vn, h]
  rw [h1, h2];simp only [fC];refine yp (pI rfl) (zf (za (ze (ze (z8 (yp (pI rfl) (yp (ZT rfl rfl) (zf (za (zJ rfl (ze (z8 (yp pC (zf (za (zI (zV ?_)))))))))))))))));exact zH (rB rfl) ⟨_, .of, rfl, _, _, hL, rfl⟩
 | some i =>
  have h1 : au k L = true := by simp [au, h]
  have h2 : Vn k L = L.eraseIdx i := by simp [Vn, h]
  have hi := fE h;rw [h1, h2];simp only [fC];refine yp (pI rfl) (zf (za (ze (ze (z8 (yp (pI rfl) (yp (ZT rfl rfl) (zf (za (zA rfl (zu (za (ze (z8 (yp (pP rfl) (yp (pP rfl) (yp (zG rfl) (yp (zn rfl) ?_))))))))))))))))));refine zh (zC rfl rfl ?_);refine yp (pI rfl) (yp (pI rfl) (yp (Zh rfl rfl (by omega)) ?_));obtain ⟨a, c, rfl⟩ := hL.isSlice
  skip
  refine zh (zk (Cq hL hlen hi rfl) rfl rfl fun r S' h => ?_);obtain ⟨H', hL', rfl⟩ := h;obtain ⟨a', c', rfl⟩ := hL'.isSlice;refine yp (zG rfl) (yp (zn rfl) ?_);refine zh (ZL rfl rfl (Y7 rfl) ?_);refine zf (za (ze (z8 (yp pC (zf (za (zI ?_)))))));exact zH (rB rfl) ⟨_, .of, rfl, _, _, hL', rfl⟩
theorem sj : zQ Tryz.prog 74 #[] [] (fun r S => ∃ db, r = .pointer (some ⟨db, 0, none⟩) ∧ S = [[(db, .cells #[.slice none 0 0] 186)]]) := by
 refine zQ.forget (zm Tryz.Gg (Nat.le_of_ble_eq_true rfl) ?_);unfold Tryz.Ig;refine ze (z8 (yp pC (zf (za (ze (z8 (yp U0 ?_)))))));refine zh (Zv rfl fun p2 => ?_);refine yp (pP rfl) (zf (za (zI ?_)));exact zH (rP rfl) ⟨_, .of, _, rfl, rfl⟩
theorem rZ {db : Nat} {v : Value} {L : List De} {H : List Chunk} (hL : Zb 191 v L H) (hlen : L.length < 2 ^ 40 - 1) (k : Ky) (t : Int) :
 zQ Tryz.prog 81 #[.pointer (some ⟨db, 0, none⟩), .agg (Wo k), .int .i64 t] [[(db, .cells #[v] 186)], H] (fun r S => r = .tuple #[] ∧ ∃ v' H', Zb 191 v' (Vn k L ++ [(⟨k, t⟩ : De)]) H' ∧ S = [[(db, .cells #[v'] 186)], H']) := by
 refine zQ.forget (zm Tryz.G8 (Nat.le_of_ble_eq_true rfl) ?_);unfold Tryz.I8;refine ze (z8 ?_);refine zh (Zv rfl fun p4 => ?_);refine zf (za (ze (ze (z8 (yp (pP rfl) (yp (ZQ rfl rfl) (zf (za (zA rfl (zu (za (ze (z8 (yp (pP rfl) ?_))))))))))))));refine zh (Zu rfl rfl ?_);refine zh (zk (Qc hL (by omega) k) rfl rfl fun r S' h => ?_);obtain ⟨rfl, v1, H1, hL1, rfl⟩ := h;refine zf (za (zX (zi (pP rfl) (zi (pP rfl) (zi (zG rfl) (zi (zn rfl) (Z5 rfl rfl (WE rfl rfl (zi (pI rfl) ?_)))))))));obtain ⟨a, c, rfl⟩ := hL1.isSlice
 skip
 refine zi (v := .agg #[.string ⟨k.n.toArray⟩, .int .i64 k.t, .int .i64 t]) rfl ?_;refine Zm (WW (⟨k, t⟩ : De) rfl rfl (by decide) (by decide) rfl fun p19 => ⟨by simp, ?_⟩) zM;have hdl := Kl k L;refine zN (VB (Y := [(⟨k, t⟩ : De)]) rfl rfl hL1 (.lit (by repeat (first | exact List.mem_cons_self | apply List.mem_cons_of_mem)) rfl) rfl (⟨⟨[], 0⟩, 0⟩ : De) rfl (by simp; omega) (by simp; omega) fun v2 H2 hL2 => ?_) zM;obtain ⟨a2, c2, rfl⟩ := hL2.isSlice;refine zi (zG rfl) (zi (zn rfl) ?_);refine zN (ZL rfl rfl (Y7 rfl) ?_) zM;refine zL ?_;exact ZY wu ⟨_, .of, rfl, _, _, hL2, rfl⟩
theorem mH {v : Value} {L : List De} {H : List Chunk} (hL : Zb 191 v L H) (hlen : L.length < 2 ^ 40) :
 zQ Tryz.prog 129 #[v] [H] (fun r S => ∃ H', Zb 191 r L H' ∧ S = [H', H]) := by
 refine zQ.forget (zm Tryz.DR (Nat.le_of_ble_eq_true rfl) ?_);unfold Tryz.AL;rcases hL.inv with ⟨rfl, rfl, rfl⟩ | ⟨b, sp, fz, hz, rfl, rfl⟩
 ·refine ze (z8 (yp pC (zf (za (ze (ze (z8 (yp (pS rfl) (yp (qY rfl rfl) (zf (za (zJ rfl (ze (z8 (yp pC (zf (za (zI (zV ?_)))))))))))))))))));exact zH (rS rfl) ⟨_, .of, _, .nil, rfl⟩
 ·refine ze (z8 (yp pC (zf (za (ze (ze (z8 (yp (pS rfl) (yp (qY rfl rfl) (zf (za (zA rfl (zu (za (ze (z8 ?_))))))))))))))));refine zh (nA fun p5 => ?_);refine yp (pS rfl) ?_;refine zh (VB rfl rfl Zb.empty (hL.src (by repeat (first | exact List.mem_cons_self | apply List.mem_cons_of_mem))) rfl (⟨⟨[], 0⟩, 0⟩ : De) rfl (by simp; omega) (by simp; omega) fun v2 H2 hL2 => ?_);obtain ⟨a2, c2, rfl⟩ := hL2.isSlice;refine yp (pS rfl) (zf (za (zI ?_)));exact zH (rS rfl) ⟨_, .of, _, hL2, rfl⟩
def U8 (e : De) : Int := e.at_
theorem rX {v : Value} {L : List De} {H : List Chunk} (hL : Zb 191 v L H) (hlen : L.length < 2 ^ 38) {n : Nat} (hn : n = L.length) :
 zQ Tryz.prog 152 #[v, .int .i64 (n : Int), .func (.func 131) #[] #[]] [H] (fun r S => r = .tuple #[] ∧ ∃ L' H', SS U8 L L' ∧ L'.length = L.length ∧ Zb 191 v L' H' ∧ S = [H']) :=
 KV Tryz.Dl Tryz.Da Tryz.D9 Tryz.CS Tryz.CK rfl U8 (fun a b => (Cr a b).mono fun _ _ ⟨h1, h2⟩ => ⟨⟨_, h1, Qo _ _⟩, h2⟩) hL hlen hn
theorem rY {v : Value} {L : List De} {H : List Chunk} (hL : Zb 191 v L H) (hlen : L.length < 2 ^ 38) :
 zQ Tryz.prog 130 #[v, .func (.func 131) #[] #[]] [H] (fun r S => r = .tuple #[] ∧ ∃ L' H', SS U8 L L' ∧ L'.length = L.length ∧ Zb 191 v L' H' ∧ S = [H']) := by
 refine zQ.forget (zm Tryz.DN (Nat.le_of_ble_eq_true rfl) ?_);unfold Tryz.AJ;obtain ⟨a0, c0, rfl⟩ := hL.isSlice;refine z8 (yp (pS rfl) (yp (pS rfl) (yp (ZK rfl) (yp (pF rfl) ?_))));refine zh (zk (rX hL hlen rfl) rfl rfl fun v S' h => ?_);obtain ⟨rfl, L2, H2, hS2, hl2, hL2, rfl⟩ := h;refine zf ?_;exact ZY wu ⟨_, .of, rfl, _, _, hS2, hl2, hL2, rfl⟩
/-- those whose time has come, in their order -/
def upto (at_ : Int) (L : List De) : List De := (yg U8 L).filter fun e => decide (U8 e ≤ at_)
def aT (e : De) : Array Value := #[.agg (Wo e.k), .int .i64 e.at_]
theorem fq {p : Option Addr} {at_ : Int} : zQ Tryz.prog 87 #[.pointer p, .int .i64 at_] [] (fun r S => ∃ bd ba, r = .func (.func 128) #[] #[.pointer (some ⟨bd, 0, none⟩), .pointer (some ⟨ba, 0, none⟩)] ∧ S = [[(bd, .cells #[.pointer p] 130)], [(ba, .cells #[.int .i64 at_] 3)]]) := by
 refine zQ.forget (zm Tryz.FZ (Nat.le_of_ble_eq_true rfl) ?_);unfold Tryz.I4;refine ze (z8 ?_);refine zh (iD (J7 rfl) fun p2 => ?_);refine zh (iD (Ud rfl) fun p3 => ?_);refine yp pC (zf (za (ze (z8 (yp (BU (J7 rfl) (J7 rfl)) (yp (pF rfl) (zf (za (zI ?_)))))))));exact zH (rF rfl) ⟨_, .of, _, _, rfl, rfl⟩
/-- all of it as one piece of memory -/
abbrev JO (db : Nat) (v : Value) : List Chunk := [(db, .cells #[v] 186)]
def Du (db : Nat) (L : List De) (T : List Chunk) : Prop := ∃ v H, Zb 191 v L H ∧ T = JO db v ++ H
theorem Du.mk {db : Nat} {v : Value} {L : List De} {H : List Chunk} (h : Zb 191 v L H) : Du db L (JO db v ++ H) := ⟨v, H, h, rfl⟩
theorem zD.j2 {S : zo} {a b : List Chunk} {G : zo} [h : Sub S [a, b] G] : zD S [a ++ b] := zD.trans (zD.of (h := h)) ⟨[], by simp⟩
theorem zQ.s2 {P : Program} {f : FuncId} {args : Array Value} {a b : List Chunk} {S0 : zo} {R : Value → zo → Prop} (h : zQ P f args (a :: b :: S0) R) : zQ P f args ((a ++ b) :: S0) R := h.perm (by simp)
theorem Ck : zQ Tryz.prog 74 #[] [] (fun r S => ∃ db T, r = .pointer (some ⟨db, 0, none⟩) ∧ Du db [] T ∧ S = [T]) :=
 sj.mono fun r S ⟨db, h1, h2⟩ => ⟨db, _, h1, Du.mk .nil, by rw [h2]; rfl⟩
theorem su {db : Nat} {L : List De} {T : List Chunk} (hT : Du db L T) (hlen : L.length < 2 ^ 40) (k : Ky) :
 zQ Tryz.prog 123 #[.pointer (some ⟨db, 0, none⟩), .agg (Wo k)] [T] (fun r S => r = .bool (au k L) ∧ ∃ T', Du db (Vn k L) T' ∧ S = [T']) := by
 obtain ⟨v, H, hL, rfl⟩ := hT;refine zQ.forget (zQ.s2 ((Qc hL hlen k).mono fun r S ⟨h1, v', H', h2, h3⟩ => ⟨[JO db v' ++ H'], ?_, h1, _, Du.mk h2, rfl⟩));subst h3;exact zD.j2
theorem Cj {db : Nat} {L : List De} {T : List Chunk} (hT : Du db L T) (hlen : L.length < 2 ^ 40 - 1) (k : Ky) (t : Int) :
 zQ Tryz.prog 81 #[.pointer (some ⟨db, 0, none⟩), .agg (Wo k), .int .i64 t] [T] (fun r S => r = .tuple #[] ∧ ∃ T', Du db (Vn k L ++ [(⟨k, t⟩ : De)]) T' ∧ S = [T']) := by
 obtain ⟨v, H, hL, rfl⟩ := hT;refine zQ.forget (zQ.s2 ((rZ hL hlen k t).mono fun r S ⟨h1, v', H', h2, h3⟩ => ⟨[JO db v' ++ H'], ?_, h1, _, Du.mk h2, rfl⟩));subst h3;exact zD.j2
theorem jw {db bd ba : Nat} {L : List De} {T0 : List Chunk} {S0 : zo} (hT : Du db L T0) (hlen : L.length < 2 ^ 38) (at_ : Int) :
 yX Tryz.prog 128 #[] #[.pointer (some ⟨bd, 0, none⟩), .pointer (some ⟨ba, 0, none⟩)] [[(bd, .cells #[.pointer (some ⟨db, 0, none⟩)] 130)], [(ba, .cells #[.int .i64 at_] 3)]] (T0 :: S0)
  (fun pre x => pre ++ [x] <+: (upto at_ L).map aT) (fun xs => xs = (upto at_ L).map aT) := by
 obtain ⟨v, H, hL, rfl⟩ := hT;intro l c J Jx hJ0 hround;have e0 : (#[] ++ #[.func (.yield l) #[] #[]] ++ #[.pointer (some ⟨bd, 0, none⟩), .pointer (some ⟨ba, 0, none⟩)] : Array Value) = #[.func (.yield l) #[] #[], .pointer (some ⟨bd, 0, none⟩), .pointer (some ⟨ba, 0, none⟩)] := rfl;rw [e0];refine zQ.forget (zm Tryz.DT (Nat.le_of_ble_eq_true rfl) ?_);unfold Tryz.AO;refine zq (zD.pm (S2 := [c] :: [(bd, .cells #[.pointer (some ⟨db, 0, none⟩)] 130)] :: [(ba, .cells #[.int .i64 at_] 3)] :: JO db v :: H :: S0) (by simp)) ?_;obtain ⟨a0, c0, rfl⟩ := hL.isSlice;refine ze (ze (z8 ?_));refine zh (zC rfl rfl ?_);refine yp (ZQ rfl rfl) (zf (za (zA rfl (zu (za (ze (z8 ?_)))))));refine zh (zC rfl rfl ?_);refine yp (zG rfl) (yp (zn rfl) ?_);refine zh (zC rfl rfl ?_);refine zh (zk (mH hL (by omega)) rfl rfl fun v S' h => ?_);obtain ⟨H1, hL1, rfl⟩ := h;obtain ⟨a1, c1, rfl⟩ := hL1.isSlice;refine yp (pS rfl) (zf (za (ze (z8 (yp (pS rfl) ?_)))));refine zh (zk (rY hL1 hlen) rfl rfl fun v S' h => ?_);obtain ⟨rfl, R, H2, hS, hl, hL2, rfl⟩ := h;have hR := hS.eq;have hU : upto at_ L = R.filter fun e => decide (U8 e ≤ at_) := by rw [upto, ← hR]
 rw [hU];rw [hU] at hround;clear hU hR;have hso := hS.1;refine zf (za (ze (z8 (yp (pS rfl) (yp (ZK rfl) (yp pC (zf (za (zw ?_)))))))));refine Z8 (σ := Nat) (fun i E S => Has E [(0, .func (.yield l) #[] #[]), (2, .pointer (some ⟨ba, 0, none⟩)), (16, .slice a1 L.length c1), (17, .int .i64 L.length), (18, .int .i64 i)] ∧ i ≤ R.length ∧ (∀ e ∈ R.take i, U8 e ≤ at_) ∧ ∃ T, J ((R.take i).map aT) T ∧ zD S ([(ba, .cells #[.int .i64 at_] 3)] :: H2 :: T)) (fun i => L.length - i) 0 ⟨⟨rfl, rfl, rfl, rfl, rfl, trivial⟩, Nat.zero_le _, by simp, [c] :: (JO db (.slice a0 L.length c0) ++ H) :: S0, hJ0, (zD.re (S1 := [(ba, .cells #[.int .i64 at_] 3)] :: H2 :: [c] :: JO db (.slice a0 L.length c0) :: H :: S0) (by simp))⟩ fun i E S ⟨hE, hi, hle, T, hJ, hK⟩ => ?_
 obtain ⟨E0, e0⟩ := zy hE; subst e0; clear hE;refine zq hK (ze (z8 (yp (ZT rfl rfl) (zf (za (ze ?_))))));refine zR rfl (fun h => ?_) (fun h => ?_)
 ·have hlt : i < R.length := by omega
  obtain ⟨bb, sp, fz, hz, rfl, hm, hc, rfl⟩ := hL2.at' (by intro h; simp [h] at hlt);have htk : R.take (i + 1) = R.take i ++ [R[i]] := by rw [List.take_add_one, List.getElem?_eq_getElem hlt]; rfl
  have hdr : R.drop i = R[i] :: R.drop (i + 1) := List.drop_eq_getElem_cons hlt;refine zu (za (ze (zw (ze (z8 (yp (zT rfl rfl (by omega)) ?_))))));refine zh (w9 (l := enc R[i]) rfl (wo hlt rfl) rfl ?_);refine zh (Zf fun p6 => ?_);refine zh (V8 rfl rfl rfl rfl rfl ?_);refine zf (za (ze (z8 (yp (zn rfl) ?_))));refine zh (zC rfl rfl ?_);refine zh (zC rfl rfl ?_);refine yp (uz rfl rfl) (yp (pB rfl) ?_);by_cases hat : at_ < R[i].at_
  ·rw [decide_eq_true hat];refine Z4 rfl (Z4 rfl (Z4 rfl (Z4 rfl (Z4 rfl (Z4 rfl (Z4 rfl (yp (zO rfl rfl) (zf (za (zJ rfl (zI (bret (zV (zV (bret ?_)))))))))))))));refine zH wu ⟨T, .of, .inl ⟨_, ?_, hJ⟩⟩;have h1 : R.filter (fun e => decide (U8 e ≤ at_)) = R.take i := by
    conv => lhs; rw [← List.take_append_drop i R]
    rw [List.filter_append, List.filter_eq_self.2 (by intro e he; simpa using hle e he)];have : (R.drop i).filter (fun e => decide (U8 e ≤ at_)) = [] := by
     rw [List.filter_eq_nil_iff];intro e he;have hp := (List.pairwise_append.1 (by rw [List.take_append_drop]; exact hso : (R.take i ++ R.drop i).Pairwise _)).2.1;rw [hdr] at hp he;rcases List.mem_cons.1 he with rfl | he
     ·have h9 : U8 R[i] = R[i].at_ := rfl;simp; omega
     ·have := (List.pairwise_cons.1 hp).1 e he;have h9 : U8 R[i] = R[i].at_ := rfl;simp; omega
    rw [this, List.append_nil]
   rw [h1]
  ·rw [decide_eq_false hat];refine Z7 rfl (Ze (pF rfl) (Z7 rfl (Ze (zn rfl) (Z7 rfl ?_))));have hle' : ∀ e ∈ R.take (i + 1), U8 e ≤ at_ := by
    intro e he;rw [htk] at he;rcases List.mem_append.1 he with he | he
    ·exact hle e he
    ·rw [List.mem_singleton.1 he]; show R[i].at_ ≤ at_; omega
   have hV : (R.take i).map aT ++ [aT R[i]] <+: (R.filter fun e => decide (U8 e ≤ at_)).map aT := by
    have e1 : (R.take i).map aT ++ [aT R[i]] = (R.take (i + 1)).map aT := by rw [htk, List.map_append]; rfl
    rw [e1];refine List.IsPrefix.map aT ?_
    conv => rhs; rw [← List.take_append_drop (i + 1) R]
    rw [List.filter_append, List.filter_eq_self.2 (by intro e he; simpa using hle' e he)];exact List.prefix_append _ _
   refine w9 (l := [.string ⟨R[i].k.n.toArray⟩, .int .i64 R[i].k.t]) rfl rfl rfl (Z7 rfl (Ze (zn rfl) (Z7 rfl ?_)));refine (zC rfl rfl ?_);refine Z7 rfl ?_;refine Xl (hround _ _ T hV hJ) rfl rfl fun b T' h => ?_
   rcases h with ⟨rfl, hJ'⟩ | ⟨rfl, hJx⟩
   ·refine Z7 rfl (Ze (Zi rfl) (yp (zU rfl rfl) (zf (za (zA rfl (zu (zS (za (z8 (yp (Zh rfl rfl (by omega)) (yp (pI rfl) (zf (za ?_)))))))))))));refine ⟨i + 1, ⟨⟨rfl, rfl, rfl, rfl, rfl, trivial⟩, by omega, hle', T', ?_, .of⟩, by omega⟩;rw [htk, List.map_append]; exact hJ'
   ·refine Z7 rfl (Ze (Zi rfl) (yp (zU rfl rfl) (zf (za (zJ rfl (zI (bret (zV (zV (bret ?_))))))))));exact zH wu ⟨T', .of, .inr ⟨_, hJx⟩⟩
 ·refine zZ (zF (zF (Z0 ?_)));refine ZY wu ⟨T, .of, .inl ⟨_, ?_, hJ⟩⟩;rw [List.take_of_length_le (by omega)] at hle ⊢;rw [List.filter_eq_self.2 (by intro e he; simpa using hle e he)]
end Go.Proofs.YtejmbmenbailmaaGreat