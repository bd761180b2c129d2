/- Keys by their times (lists.Due, for a store): contracts. -/
import Derived.Test.YtejmbmenbailmaaGreatLk
namespace Go.Proofs.YtejmbmenbailmaaGreat
open Go.Xs
open Enc (enc)
structure De where
 k : Ky
 at_ : Int
abbrev Gq (e : De) : Array Value := #[.string ⟨e.k.n.toArray⟩, .int .i64 e.k.t, .int .i64 e.at_]
instance : Enc De := ⟨fun e => [.string ⟨e.k.n.toArray⟩, .int .i64 e.k.t, .int .i64 e.at_], 3, fun _ => rfl, fun _ => rfl⟩
/-- by their times -/
theorem BO (a b : De) : zP Tryz.prog 131 #[.agg (Gq a), .agg (Gq b)] [] (fun r S => r = .int .i64 (JN a.at_ b.at_) ∧ S = []) := by
 refine zP.forget (zm Tryz.Db (Nat.le_of_ble_eq_true rfl) ?_);unfold Tryz.Aa;refine ze (z8 ?_);refine zh (Zr rfl fun p2 => ?_);refine zh (Zr rfl fun p3 => ?_);refine yp pC (zf (za (ze (z8 (yp (zn rfl) ?_)))));refine zh (zB rfl rfl ?_);refine yp (zn rfl) ?_;refine zh (zB rfl rfl ?_);refine zh (zk (fP a.at_ b.at_) rfl rfl fun v S' h => ?_);obtain ⟨rfl, rfl⟩ := h;refine yp (pI rfl) (zf (za (zJ ?_)));exact zI (rI rfl) ⟨_, .of, rfl, rfl⟩
/-- is it this key? -/
theorem EY (e : De) (b : Nat) (k : Ky) (t : TypeId) (fz : Nat × Nat) : zP Tryz.prog 170 #[.agg (Gq e), .pointer (some ⟨b, 0, none⟩)] [[(b, .cells (Wn k) t fz)]] (fun r S => r = .bool (decide (e.k = k)) ∧ S = [[(b, .cells (Wn k) t fz)]]) := by
 refine zP.forget (zm Tryz.Cy (Nat.le_of_ble_eq_true rfl) ?_);unfold Tryz.tH;refine ze (z8 ?_);refine zh (Zr rfl fun p2 => ?_);refine yp pC (zf (za (ze (z8 (yp (zn rfl) ?_)))));refine zh (wm (l := [.string ⟨e.k.n.toArray⟩, .int .i64 e.k.t]) rfl rfl rfl ?_);refine zh (Zk rfl rfl ?_);refine yp (l8 (a := e.k) (b := k) rfl rfl) (yp (pB rfl) (zf (za (zJ ?_))));exact zI (rB rfl) ⟨_, .of, rfl, rfl⟩
def idx (k : Ky) : List De → Option Nat
 | [] => none
 | e :: l => if e.k = k then some 0 else (idx k l).map (· + 1)
theorem eO {k : Ky} : ∀ {l : List De} {i : Nat}, idx k l = some i → i < l.length
 | e :: l, i, h => by
  unfold idx at h;split at h
  ·simp at h; subst h; simp
  ·cases h' : idx k l with
   | none => simp [h'] at h
   | some j => simp [h'] at h; have := eO h'; subst h; simp; omega
/-- where a key stands -/
theorem BM (v : Value) (L : List De) (H : List Chunk) (hL : Zc 191 v L H) (hlen : L.length < 2 ^ 40) (kb : Nat) (k : Ky) (t : TypeId) (fz : Nat × Nat) :
 zP Tryz.prog 169 #[v, .func (.func 170) #[] #[.pointer (some ⟨kb, 0, none⟩)]] [H, [(kb, .cells (Wn k) t fz)]] (fun r S => r = eG (idx k L) ∧ S = [H, [(kb, .cells (Wn k) t fz)]]) := by
 refine zP.forget (zm Tryz.Cz (Nat.le_of_ble_eq_true rfl) ?_);unfold Tryz.tJ;obtain ⟨a, c, rfl⟩ := hL.isSlice;refine ze (z8 (yp pC (zf (za (ze (ze (z8 (yp (pS rfl) (yp (ZP rfl) (yp pC (zf (za (zw ?_)))))))))))));refine Z9 (σ := Nat) (fun i E S => Has E [(0, .slice a L.length c), (1, .func (.func 170) #[] #[.pointer (some ⟨kb, 0, none⟩)]), (7, .int .i64 L.length), (8, .int .i64 i)] ∧ i ≤ L.length ∧ (idx k L = (idx k (L.drop i)).map (· + i)) ∧ zC S [H, [(kb, .cells (Wn k) t fz)]]) (fun i => L.length - i) 0 ⟨⟨rfl, rfl, rfl, rfl, trivial⟩, Nat.zero_le _, by simp, .self⟩ fun i E S ⟨hE, hi, hx, hS⟩ => ?_
 obtain ⟨E0, e0⟩ := zy hE; subst e0; clear hE;refine zq hS (ze (z8 (yp (ZO rfl rfl) (zf (za (ze ?_))))));refine zQ rfl (fun h => ?_) (fun h => ?_)
 ·have hlt : i < L.length := by omega
  have hd : L.drop i = L[i] :: L.drop (i + 1) := List.drop_eq_getElem_cons hlt;refine zu (za (ze (zw (ze (z8 (yp (pI rfl) (yp (pI rfl) (zf (za (ze (z8 (yp (pF rfl) (yp (pS rfl) (yp (pI rfl) ?_))))))))))))));obtain ⟨b, sp, fz2, hz, rfl, _, rfl, rfl⟩ := hL.at' (by intro h; simp [h] at hlt);refine yp (zU rfl rfl (by omega)) ?_;refine zh (wm (l := enc L[i]) rfl (wV hlt rfl) rfl ?_);refine zh (zk (EY L[i] kb k t fz) rfl rfl fun v S' h => ?_);obtain ⟨rfl, rfl⟩ := h;refine zf (za ?_);refine zQ rfl (fun h2 => ?_) (fun h2 => ?_)
  ·refine ze (z8 (yp (pI rfl) (yp (pI rfl) (zf (za (zJ (bret (zV (zV (bret (zV ?_)))))))))));exact zI (rI rfl) ⟨_, .of, by rw [hx, hd, idx, if_pos h2]; simp [eG], rfl⟩
  ·refine zu (zT (za (z8 (yp (Zg rfl rfl (by omega)) (yp (pI rfl) (zf (za ?_)))))));refine ⟨i + 1, ⟨⟨rfl, rfl, rfl, rfl, trivial⟩, by omega, ?_, .of⟩, by omega⟩;rw [hx, hd, idx, if_neg h2, Option.map_map];congr 1;funext x;simp; omega
 ·refine Z4 (zF (zF (Z5 (za (ze (z8 (yp pC (zf (za (zJ ?_))))))))));have : L.drop i = [] := List.drop_eq_nil_of_le (by omega);exact zI (rI rfl) ⟨_, .of, by rw [hx, this]; rfl, rfl⟩
theorem lM (db : Nat) (dt : TypeId) (dfz : Nat × Nat) (v : Value) (L : List De) (H : List Chunk) (hL : Zc 191 v L H) (hlen : L.length < 2 ^ 40) (k : Ky) :
 zP Tryz.prog 147 #[.pointer (some ⟨db, 0, none⟩), .agg (Wn k)] [[(db, .cells #[v] dt dfz)], H] (fun r S => r = eG (idx k L) ∧ S = [[(db, .cells #[v] dt dfz)], H]) := by
 refine zP.forget (zm Tryz.CU (Nat.le_of_ble_eq_true rfl) ?_);unfold Tryz.tN;obtain ⟨a, c, rfl⟩ := hL.isSlice;refine ze (z8 ?_);refine zh (Zr rfl fun p3 => ?_);refine yp pC (zf (za (ze (ze (z8 (yp (pP rfl) (yp (ZM rfl rfl) (zf (za (zA rfl (zu (za (ze (z8 (yp (pP rfl) (yp (zG rfl) (yp (zn rfl) ?_)))))))))))))))));refine zh (zB rfl rfl ?_);refine yp (dH (jV rfl)) ?_;refine zh (zk (BM _ L H hL hlen p3 k 43 (0, 0)) rfl rfl fun v S' h => ?_);obtain ⟨rfl, rfl⟩ := h;refine yp (pI rfl) (zf (za (zJ ?_)));exact zI (rI rfl) ⟨_, .of, rfl, rfl⟩
theorem BN {v : Value} {L : List De} {H : List Chunk} (hL : Zc 191 v L H) (hlen : L.length < 2 ^ 40) {i j : Nat} (hi : i < L.length) (hj : j = i + 1) :
 zP Tryz.prog 148 #[v, .int .i64 (i : Int), .int .i64 (j : Int)] [H] (fun r S => ∃ H', Zc 191 r (L.eraseIdx i) H' ∧ S = [H']) :=
 yC Tryz.CS rfl (⟨⟨[], 0⟩, 0⟩ : De) rfl hL hlen hi hj
def Ve (k : Ky) (L : List De) : List De := match idx k L with | some i => L.eraseIdx i | none => L
def QS (k : Ky) (L : List De) : Bool := (idx k L).isSome
theorem Ka (k : Ky) (L : List De) : (Ve k L).length ≤ L.length := by
 unfold Ve;split
 ·rw [List.length_eraseIdx]; split <;> omega
 ·exact Nat.le_refl _
theorem Q8 {db : Nat} {v : Value} {L : List De} {H : List Chunk} (hL : Zc 191 v L H) (hlen : L.length < 2 ^ 40) (k : Ky) :
 zP Tryz.prog 123 #[.pointer (some ⟨db, 0, none⟩), .agg (Wn k)] [[(db, .cells #[v] 186)], H] (fun r S => r = .bool (QS k L) ∧ ∃ v' H', Zc 191 v' (Ve k L) H' ∧ S = [[(db, .cells #[v'] 186)], H']) := by
 refine zP.forget (zm Tryz.Dm (Nat.le_of_ble_eq_true rfl) ?_);unfold Tryz.Ai;refine ze (z8 ?_);refine zh (Zr rfl fun p3 => ?_);refine yp pC (zf (za (ze (z8 (yp (pP rfl) ?_)))));refine zh (Zk rfl rfl ?_);refine zh (zk (lM db 186 (0, 0) v L H hL hlen k) rfl rfl fun r S' h => ?_);obtain ⟨rfl, rfl⟩ := h;cases h : idx k L with
 | none =>
  have h1 : QS k L = false := by simp [QS, h]
  have h2 : Ve k L = L := by simp [Ve, h]
  rw [h1, h2];simp only [eG];refine yp (pI rfl) (zf (za (ze (ze (z8 (yp (pI rfl) (yp (ZO rfl rfl) (zf (za (zH rfl (ze (z8 (yp pC (zf (za (zJ (zV ?_)))))))))))))))));exact zI (rB rfl) ⟨_, .of, rfl, _, _, hL, rfl⟩
 | some i =>
  have h1 : QS k L = true := by simp [QS, h]
  have h2 : Ve k L = L.eraseIdx i := by simp [Ve, h]
  have hi := eO h;rw [h1, h2];simp only [eG];refine yp (pI rfl) (zf (za (ze (ze (z8 (yp (pI rfl) (yp (ZO rfl rfl) (zf (za (zA rfl (zu (za (ze (z8 (yp (pP rfl) (yp (pP rfl) (yp (zG rfl) (yp (zn rfl) ?_))))))))))))))))));refine zh (zB rfl rfl ?_);refine yp (pI rfl) (yp (pI rfl) (yp (Zg rfl rfl (by omega)) ?_));obtain ⟨a, c, rfl⟩ := hL.isSlice
  skip
  refine zh (zk (BN hL hlen hi rfl) rfl rfl fun r S' h => ?_);obtain ⟨H', hL', rfl⟩ := h;obtain ⟨a', c', rfl⟩ := hL'.isSlice;refine yp (zG rfl) (yp (zn rfl) ?_);refine zh (ZJ rfl rfl (Y0 rfl) ?_);refine zf (za (ze (z8 (yp pC (zf (za (zJ ?_)))))));exact zI (rB rfl) ⟨_, .of, rfl, _, _, hL', rfl⟩
theorem rA : zP Tryz.prog 74 #[] [] (fun r S => ∃ db, r = .pointer (some ⟨db, 0, none⟩) ∧ S = [[(db, .cells #[.slice none 0 0] 186)]]) := by
 refine zP.forget (zm Tryz.FE (Nat.le_of_ble_eq_true rfl) ?_);unfold Tryz.GQ;refine ze (z8 (yp pC (zf (za (ze (z8 (yp VR ?_)))))));refine zh (Zr rfl fun p2 => ?_);refine yp (pP rfl) (zf (za (zJ ?_)));exact zI (rP rfl) ⟨_, .of, _, rfl, rfl⟩
theorem rz {db : Nat} {v : Value} {L : List De} {H : List Chunk} (hL : Zc 191 v L H) (hlen : L.length < 2 ^ 40 - 1) (k : Ky) (t : Int) :
 zP Tryz.prog 81 #[.pointer (some ⟨db, 0, none⟩), .agg (Wn k), .int .i64 t] [[(db, .cells #[v] 186)], H] (fun r S => r = .tuple #[] ∧ ∃ v' H', Zc 191 v' (Ve k L ++ [(⟨k, t⟩ : De)]) H' ∧ S = [[(db, .cells #[v'] 186)], H']) := by
 refine zP.forget (zm Tryz.Fw (Nat.le_of_ble_eq_true rfl) ?_);unfold Tryz.GH;refine ze (z8 ?_);refine zh (Zr rfl fun p4 => ?_);refine zf (za (ze (ze (z8 (yp (pP rfl) (yp (ZM rfl rfl) (zf (za (zA rfl (zu (za (ze (z8 (yp (pP rfl) ?_))))))))))))));refine zh (Zk rfl rfl ?_);refine zh (zk (Q8 hL (by omega) k) rfl rfl fun r S' h => ?_);obtain ⟨rfl, v1, H1, hL1, rfl⟩ := h;refine zf (za (zX (zi (pP rfl) (zi (pP rfl) (zi (zG rfl) (zi (zn rfl) (Z7 rfl rfl (Wz rfl rfl (zi (pI rfl) ?_)))))))));obtain ⟨a, c, rfl⟩ := hL1.isSlice
 skip
 refine zi (v := .agg #[.string ⟨k.n.toArray⟩, .int .i64 k.t, .int .i64 t]) rfl ?_;refine Zp (Va (⟨k, t⟩ : De) rfl rfl (by decide) (by decide) rfl fun p19 => ⟨by simp, ?_⟩) zO;have hdl := Ka k L;refine zN (VK (Y := [(⟨k, t⟩ : De)]) rfl rfl hL1 (.lit (by repeat (first | exact List.mem_cons_self | apply List.mem_cons_of_mem)) rfl) rfl (⟨⟨[], 0⟩, 0⟩ : De) rfl (by simp; omega) (by simp; omega) fun v2 H2 hL2 => ?_) zO;obtain ⟨a2, c2, rfl⟩ := hL2.isSlice;refine zi (zG rfl) (zi (zn rfl) ?_);refine zN (ZJ rfl rfl (Y0 rfl) ?_) zO;refine zL ?_;exact ZW w9 ⟨_, .of, rfl, _, _, hL2, rfl⟩
theorem lQ {v : Value} {L : List De} {H : List Chunk} (hL : Zc 191 v L H) (hlen : L.length < 2 ^ 40) :
 zP Tryz.prog 129 #[v] [H] (fun r S => ∃ H', Zc 191 r L H' ∧ S = [H', H]) := by
 refine zP.forget (zm Tryz.Df (Nat.le_of_ble_eq_true rfl) ?_);unfold Tryz.Ac;rcases hL.inv with ⟨rfl, rfl, rfl⟩ | ⟨b, sp, fz, hz, rfl, rfl⟩
 ·refine ze (z8 (yp pC (zf (za (ze (ze (z8 (yp (pS rfl) (yp (qR rfl rfl) (zf (za (zH rfl (ze (z8 (yp pC (zf (za (zJ (zV ?_)))))))))))))))))));exact zI (rS rfl) ⟨_, .of, _, .nil, rfl⟩
 ·refine ze (z8 (yp pC (zf (za (ze (ze (z8 (yp (pS rfl) (yp (qR rfl rfl) (zf (za (zA rfl (zu (za (ze (z8 ?_))))))))))))))));refine zh (mO fun p5 => ?_);refine yp (pS rfl) ?_;refine zh (VK rfl rfl Zc.empty (hL.src (by repeat (first | exact List.mem_cons_self | apply List.mem_cons_of_mem))) rfl (⟨⟨[], 0⟩, 0⟩ : De) rfl (by simp; omega) (by simp; omega) fun v2 H2 hL2 => ?_);obtain ⟨a2, c2, rfl⟩ := hL2.isSlice;refine yp (pS rfl) (zf (za (zJ ?_)));exact zI (rS rfl) ⟨_, .of, _, hL2, rfl⟩
def U3 (e : De) : Int := e.at_
theorem r9 {v : Value} {L : List De} {H : List Chunk} (hL : Zc 191 v L H) (hlen : L.length < 2 ^ 38) {n : Nat} (hn : n = L.length) :
 zP Tryz.prog 152 #[v, .int .i64 (n : Int), .func (.func 131) #[] #[]] [H] (fun r S => r = .tuple #[] ∧ ∃ L' H', SS U3 L L' ∧ L'.length = L.length ∧ Zc 191 v L' H' ∧ S = [H']) :=
 KJ Tryz.CK Tryz.Cv Tryz.Cu Tryz.Ce Tryz.C9 rfl U3 (fun a b => (BO a b).mono fun _ _ ⟨h1, h2⟩ => ⟨⟨_, h1, Qk _ _⟩, h2⟩) hL hlen hn
theorem ru {v : Value} {L : List De} {H : List Chunk} (hL : Zc 191 v L H) (hlen : L.length < 2 ^ 38) :
 zP Tryz.prog 130 #[v, .func (.func 131) #[] #[]] [H] (fun r S => r = .tuple #[] ∧ ∃ L' H', SS U3 L L' ∧ L'.length = L.length ∧ Zc 191 v L' H' ∧ S = [H']) := by
 refine zP.forget (zm Tryz.Dc (Nat.le_of_ble_eq_true rfl) ?_);unfold Tryz.Ab;obtain ⟨a0, c0, rfl⟩ := hL.isSlice;refine z8 (yp (pS rfl) (yp (pS rfl) (yp (ZP rfl) (yp (pF rfl) ?_))));refine zh (zk (r9 hL hlen rfl) rfl rfl fun v S' h => ?_);obtain ⟨rfl, L2, H2, hS2, hl2, hL2, rfl⟩ := h;refine zf ?_;exact ZW w9 ⟨_, .of, rfl, _, _, hS2, hl2, hL2, rfl⟩
/-- those whose time has come, in their order -/
def upto (at_ : Int) (L : List De) : List De := (Qb U3 L).filter fun e => decide (U3 e ≤ at_)
def aK (e : De) : Array Value := #[.agg (Wn e.k), .int .i64 e.at_]
theorem eD {p : Option Addr} {at_ : Int} : zP Tryz.prog 87 #[.pointer p, .int .i64 at_] [] (fun r S => ∃ bd ba, r = .func (.func 128) #[] #[.pointer (some ⟨bd, 0, none⟩), .pointer (some ⟨ba, 0, none⟩)] ∧ S = [[(bd, .cells #[.pointer p] 130)], [(ba, .cells #[.int .i64 at_] 3)]]) := by
 refine zP.forget (zm Tryz.Fp (Nat.le_of_ble_eq_true rfl) ?_);unfold Tryz.Gy;refine ze (z8 ?_);refine zh (gQ (jV rfl) fun p2 => ?_);refine zh (gQ (U9 rfl) fun p3 => ?_);refine yp pC (zf (za (ze (z8 (yp (Br (jV rfl) (jV rfl)) (yp (pF rfl) (zf (za (zJ ?_)))))))));exact zI (rF rfl) ⟨_, .of, _, _, rfl, rfl⟩
/-- all of it as one piece of memory -/
abbrev JH (db : Nat) (v : Value) : List Chunk := [(db, .cells #[v] 186)]
def Du (db : Nat) (L : List De) (T : List Chunk) : Prop := ∃ v H, Zc 191 v L H ∧ T = JH db v ++ H
theorem Du.mk {db : Nat} {v : Value} {L : List De} {H : List Chunk} (h : Zc 191 v L H) : Du db L (JH db v ++ H) := ⟨v, H, h, rfl⟩
theorem zC.j2 {S : zo} {a b : List Chunk} {G : zo} [h : Sub S [a, b] G] : zC S [a ++ b] := zC.trans (zC.of (h := h)) ⟨[], by simp⟩
theorem zP.s2 {P : Program} {f : FuncId} {args : Array Value} {a b : List Chunk} {S0 : zo} {R : Value → zo → Prop} (h : zP P f args (a :: b :: S0) R) : zP P f args ((a ++ b) :: S0) R := h.perm (by simp)
theorem BK : zP Tryz.prog 74 #[] [] (fun r S => ∃ db T, r = .pointer (some ⟨db, 0, none⟩) ∧ Du db [] T ∧ S = [T]) :=
 rA.mono fun r S ⟨db, h1, h2⟩ => ⟨db, _, h1, Du.mk .nil, by rw [h2]; rfl⟩
theorem rC {db : Nat} {L : List De} {T : List Chunk} (hT : Du db L T) (hlen : L.length < 2 ^ 40) (k : Ky) :
 zP Tryz.prog 123 #[.pointer (some ⟨db, 0, none⟩), .agg (Wn k)] [T] (fun r S => r = .bool (QS k L) ∧ ∃ T', Du db (Ve k L) T' ∧ S = [T']) := by
 obtain ⟨v, H, hL, rfl⟩ := hT;refine zP.forget (zP.s2 ((Q8 hL hlen k).mono fun r S ⟨h1, v', H', h2, h3⟩ => ⟨[JH db v' ++ H'], ?_, h1, _, Du.mk h2, rfl⟩));subst h3;exact zC.j2
theorem BJ {db : Nat} {L : List De} {T : List Chunk} (hT : Du db L T) (hlen : L.length < 2 ^ 40 - 1) (k : Ky) (t : Int) :
 zP Tryz.prog 81 #[.pointer (some ⟨db, 0, none⟩), .agg (Wn k), .int .i64 t] [T] (fun r S => r = .tuple #[] ∧ ∃ T', Du db (Ve k L ++ [(⟨k, t⟩ : De)]) T' ∧ S = [T']) := by
 obtain ⟨v, H, hL, rfl⟩ := hT;refine zP.forget (zP.s2 ((rz hL hlen k t).mono fun r S ⟨h1, v', H', h2, h3⟩ => ⟨[JH db v' ++ H'], ?_, h1, _, Du.mk h2, rfl⟩));subst h3;exact zC.j2
theorem jf {db bd ba : Nat} {L : List De} {T0 : List Chunk} {S0 : zo} (hT : Du db L T0) (hlen : L.length < 2 ^ 38) (at_ : Int) :
 yR Tryz.prog 128 #[] #[.pointer (some ⟨bd, 0, none⟩), .pointer (some ⟨ba, 0, none⟩)] [[(bd, .cells #[.pointer (some ⟨db, 0, none⟩)] 130)], [(ba, .cells #[.int .i64 at_] 3)]] (T0 :: S0)
  (fun pre x => pre ++ [x] <+: (upto at_ L).map aK) (fun xs => xs = (upto at_ L).map aK) := by
 obtain ⟨v, H, hL, rfl⟩ := hT;intro l c J Jx hJ0 hround;have e0 : (#[] ++ #[.func (.yield l) #[] #[]] ++ #[.pointer (some ⟨bd, 0, none⟩), .pointer (some ⟨ba, 0, none⟩)] : Array Value) = #[.func (.yield l) #[] #[], .pointer (some ⟨bd, 0, none⟩), .pointer (some ⟨ba, 0, none⟩)] := rfl;rw [e0];refine zP.forget (zm Tryz.Dg (Nat.le_of_ble_eq_true rfl) ?_);unfold Tryz.Ae;refine zq (zC.pm (S2 := [c] :: [(bd, .cells #[.pointer (some ⟨db, 0, none⟩)] 130)] :: [(ba, .cells #[.int .i64 at_] 3)] :: JH db v :: H :: S0) (by simp)) ?_;obtain ⟨a0, c0, rfl⟩ := hL.isSlice;refine ze (ze (z8 ?_));refine zh (zB rfl rfl ?_);refine yp (ZM rfl rfl) (zf (za (zA rfl (zu (za (ze (z8 ?_)))))));refine zh (zB rfl rfl ?_);refine yp (zG rfl) (yp (zn rfl) ?_);refine zh (zB rfl rfl ?_);refine zh (zk (lQ hL (by omega)) rfl rfl fun v S' h => ?_);obtain ⟨H1, hL1, rfl⟩ := h;obtain ⟨a1, c1, rfl⟩ := hL1.isSlice;refine yp (pS rfl) (zf (za (ze (z8 (yp (pS rfl) ?_)))));refine zh (zk (ru hL1 hlen) rfl rfl fun v S' h => ?_);obtain ⟨rfl, R, H2, hS, hl, hL2, rfl⟩ := h;have hR := hS.eq;have hU : upto at_ L = R.filter fun e => decide (U3 e ≤ at_) := by rw [upto, ← hR]
 rw [hU];rw [hU] at hround;clear hU hR;have hso := hS.1;refine zf (za (ze (z8 (yp (pS rfl) (yp (ZP rfl) (yp pC (zf (za (zw ?_)))))))));refine Z9 (σ := Nat) (fun i E S => Has E [(0, .func (.yield l) #[] #[]), (2, .pointer (some ⟨ba, 0, none⟩)), (16, .slice a1 L.length c1), (17, .int .i64 L.length), (18, .int .i64 i)] ∧ i ≤ R.length ∧ (∀ e ∈ R.take i, U3 e ≤ at_) ∧ ∃ T, J ((R.take i).map aK) T ∧ zC S ([(ba, .cells #[.int .i64 at_] 3)] :: H2 :: T)) (fun i => L.length - i) 0 ⟨⟨rfl, rfl, rfl, rfl, rfl, trivial⟩, Nat.zero_le _, by simp, [c] :: (JH db (.slice a0 L.length c0) ++ H) :: S0, hJ0, (zC.re (S1 := [(ba, .cells #[.int .i64 at_] 3)] :: H2 :: [c] :: JH db (.slice a0 L.length c0) :: H :: S0) (by simp))⟩ fun i E S ⟨hE, hi, hle, T, hJ, hK⟩ => ?_
 obtain ⟨E0, e0⟩ := zy hE; subst e0; clear hE;refine zq hK (ze (z8 (yp (ZO rfl rfl) (zf (za (ze ?_))))));refine zQ rfl (fun h => ?_) (fun h => ?_)
 ·have hlt : i < R.length := by omega
  obtain ⟨bb, sp, fz, hz, rfl, hm, hc, rfl⟩ := hL2.at' (by intro h; simp [h] at hlt);have htk : R.take (i + 1) = R.take i ++ [R[i]] := by rw [List.take_add_one, List.getElem?_eq_getElem hlt]; rfl
  have hdr : R.drop i = R[i] :: R.drop (i + 1) := List.drop_eq_getElem_cons hlt;refine zu (za (ze (zw (ze (z8 (yp (zU rfl rfl (by omega)) ?_))))));refine zh (wm (l := enc R[i]) rfl (wV hlt rfl) rfl ?_);refine zh (Ze fun p6 => ?_);refine zh (WG rfl rfl rfl rfl rfl ?_);refine zf (za (ze (z8 (yp (zn rfl) ?_))));refine zh (zB rfl rfl ?_);refine zh (zB rfl rfl ?_);refine yp (Vs rfl rfl) (yp (pB rfl) ?_);by_cases hat : at_ < R[i].at_
  ·rw [decide_eq_true hat];refine Z0 rfl (Z0 rfl (Z0 rfl (Z0 rfl (Z0 rfl (Z0 rfl (Z0 rfl (yp (zM rfl rfl) (zf (za (zH rfl (zJ (bret (zV (zV (bret ?_)))))))))))))));refine zI w9 ⟨T, .of, .inl ⟨_, ?_, hJ⟩⟩;have h1 : R.filter (fun e => decide (U3 e ≤ at_)) = R.take i := by
    conv => lhs; rw [← List.take_append_drop i R]
    rw [List.filter_append, List.filter_eq_self.2 (by intro e he; simpa using hle e he)];have : (R.drop i).filter (fun e => decide (U3 e ≤ at_)) = [] := by
     rw [List.filter_eq_nil_iff];intro e he;have hp := (List.pairwise_append.1 (by rw [List.take_append_drop]; exact hso : (R.take i ++ R.drop i).Pairwise _)).2.1;rw [hdr] at hp he;rcases List.mem_cons.1 he with rfl | he
     ·have h9 : U3 R[i] = R[i].at_ := rfl;simp; omega
     ·have := (List.pairwise_cons.1 hp).1 e he;have h9 : U3 R[i] = R[i].at_ := rfl;simp; omega
    rw [this, List.append_nil]
   rw [h1]
  ·rw [decide_eq_false hat];refine zZ rfl (Zb (pF rfl) (zZ rfl (Zb (zn rfl) (zZ rfl ?_))));have hle' : ∀ e ∈ R.take (i + 1), U3 e ≤ at_ := by
    intro e he;rw [htk] at he;rcases List.mem_append.1 he with he | he
    ·exact hle e he
    ·rw [List.mem_singleton.1 he]; show R[i].at_ ≤ at_; omega
   have hV : (R.take i).map aK ++ [aK R[i]] <+: (R.filter fun e => decide (U3 e ≤ at_)).map aK := by
    have e1 : (R.take i).map aK ++ [aK R[i]] = (R.take (i + 1)).map aK := by rw [htk, List.map_append]; rfl
    rw [e1];refine List.IsPrefix.map aK ?_
    conv => rhs; rw [← List.take_append_drop (i + 1) R]
    rw [List.filter_append, List.filter_eq_self.2 (by intro e he; simpa using hle' e he)];exact List.prefix_append _ _
   refine wm (l := [.string ⟨R[i].k.n.toArray⟩, .int .i64 R[i].k.t]) rfl rfl rfl (zZ rfl (Zb (zn rfl) (zZ rfl ?_)));refine (zB rfl rfl ?_);refine zZ rfl ?_;refine Xi (hround _ _ T hV hJ) rfl rfl fun b T' h => ?_
   rcases h with ⟨rfl, hJ'⟩ | ⟨rfl, hJx⟩
   ·refine zZ rfl (Zb (Zi rfl) (yp (zS rfl rfl) (zf (za (zA rfl (zu (zT (za (z8 (yp (Zg rfl rfl (by omega)) (yp (pI rfl) (zf (za ?_)))))))))))));refine ⟨i + 1, ⟨⟨rfl, rfl, rfl, rfl, rfl, trivial⟩, by omega, hle', T', ?_, .of⟩, by omega⟩;rw [htk, List.map_append]; exact hJ'
   ·refine zZ rfl (Zb (Zi rfl) (yp (zS rfl rfl) (zf (za (zH rfl (zJ (bret (zV (zV (bret ?_))))))))));exact zI w9 ⟨T', .of, .inr ⟨_, hJx⟩⟩
 ·refine Z4 (zF (zF (Z5 ?_)));refine ZW w9 ⟨T, .of, .inl ⟨_, ?_, hJ⟩⟩;rw [List.take_of_length_le (by omega)] at hle ⊢;rw [List.filter_eq_self.2 (by intro e he; simpa using hle e he)]
end Go.Proofs.YtejmbmenbailmaaGreat