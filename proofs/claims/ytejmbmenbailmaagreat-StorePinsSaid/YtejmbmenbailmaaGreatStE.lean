/- Stores (chapter 10): Drop, Pin, Unpin, Peek, Get. -/
import Derived.Test.YtejmbmenbailmaaGreatStD
namespace Go.Proofs.YtejmbmenbailmaaGreat
open Go.Xs
open Enc (enc)
def UU (k : Ky) (S : Ss) : Ss × Int := match WM S.I (fk k) with
 | none => (S, 5)
 | some i => if 0 < i.pins then (S, 6) else (uH (fk k) S, 0)
def VO (I : List It) (k : Ky) (p : Int) : List It := I.map fun i => if i.k = k then { i with pins := p } else i
def UE (k : Ky) (by_ : Int) (S : Ss) : Ss × Int := match WM S.I (fk k) with
 | none => (S, 5)
 | some i => if jU (i.pins + by_) 1000 = false then (S, 1) else (⟨VO S.I (fk k) (i.pins + by_), S.P, S.Q, S.V⟩, 0)
theorem xG (I : List It) (k : Ky) (p : Int) : keys (VO I k p) = keys I := by
 unfold keys VO;rw [List.map_map];refine List.map_congr_left fun i _ => ?_
 show (if i.k = k then { i with pins := p } else i).k = i.k;split <;> rfl
theorem iP (I : List It) (k : Ky) (p : Int) : (VO I k p).map It.de = I.map It.de := by
 unfold VO;rw [List.map_map];refine List.map_congr_left fun i _ => ?_
 show (if i.k = k then { i with pins := p } else i).de = i.de;split <;> rfl
abbrev Jl (p : Int) (e : En) : En := { e with i := { e.i with pins := p } }
theorem bU {A B : List En} {e : En} (hn : (keys ((A ++ e :: B).map (·.i))).Nodup) (p : Int) : (A ++ Jl p e :: B).map (·.i) = VO ((A ++ e :: B).map (·.i)) e.i.k p := by
 have hne : ∀ X : List En, (∀ y ∈ X, y.i.k ≠ e.i.k) → X.map (·.i) = VO (X.map (·.i)) e.i.k p := fun X hX => by
  unfold VO;rw [List.map_map];refine List.map_congr_left fun y hy => ?_
  show y.i = if y.i.k = e.i.k then _ else y.i
  rw [if_neg (hX y hy)]
 have hn : ((A ++ e :: B).map fun y => y.i.k).Nodup := by
  have : keys ((A ++ e :: B).map (·.i)) = (A ++ e :: B).map fun y => y.i.k := by unfold keys; rw [List.map_map]; rfl
  rw [← this]; exact hn
 rw [List.map_append, List.map_cons] at hn;obtain ⟨_, h2, h3⟩ := List.nodup_append.1 hn;have h4 := (List.nodup_cons.1 h2).1;have hA := hne A fun y hy q => h3 y.i.k (List.mem_map.2 ⟨y, hy, rfl⟩) e.i.k List.mem_cons_self q
 have hB := hne B fun y hy q => h4 (List.mem_map.2 ⟨y, hy, q⟩)
 have happ : ∀ X Y : List It, VO (X ++ Y) e.i.k p = VO X e.i.k p ++ VO Y e.i.k p := fun X Y => List.map_append
 rw [List.map_append, List.map_cons, List.map_append, List.map_cons, happ, hA, ← hA];congr 1;show _ = (if e.i.k = e.i.k then _ else e.i) :: VO (B.map (·.i)) e.i.k p;rw [if_pos rfl, ← hB]
theorem lZ {A B : List En} {e : En} (p : Int) : Xf (A ++ Jl p e :: B) = Xf (A ++ e :: B) := by
 funext x;unfold Xf yU;have hd : decide ((Jl p e).i.k = x) = decide (e.i.k = x) := rfl;rw [List.find?_append, List.find?_append, List.find?_cons, List.find?_cons, hd];cases List.find? (fun y => decide (y.i.k = x)) A <;> cases decide (e.i.k = x) <;> rfl
theorem Jc {sb N : Nat} {S : Ss} {H : List Chunk} (hS : Sr sb N S H) (k : Ky) (hkl : k.n.length < 2 ^ 62) :
 zP Tryz.prog 42 #[.pointer (some ⟨sb, 0, none⟩), .agg (Wn k)] [H] (fun r S' => r = .int .i64 (UU k S).2 ∧ ∃ H', Sr sb N (UU k S).1 H' ∧ S' = [H']) := by
 have hS0 := hS;obtain ⟨W, D, L, ab, tb, mb, lb, db, ev, HA, HT, HM, HL, HD, HV, h, rfl⟩ := hS;refine zP.forget (zP.gT (zm Tryz.BU (Nat.le_of_ble_eq_true rfl) ?_));unfold Tryz.Ep;refine ze (z8 ?_);refine zh (Zr rfl fun p3 => ?_);refine yp pC (zf (za (ze (z8 (yp (pP rfl) ?_)))));refine zh (Zk rfl rfl ?_);refine zh (zk (kE (ab := ab) (tb := tb) (lb := lb) (db := db) (ev := ev) h.m k hkl) rfl rfl fun r S' h => ?_);obtain ⟨rfl, rfl⟩ := h;cases hb : WM S.I (fk k) with
 | none =>
  rw [xQ h.q hb];unfold UU;rw [hb];refine yp (v := .pointer none) rfl (zf (za (ze (zw (ze (z8 (yp (pP rfl) (yp (ZM rfl rfl) (yp (pB rfl) (zf (za (zH rfl (ze (z8 (yp pC (zf (za (zJ (bret (zV ?_))))))))))))))))))));exact zI (rI rfl) ⟨_, zC.sp, rfl, _, hS0, rfl⟩
 | some i =>
  obtain ⟨e, hf, he, rfl, hek⟩ := Uk h.q hb;rw [hf];rw [show UU k S = if 0 < e.i.pins then (S, 6) else (uH (fk k) S, 0) from by unfold UU; rw [hb]];refine yp (v := .pointer (some ⟨e.eb, 0, none⟩)) rfl (zf (za (ze (zw (ze (z8 (yp (pP rfl) (yp (ZM rfl rfl) (yp (pB rfl) (zf (za (zA rfl (ze (z8 (yp (pP rfl) (yp (zG rfl) (yp (zn rfl) ?_)))))))))))))))));refine zh (XC (List.mem_cons_of_mem _ (List.mem_cons_of_mem _ (List.mem_cons_of_mem _ (List.mem_cons_of_mem _ (List.mem_cons_of_mem _ (List.mem_cons_of_mem _ (List.mem_cons_of_mem _ (List.mem_cons_of_mem _ (xX he))))))))) rfl rfl ?_);refine yp (Vs rfl rfl) (yp (pB rfl) (zf (za ?_)));by_cases hp : 0 < e.i.pins
  ·rw [decide_eq_true hp, if_pos hp];refine zH rfl (ze (z8 (yp pC (zf (za (zJ (bret (zV ?_))))))));exact zI (rI rfl) ⟨_, zC.sp, rfl, _, hS0, rfl⟩
  ·rw [decide_eq_false hp, if_neg hp];refine zA rfl (zu (zT (za ?_)));refine zq (S0 := [[(p3, .cells (Wn k) 43)], sH sb ab tb mb lb db ev HA HT HM HL HD HV W]) ?_ ?_
   ·exact zC.Ig
   refine ze (z8 (yp (pP rfl) ?_));refine zh (Zk rfl rfl ?_);refine zh (zk (kD k hkl) rfl rfl fun r S' h => ?_);obtain ⟨rfl, rfl⟩ := h;refine zh (zk (Jb hS0 hb) rfl rfl fun r S' h => ?_);obtain ⟨rfl, H1, hS1, rfl⟩ := h;refine zf (za (ze (z8 (yp pC (zf (za (zJ ?_)))))));exact zI (rI rfl) ⟨[H1], .of, rfl, _, hS1, rfl⟩
theorem iH (k : Ky) : zP Tryz.prog 42 #[.pointer none, .agg (Wn k)] [] (fun r S => r = .int .i64 5 ∧ S = []) := by
 refine zP.forget (zm Tryz.BU (Nat.le_of_ble_eq_true rfl) ?_);unfold Tryz.Ep;refine ze (z8 ?_);refine zh (Zr rfl fun p3 => ?_);refine yp pC (zf (za (ze (z8 (yp (pP rfl) ?_)))));refine zh (Zk rfl rfl ?_);refine zh (zk (iG k) rfl rfl fun r S' h => ?_);obtain ⟨rfl, rfl⟩ := h;refine yp (pP rfl) (zf (za (ze (zw (ze (z8 (yp (pP rfl) (yp (ZM rfl rfl) (yp (pB rfl) (zf (za (zH rfl (ze (z8 (yp pC (zf (za (zJ (bret (zV ?_))))))))))))))))))));exact zI (rI rfl) ⟨_, .of, rfl, rfl⟩
theorem YX (n most : Int) : jU n most = true ↔ 0 ≤ n ∧ n ≤ most := by unfold jU; simp
theorem mX {sb N : Nat} {S : Ss} {H : List Chunk} (hS : Sr sb N S H) (k : Ky) (hkl : k.n.length < 2 ^ 62) (by_ : Int) (hby : -1 ≤ by_ ∧ by_ ≤ 1) :
 zP Tryz.prog 82 #[.pointer (some ⟨sb, 0, none⟩), .agg (Wn k), .int .i64 by_] [H] (fun r S' => r = .int .i64 (UE k by_ S).2 ∧ ∃ H', Sr sb N (UE k by_ S).1 H' ∧ S' = [H']) := by
 have hS0 := hS;obtain ⟨W, D, L, ab, tb, mb, lb, db, ev, HA, HT, HM, HL, HD, HV, h, rfl⟩ := hS;refine zP.forget (zP.gT (zm Tryz.Fv (Nat.le_of_ble_eq_true rfl) ?_));unfold Tryz.GD;refine ze (z8 ?_);refine zh (Zr rfl fun p4 => ?_);refine yp pC (zf (za (ze (z8 (yp (pP rfl) ?_)))));refine zh (Zk rfl rfl ?_);refine zh (zk (kE (ab := ab) (tb := tb) (lb := lb) (db := db) (ev := ev) h.m k hkl) rfl rfl fun r S' h => ?_);obtain ⟨rfl, rfl⟩ := h;cases hb : WM S.I (fk k) with
 | none =>
  rw [xQ h.q hb];unfold UE;rw [hb];refine yp (v := .pointer none) rfl (zf (za (ze (zw (ze (z8 (yp (pP rfl) (yp (ZM rfl rfl) (yp (pB rfl) (zf (za (zH rfl (ze (z8 (yp pC (zf (za (zJ (bret (zV ?_))))))))))))))))))));exact zI (rI rfl) ⟨_, zC.sp, rfl, _, hS0, rfl⟩
 | some i =>
  obtain ⟨e, hf, he, rfl, hek⟩ := Uk h.q hb;have hpn := h.q.pn e.i (by rw [← h.q.its]; exact List.mem_map.2 ⟨e, he, rfl⟩);rw [hf];rw [show UE k by_ S = if jU (e.i.pins + by_) 1000 = false then (S, 1) else (⟨VO S.I (fk k) (e.i.pins + by_), S.P, S.Q, S.V⟩, 0) from by unfold UE; rw [hb]];obtain ⟨A, B, rfl, hout⟩ := WI h.q.rD he;refine yp (v := .pointer (some ⟨e.eb, 0, none⟩)) rfl (zf (za ?_));refine zq (S0 := [(p4, .cells (Wn k) 43)] :: ZX sb ab tb mb lb db ev :: HA :: HT :: HM :: HL :: HD :: HV :: Es (A ++ e :: B)) ?_ ?_
  ·exact zC.of
  refine zq zC.em (ze (zw (ze (z8 (yp (pP rfl) (yp (ZM rfl rfl) (yp (pB rfl) (zf (za (zA rfl (ze (z8 (yp (pP rfl) (yp (zG rfl) (yp (zn rfl) ?_)))))))))))))));refine zh (zB rfl rfl ?_);refine yp (pI rfl) (yp (Vy rfl rfl (by omega)) ?_);refine zh (zk (Uw (e.i.pins + by_) 1000) rfl rfl fun r S' h => ?_);obtain ⟨rfl, rfl⟩ := h;refine yp (Zi rfl) (yp (pB rfl) (zf (za ?_)));cases hw : jU (e.i.pins + by_) 1000 with
  | false =>
   rw [if_pos rfl];refine zH rfl (ze (z8 (yp pC (zf (za (zJ (bret (zV ?_))))))));exact zI (rI rfl) ⟨_, zC.Gr (e := e), rfl, _, hS0, rfl⟩
  | true =>
   rw [if_neg (by decide)];have hw2 := (YX _ _).1 hw;refine zA rfl (zu (zT (za (ze (z8 (yp (pP rfl) (yp (zG rfl) (yp (zn rfl) ?_))))))));refine zh (zB rfl rfl ?_);refine yp (pI rfl) (yp (Vy rfl rfl (by omega)) (yp (zG rfl) (yp (zn rfl) ?_)));refine zh (aP rfl rfl (U9 rfl) ?_);refine zf (za (ze (z8 (yp pC (zf (za (zJ ?_)))))));have hp2 : Sp N ⟨VO S.I (fk k) (e.i.pins + by_), S.P, S.Q, S.V⟩ (A ++ Jl (e.i.pins + by_) e :: B) D L ab tb mb lb db ev HA HT HM HL HD HV := by
    refine ⟨⟨?_, ?_, ?_, ?_, ?_, ?_⟩, h.a, h.t, ?_, h.l, ?_, h.v⟩
    ·rw [bU h.q.rD, h.q.its, hek]
    ·have : (A ++ Jl (e.i.pins + by_) e :: B).map En.z = (A ++ e :: B).map En.z := by rw [List.map_append, List.map_append]; rfl
     rw [this]; exact h.q.pk
    ·show (keys (VO _ _ _)).Nodup;rw [xG]; exact h.q.kn
    ·intro i hi;obtain ⟨j, hj, rfl⟩ := List.mem_map.1 hi;have := h.q.kz j hj;show (if j.k = fk k then { j with pins := e.i.pins + by_ } else j).k = Z6 (if j.k = fk k then { j with pins := e.i.pins + by_ } else j).s;split <;> exact this
    ·show (S.P ++ S.Q).Perm (keys (VO _ _ _));rw [xG]; exact h.q.pq
    ·intro i hi;obtain ⟨j, hj, rfl⟩ := List.mem_map.1 hi;show 0 ≤ (if j.k = fk k then { j with pins := e.i.pins + by_ } else j).pins ∧ (if j.k = fk k then { j with pins := e.i.pins + by_ } else j).pins ≤ 1000;split
     ·exact hw2
     ·exact h.q.pn j hj
    ·rw [lZ];have : (A ++ Jl (e.i.pins + by_) e :: B).length = (A ++ e :: B).length := by simp
     rw [this]; exact h.m
    ·rw [iP]; exact h.d
   exact zI (rI rfl) ⟨_, zC.Gr (e := Jl (e.i.pins + by_) e), rfl, _, Sr.mk hp2, rfl⟩
theorem bM {sb N : Nat} {S : Ss} {H : List Chunk} (hS : Sr sb N S H) (k : Ky) (hkl : k.n.length < 2 ^ 62) :
 zP Tryz.prog 31 #[.pointer (some ⟨sb, 0, none⟩), .agg (Wn k)] [H] (fun r S' => r = .int .i64 (UE k 1 S).2 ∧ ∃ H', Sr sb N (UE k 1 S).1 H' ∧ S' = [H']) := by
 refine zP.forget (zm Tryz.Gd (Nat.le_of_ble_eq_true rfl) ?_);unfold Tryz.x31;refine ze (z8 ?_);refine zh (Zr rfl fun p3 => ?_);refine yp pC (zf (za (ze (z8 (yp (pP rfl) ?_)))));refine zh (Zk rfl rfl ?_);refine zh (zk (mX hS k hkl 1 (by decide)) rfl rfl fun r S' h => ?_);obtain ⟨rfl, H1, hS1, rfl⟩ := h;refine yp (pI rfl) (zf (za (zJ ?_)));exact zI (rI rfl) ⟨[H1], .of, rfl, _, hS1, rfl⟩
theorem kC {sb N : Nat} {S : Ss} {H : List Chunk} (hS : Sr sb N S H) (k : Ky) (hkl : k.n.length < 2 ^ 62) :
 zP Tryz.prog 34 #[.pointer (some ⟨sb, 0, none⟩), .agg (Wn k)] [H] (fun r S' => r = .int .i64 (UE k (-1) S).2 ∧ ∃ H', Sr sb N (UE k (-1) S).1 H' ∧ S' = [H']) := by
 refine zP.forget (zm Tryz.Gb (Nat.le_of_ble_eq_true rfl) ?_);unfold Tryz.x34;refine ze (z8 ?_);refine zh (Zr rfl fun p3 => ?_);refine yp pC (zf (za (ze (z8 (yp (pP rfl) ?_)))));refine zh (Zk rfl rfl ?_);refine zh (zk (mX hS k hkl (-1) (by decide)) rfl rfl fun r S' h => ?_);obtain ⟨rfl, H1, hS1, rfl⟩ := h;refine yp (pI rfl) (zf (za (zJ ?_)));exact zI (rI rfl) ⟨[H1], .of, rfl, _, hS1, rfl⟩
end Go.Proofs.YtejmbmenbailmaaGreat