/- Stores (chapter 10): Drop, Pin, Unpin, Peek, Get. -/
import Derived.Test.YtejmbmenbailmaaGreatStD
namespace Go.Proofs.YtejmbmenbailmaaGreat
open Go.Xs
open Enc (enc)
def yG (k : Ky) (S : Ss) : Ss × Int := match WC S.I (fk k) with
 | none => (S, 5)
 | some i => if 0 < i.pins then (S, 6) else (Xb (fk k) S, 0)
def vS (I : List It) (k : Ky) (p : Int) : List It := I.map fun i => if i.k = k then { i with pins := p } else i
def Vu (k : Ky) (by_ : Int) (S : Ss) : Ss × Int := match WC S.I (fk k) with
 | none => (S, 5)
 | some i => if KO (i.pins + by_) 1000 = false then (S, 1) else (⟨vS S.I (fk k) (i.pins + by_), S.P, S.Q, S.V⟩, 0)
theorem xG (I : List It) (k : Ky) (p : Int) : keys (vS I k p) = keys I := by
 unfold keys vS;rw [List.map_map];refine List.map_congr_left fun i _ => ?_
 show (if i.k = k then { i with pins := p } else i).k = i.k;split <;> rfl
theorem qJ (I : List It) (k : Ky) (p : Int) : (vS I k p).map It.de = I.map It.de := by
 unfold vS;rw [List.map_map];refine List.map_congr_left fun i _ => ?_
 show (if i.k = k then { i with pins := p } else i).de = i.de;split <;> rfl
abbrev Jv (p : Int) (e : En) : En := { e with i := { e.i with pins := p } }
theorem cO {A B : List En} {e : En} (hn : (keys ((A ++ e :: B).map (·.i))).Nodup) (p : Int) : (A ++ Jv p e :: B).map (·.i) = vS ((A ++ e :: B).map (·.i)) e.i.k p := by
 have hne : ∀ X : List En, (∀ y ∈ X, y.i.k ≠ e.i.k) → X.map (·.i) = vS (X.map (·.i)) e.i.k p := fun X hX => by
  unfold vS;rw [List.map_map];refine List.map_congr_left fun y hy => ?_
  show y.i = if y.i.k = e.i.k then _ else y.i
  rw [if_neg (hX y hy)]
 have hn : ((A ++ e :: B).map fun y => y.i.k).Nodup := by
  have : keys ((A ++ e :: B).map (·.i)) = (A ++ e :: B).map fun y => y.i.k := by unfold keys; rw [List.map_map]; rfl
  rw [← this]; exact hn
 rw [List.map_append, List.map_cons] at hn;obtain ⟨_, h2, h3⟩ := List.nodup_append.1 hn;have h4 := (List.nodup_cons.1 h2).1;have hA := hne A fun y hy q => h3 y.i.k (List.mem_map.2 ⟨y, hy, rfl⟩) e.i.k List.mem_cons_self q
 have hB := hne B fun y hy q => h4 (List.mem_map.2 ⟨y, hy, q⟩)
 have happ : ∀ X Y : List It, vS (X ++ Y) e.i.k p = vS X e.i.k p ++ vS Y e.i.k p := fun X Y => List.map_append
 rw [List.map_append, List.map_cons, List.map_append, List.map_cons, happ, hA, ← hA];congr 1;show _ = (if e.i.k = e.i.k then _ else e.i) :: vS (B.map (·.i)) e.i.k p;rw [if_pos rfl, ← hB]
theorem mR {A B : List En} {e : En} (p : Int) : Xi (A ++ Jv p e :: B) = Xi (A ++ e :: B) := by
 funext x;unfold Xi Y0;have hd : decide ((Jv p e).i.k = x) = decide (e.i.k = x) := rfl;rw [List.find?_append, List.find?_append, List.find?_cons, List.find?_cons, hd];cases List.find? (fun y => decide (y.i.k = x)) A <;> cases decide (e.i.k = x) <;> rfl
theorem oU {sb N : Nat} {S : Ss} {H : List Chunk} (hS : Sr sb N S H) (k : Ky) (hkl : k.n.length < 2 ^ 62) :
 zQ Tryz.prog 42 #[.pointer (some ⟨sb, 0, none⟩), .agg (Wo k)] [H] (fun r S' => r = .int .i64 (yG k S).2 ∧ ∃ H', Sr sb N (yG k S).1 H' ∧ S' = [H']) := by
 have hS0 := hS;obtain ⟨W, D, L, ab, tb, mb, lb, db, ev, HA, HT, HM, HL, HD, HV, h, rfl⟩ := hS;refine zQ.forget (zQ.iE (zm Tryz.Cz (Nat.le_of_ble_eq_true rfl) ?_));unfold Tryz.ET;refine ze (z8 ?_);refine zh (Zv rfl fun p3 => ?_);refine yp pC (zf (za (ze (z8 (yp (pP rfl) ?_)))));refine zh (Zu rfl rfl ?_);refine zh (zk (Jm (ab := ab) (tb := tb) (lb := lb) (db := db) (ev := ev) h.m k hkl) rfl rfl fun r S' h => ?_);obtain ⟨rfl, rfl⟩ := h;cases hb : WC S.I (fk k) with
 | none =>
  rw [yB h.q hb];unfold yG;rw [hb];refine yp (v := .pointer none) rfl (zf (za (ze (zw (ze (z8 (yp (pP rfl) (yp (ZQ rfl rfl) (yp (pB rfl) (zf (za (zJ rfl (ze (z8 (yp pC (zf (za (zI (bret (zV ?_))))))))))))))))))));exact zH (rI rfl) ⟨_, zD.sp, rfl, _, hS0, rfl⟩
 | some i =>
  obtain ⟨e, hf, he, rfl, hek⟩ := xQ h.q hb;rw [hf];rw [show yG k S = if 0 < e.i.pins then (S, 6) else (Xb (fk k) S, 0) from by unfold yG; rw [hb]];refine yp (v := .pointer (some ⟨e.eb, 0, none⟩)) rfl (zf (za (ze (zw (ze (z8 (yp (pP rfl) (yp (ZQ rfl rfl) (yp (pB rfl) (zf (za (zA rfl (ze (z8 (yp (pP rfl) (yp (zG rfl) (yp (zn rfl) ?_)))))))))))))))));refine zh (XE (List.mem_cons_of_mem _ (List.mem_cons_of_mem _ (List.mem_cons_of_mem _ (List.mem_cons_of_mem _ (List.mem_cons_of_mem _ (List.mem_cons_of_mem _ (List.mem_cons_of_mem _ (List.mem_cons_of_mem _ (xY he))))))))) rfl rfl ?_);refine yp (uz rfl rfl) (yp (pB rfl) (zf (za ?_)));by_cases hp : 0 < e.i.pins
  ·rw [decide_eq_true hp, if_pos hp];refine zJ rfl (ze (z8 (yp pC (zf (za (zI (bret (zV ?_))))))));exact zH (rI rfl) ⟨_, zD.sp, rfl, _, hS0, rfl⟩
  ·rw [decide_eq_false hp, if_neg hp];refine zA rfl (zu (zS (za ?_)));refine zq (S0 := [[(p3, .cells (Wo k) 43)], sH sb ab tb mb lb db ev HA HT HM HL HD HV W]) ?_ ?_
   ·exact zD.L6
   refine ze (z8 (yp (pP rfl) ?_));refine zh (Zu rfl rfl ?_);refine zh (zk (kK k hkl) rfl rfl fun r S' h => ?_);obtain ⟨rfl, rfl⟩ := h;refine zh (zk (Jl hS0 hb) rfl rfl fun r S' h => ?_);obtain ⟨rfl, H1, hS1, rfl⟩ := h;refine zf (za (ze (z8 (yp pC (zf (za (zI ?_)))))));exact zH (rI rfl) ⟨[H1], .of, rfl, _, hS1, rfl⟩
theorem iW (k : Ky) : zQ Tryz.prog 42 #[.pointer none, .agg (Wo k)] [] (fun r S => r = .int .i64 5 ∧ S = []) := by
 refine zQ.forget (zm Tryz.Cz (Nat.le_of_ble_eq_true rfl) ?_);unfold Tryz.ET;refine ze (z8 ?_);refine zh (Zv rfl fun p3 => ?_);refine yp pC (zf (za (ze (z8 (yp (pP rfl) ?_)))));refine zh (Zu rfl rfl ?_);refine zh (zk (iV k) rfl rfl fun r S' h => ?_);obtain ⟨rfl, rfl⟩ := h;refine yp (pP rfl) (zf (za (ze (zw (ze (z8 (yp (pP rfl) (yp (ZQ rfl rfl) (yp (pB rfl) (zf (za (zJ rfl (ze (z8 (yp pC (zf (za (zI (bret (zV ?_))))))))))))))))))));exact zH (rI rfl) ⟨_, .of, rfl, rfl⟩
theorem Xn (n most : Int) : KO n most = true ↔ 0 ≤ n ∧ n ≤ most := by unfold KO; simp
theorem nJ {sb N : Nat} {S : Ss} {H : List Chunk} (hS : Sr sb N S H) (k : Ky) (hkl : k.n.length < 2 ^ 62) (by_ : Int) (hby : -1 ≤ by_ ∧ by_ ≤ 1) :
 zQ Tryz.prog 82 #[.pointer (some ⟨sb, 0, none⟩), .agg (Wo k), .int .i64 by_] [H] (fun r S' => r = .int .i64 (Vu k by_ S).2 ∧ ∃ H', Sr sb N (Vu k by_ S).1 H' ∧ S' = [H']) := by
 have hS0 := hS;obtain ⟨W, D, L, ab, tb, mb, lb, db, ev, HA, HT, HM, HL, HD, HV, h, rfl⟩ := hS;refine zQ.forget (zQ.iE (zm Tryz.G7 (Nat.le_of_ble_eq_true rfl) ?_));unfold Tryz.I7;refine ze (z8 ?_);refine zh (Zv rfl fun p4 => ?_);refine yp pC (zf (za (ze (z8 (yp (pP rfl) ?_)))));refine zh (Zu rfl rfl ?_);refine zh (zk (Jm (ab := ab) (tb := tb) (lb := lb) (db := db) (ev := ev) h.m k hkl) rfl rfl fun r S' h => ?_);obtain ⟨rfl, rfl⟩ := h;cases hb : WC S.I (fk k) with
 | none =>
  rw [yB h.q hb];unfold Vu;rw [hb];refine yp (v := .pointer none) rfl (zf (za (ze (zw (ze (z8 (yp (pP rfl) (yp (ZQ rfl rfl) (yp (pB rfl) (zf (za (zJ rfl (ze (z8 (yp pC (zf (za (zI (bret (zV ?_))))))))))))))))))));exact zH (rI rfl) ⟨_, zD.sp, rfl, _, hS0, rfl⟩
 | some i =>
  obtain ⟨e, hf, he, rfl, hek⟩ := xQ h.q hb;have hpn := h.q.pn e.i (by rw [← h.q.its]; exact List.mem_map.2 ⟨e, he, rfl⟩);rw [hf];rw [show Vu k by_ S = if KO (e.i.pins + by_) 1000 = false then (S, 1) else (⟨vS S.I (fk k) (e.i.pins + by_), S.P, S.Q, S.V⟩, 0) from by unfold Vu; rw [hb]];obtain ⟨A, B, rfl, hout⟩ := V4 h.q.tJ he;refine yp (v := .pointer (some ⟨e.eb, 0, none⟩)) rfl (zf (za ?_));refine zq (S0 := [(p4, .cells (Wo k) 43)] :: wm sb ab tb mb lb db ev :: HA :: HT :: HM :: HL :: HD :: HV :: Es (A ++ e :: B)) ?_ ?_
  ·exact zD.of
  refine zq zD.em (ze (zw (ze (z8 (yp (pP rfl) (yp (ZQ rfl rfl) (yp (pB rfl) (zf (za (zA rfl (ze (z8 (yp (pP rfl) (yp (zG rfl) (yp (zn rfl) ?_)))))))))))))));refine zh (zC rfl rfl ?_);refine yp (pI rfl) (yp (Vb rfl rfl (by omega)) ?_);refine zh (zk (UD (e.i.pins + by_) 1000) rfl rfl fun r S' h => ?_);obtain ⟨rfl, rfl⟩ := h;refine yp (Zi rfl) (yp (pB rfl) (zf (za ?_)));cases hw : KO (e.i.pins + by_) 1000 with
  | false =>
   rw [if_pos rfl];refine zJ rfl (ze (z8 (yp pC (zf (za (zI (bret (zV ?_))))))));exact zH (rI rfl) ⟨_, zD.Hr (e := e), rfl, _, hS0, rfl⟩
  | true =>
   rw [if_neg (by decide)];have hw2 := (Xn _ _).1 hw;refine zA rfl (zu (zS (za (ze (z8 (yp (pP rfl) (yp (zG rfl) (yp (zn rfl) ?_))))))));refine zh (zC rfl rfl ?_);refine yp (pI rfl) (yp (Vb rfl rfl (by omega)) (yp (zG rfl) (yp (zn rfl) ?_)));refine zh (aY rfl rfl (Ud rfl) ?_);refine zf (za (ze (z8 (yp pC (zf (za (zI ?_)))))));have hp2 : Sp N ⟨vS S.I (fk k) (e.i.pins + by_), S.P, S.Q, S.V⟩ (A ++ Jv (e.i.pins + by_) e :: B) D L ab tb mb lb db ev HA HT HM HL HD HV := by
    refine ⟨⟨?_, ?_, ?_, ?_, ?_, ?_⟩, h.a, h.t, ?_, h.l, ?_, h.v⟩
    ·rw [cO h.q.tJ, h.q.its, hek]
    ·have : (A ++ Jv (e.i.pins + by_) e :: B).map En.z = (A ++ e :: B).map En.z := by rw [List.map_append, List.map_append]; rfl
     rw [this]; exact h.q.pk
    ·show (keys (vS _ _ _)).Nodup;rw [xG]; exact h.q.kn
    ·intro i hi;obtain ⟨j, hj, rfl⟩ := List.mem_map.1 hi;have := h.q.kz j hj;show (if j.k = fk k then { j with pins := e.i.pins + by_ } else j).k = Z9 (if j.k = fk k then { j with pins := e.i.pins + by_ } else j).s;split <;> exact this
    ·show (S.P ++ S.Q).Perm (keys (vS _ _ _));rw [xG]; exact h.q.pq
    ·intro i hi;obtain ⟨j, hj, rfl⟩ := List.mem_map.1 hi;show 0 ≤ (if j.k = fk k then { j with pins := e.i.pins + by_ } else j).pins ∧ (if j.k = fk k then { j with pins := e.i.pins + by_ } else j).pins ≤ 1000;split
     ·exact hw2
     ·exact h.q.pn j hj
    ·rw [mR];have : (A ++ Jv (e.i.pins + by_) e :: B).length = (A ++ e :: B).length := by simp
     rw [this]; exact h.m
    ·rw [qJ]; exact h.d
   exact zH (rI rfl) ⟨_, zD.Hr (e := Jv (e.i.pins + by_) e), rfl, _, Sr.mk hp2, rfl⟩
theorem nK {sb N : Nat} {S : Ss} {H : List Chunk} (hS : Sr sb N S H) (k : Ky) (hkl : k.n.length < 2 ^ 62) :
 zQ Tryz.prog 31 #[.pointer (some ⟨sb, 0, none⟩), .agg (Wo k)] [H] (fun r S' => r = .int .i64 (Vu k 1 S).2 ∧ ∃ H', Sr sb N (Vu k 1 S).1 H' ∧ S' = [H']) := by
 refine zQ.forget (zm Tryz.GN (Nat.le_of_ble_eq_true rfl) ?_);unfold Tryz.x31;refine ze (z8 ?_);refine zh (Zv rfl fun p3 => ?_);refine yp pC (zf (za (ze (z8 (yp (pP rfl) ?_)))));refine zh (Zu rfl rfl ?_);refine zh (zk (nJ hS k hkl 1 (by decide)) rfl rfl fun r S' h => ?_);obtain ⟨rfl, H1, hS1, rfl⟩ := h;refine yp (pI rfl) (zf (za (zI ?_)));exact zH (rI rfl) ⟨[H1], .of, rfl, _, hS1, rfl⟩
theorem kJ {sb N : Nat} {S : Ss} {H : List Chunk} (hS : Sr sb N S H) (k : Ky) (hkl : k.n.length < 2 ^ 62) :
 zQ Tryz.prog 34 #[.pointer (some ⟨sb, 0, none⟩), .agg (Wo k)] [H] (fun r S' => r = .int .i64 (Vu k (-1) S).2 ∧ ∃ H', Sr sb N (Vu k (-1) S).1 H' ∧ S' = [H']) := by
 refine zQ.forget (zm Tryz.GK (Nat.le_of_ble_eq_true rfl) ?_);unfold Tryz.x34;refine ze (z8 ?_);refine zh (Zv rfl fun p3 => ?_);refine yp pC (zf (za (ze (z8 (yp (pP rfl) ?_)))));refine zh (Zu rfl rfl ?_);refine zh (zk (nJ hS k hkl (-1) (by decide)) rfl rfl fun r S' h => ?_);obtain ⟨rfl, H1, hS1, rfl⟩ := h;refine yp (pI rfl) (zf (za (zI ?_)));exact zH (rI rfl) ⟨[H1], .of, rfl, _, hS1, rfl⟩
end Go.Proofs.YtejmbmenbailmaaGreat