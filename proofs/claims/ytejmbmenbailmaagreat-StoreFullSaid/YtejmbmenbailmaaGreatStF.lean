/- Stores (chapter 10): Peek, Get. -/
import Derived.Test.YtejmbmenbailmaaGreatStE
namespace Go.Proofs.YtejmbmenbailmaaGreat
open Go.Xs
open Enc (enc)
/-- what Get tells, and makes of the store -/
def tq (sb N : Nat) (S : Ss) (k : Ky) (now : Int) (H : List Chunk) (r : Value) (S' : zo) : Prop :=
 ((∀ i, WC S.I (fk k) = some i → i.exp ≤ now) ∧ r = .tuple #[.agg sD, .bool false] ∧ S' = [H]) ∨ ∃ i v HR H', WC S.I (fk k) = some i ∧ now < i.exp ∧ r = .tuple #[.agg (tL i v), .bool true] ∧ Zb 88 v (ZE i.s).rrs HR ∧ Sr sb N ⟨S.I, Y5 ((N / 512 : Nat) : Int) (fk k) S.P S.Q, Y4 ((N / 512 : Nat) : Int) (fk k) S.P S.Q, S.V⟩ H' ∧ S' = [HR, H']
theorem nM {sb N : Nat} {S : Ss} {H : List Chunk} (hS : Sr sb N S H) (k : Ky) (hkl : k.n.length < 2 ^ 62) (now : Int) :
 zQ Tryz.prog 40 #[.pointer (some ⟨sb, 0, none⟩), .agg (Wo k), .int .i64 now] [H] (tq sb N S k now H) := by
 have hnb := hS.nb;obtain ⟨W, D, L, ab, tb, mb, lb, db, ev, HA, HT, HM, HL, HD, HV, h, rfl⟩ := hS;refine zQ.forget (zQ.iE (zm Tryz.GD (Nat.le_of_ble_eq_true rfl) ?_));unfold Tryz.II;refine ze (z8 ?_);refine zh (Zv rfl fun p4 => ?_);refine zh (Zf fun p6 => ?_);refine yp pC (zf (za (ze (z8 (yp (pP rfl) ?_)))));refine zh (Zu rfl rfl ?_);refine zh (zk (Jm (ab := ab) (tb := tb) (lb := lb) (db := db) (ev := ev) h.m k hkl) rfl rfl fun r S' h => ?_);obtain ⟨rfl, rfl⟩ := h;cases hb : WC S.I (fk k) with
 | none =>
  rw [yB h.q hb];refine yp (v := .pointer none) rfl (zf (za (ze (ze (z8 (yp (pP rfl) (yp (ZQ rfl rfl) (yp (pB rfl) (Z4 rfl (Z4 rfl (Z4 rfl (Z4 rfl (Z4 rfl (Z4 rfl (yp (zO rfl rfl) (zf (za (zJ rfl (ze (z8 (yp U0 ?_)))))))))))))))))))));refine zh (V8 rfl rfl rfl rfl rfl ?_);refine yp pC (zf (za (zI (zV ?_))));exact zH (XR (lD (b := p6) iq bR rfl rfl) (tF rfl)) ⟨_, zD.sp, .inl ⟨(fun i hi => by rw [hb] at hi; exact absurd hi (by simp)), rfl, rfl⟩⟩
 | some i =>
  obtain ⟨e, hf, he, rfl, hek⟩ := xQ h.q hb;rw [hf];have hkm : fk k ∈ keys S.I := by rw [← hek]; exact List.mem_map.2 ⟨e.i, (jR hb).1, rfl⟩
  have hC := oQ (sb := sb) (mb := mb) (lb := lb) (db := db) (ev := ev) (h.q.touch (m := ((N / 512 : Nat) : Int)) hkm) h.a h.t he;obtain ⟨A, B, rfl, hout⟩ := V4 h.q.tJ he;refine yp (v := .pointer (some ⟨e.eb, 0, none⟩)) rfl (zf (za ?_));refine zq (S0 := [(p6, .cells sD 76)] :: [(p4, .cells (Wo k) 43)] :: wm sb ab tb mb lb db ev :: HA :: HT :: HM :: HL :: HD :: HV :: Es (A ++ e :: B)) ?_ ?_
  ·exact zD.of
  refine zq (zD.cons zD.em) (ze (ze (z8 (yp (pP rfl) (yp (ZQ rfl rfl) (yp (pB rfl) (Z7 rfl (Ze (pP rfl) (Z7 rfl (Ze (zG rfl) (Z7 rfl (Ze (zn rfl) (Z7 rfl ?_)))))))))))));refine (zC rfl rfl ?_);refine Z7 rfl (Ze (pI rfl) (Z7 rfl (Ze (J8 rfl rfl) (yp (zU rfl rfl) (zf (za ?_))))));by_cases hx : e.i.exp ≤ now
  ·rw [decide_eq_true hx];refine zJ rfl (ze (z8 (yp U0 ?_)));refine zh (V8 rfl rfl rfl rfl rfl ?_);refine yp pC (zf (za (zI (zV ?_))));exact zH (XR (lD (b := p6) iq bR rfl rfl) (tF rfl)) ⟨_, zD.Hr (e := e), .inl ⟨(fun i hi => by rw [hb] at hi; obtain rfl := Option.some.inj hi; exact hx), rfl, rfl⟩⟩
  ·rw [decide_eq_false hx];refine zA rfl (zu (za (ze (zX (zi (pP rfl) (zi (zG rfl) (zi (zn rfl) (Z5 rfl rfl (WE rfl rfl ?_)))))))));refine Zm (zk (kK k hkl) rfl rfl fun r S' h => ?_) zM;obtain ⟨rfl, rfl⟩ := h;refine ⟨fun _ h => h, ?_⟩;refine zN (zk (mD h.l (by omega) (by omega) (fk k)) rfl rfl fun r S' h => ?_) zM;obtain ⟨rfl, HL1, hL1, rfl⟩ := h;refine zL (za (ze (z8 (yp (pP rfl) (yp (pP rfl) ?_)))));refine zh (zk hC rfl rfl fun r S' h => ?_);obtain ⟨v, HR, rfl, hR, rfl⟩ := h;obtain ⟨a, c, rfl⟩ := hR.isSlice;refine zh (V8 rfl rfl rfl rfl rfl ?_);refine yp pC (zf (za (zI ?_)));exact zH (XR (lD (b := p6) iq bR rfl rfl) (tF rfl)) ⟨_, zD.ec (x := HR) (e := e), .inr ⟨e.i, _, HR, _, hb, by omega, rfl, hR, Sr.mk ⟨h.q.touch hkm, h.a, h.t, h.m, hL1, h.d, h.v⟩, rfl⟩⟩
end Go.Proofs.YtejmbmenbailmaaGreat