/- Stores (chapter 10): Peek, Get. -/
import Derived.Test.YtejmbmenbailmaaGreatStE
namespace Go.Proofs.YtejmbmenbailmaaGreat
open Go.Xs
open Enc (enc)
/-- what Peek tells -/
def nQ (S : Ss) (k : Ky) (H : List Chunk) (r : Value) (S' : zo) : Prop :=
 (WM S.I (fk k) = none ∧ r = .tuple #[.agg eU, .bool false] ∧ S' = [H]) ∨ ∃ i v HR, WM S.I (fk k) = some i ∧ r = .tuple #[.agg (nK i v), .bool true] ∧ Zc 88 v (Zz i.s).rrs HR ∧ S' = [HR, H]
theorem bN {sb N : Nat} {S : Ss} {H : List Chunk} (hS : Sr sb N S H) (k : Ky) (hkl : k.n.length < 2 ^ 62) :
 zP Tryz.prog 39 #[.pointer (some ⟨sb, 0, none⟩), .agg (Wn k)] [H] (nQ S k H) := by
 obtain ⟨W, D, L, ab, tb, mb, lb, db, ev, HA, HT, HM, HL, HD, HV, h, rfl⟩ := hS;refine zP.forget (zP.gT (zm Tryz.G7 (Nat.le_of_ble_eq_true rfl) ?_));unfold Tryz.x39;refine ze (z8 ?_);refine zh (Zr rfl fun p3 => ?_);refine zh (Ze fun p4 => ?_);refine yp pC (zf (za (ze (z8 (yp (pP rfl) ?_)))));refine zh (Zk rfl rfl ?_);refine zh (zk (kE (ab := ab) (tb := tb) (lb := lb) (db := db) (ev := ev) h.m k hkl) rfl rfl fun r S' h => ?_);obtain ⟨rfl, rfl⟩ := h;cases hb : WM S.I (fk k) with
 | none =>
  rw [xQ h.q hb];refine yp (v := .pointer none) rfl (zf (za (ze (ze (z8 (yp (pP rfl) (yp (ZM rfl rfl) (zf (za (zH rfl (ze (z8 (yp VR ?_)))))))))))));refine zh (WG rfl rfl rfl rfl rfl ?_);refine yp pC (zf (za (zJ (zV ?_))));exact zI (Uz (bW (b := p4) JZ J9 rfl rfl) (ng rfl)) ⟨_, zC.sp, .inl ⟨hb, rfl, rfl⟩⟩
 | some i =>
  obtain ⟨e, hf, he, rfl, hek⟩ := Uk h.q hb;rw [hf];have hC := bO (sb := sb) (mb := mb) (lb := lb) (db := db) (ev := ev) h.q h.a h.t he;obtain ⟨A, B, rfl, hout⟩ := WI h.q.rD he;refine yp (v := .pointer (some ⟨e.eb, 0, none⟩)) rfl (zf (za ?_));refine zq (S0 := [(p4, .cells eU 76)] :: [(p3, .cells (Wn k) 43)] :: ZX sb ab tb mb lb db ev :: HA :: HT :: HM :: HL :: HD :: HV :: Es (A ++ e :: B)) ?_ ?_
  ·exact zC.of
  refine zq (zC.cons zC.em) (ze (ze (z8 (yp (pP rfl) (yp (ZM rfl rfl) (zf (za (zA rfl (zu (za (ze (z8 (yp (pP rfl) (yp (pP rfl) ?_))))))))))))));refine zh (zk hC rfl rfl fun r S' h => ?_);obtain ⟨v, HR, rfl, hR, rfl⟩ := h;obtain ⟨a, c, rfl⟩ := hR.isSlice;refine zh (WG rfl rfl rfl rfl rfl ?_);refine yp pC (zf (za (zJ ?_)));exact zI (Uz (bW (b := p4) JZ J9 rfl rfl) (ng rfl)) ⟨_, zC.ec (x := HR) (e := e), .inr ⟨e.i, _, HR, hb, rfl, hR, rfl⟩⟩
/-- what Get tells, and makes of the store -/
def su (sb N : Nat) (S : Ss) (k : Ky) (now : Int) (H : List Chunk) (r : Value) (S' : zo) : Prop :=
 ((∀ i, WM S.I (fk k) = some i → i.exp ≤ now) ∧ r = .tuple #[.agg eU, .bool false] ∧ S' = [H]) ∨ ∃ i v HR H', WM S.I (fk k) = some i ∧ now < i.exp ∧ r = .tuple #[.agg (nK i v), .bool true] ∧ Zc 88 v (Zz i.s).rrs HR ∧ Sr sb N ⟨S.I, yY ((N / 512 : Nat) : Int) (fk k) S.P S.Q, yX ((N / 512 : Nat) : Int) (fk k) S.P S.Q, S.V⟩ H' ∧ S' = [HR, H']
theorem mZ {sb N : Nat} {S : Ss} {H : List Chunk} (hS : Sr sb N S H) (k : Ky) (hkl : k.n.length < 2 ^ 62) (now : Int) :
 zP Tryz.prog 40 #[.pointer (some ⟨sb, 0, none⟩), .agg (Wn k), .int .i64 now] [H] (su sb N S k now H) := by
 have hnb := hS.nb;obtain ⟨W, D, L, ab, tb, mb, lb, db, ev, HA, HT, HM, HL, HD, HV, h, rfl⟩ := hS;refine zP.forget (zP.gT (zm Tryz.G6 (Nat.le_of_ble_eq_true rfl) ?_));unfold Tryz.I4;refine ze (z8 ?_);refine zh (Zr rfl fun p4 => ?_);refine zh (Ze fun p6 => ?_);refine yp pC (zf (za (ze (z8 (yp (pP rfl) ?_)))));refine zh (Zk rfl rfl ?_);refine zh (zk (kE (ab := ab) (tb := tb) (lb := lb) (db := db) (ev := ev) h.m k hkl) rfl rfl fun r S' h => ?_);obtain ⟨rfl, rfl⟩ := h;cases hb : WM S.I (fk k) with
 | none =>
  rw [xQ h.q hb];refine yp (v := .pointer none) rfl (zf (za (ze (ze (z8 (yp (pP rfl) (yp (ZM rfl rfl) (yp (pB rfl) (Z0 rfl (Z0 rfl (Z0 rfl (Z0 rfl (Z0 rfl (Z0 rfl (yp (zM rfl rfl) (zf (za (zH rfl (ze (z8 (yp VR ?_)))))))))))))))))))));refine zh (WG rfl rfl rfl rfl rfl ?_);refine yp pC (zf (za (zJ (zV ?_))));exact zI (Uz (bW (b := p6) JZ J9 rfl rfl) (ng rfl)) ⟨_, zC.sp, .inl ⟨(fun i hi => by rw [hb] at hi; exact absurd hi (by simp)), rfl, rfl⟩⟩
 | some i =>
  obtain ⟨e, hf, he, rfl, hek⟩ := Uk h.q hb;rw [hf];have hkm : fk k ∈ keys S.I := by rw [← hek]; exact List.mem_map.2 ⟨e.i, (jG hb).1, rfl⟩
  have hC := bO (sb := sb) (mb := mb) (lb := lb) (db := db) (ev := ev) (h.q.touch (m := ((N / 512 : Nat) : Int)) hkm) h.a h.t he;obtain ⟨A, B, rfl, hout⟩ := WI h.q.rD he;refine yp (v := .pointer (some ⟨e.eb, 0, none⟩)) rfl (zf (za ?_));refine zq (S0 := [(p6, .cells eU 76)] :: [(p4, .cells (Wn k) 43)] :: ZX sb ab tb mb lb db ev :: HA :: HT :: HM :: HL :: HD :: HV :: Es (A ++ e :: B)) ?_ ?_
  ·exact zC.of
  refine zq (zC.cons zC.em) (ze (ze (z8 (yp (pP rfl) (yp (ZM rfl rfl) (yp (pB rfl) (zZ rfl (Zb (pP rfl) (zZ rfl (Zb (zG rfl) (zZ rfl (Zb (zn rfl) (zZ rfl ?_)))))))))))));refine (zB rfl rfl ?_);refine zZ rfl (Zb (pI rfl) (zZ rfl (Zb (jW rfl rfl) (yp (zS rfl rfl) (zf (za ?_))))));by_cases hx : e.i.exp ≤ now
  ·rw [decide_eq_true hx];refine zH rfl (ze (z8 (yp VR ?_)));refine zh (WG rfl rfl rfl rfl rfl ?_);refine yp pC (zf (za (zJ (zV ?_))));exact zI (Uz (bW (b := p6) JZ J9 rfl rfl) (ng rfl)) ⟨_, zC.Gr (e := e), .inl ⟨(fun i hi => by rw [hb] at hi; obtain rfl := Option.some.inj hi; exact hx), rfl, rfl⟩⟩
  ·rw [decide_eq_false hx];refine zA rfl (zu (za (ze (zX (zi (pP rfl) (zi (zG rfl) (zi (zn rfl) (Z7 rfl rfl (Wz rfl rfl ?_)))))))));refine Zp (zk (kD k hkl) rfl rfl fun r S' h => ?_) zO;obtain ⟨rfl, rfl⟩ := h;refine ⟨fun _ h => h, ?_⟩;refine zN (zk (lJ h.l (by omega) (by omega) (fk k)) rfl rfl fun r S' h => ?_) zO;obtain ⟨rfl, HL1, hL1, rfl⟩ := h;refine zL (za (ze (z8 (yp (pP rfl) (yp (pP rfl) ?_)))));refine zh (zk hC rfl rfl fun r S' h => ?_);obtain ⟨v, HR, rfl, hR, rfl⟩ := h;obtain ⟨a, c, rfl⟩ := hR.isSlice;refine zh (WG rfl rfl rfl rfl rfl ?_);refine yp pC (zf (za (zJ ?_)));exact zI (Uz (bW (b := p6) JZ J9 rfl rfl) (ng rfl)) ⟨_, zC.ec (x := HR) (e := e), .inr ⟨e.i, _, HR, _, hb, by omega, rfl, hR, Sr.mk ⟨h.q.touch hkm, h.a, h.t, h.m, hL1, h.d, h.v⟩, rfl⟩⟩
end Go.Proofs.YtejmbmenbailmaaGreat