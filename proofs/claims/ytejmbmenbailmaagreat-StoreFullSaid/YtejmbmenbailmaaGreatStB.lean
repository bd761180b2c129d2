/- Stores (chapter 10): their memory; New, Used, Left, Count, Evicted. -/
import Derived.Test.YtejmbmenbailmaaGreatStA
import Derived.Test.YtejmbmenbailmaaGreatI1
import Derived.Test.YtejmbmenbailmaaGreatFStore
namespace Go.Proofs.YtejmbmenbailmaaGreat
open Go.Xs
open Enc (enc)
theorem Ub : Tryz.prog.underlying 127 = some (.map 43 135) := by kernel_rfl
theorem mI : Key.ok Ky Tryz.prog 43 := show nX Tryz.prog 43 = true by kernel_rfl
theorem om : (Tryz.prog.info? 135).bind (·.zero) = some (.pointer none) := by kernel_rfl
theorem mX : isAgg? Tryz.prog 43 = some true := by kernel_rfl
abbrev Ll (e : En) : Array Value := #[.int .i64 e.h, .int .i64 e.i.rank, .int .i64 e.i.came, .int .i64 e.i.exp, .int .i64 e.i.pins]
abbrev jK (e : En) : List Chunk := [(e.eb, .cells (Ll e) 137)]
def Es (W : List En) : zo := W.map jK
theorem qj (A B : List En) : Es (A ++ B) = Es A ++ Es B := List.map_append
theorem xY {W : List En} {e : En} (h : e ∈ W) : jK e ∈ Es W := List.mem_map.2 ⟨e, h, rfl⟩
abbrev wm (sb ab tb mb lb db : Nat) (ev : Value) : List Chunk := [(sb, .cells #[.pointer (some ⟨ab, 0, none⟩), .pointer (some ⟨tb, 0, none⟩), .map (some mb), .pointer (some ⟨lb, 0, none⟩), .pointer (some ⟨db, 0, none⟩), ev] 133)]
def sH (sb ab tb mb lb db : Nat) (ev : Value) (HA HT HM HL HD HV : List Chunk) (W : List En) : List Chunk := wm sb ab tb mb lb db ev ++ (HA ++ (HT ++ (HM ++ (HL ++ (HD ++ (HV ++ (Es W).flatten))))))
structure Sp (N : Nat) (S : Ss) (W : List En) (D : List (Option Bt)) (L : List Nm) (ab tb mb lb db : Nat) (ev : Value) (HA HT HM HL HD HV : List Chunk) : Prop where
 q : Sq S W D L
 a : Ar ab N D HA
 t : Tb tb ab L HT
 m : Mp mb (Xi W) W.length HM
 l : Lr lb ((N / 512 : Nat) : Int) S.P S.Q HL
 d : Du db (S.I.map It.de) HD
 v : Zb 43 ev S.V HV
/-- a store of N bytes, as one piece of memory -/
def Sr (sb N : Nat) (S : Ss) (H : List Chunk) : Prop := ∃ (W : List En) (D : List (Option Bt)) (L : List Nm) (ab tb mb lb db : Nat) (ev : Value) (HA HT HM HL HD HV : List Chunk), Sp N S W D L ab tb mb lb db ev HA HT HM HL HD HV ∧ H = sH sb ab tb mb lb db ev HA HT HM HL HD HV W
theorem Sr.mk {sb N : Nat} {S : Ss} {W : List En} {D : List (Option Bt)} {L : List Nm} {ab tb mb lb db : Nat} {ev : Value} {HA HT HM HL HD HV : List Chunk} (h : Sp N S W D L ab tb mb lb db ev HA HT HM HL HD HV) : Sr sb N S (sH sb ab tb mb lb db ev HA HT HM HL HD HV W) := ⟨W, D, L, ab, tb, mb, lb, db, ev, HA, HT, HM, HL, HD, HV, h, rfl⟩
theorem Sp.nb {N : Nat} {S : Ss} {W : List En} {D : List (Option Bt)} {L : List Nm} {ab tb mb lb db : Nat} {ev : Value} {HA HT HM HL HD HV : List Chunk} (h : Sp N S W D L ab tb mb lb db ev HA HT HM HL HD HV) : N ≤ 1048576 ∧ Zc D ≤ N ∧ 16 * S.I.length ≤ N ∧ W.length = S.I.length ∧ S.P.length + S.Q.length = S.I.length := by
 obtain ⟨h1, h2, h3, _⟩ := h.a.kD;obtain ⟨h4, h5⟩ := h.q.len;exact ⟨h3, h1, by have := h.q.few h1; omega, h4, h5⟩
theorem Sr.nb {sb N : Nat} {S : Ss} {H : List Chunk} (h : Sr sb N S H) : N ≤ 1048576 ∧ 16 * S.I.length ≤ N ∧ S.P.length + S.Q.length = S.I.length ∧ Vk (sets S.I) ≤ N := by
 obtain ⟨W, D, L, ab, tb, mb, lb, db, ev, HA, HT, HM, HL, HD, HV, h, rfl⟩ := h;obtain ⟨h1, h2, h3, h4, h5⟩ := h.nb;exact ⟨h1, h3, h5, by rw [← h.q.used]; exact h2⟩
/-- opened, and closed again -/
theorem zQ.sp {P : Program} {f : FuncId} {args : Array Value} {R : Value → zo → Prop} {S0 : zo} {sb ab tb mb lb db : Nat} {ev : Value} {HA HT HM HL HD HV : List Chunk} {W : List En} (h : zQ P f args (wm sb ab tb mb lb db ev :: HA :: HT :: HM :: HL :: HD :: HV :: (Es W ++ S0)) R) : zQ P f args (sH sb ab tb mb lb db ev HA HT HM HL HD HV W :: S0) R := h.perm (by simp [sH])
theorem zQ.iE {P : Program} {f : FuncId} {args : Array Value} {R : Value → zo → Prop} {sb ab tb mb lb db : Nat} {ev : Value} {HA HT HM HL HD HV : List Chunk} {W : List En} (h : zQ P f args (wm sb ab tb mb lb db ev :: HA :: HT :: HM :: HL :: HD :: HV :: Es W) R) : zQ P f args [sH sb ab tb mb lb db ev HA HT HM HL HD HV W] R := h.perm (by simp [sH])
theorem zD.sp {S G : zo} {sb ab tb mb lb db : Nat} {ev : Value} {HA HT HM HL HD HV : List Chunk} {W : List En} [h : Sub S (wm sb ab tb mb lb db ev :: HA :: HT :: HM :: HL :: HD :: HV :: Es W) G] : zD S [sH sb ab tb mb lb db ev HA HT HM HL HD HV W] := zD.trans (zD.of (h := h)) ⟨[], by simp [sH]⟩
theorem zD.L6 {x : List Chunk} {S G : zo} {sb ab tb mb lb db : Nat} {ev : Value} {HA HT HM HL HD HV : List Chunk} {W : List En} [h : Sub S (x :: wm sb ab tb mb lb db ev :: HA :: HT :: HM :: HL :: HD :: HV :: Es W) G] : zD S [x, sH sb ab tb mb lb db ev HA HT HM HL HD HV W] := zD.trans (zD.of (h := h)) ⟨[], by simp [sH]⟩
theorem zD.op {S S1 G : zo} {sb ab tb mb lb db : Nat} {ev : Value} {HA HT HM HL HD HV : List Chunk} {W : List En} [h : Sub S (sH sb ab tb mb lb db ev HA HT HM HL HD HV W :: S1) G] : zD S (wm sb ab tb mb lb db ev :: HA :: HT :: HM :: HL :: HD :: HV :: (Es W ++ S1)) := zD.trans (zD.of (h := h)) ⟨[], by simp [sH]⟩
theorem jL {W : List En} {k : Ky} {e : En} (h : Y0 W k = some e) : ((Xi W k).map Vv.vv).getD (.pointer none) = .pointer (some ⟨e.eb, 0, none⟩) := by unfold Xi; rw [h]; rfl
theorem Ev {W : List En} {k : Ky} (h : Y0 W k = none) : ((Xi W k).map Vv.vv).getD (.pointer none) = .pointer none := by unfold Xi; rw [h]; rfl
set_option maxRecDepth 10000 in
theorem nL {n : Nat} (hn : 2048 ≤ n ∧ n ≤ 1048576) {z : Int} (hz : z = n) : zQ Tryz.prog 28 #[.int .i64 z] [] (fun r S => ∃ sb H, r = .tuple #[.pointer (some ⟨sb, 0, none⟩), .int .i64 0] ∧ Sr sb n ⟨[], [], [], []⟩ H ∧ S = [H]) := by
 subst hz;refine zQ.forget (zm Tryz.CG (Nat.le_of_ble_eq_true rfl) ?_);unfold Tryz.x28;refine ze (z8 (yp pC (yp pC (zf (za (ze (ze (z8 (yp (pI rfl) (yp (ZT rfl rfl) (yp (pB rfl) ?_)))))))))));rw [decide_eq_false (show ¬ (n : Int) < 2048 from by omega)];refine Z7 rfl (Ze (pI rfl) (Z7 rfl (Ze (uz rfl rfl) (yp (zU rfl rfl) (zf (za ?_))))));rw [decide_eq_false (show ¬ (1048576 : Int) < (n : Int) from by omega)];refine zA rfl (zu (za (ze (z8 (yp (pI rfl) ?_)))));refine zh (zk (sU (n := n) (by omega) rfl) rfl rfl fun r S' h => ?_);obtain ⟨ab, HA, rfl, hA, rfl⟩ := h;refine yp (pU rfl) (yp (pExt rfl rfl) (yp (pExt rfl rfl) (yp (pP rfl) (yp (pI rfl) (zf (za (ze (z8 (yp (pP rfl) (yp (pP rfl) ?_))))))))));refine zh (zk (Bp (ab := ab)) rfl rfl fun r S' h => ?_);obtain ⟨tb, HT, rfl, hT, rfl⟩ := h;refine zh (ko Ky Ptr fun mb HM hM => ?_);refine yp (pI rfl) (yp (rE rfl rfl (by decide) (by omega)) ?_);rw [show (n : Int).tdiv 512 = ((n / 512 : Nat) : Int) from rfl];refine zh (zk (Ch ((n / 512 : Nat) : Int)) rfl rfl fun r S' h => ?_);obtain ⟨lb, HL, rfl, hL, rfl⟩ := h;refine zh (zk Ck rfl rfl fun r S' h => ?_);obtain ⟨db, HD, rfl, hD, rfl⟩ := h;rw [show max ((n / 512 : Nat) : Int) 0 = ((n / 512 : Nat) : Int) from by omega] at hL;refine yp (v := .agg #[.pointer (some ⟨ab, 0, none⟩), .pointer (some ⟨tb, 0, none⟩), .map (some mb), .pointer (some ⟨lb, 0, none⟩), .pointer (some ⟨db, 0, none⟩), .slice none 0 0]) rfl ?_;refine zh (Zv rfl fun p26 => ?_);refine yp (pP rfl) (yp pC (zf (za (zI ?_))));exact zH (EJ rfl rfl) ⟨_, zD.re (S1 := [wm p26 ab tb mb lb db (.slice none 0 0), HA, HT, HM, HL, HD]) (S2 := [sH p26 ab tb mb lb db (.slice none 0 0) HA HT HM HL HD [] []]) (by simp [sH, Es]), p26, _, rfl, Sr.mk ⟨Sq.nil, hA, hT, hM, hL, hD, .nil⟩, rfl⟩
set_option maxRecDepth 10000 in
theorem oP {n : Int} (hn : n < 2048 ∨ 1048576 < n) : zQ Tryz.prog 28 #[.int .i64 n] [] (fun r S => r = .tuple #[.pointer none, .int .i64 1] ∧ S = []) := by
 refine zQ.forget (zm Tryz.CG (Nat.le_of_ble_eq_true rfl) ?_);unfold Tryz.x28;refine ze (z8 (yp pC (yp pC (zf (za (ze (ze (z8 (yp (pI rfl) (yp (ZT rfl rfl) (yp (pB rfl) ?_)))))))))));by_cases h1 : n < 2048
 ·rw [decide_eq_true h1];refine Z4 rfl (Z4 rfl (yp (zO rfl rfl) (zf (za (zJ rfl (ze (z8 (yp pC (yp pC (zf (za (zI (zV ?_)))))))))))));exact zH (EJ rfl rfl) ⟨_, .of, rfl, rfl⟩
 ·rw [decide_eq_false h1];refine Z7 rfl (Ze (pI rfl) (Z7 rfl (Ze (uz rfl rfl) (yp (zU rfl rfl) (zf (za ?_))))));rw [decide_eq_true (show 1048576 < n from by omega)];refine zJ rfl (ze (z8 (yp pC (yp pC (zf (za (zI (zV ?_))))))));exact zH (EJ rfl rfl) ⟨_, .of, rfl, rfl⟩
theorem Jk {sb N : Nat} {S : Ss} {H : List Chunk} (hS : Sr sb N S H) : zQ Tryz.prog 36 #[.pointer (some ⟨sb, 0, none⟩)] [H] (fun r S' => r = .int .i64 (Vk (sets S.I) : Nat) ∧ S' = [H]) := by
 obtain ⟨W, D, L, ab, tb, mb, lb, db, ev, HA, HT, HM, HL, HD, HV, h, rfl⟩ := hS;refine zQ.forget (zQ.iE (zm Tryz.GI (Nat.le_of_ble_eq_true rfl) ?_));unfold Tryz.IJ;refine ze (z8 (yp pC (zf (za (ze (ze (z8 (yp (pP rfl) (yp (ZQ rfl rfl) (zf (za (zA rfl (zu (za (ze (z8 (yp (pP rfl) (yp (zG rfl) (yp (zn rfl) ?_)))))))))))))))))));refine zh (zC rfl rfl ?_);refine zh (zk (Qx h.a) rfl rfl fun r S' h => ?_);obtain ⟨rfl, rfl⟩ := h;refine yp (pI rfl) (zf (za (zI ?_)));rw [h.q.used];exact zH (rI rfl) ⟨_, zD.sp, rfl, rfl⟩
theorem bW {sb N : Nat} {S : Ss} {H : List Chunk} (hS : Sr sb N S H) : zQ Tryz.prog 37 #[.pointer (some ⟨sb, 0, none⟩)] [H] (fun r S' => r = .int .i64 (Ue N S) ∧ S' = [H]) := by
 obtain ⟨W, D, L, ab, tb, mb, lb, db, ev, HA, HT, HM, HL, HD, HV, h, rfl⟩ := hS;refine zQ.forget (zQ.iE (zm Tryz.CB (Nat.le_of_ble_eq_true rfl) ?_));unfold Tryz.EU;refine ze (z8 (yp pC (zf (za (ze (ze (z8 (yp (pP rfl) (yp (ZQ rfl rfl) (zf (za (zA rfl (zu (za (ze (z8 (yp (pP rfl) (yp (zG rfl) (yp (zn rfl) ?_)))))))))))))))))));refine zh (zC rfl rfl ?_);refine zh (zk (Qy h.a) rfl rfl fun r S' h => ?_);obtain ⟨rfl, rfl⟩ := h;refine yp (pI rfl) (zf (za (zI ?_)));rw [h.q.left];exact zH (rI rfl) ⟨_, zD.sp, rfl, rfl⟩
theorem kL {sb N : Nat} {S : Ss} {H : List Chunk} (hS : Sr sb N S H) : zQ Tryz.prog 33 #[.pointer (some ⟨sb, 0, none⟩)] [H] (fun r S' => r = .int .i64 (S.I.length : Nat) ∧ S' = [H]) := by
 obtain ⟨W, D, L, ab, tb, mb, lb, db, ev, HA, HT, HM, HL, HD, HV, h, rfl⟩ := hS;refine zQ.forget (zQ.iE (zm Tryz.CF (Nat.le_of_ble_eq_true rfl) ?_));unfold Tryz.EW;refine ze (z8 (yp pC (zf (za (ze (ze (z8 (yp (pP rfl) (yp (ZQ rfl rfl) (zf (za (zA rfl (zu (za (ze (z8 (yp (pP rfl) (yp (zG rfl) (yp (zn rfl) ?_)))))))))))))))))));refine zh (zC rfl rfl ?_);refine zh (tQ h.m (by repeat (first | exact List.mem_cons_self | apply List.mem_cons_of_mem)) Ub rfl ?_);rw [h.q.len.1];refine yp (pI rfl) (zf (za (zI ?_)));exact zH (rI rfl) ⟨_, zD.sp, rfl, rfl⟩
theorem bX : zQ Tryz.prog 33 #[.pointer none] [] (fun r S => r = .int .i64 0 ∧ S = []) := by
 refine zQ.forget (zm Tryz.CF (Nat.le_of_ble_eq_true rfl) ?_);unfold Tryz.EW;refine ze (z8 (yp pC (zf (za (ze (ze (z8 (yp (pP rfl) (yp (ZQ rfl rfl) (zf (za (zJ rfl (ze (z8 (yp pC (zf (za (zI (zV ?_)))))))))))))))))));exact zH (rI rfl) ⟨_, .of, rfl, rfl⟩
theorem VG {sb N : Nat} {S : Ss} {H : List Chunk} (hS : Sr sb N S H) : zQ Tryz.prog 32 #[.pointer (some ⟨sb, 0, none⟩)] [H] (fun r S' => ∃ H' HV, Zb 43 r S.V HV ∧ Sr sb N ⟨S.I, S.P, S.Q, []⟩ H' ∧ S' = [HV, H']) := by
 obtain ⟨W, D, L, ab, tb, mb, lb, db, ev, HA, HT, HM, HL, HD, HV, h, rfl⟩ := hS;refine zQ.forget (zQ.iE (zm Tryz.GL (Nat.le_of_ble_eq_true rfl) ?_));unfold Tryz.x32;have hV := h.v;obtain ⟨a, c, rfl⟩ := hV.isSlice;refine ze (z8 (yp pC (zf (za (ze (ze (z8 (yp (pP rfl) (yp (ZQ rfl rfl) (zf (za (zA rfl (zu (za (ze (z8 (yp (pP rfl) (yp (zG rfl) (yp (zn rfl) ?_)))))))))))))))))));refine zh (zC rfl rfl ?_);refine yp (pS rfl) (zf (za (ze (z8 (yp (pP rfl) (yp (zG rfl) (yp (zn rfl) ?_)))))));refine zh (aX rfl rfl (Y7 rfl) ?_);refine zf (za (ze (z8 (yp (pS rfl) (yp (pS rfl) (zf (za (zI ?_))))))));exact zH (rS rfl) ⟨_, zD.L6 (HV := []), _, HV, hV, Sr.mk (W := W) ⟨h.q.ev, h.a, h.t, h.m, h.l, h.d, .nil⟩, rfl⟩
end Go.Proofs.YtejmbmenbailmaaGreat