/- Stores (chapter 10): their memory; New, Used, Left, Count, Evicted. -/
import Derived.Test.YtejmbmenbailmaaGreatStA
import Derived.Test.YtejmbmenbailmaaGreatI1
import Derived.Test.YtejmbmenbailmaaGreatFStore
namespace Go.Proofs.YtejmbmenbailmaaGreat
open Go.Xs
open Enc (enc)
theorem U7 : Tryz.prog.underlying 127 = some (.map 43 135) := by kernel_rfl
theorem lS : Key.ok Ky Tryz.prog 43 := show nI Tryz.prog 43 = true by kernel_rfl
theorem nS : (Tryz.prog.info? 135).bind (·.zero) = some (.pointer none) := by kernel_rfl
theorem mF : isAgg? Tryz.prog 43 = some true := by kernel_rfl
abbrev Iu (e : En) : Array Value := #[.int .i64 e.h, .int .i64 e.i.rank, .int .i64 e.i.came, .int .i64 e.i.exp, .int .i64 e.i.pins]
abbrev jy (e : En) : List Chunk := [(e.eb, .cells (Iu e) 137)]
def Es (W : List En) : zo := W.map jy
theorem qb (A B : List En) : Es (A ++ B) = Es A ++ Es B := List.map_append
theorem xX {W : List En} {e : En} (h : e ∈ W) : jy e ∈ Es W := List.mem_map.2 ⟨e, h, rfl⟩
abbrev ZX (sb ab tb mb lb db : Nat) (ev : Value) : List Chunk := [(sb, .cells #[.pointer (some ⟨ab, 0, none⟩), .pointer (some ⟨tb, 0, none⟩), .map (some mb), .pointer (some ⟨lb, 0, none⟩), .pointer (some ⟨db, 0, none⟩), ev] 133)]
def sH (sb ab tb mb lb db : Nat) (ev : Value) (HA HT HM HL HD HV : List Chunk) (W : List En) : List Chunk := ZX sb ab tb mb lb db ev ++ (HA ++ (HT ++ (HM ++ (HL ++ (HD ++ (HV ++ (Es W).flatten))))))
structure Sp (N : Nat) (S : Ss) (W : List En) (D : List (Option Bt)) (L : List Nm) (ab tb mb lb db : Nat) (ev : Value) (HA HT HM HL HD HV : List Chunk) : Prop where
 q : Sq S W D L
 a : Ar ab N D HA
 t : Tb tb ab L HT
 m : Mp mb (Xf W) W.length HM
 l : Lr lb ((N / 512 : Nat) : Int) S.P S.Q HL
 d : Du db (S.I.map It.de) HD
 v : Zc 43 ev S.V HV
/-- a store of N bytes, as one piece of memory -/
def Sr (sb N : Nat) (S : Ss) (H : List Chunk) : Prop := ∃ (W : List En) (D : List (Option Bt)) (L : List Nm) (ab tb mb lb db : Nat) (ev : Value) (HA HT HM HL HD HV : List Chunk), Sp N S W D L ab tb mb lb db ev HA HT HM HL HD HV ∧ H = sH sb ab tb mb lb db ev HA HT HM HL HD HV W
theorem Sr.mk {sb N : Nat} {S : Ss} {W : List En} {D : List (Option Bt)} {L : List Nm} {ab tb mb lb db : Nat} {ev : Value} {HA HT HM HL HD HV : List Chunk} (h : Sp N S W D L ab tb mb lb db ev HA HT HM HL HD HV) : Sr sb N S (sH sb ab tb mb lb db ev HA HT HM HL HD HV W) := ⟨W, D, L, ab, tb, mb, lb, db, ev, HA, HT, HM, HL, HD, HV, h, rfl⟩
theorem Sp.nb {N : Nat} {S : Ss} {W : List En} {D : List (Option Bt)} {L : List Nm} {ab tb mb lb db : Nat} {ev : Value} {HA HT HM HL HD HV : List Chunk} (h : Sp N S W D L ab tb mb lb db ev HA HT HM HL HD HV) : N ≤ 1048576 ∧ Zd D ≤ N ∧ 16 * S.I.length ≤ N ∧ W.length = S.I.length ∧ S.P.length + S.Q.length = S.I.length := by
 obtain ⟨h1, h2, h3, _⟩ := h.a.YZ;obtain ⟨h4, h5⟩ := h.q.len;exact ⟨h3, h1, by have := h.q.few h1; omega, h4, h5⟩
theorem Sr.nb {sb N : Nat} {S : Ss} {H : List Chunk} (h : Sr sb N S H) : N ≤ 1048576 ∧ 16 * S.I.length ≤ N ∧ S.P.length + S.Q.length = S.I.length ∧ U6 (sets S.I) ≤ N := by
 obtain ⟨W, D, L, ab, tb, mb, lb, db, ev, HA, HT, HM, HL, HD, HV, h, rfl⟩ := h;obtain ⟨h1, h2, h3, h4, h5⟩ := h.nb;exact ⟨h1, h3, h5, by rw [← h.q.used]; exact h2⟩
/-- opened, and closed again -/
theorem zP.sp {P : Program} {f : FuncId} {args : Array Value} {R : Value → zo → Prop} {S0 : zo} {sb ab tb mb lb db : Nat} {ev : Value} {HA HT HM HL HD HV : List Chunk} {W : List En} (h : zP P f args (ZX sb ab tb mb lb db ev :: HA :: HT :: HM :: HL :: HD :: HV :: (Es W ++ S0)) R) : zP P f args (sH sb ab tb mb lb db ev HA HT HM HL HD HV W :: S0) R := h.perm (by simp [sH])
theorem zP.gT {P : Program} {f : FuncId} {args : Array Value} {R : Value → zo → Prop} {sb ab tb mb lb db : Nat} {ev : Value} {HA HT HM HL HD HV : List Chunk} {W : List En} (h : zP P f args (ZX sb ab tb mb lb db ev :: HA :: HT :: HM :: HL :: HD :: HV :: Es W) R) : zP P f args [sH sb ab tb mb lb db ev HA HT HM HL HD HV W] R := h.perm (by simp [sH])
theorem zC.sp {S G : zo} {sb ab tb mb lb db : Nat} {ev : Value} {HA HT HM HL HD HV : List Chunk} {W : List En} [h : Sub S (ZX sb ab tb mb lb db ev :: HA :: HT :: HM :: HL :: HD :: HV :: Es W) G] : zC S [sH sb ab tb mb lb db ev HA HT HM HL HD HV W] := zC.trans (zC.of (h := h)) ⟨[], by simp [sH]⟩
theorem zC.Ig {x : List Chunk} {S G : zo} {sb ab tb mb lb db : Nat} {ev : Value} {HA HT HM HL HD HV : List Chunk} {W : List En} [h : Sub S (x :: ZX sb ab tb mb lb db ev :: HA :: HT :: HM :: HL :: HD :: HV :: Es W) G] : zC S [x, sH sb ab tb mb lb db ev HA HT HM HL HD HV W] := zC.trans (zC.of (h := h)) ⟨[], by simp [sH]⟩
theorem zC.op {S S1 G : zo} {sb ab tb mb lb db : Nat} {ev : Value} {HA HT HM HL HD HV : List Chunk} {W : List En} [h : Sub S (sH sb ab tb mb lb db ev HA HT HM HL HD HV W :: S1) G] : zC S (ZX sb ab tb mb lb db ev :: HA :: HT :: HM :: HL :: HD :: HV :: (Es W ++ S1)) := zC.trans (zC.of (h := h)) ⟨[], by simp [sH]⟩
theorem jA {W : List En} {k : Ky} {e : En} (h : yU W k = some e) : ((Xf W k).map Vv.vv).getD (.pointer none) = .pointer (some ⟨e.eb, 0, none⟩) := by unfold Xf; rw [h]; rfl
theorem DU {W : List En} {k : Ky} (h : yU W k = none) : ((Xf W k).map Vv.vv).getD (.pointer none) = .pointer none := by unfold Xf; rw [h]; rfl
set_option maxRecDepth 10000 in
theorem mY {n : Nat} (hn : 2048 ≤ n ∧ n ≤ 1048576) {z : Int} (hz : z = n) : zP Tryz.prog 28 #[.int .i64 z] [] (fun r S => ∃ sb H, r = .tuple #[.pointer (some ⟨sb, 0, none⟩), .int .i64 0] ∧ Sr sb n ⟨[], [], [], []⟩ H ∧ S = [H]) := by
 subst hz;refine zP.forget (zm Tryz.BZ (Nat.le_of_ble_eq_true rfl) ?_);unfold Tryz.x28;refine ze (z8 (yp pC (yp pC (zf (za (ze (ze (z8 (yp (pI rfl) (yp (ZO rfl rfl) (yp (pB rfl) ?_)))))))))));rw [decide_eq_false (show ¬ (n : Int) < 2048 from by omega)];refine zZ rfl (Zb (pI rfl) (zZ rfl (Zb (Vs rfl rfl) (yp (zS rfl rfl) (zf (za ?_))))));rw [decide_eq_false (show ¬ (1048576 : Int) < (n : Int) from by omega)];refine zA rfl (zu (za (ze (z8 (yp (pI rfl) ?_)))));refine zh (zk (rX (n := n) (by omega) rfl) rfl rfl fun r S' h => ?_);obtain ⟨ab, HA, rfl, hA, rfl⟩ := h;refine yp (pU rfl) (yp (pExt rfl rfl) (yp (pExt rfl rfl) (yp (pP rfl) (yp (pI rfl) (zf (za (ze (z8 (yp (pP rfl) (yp (pP rfl) ?_))))))))));refine zh (zk (AL (ab := ab)) rfl rfl fun r S' h => ?_);obtain ⟨tb, HT, rfl, hT, rfl⟩ := h;refine zh (YU Ky Ptr fun mb HM hM => ?_);refine yp (pI rfl) (yp (Bp rfl rfl (by decide) (by omega)) ?_);rw [show (n : Int).tdiv 512 = ((n / 512 : Nat) : Int) from rfl];refine zh (zk (BH ((n / 512 : Nat) : Int)) rfl rfl fun r S' h => ?_);obtain ⟨lb, HL, rfl, hL, rfl⟩ := h;refine zh (zk BK rfl rfl fun r S' h => ?_);obtain ⟨db, HD, rfl, hD, rfl⟩ := h;rw [show max ((n / 512 : Nat) : Int) 0 = ((n / 512 : Nat) : Int) from by omega] at hL;refine yp (v := .agg #[.pointer (some ⟨ab, 0, none⟩), .pointer (some ⟨tb, 0, none⟩), .map (some mb), .pointer (some ⟨lb, 0, none⟩), .pointer (some ⟨db, 0, none⟩), .slice none 0 0]) rfl ?_;refine zh (Zr rfl fun p26 => ?_);refine yp (pP rfl) (yp pC (zf (za (zJ ?_))));exact zI (Ed rfl rfl) ⟨_, zC.re (S1 := [ZX p26 ab tb mb lb db (.slice none 0 0), HA, HT, HM, HL, HD]) (S2 := [sH p26 ab tb mb lb db (.slice none 0 0) HA HT HM HL HD [] []]) (by simp [sH, Es]), p26, _, rfl, Sr.mk ⟨Sq.nil, hA, hT, hM, hL, hD, .nil⟩, rfl⟩
set_option maxRecDepth 10000 in
theorem oq {n : Int} (hn : n < 2048 ∨ 1048576 < n) : zP Tryz.prog 28 #[.int .i64 n] [] (fun r S => r = .tuple #[.pointer none, .int .i64 1] ∧ S = []) := by
 refine zP.forget (zm Tryz.BZ (Nat.le_of_ble_eq_true rfl) ?_);unfold Tryz.x28;refine ze (z8 (yp pC (yp pC (zf (za (ze (ze (z8 (yp (pI rfl) (yp (ZO rfl rfl) (yp (pB rfl) ?_)))))))))));by_cases h1 : n < 2048
 ·rw [decide_eq_true h1];refine Z0 rfl (Z0 rfl (yp (zM rfl rfl) (zf (za (zH rfl (ze (z8 (yp pC (yp pC (zf (za (zJ (zV ?_)))))))))))));exact zI (Ed rfl rfl) ⟨_, .of, rfl, rfl⟩
 ·rw [decide_eq_false h1];refine zZ rfl (Zb (pI rfl) (zZ rfl (Zb (Vs rfl rfl) (yp (zS rfl rfl) (zf (za ?_))))));rw [decide_eq_true (show 1048576 < n from by omega)];refine zH rfl (ze (z8 (yp pC (yp pC (zf (za (zJ (zV ?_))))))));exact zI (Ed rfl rfl) ⟨_, .of, rfl, rfl⟩
theorem bL {sb N : Nat} {S : Ss} {H : List Chunk} (hS : Sr sb N S H) : zP Tryz.prog 36 #[.pointer (some ⟨sb, 0, none⟩)] [H] (fun r S' => r = .int .i64 (U6 (sets S.I) : Nat) ∧ S' = [H]) := by
 obtain ⟨W, D, L, ab, tb, mb, lb, db, ev, HA, HT, HM, HL, HD, HV, h, rfl⟩ := hS;refine zP.forget (zP.gT (zm Tryz.Ga (Nat.le_of_ble_eq_true rfl) ?_));unfold Tryz.I6;refine ze (z8 (yp pC (zf (za (ze (ze (z8 (yp (pP rfl) (yp (ZM rfl rfl) (zf (za (zA rfl (zu (za (ze (z8 (yp (pP rfl) (yp (zG rfl) (yp (zn rfl) ?_)))))))))))))))))));refine zh (zB rfl rfl ?_);refine zh (zk (Qq h.a) rfl rfl fun r S' h => ?_);obtain ⟨rfl, rfl⟩ := h;refine yp (pI rfl) (zf (za (zJ ?_)));rw [h.q.used];exact zI (rI rfl) ⟨_, zC.sp, rfl, rfl⟩
theorem iI {sb N : Nat} {S : Ss} {H : List Chunk} (hS : Sr sb N S H) : zP Tryz.prog 33 #[.pointer (some ⟨sb, 0, none⟩)] [H] (fun r S' => r = .int .i64 (S.I.length : Nat) ∧ S' = [H]) := by
 obtain ⟨W, D, L, ab, tb, mb, lb, db, ev, HA, HT, HM, HL, HD, HV, h, rfl⟩ := hS;refine zP.forget (zP.gT (zm Tryz.BX (Nat.le_of_ble_eq_true rfl) ?_));unfold Tryz.Er;refine ze (z8 (yp pC (zf (za (ze (ze (z8 (yp (pP rfl) (yp (ZM rfl rfl) (zf (za (zA rfl (zu (za (ze (z8 (yp (pP rfl) (yp (zG rfl) (yp (zn rfl) ?_)))))))))))))))))));refine zh (zB rfl rfl ?_);refine zh (sM h.m (by repeat (first | exact List.mem_cons_self | apply List.mem_cons_of_mem)) U7 rfl ?_);rw [h.q.len.1];refine yp (pI rfl) (zf (za (zJ ?_)));exact zI (rI rfl) ⟨_, zC.sp, rfl, rfl⟩
theorem bP : zP Tryz.prog 33 #[.pointer none] [] (fun r S => r = .int .i64 0 ∧ S = []) := by
 refine zP.forget (zm Tryz.BX (Nat.le_of_ble_eq_true rfl) ?_);unfold Tryz.Er;refine ze (z8 (yp pC (zf (za (ze (ze (z8 (yp (pP rfl) (yp (ZM rfl rfl) (zf (za (zH rfl (ze (z8 (yp pC (zf (za (zJ (zV ?_)))))))))))))))))));exact zI (rI rfl) ⟨_, .of, rfl, rfl⟩
theorem Yg {sb N : Nat} {S : Ss} {H : List Chunk} (hS : Sr sb N S H) : zP Tryz.prog 32 #[.pointer (some ⟨sb, 0, none⟩)] [H] (fun r S' => ∃ H' HV, Zc 43 r S.V HV ∧ Sr sb N ⟨S.I, S.P, S.Q, []⟩ H' ∧ S' = [HV, H']) := by
 obtain ⟨W, D, L, ab, tb, mb, lb, db, ev, HA, HT, HM, HL, HD, HV, h, rfl⟩ := hS;refine zP.forget (zP.gT (zm Tryz.Gc (Nat.le_of_ble_eq_true rfl) ?_));unfold Tryz.x32;have hV := h.v;obtain ⟨a, c, rfl⟩ := hV.isSlice;refine ze (z8 (yp pC (zf (za (ze (ze (z8 (yp (pP rfl) (yp (ZM rfl rfl) (zf (za (zA rfl (zu (za (ze (z8 (yp (pP rfl) (yp (zG rfl) (yp (zn rfl) ?_)))))))))))))))))));refine zh (zB rfl rfl ?_);refine yp (pS rfl) (zf (za (ze (z8 (yp (pP rfl) (yp (zG rfl) (yp (zn rfl) ?_)))))));refine zh (aO rfl rfl (Y0 rfl) ?_);refine zf (za (ze (z8 (yp (pS rfl) (yp (pS rfl) (zf (za (zJ ?_))))))));exact zI (rS rfl) ⟨_, zC.Ig (HV := []), _, HV, hV, Sr.mk (W := W) ⟨h.q.ev, h.a, h.t, h.m, h.l, h.d, .nil⟩, rfl⟩
end Go.Proofs.YtejmbmenbailmaaGreat