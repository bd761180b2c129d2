/- Stores (chapter 10): gone, evict, Drop, pin, Peek, Get. -/
import Derived.Test.YtejmbmenbailmaaGreatStC
namespace Go.Proofs.YtejmbmenbailmaaGreat
open Go.Xs
open Enc (enc)
theorem UJ (X A B C : List Chunk) : (X ++ (A ++ (B ++ C))).Perm (X ++ (B ++ (A ++ C))) := by
 refine .append_left X ?_;rw [← List.append_assoc, ← List.append_assoc];exact List.perm_append_comm.append_right C
theorem qh (A B : List En) (e : En) : (Es (A ++ e :: B)).flatten = (Es A).flatten ++ (jK e ++ (Es B).flatten) := by
 rw [qj, List.flatten_append]; rfl
/-- one entry taken out of the others; put back, or left -/
theorem zD.cons {x : List Chunk} {S T : zo} (h : zD S T) : zD (x :: S) (x :: T) := by
 obtain ⟨G, h⟩ := h;refine ⟨G, ?_⟩;rw [List.flatten_cons, List.flatten_cons, List.append_assoc];exact h.append_left x
theorem zD.em {x : List Chunk} {sb ab tb mb lb db : Nat} {ev : Value} {HA HT HM HL HD HV : List Chunk} {A B : List En} {e : En} :
 zD (x :: wm sb ab tb mb lb db ev :: HA :: HT :: HM :: HL :: HD :: HV :: Es (A ++ e :: B)) (x :: jK e :: wm sb ab tb mb lb db ev :: HA :: HT :: HM :: HL :: HD :: HV :: (Es A ++ Es B)) := ⟨[], by
 simp only [List.flatten_cons, qh, List.flatten_append, List.append_nil];refine .append_left x ?_;have := UJ [] (wm sb ab tb mb lb db ev ++ (HA ++ (HT ++ (HM ++ (HL ++ (HD ++ (HV ++ (Es A).flatten))))))) (jK e) (Es B).flatten;simpa only [List.nil_append, List.append_assoc] using this⟩
theorem zD.ec {x : List Chunk} {S G : zo} {sb ab tb mb lb db : Nat} {ev : Value} {HA HT HM HL HD HV : List Chunk} {A B : List En} {e : En} [h : Sub S (x :: jK e :: wm sb ab tb mb lb db ev :: HA :: HT :: HM :: HL :: HD :: HV :: (Es A ++ Es B)) G] :
 zD S [x, sH sb ab tb mb lb db ev HA HT HM HL HD HV (A ++ e :: B)] := zD.trans (zD.of (h := h)) ⟨[], by
 simp only [sH, List.flatten_cons, List.flatten_nil, qh, List.flatten_append, List.append_nil];refine .append_left x ?_;have := (UJ [] (wm sb ab tb mb lb db ev ++ (HA ++ (HT ++ (HM ++ (HL ++ (HD ++ (HV ++ (Es A).flatten))))))) (jK e) (Es B).flatten).symm;simpa only [List.nil_append, List.append_assoc] using this⟩
theorem zD.Hr {S G : zo} {sb ab tb mb lb db : Nat} {ev : Value} {HA HT HM HL HD HV : List Chunk} {A B : List En} {e : En} [h : Sub S (jK e :: wm sb ab tb mb lb db ev :: HA :: HT :: HM :: HL :: HD :: HV :: (Es A ++ Es B)) G] :
 zD S [sH sb ab tb mb lb db ev HA HT HM HL HD HV (A ++ e :: B)] := zD.trans (zD.of (h := h)) ⟨[], by
 simp only [sH, List.flatten_cons, List.flatten_nil, qh, List.flatten_append, List.append_nil];have := (UJ [] (wm sb ab tb mb lb db ev ++ (HA ++ (HT ++ (HM ++ (HL ++ (HD ++ (HV ++ (Es A).flatten))))))) (jK e) (Es B).flatten).symm;simpa only [List.nil_append, List.append_assoc] using this⟩
theorem zD.sd {S G : zo} {sb ab tb mb lb db : Nat} {ev : Value} {HA HT HM HL HD HV : List Chunk} {A B : List En} [h : Sub S (wm sb ab tb mb lb db ev :: HA :: HT :: HM :: HL :: HD :: HV :: (Es A ++ Es B)) G] :
 zD S [sH sb ab tb mb lb db ev HA HT HM HL HD HV (A ++ B)] := zD.trans (zD.of (h := h)) ⟨[], by simp [sH, qj]⟩
theorem zD.op1 {x : List Chunk} {S G : zo} {sb ab tb mb lb db : Nat} {ev : Value} {HA HT HM HL HD HV : List Chunk} {W : List En} [h : Sub S [x, sH sb ab tb mb lb db ev HA HT HM HL HD HV W] G] : zD S (x :: wm sb ab tb mb lb db ev :: HA :: HT :: HM :: HL :: HD :: HV :: Es W) := zD.trans (zD.of (h := h)) ⟨[], by simp [sH]⟩
theorem lW {W : List En} {e : En} (hn : (keys (W.map (·.i))).Nodup) (he : e ∈ W) : K8 (Xi W) e.i.k W.length = (UL W e.i.k).length := by
 obtain ⟨A, B, h1, h2⟩ := V4 hn he;have hf : (Xi W e.i.k).isSome = true := by
  unfold Xi Y0;cases h : W.find? (fun x => decide (x.i.k = e.i.k)) with
  | none => have := List.find?_eq_none.1 h e he; simp at this
  | some x => rfl
 unfold K8;rw [if_pos hf, h2, h1];simp
theorem xQ {S : Ss} {W : List En} {D : List (Option Bt)} {L : List Nm} (hq : Sq S W D L) {k : Ky} {i : It} (h : WC S.I k = some i) : ∃ e, Y0 W k = some e ∧ e ∈ W ∧ e.i = i ∧ i.k = k := by
 rw [← hq.its, Qr] at h;obtain ⟨e, he, rfl⟩ := Option.map_eq_some_iff.1 h;exact ⟨e, he, (jH he).1, rfl, (jH he).2⟩
theorem yB {S : Ss} {W : List En} {D : List (Option Bt)} {L : List Nm} (hq : Sq S W D L) {k : Ky} (h : WC S.I k = none) : Y0 W k = none := by
 rw [← hq.its, Qr] at h;exact Option.map_eq_none_iff.1 h
theorem Jl {sb N : Nat} {S : Ss} {H : List Chunk} (hS : Sr sb N S H) {k : Ky} {i : It} (hk : WC S.I k = some i) :
 zQ Tryz.prog 77 #[.pointer (some ⟨sb, 0, none⟩), .agg (Wo k)] [H] (fun r S' => r = .tuple #[] ∧ ∃ H', Sr sb N (Xb k S) H' ∧ S' = [H']) := by
 have hnb := hS.nb;obtain ⟨W, D, L, ab, tb, mb, lb, db, ev, HA, HT, HM, HL, HD, HV, h, rfl⟩ := hS;obtain ⟨e, hf, he, rfl, hek⟩ := xQ h.q hk;have hz : e.z ∈ W.map En.z := List.mem_map.2 ⟨e, he, rfl⟩;obtain ⟨hE, hs, hal⟩ := h.q.pk.ok _ hz;have hC := pO h.t h.a h.q.pk.inn h.q.pk.pos (Kw hz) hE hal hs;have hC : zQ Tryz.prog 23 #[.pointer (some ⟨ab, 0, none⟩), .pointer (some ⟨tb, 0, none⟩), .int .i64 e.h] _ _ := hC;obtain ⟨A, B, hW, hout⟩ := V4 h.q.tJ he;refine zQ.forget (zQ.iE (zm Tryz.Gc (Nat.le_of_ble_eq_true rfl) ?_));unfold Tryz.Ib;have hEs : Es W = Es (A ++ e :: B) := by rw [← hW]
 rw [hEs];refine ze (z8 ?_);refine zh (Zv rfl fun p3 => ?_);refine zf (za (zq zD.em (ze (zX (zi (pP rfl) (zi (zG rfl) (zi (zn rfl) (Z5 rfl rfl (zi (pP rfl) (zi (zG rfl) (zi (zn rfl) (Z5 rfl rfl (zi (pP rfl) (zi (zG rfl) (zi (zn rfl) (Z5 rfl rfl (WE rfl rfl ?_)))))))))))))))));refine Zm (Vr h.m (by repeat (first | exact List.mem_cons_self | apply List.mem_cons_of_mem)) k Ub mI om rfl rfl (jL hf) ⟨fun _ h => h, ?_⟩) zM;refine zi (zG rfl) (zi (zn rfl) (Z5 rfl rfl ?_));refine zN (zk hC rfl rfl fun r S' h => ?_) zM;obtain ⟨rfl, HT1, HA1, D1, hT1, hA1, hI1, _, rfl⟩ := h;refine zL (za (ze (zX (zi (pP rfl) (zi (zG rfl) (zi (zn rfl) (Z5 rfl rfl (WE rfl rfl ?_))))))));refine zN (bf h.m k Ub mI rfl rfl fun HM1 hM1 => ?_) zM;refine zL (za (ze (zX (zi (pP rfl) (zi (zG rfl) (zi (zn rfl) (Z5 rfl rfl (WE rfl rfl ?_))))))));refine zN (zk (rW h.l (by omega) (by omega) k) rfl rfl fun r S' h => ?_) zM;obtain ⟨rfl, HL1, hL1, rfl⟩ := h;refine zL (za (zX (zi (pP rfl) (zi (zG rfl) (zi (zn rfl) (Z5 rfl rfl (WE rfl rfl ?_)))))));refine zN (zk (su h.d (by rw [List.length_map]; omega) k) rfl rfl fun r S' h => ?_) zM;obtain ⟨rfl, HD1, hD1, rfl⟩ := h;refine zL ?_;subst hek;have hq1 := h.q.gone he hI1;rw [← mQ, lW h.q.tJ he] at hM1;rw [YK h.q.kn] at hD1;have hR : Sp N (Xb e.i.k S) (UL W e.i.k) D1 _ ab tb mb lb db ev HA1 HT1 HM1 HL1 HD1 HV := ⟨hq1, hA1, hT1, hM1, hL1, hD1, h.v⟩
 have hR := Sr.mk (sb := sb) hR;rw [hout] at hR;exact ZY wu ⟨_, zD.sd, rfl, _, hR, rfl⟩
theorem qH {sb N : Nat} {S : Ss} {H : List Chunk} (hS : Sr sb N S H) {k : Ky} {i : It} (hk : WC S.I k = some i) (hv : S.V.length < 2 ^ 30) :
 zQ Tryz.prog 79 #[.pointer (some ⟨sb, 0, none⟩), .agg (Wo k)] [H] (fun r S' => r = .tuple #[] ∧ ∃ H', Sr sb N (KD k S) H' ∧ S' = [H']) := by
 refine zQ.forget (zm Tryz.Ga (Nat.le_of_ble_eq_true rfl) ?_);unfold Tryz.I9;refine ze (z8 ?_);refine zh (Zv rfl fun p3 => ?_);refine zf (za (ze (z8 (yp (pP rfl) ?_))));refine zh (Zu rfl rfl ?_);refine zh (zk (Jl hS hk) rfl rfl fun r S' h => ?_);obtain ⟨rfl, H1, hS1, rfl⟩ := h;obtain ⟨W, D, L, ab, tb, mb, lb, db, ev, HA, HT, HM, HL, HD, HV, h, rfl⟩ := hS1;refine zf (za ?_);refine zq (S0 := [(p3, .cells (Wo k) 43)] :: wm sb ab tb mb lb db ev :: HA :: HT :: HM :: HL :: HD :: HV :: Es W) ?_ ?_
 ·exact zD.op1
 have hV := h.v;obtain ⟨a, c, rfl⟩ := hV.isSlice;refine zX (zi (pP rfl) (zi (pP rfl) (zi (zG rfl) (zi (zn rfl) (Z5 rfl rfl (WE rfl rfl ?_))))));refine Zm (WW k rfl rfl (by decide) (by decide) rfl fun p13 => ⟨fun _ h => List.mem_cons_of_mem _ h, ?_⟩) zM;have hvl : (Xb k S).V.length < 2 ^ 30 := hv;refine zN (VB (Y := [k]) rfl rfl hV (.lit (by repeat (first | exact List.mem_cons_self | apply List.mem_cons_of_mem)) rfl) rfl (⟨[], 0⟩ : Ky) rfl (by rw [List.length_singleton]; omega) (by rw [List.length_singleton]; omega) fun v2 H2 hV2 => ?_) zM;obtain ⟨a2, c2, rfl⟩ := hV2.isSlice;refine zi (zG rfl) (zi (zn rfl) ?_);refine zN (aX rfl rfl (Y7 rfl) ?_) zM;refine zL ?_;exact ZY wu ⟨_, zD.sp, rfl, _, Sr.mk (S := KD k S) ⟨h.q.ev, h.a, h.t, h.m, h.l, h.d, hV2⟩, rfl⟩
end Go.Proofs.YtejmbmenbailmaaGreat