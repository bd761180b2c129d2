/- Stores (chapter 10): gone, evict, Drop, pin, Peek, Get. -/
import Derived.Test.YtejmbmenbailmaaGreatStC
namespace Go.Proofs.YtejmbmenbailmaaGreat
open Go.Xs
open Enc (enc)
theorem UF (X A B C : List Chunk) : (X ++ (A ++ (B ++ C))).Perm (X ++ (B ++ (A ++ C))) := by
 refine .append_left X ?_;rw [← List.append_assoc, ← List.append_assoc];exact List.perm_append_comm.append_right C
theorem q9 (A B : List En) (e : En) : (Es (A ++ e :: B)).flatten = (Es A).flatten ++ (jy e ++ (Es B).flatten) := by
 rw [qb, List.flatten_append]; rfl
/-- one entry taken out of the others; put back, or left -/
theorem zC.cons {x : List Chunk} {S T : zo} (h : zC S T) : zC (x :: S) (x :: T) := by
 obtain ⟨G, h⟩ := h;refine ⟨G, ?_⟩;rw [List.flatten_cons, List.flatten_cons, List.append_assoc];exact h.append_left x
theorem zC.em {x : List Chunk} {sb ab tb mb lb db : Nat} {ev : Value} {HA HT HM HL HD HV : List Chunk} {A B : List En} {e : En} :
 zC (x :: ZX sb ab tb mb lb db ev :: HA :: HT :: HM :: HL :: HD :: HV :: Es (A ++ e :: B)) (x :: jy e :: ZX sb ab tb mb lb db ev :: HA :: HT :: HM :: HL :: HD :: HV :: (Es A ++ Es B)) := ⟨[], by
 simp only [List.flatten_cons, q9, List.flatten_append, List.append_nil];refine .append_left x ?_;have := UF [] (ZX sb ab tb mb lb db ev ++ (HA ++ (HT ++ (HM ++ (HL ++ (HD ++ (HV ++ (Es A).flatten))))))) (jy e) (Es B).flatten;simpa only [List.nil_append, List.append_assoc] using this⟩
theorem zC.ec {x : List Chunk} {S G : zo} {sb ab tb mb lb db : Nat} {ev : Value} {HA HT HM HL HD HV : List Chunk} {A B : List En} {e : En} [h : Sub S (x :: jy e :: ZX sb ab tb mb lb db ev :: HA :: HT :: HM :: HL :: HD :: HV :: (Es A ++ Es B)) G] :
 zC S [x, sH sb ab tb mb lb db ev HA HT HM HL HD HV (A ++ e :: B)] := zC.trans (zC.of (h := h)) ⟨[], by
 simp only [sH, List.flatten_cons, List.flatten_nil, q9, List.flatten_append, List.append_nil];refine .append_left x ?_;have := (UF [] (ZX sb ab tb mb lb db ev ++ (HA ++ (HT ++ (HM ++ (HL ++ (HD ++ (HV ++ (Es A).flatten))))))) (jy e) (Es B).flatten).symm;simpa only [List.nil_append, List.append_assoc] using this⟩
theorem zC.Gr {S G : zo} {sb ab tb mb lb db : Nat} {ev : Value} {HA HT HM HL HD HV : List Chunk} {A B : List En} {e : En} [h : Sub S (jy e :: ZX sb ab tb mb lb db ev :: HA :: HT :: HM :: HL :: HD :: HV :: (Es A ++ Es B)) G] :
 zC S [sH sb ab tb mb lb db ev HA HT HM HL HD HV (A ++ e :: B)] := zC.trans (zC.of (h := h)) ⟨[], by
 simp only [sH, List.flatten_cons, List.flatten_nil, q9, List.flatten_append, List.append_nil];have := (UF [] (ZX sb ab tb mb lb db ev ++ (HA ++ (HT ++ (HM ++ (HL ++ (HD ++ (HV ++ (Es A).flatten))))))) (jy e) (Es B).flatten).symm;simpa only [List.nil_append, List.append_assoc] using this⟩
theorem zC.sd {S G : zo} {sb ab tb mb lb db : Nat} {ev : Value} {HA HT HM HL HD HV : List Chunk} {A B : List En} [h : Sub S (ZX sb ab tb mb lb db ev :: HA :: HT :: HM :: HL :: HD :: HV :: (Es A ++ Es B)) G] :
 zC S [sH sb ab tb mb lb db ev HA HT HM HL HD HV (A ++ B)] := zC.trans (zC.of (h := h)) ⟨[], by simp [sH, qb]⟩
theorem zC.op1 {x : List Chunk} {S G : zo} {sb ab tb mb lb db : Nat} {ev : Value} {HA HT HM HL HD HV : List Chunk} {W : List En} [h : Sub S [x, sH sb ab tb mb lb db ev HA HT HM HL HD HV W] G] : zC S (x :: ZX sb ab tb mb lb db ev :: HA :: HT :: HM :: HL :: HD :: HV :: Es W) := zC.trans (zC.of (h := h)) ⟨[], by simp [sH]⟩
theorem lq {W : List En} {e : En} (hn : (keys (W.map (·.i))).Nodup) (he : e ∈ W) : kX (Xf W) e.i.k W.length = (UH W e.i.k).length := by
 obtain ⟨A, B, h1, h2⟩ := WI hn he;have hf : (Xf W e.i.k).isSome = true := by
  unfold Xf yU;cases h : W.find? (fun x => decide (x.i.k = e.i.k)) with
  | none => have := List.find?_eq_none.1 h e he; simp at this
  | some x => rfl
 unfold kX;rw [if_pos hf, h2, h1];simp
theorem Uk {S : Ss} {W : List En} {D : List (Option Bt)} {L : List Nm} (hq : Sq S W D L) {k : Ky} {i : It} (h : WM S.I k = some i) : ∃ e, yU W k = some e ∧ e ∈ W ∧ e.i = i ∧ i.k = k := by
 rw [← hq.its, Ql] at h;obtain ⟨e, he, rfl⟩ := Option.map_eq_some_iff.1 h;exact ⟨e, he, (jq he).1, rfl, (jq he).2⟩
theorem xQ {S : Ss} {W : List En} {D : List (Option Bt)} {L : List Nm} (hq : Sq S W D L) {k : Ky} (h : WM S.I k = none) : yU W k = none := by
 rw [← hq.its, Ql] at h;exact Option.map_eq_none_iff.1 h
theorem Jb {sb N : Nat} {S : Ss} {H : List Chunk} (hS : Sr sb N S H) {k : Ky} {i : It} (hk : WM S.I k = some i) :
 zP Tryz.prog 77 #[.pointer (some ⟨sb, 0, none⟩), .agg (Wn k)] [H] (fun r S' => r = .tuple #[] ∧ ∃ H', Sr sb N (uH k S) H' ∧ S' = [H']) := by
 have hnb := hS.nb;obtain ⟨W, D, L, ab, tb, mb, lb, db, ev, HA, HT, HM, HL, HD, HV, h, rfl⟩ := hS;obtain ⟨e, hf, he, rfl, hek⟩ := Uk h.q hk;have hz : e.z ∈ W.map En.z := List.mem_map.2 ⟨e, he, rfl⟩;obtain ⟨hE, hs, hal⟩ := h.q.pk.ok _ hz;have hC := oL h.t h.a h.q.pk.inn h.q.pk.pos (Km hz) hE hal hs;have hC : zP Tryz.prog 23 #[.pointer (some ⟨ab, 0, none⟩), .pointer (some ⟨tb, 0, none⟩), .int .i64 e.h] _ _ := hC;obtain ⟨A, B, hW, hout⟩ := WI h.q.rD he;refine zP.forget (zP.gT (zm Tryz.FB (Nat.le_of_ble_eq_true rfl) ?_));unfold Tryz.GK;have hEs : Es W = Es (A ++ e :: B) := by rw [← hW]
 rw [hEs];refine ze (z8 ?_);refine zh (Zr rfl fun p3 => ?_);refine zf (za (zq zC.em (ze (zX (zi (pP rfl) (zi (zG rfl) (zi (zn rfl) (Z7 rfl rfl (zi (pP rfl) (zi (zG rfl) (zi (zn rfl) (Z7 rfl rfl (zi (pP rfl) (zi (zG rfl) (zi (zn rfl) (Z7 rfl rfl (Wz rfl rfl ?_)))))))))))))))));refine Zp (Vj h.m (by repeat (first | exact List.mem_cons_self | apply List.mem_cons_of_mem)) k U7 lS nS rfl rfl (jA hf) ⟨fun _ h => h, ?_⟩) zO;refine zi (zG rfl) (zi (zn rfl) (Z7 rfl rfl ?_));refine zN (zk hC rfl rfl fun r S' h => ?_) zO;obtain ⟨rfl, HT1, HA1, D1, hT1, hA1, hI1, _, rfl⟩ := h;refine zL (za (ze (zX (zi (pP rfl) (zi (zG rfl) (zi (zn rfl) (Z7 rfl rfl (Wz rfl rfl ?_))))))));refine zN (aR h.m k U7 lS rfl rfl fun HM1 hM1 => ?_) zO;refine zL (za (ze (zX (zi (pP rfl) (zi (zG rfl) (zi (zn rfl) (Z7 rfl rfl (Wz rfl rfl ?_))))))));refine zN (zk (pY h.l (by omega) (by omega) k) rfl rfl fun r S' h => ?_) zO;obtain ⟨rfl, HL1, hL1, rfl⟩ := h;refine zL (za (zX (zi (pP rfl) (zi (zG rfl) (zi (zn rfl) (Z7 rfl rfl (Wz rfl rfl ?_)))))));refine zN (zk (rC h.d (by rw [List.length_map]; omega) k) rfl rfl fun r S' h => ?_) zO;obtain ⟨rfl, HD1, hD1, rfl⟩ := h;refine zL ?_;subst hek;have hq1 := h.q.gone he hI1;rw [← lY, lq h.q.rD he] at hM1;rw [YE h.q.kn] at hD1;have hR : Sp N (uH e.i.k S) (UH W e.i.k) D1 _ ab tb mb lb db ev HA1 HT1 HM1 HL1 HD1 HV := ⟨hq1, hA1, hT1, hM1, hL1, hD1, h.v⟩
 have hR := Sr.mk (sb := sb) hR;rw [hout] at hR;exact ZW w9 ⟨_, zC.sd, rfl, _, hR, rfl⟩
theorem qD {sb N : Nat} {S : Ss} {H : List Chunk} (hS : Sr sb N S H) {k : Ky} {i : It} (hk : WM S.I k = some i) (hv : S.V.length < 2 ^ 30) :
 zP Tryz.prog 79 #[.pointer (some ⟨sb, 0, none⟩), .agg (Wn k)] [H] (fun r S' => r = .tuple #[] ∧ ∃ H', Sr sb N (aL k S) H' ∧ S' = [H']) := by
 refine zP.forget (zm Tryz.Fy (Nat.le_of_ble_eq_true rfl) ?_);unfold Tryz.GI;refine ze (z8 ?_);refine zh (Zr rfl fun p3 => ?_);refine zf (za (ze (z8 (yp (pP rfl) ?_))));refine zh (Zk rfl rfl ?_);refine zh (zk (Jb hS hk) rfl rfl fun r S' h => ?_);obtain ⟨rfl, H1, hS1, rfl⟩ := h;obtain ⟨W, D, L, ab, tb, mb, lb, db, ev, HA, HT, HM, HL, HD, HV, h, rfl⟩ := hS1;refine zf (za ?_);refine zq (S0 := [(p3, .cells (Wn k) 43)] :: ZX sb ab tb mb lb db ev :: HA :: HT :: HM :: HL :: HD :: HV :: Es W) ?_ ?_
 ·exact zC.op1
 have hV := h.v;obtain ⟨a, c, rfl⟩ := hV.isSlice;refine zX (zi (pP rfl) (zi (pP rfl) (zi (zG rfl) (zi (zn rfl) (Z7 rfl rfl (Wz rfl rfl ?_))))));refine Zp (Va k rfl rfl (by decide) (by decide) rfl fun p13 => ⟨fun _ h => List.mem_cons_of_mem _ h, ?_⟩) zO;have hvl : (uH k S).V.length < 2 ^ 30 := hv;refine zN (VK (Y := [k]) rfl rfl hV (.lit (by repeat (first | exact List.mem_cons_self | apply List.mem_cons_of_mem)) rfl) rfl (⟨[], 0⟩ : Ky) rfl (by rw [List.length_singleton]; omega) (by rw [List.length_singleton]; omega) fun v2 H2 hV2 => ?_) zO;obtain ⟨a2, c2, rfl⟩ := hV2.isSlice;refine zi (zG rfl) (zi (zn rfl) ?_);refine zN (aO rfl rfl (Y0 rfl) ?_) zO;refine zL ?_;exact ZW w9 ⟨_, zC.sp, rfl, _, Sr.mk (S := aL k S) ⟨h.q.ev, h.a, h.t, h.m, h.l, h.d, hV2⟩, rfl⟩
end Go.Proofs.YtejmbmenbailmaaGreat