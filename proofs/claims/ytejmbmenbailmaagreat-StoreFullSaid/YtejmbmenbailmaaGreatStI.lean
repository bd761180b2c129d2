/- Stores (chapter 10): Sweep. -/
import Derived.Test.YtejmbmenbailmaaGreatStH
namespace Go.Proofs.YtejmbmenbailmaaGreat
open Go.Xs
open Enc (enc)
def swp (f : Ss × Nat) (k : Ky) : Ss × Nat := if free f.1.I k = true then (KD k f.1, f.2 + 1) else f
def UC (now : Int) (S : Ss) (n : Nat) : Ss × Nat := ((due now S.I).take n).foldl swp (S, 0)
def KT (now : Int) (S : Ss) : Ss × Nat := (due now S.I).foldl swp (S, 0)
theorem YH {now : Int} {I : List It} (h : (keys I).Nodup) : (due now I).Nodup := by
 unfold due upto;have h1 := ((yc (key := U8) (I.map It.de)).map (·.k)).nodup_iff.2 (by rw [List.map_map]; exact h);exact (List.filter_sublist.map De.k).nodup h1
theorem Kk {now : Int} {I : List It} {k : Ky} (h : k ∈ due now I) : k ∈ keys I := by
 obtain ⟨e, he, rfl⟩ := List.mem_map.1 h;exact KP he
structure Lp (now : Int) (S : Ss) (n : Nat) (R : Ss × Nat) : Prop where
 kn : (keys R.1.I).Nodup
 mem : ∀ x ∈ (due now S.I).drop n, x ∈ keys R.1.I
 len : R.1.V.length + R.1.I.length = S.V.length + S.I.length
 cnt : R.2 ≤ n
theorem mO {S : Ss} {k : Ky} {i : It} (hn : (keys S.I).Nodup) (h : WC S.I k = some i) : (KD k S).V.length + (KD k S).I.length = S.V.length + S.I.length := by
 have := VH hn h;show (S.V ++ [k]).length + (vL S.I k).length = _;rw [List.length_append, List.length_singleton]; omega
theorem mM {I : List It} {k : Ky} (h : free I k = true) : ∃ i, WC I k = some i ∧ i.pins = 0 := by
 unfold free at h;cases hb : WC I k with
 | none => rw [hb] at h; cases h
 | some i => rw [hb] at h; exact ⟨i, rfl, of_decide_eq_true h⟩
theorem IY {now : Int} {S : Ss} (hn : (keys S.I).Nodup) : ∀ n, n ≤ (due now S.I).length → Lp now S n (UC now S n)
 | 0, _ => ⟨hn, fun x hx => Kk hx, rfl, Nat.le_refl 0⟩
 | n + 1, hl => by
  have ih := IY (now := now) hn n (by omega);have hl' : n < (due now S.I).length := by omega
  have e1 : UC now S (n + 1) = swp (UC now S n) (due now S.I)[n] := by
   unfold UC;rw [List.take_succ_eq_append_getElem hl', List.foldl_append]; rfl
  have hd : (due now S.I).drop n = (due now S.I)[n] :: (due now S.I).drop (n + 1) := List.drop_eq_getElem_cons hl';have hnd := (List.drop_sublist n _).nodup (YH (now := now) hn);rw [hd] at hnd;have hnd := (List.nodup_cons.1 hnd).1;have hm := ih.mem;rw [hd] at hm;rw [e1];generalize (due now S.I)[n] = k at *
  generalize UC now S n = R at *
  unfold swp;split
  ·next hf =>
   obtain ⟨i, hb, _⟩ := mM hf;refine ⟨((Vd R.1.I k).map _).nodup ih.kn, fun x hx => ?_, (mO ih.kn hb).trans ih.len, by show R.2 + 1 ≤ n + 1; have := ih.cnt; omega⟩;show x ∈ keys (vL R.1.I k);rw [U1, List.mem_filter];refine ⟨hm x (List.mem_cons_of_mem _ hx), ?_⟩;have : x ≠ k := fun e => hnd (e ▸ hx)
   simpa using this
  ·exact ⟨ih.kn, fun x hx => hm x (List.mem_cons_of_mem _ hx), ih.len, by have := ih.cnt; omega⟩
theorem bT {now : Int} {S : Ss} {n : Nat} (h : n < (due now S.I).length) : UC now S (n + 1) = swp (UC now S n) (due now S.I)[n] := by
 unfold UC;rw [List.take_succ_eq_append_getElem h, List.foldl_append]; rfl
theorem EG : isAgg? Tryz.prog 3 = some false := by kernel_rfl
theorem zD.op2 {x y : List Chunk} {sb ab tb mb lb db : Nat} {ev : Value} {HA HT HM HL HD HV : List Chunk} {W : List En} : zD [x, y, sH sb ab tb mb lb db ev HA HT HM HL HD HV W] (x :: y :: wm sb ab tb mb lb db ev :: HA :: HT :: HM :: HL :: HD :: HV :: Es W) := ⟨[], by simp [sH]⟩
theorem zD.Lc {x y : List Chunk} {S G : zo} {sb ab tb mb lb db : Nat} {ev : Value} {HA HT HM HL HD HV : List Chunk} {W : List En} [h : Sub S (x :: y :: wm sb ab tb mb lb db ev :: HA :: HT :: HM :: HL :: HD :: HV :: Es W) G] : zD S [x, y, sH sb ab tb mb lb db ev HA HT HM HL HD HV W] := zD.trans (zD.of (h := h)) ⟨[], by simp [sH]⟩
abbrev iT (p2 p4 sb c : Nat) : zo := [[(p2, .cells #[.pointer (some ⟨sb, 0, none⟩)] 63)], [(p4, .cells #[.int .i64 (c : Int)] 3)]]
theorem qG {sb N : Nat} {S : Ss} {H : List Chunk} (hS : Sr sb N S H) (now : Int) (hV : S.V.length + S.I.length < 2 ^ 30) :
 zQ Tryz.prog 41 #[.pointer (some ⟨sb, 0, none⟩), .int .i64 now] [H] (fun r S' => r = .int .i64 ((KT now S).2 : Nat) ∧ ∃ H', Sr sb N (KT now S).1 H' ∧ S' = [H']) := by
 have hnb := hS.nb;have hS0 := hS;have hkn := hS.kn;obtain ⟨W, D, L, ab, tb, mb, lb, db, ev, HA, HT, HM, HL, HD, HV, h, rfl⟩ := hS;refine zQ.forget (zQ.iE (zm Tryz.GA (Nat.le_of_ble_eq_true rfl) ?_));unfold Tryz.IG;refine ze (z8 ?_);refine zh (iD (J7 rfl) fun p2 => ?_);refine zh (Zf fun p4 => ?_);refine zf (za (ze (ze (z8 ?_))));refine zh (zC rfl rfl ?_);refine yp (ZQ rfl rfl) (zf (za (zA rfl (zu (za (ze (ze (z8 ?_))))))));refine zh (zC rfl rfl ?_);refine yp (zG rfl) (yp (zn rfl) ?_);refine zh (zC rfl rfl ?_);refine yp (pI rfl) ?_;refine zh (zk fq rfl rfl fun r S' h => ?_);obtain ⟨bd, ba, rfl, rfl⟩ := h;refine zf (za (zw ?_));have hdl : (S.I.map It.de).length < 2 ^ 38 := by rw [List.length_map]; omega
 have hdue : (due now S.I).length = (upto now (S.I.map It.de)).length := by unfold due; rw [List.length_map]
 refine XD (fun pre T => pre.length ≤ (due now S.I).length ∧ ∃ H', Sr sb N (UC now S pre.length).1 H' ∧ zD T (iT p2 p4 sb (UC now S pre.length).2 ++ [H']))
  (fun e pre T => False)
  rfl rfl (jw (db := db) (bd := bd) (ba := ba) (S0 := iT p2 p4 sb 0 ++ (wm sb ab tb mb lb db ev :: HA :: HT :: HM :: HL :: HV :: Es W)) h.d hdl now) ⟨Nat.zero_le _, _, hS0, (show (iT p2 p4 sb (UC now S ([] : List (Array Value)).length).2) = iT p2 p4 sb 0 from rfl) ▸ zD.Lc⟩ ?_ ?_ ?_ ?_
 ·intro pre x hx;obtain ⟨_, rfl⟩ := pfx hx;rfl
 ·rintro l pre x T hx ⟨hle, H1, hS1, hJ⟩;obtain ⟨hl, rfl⟩ := pfx hx;have hl2 : pre.length < (due now S.I).length := by omega
  have hI := IY (now := now) hkn pre.length hle;have hst := bT hl2;have hmem := hI.mem;rw [List.drop_eq_getElem_cons hl2] at hmem;have hk0 : (due now S.I)[pre.length] = (upto now (S.I.map It.de))[pre.length].k := by simp only [due, List.getElem_map]
  rw [hk0] at hst hmem;generalize (upto now (S.I.map It.de))[pre.length] = d at hst hmem;have hkm := hmem d.k (by simp);have hcnt := hI.cnt;have hlen := hI.len;have hpl : (pre ++ [aT d]).length = pre.length + 1 := by rw [List.length_append]; rfl
  generalize UC now S pre.length = R at hS1 hJ hst hkm hcnt hlen;have hle2 : (pre ++ [aT d]).length ≤ (due now S.I).length := by omega
  have hS1' := hS1;obtain ⟨W1, D1, L1, ab1, tb1, mb1, lb1, db1, ev1, HA1, HT1, HM1, HL1, HD1, HV1, h1, rfl⟩ := hS1;obtain ⟨e, hf, he, hb, hfr⟩ := Ki h1.q hkm;refine zq hJ (zq zD.op2 (z8 ?_));refine zh (Zf fun p5 => ?_);refine zh (V8 rfl rfl rfl rfl rfl ?_);refine zf (za (zw (ze (zX (Z5 rfl rfl (zi (zG rfl) (zi (zn rfl) (Z5 rfl rfl (WE rfl rfl ?_)))))))));refine Zm (Vr h1.m (by repeat (first | exact List.mem_cons_self | apply List.mem_cons_of_mem)) d.k Ub mI om rfl rfl (jL hf) ⟨fun _ h => h, ?_⟩) zM;refine zi (zG rfl) (zi (zn rfl) (iJ (v := .int .i64 e.i.pins) (by repeat (first | exact xY he | apply List.mem_cons_of_mem)) rfl rfl (zi (WG rfl rfl) (zL (za ?_)))));by_cases hp : e.i.pins = 0
  ·rw [decide_eq_true hp] at hfr ⊢;have e1 : swp R d.k = (KD d.k R.1, R.2 + 1) := by unfold swp; rw [if_pos hfr]
   refine zJ rfl (ze (z8 ?_));refine zh (zC rfl rfl ?_);refine zh (Zu rfl rfl ?_);refine zh (zk (zQ.op (qH hS1' hb (by omega))) rfl rfl fun r S' h => ?_);obtain ⟨rfl, H2, hS2, rfl⟩ := h;have hR2 : R.2 < 2 ^ 40 := by
    have : (due now S.I).length ≤ S.I.length := by
     have := (YH (now := now) hkn).length_le_of_subset (fun x hx => Kk hx : due now S.I ⊆ keys S.I);unfold keys at this;rw [List.length_map] at this;exact this
    omega
   refine zf (za (z8 ?_));refine zh (zC rfl rfl ?_);refine yp (Zh rfl rfl (by omega)) ?_;refine zh (ZL rfl rfl (Ud rfl) ?_);refine zf (zS ?_);refine ⟨hle2, H2, ?_, ?_⟩
   ·rw [hpl, hst, e1]; exact hS2
   ·rw [hpl, hst, e1]; exact .of
  ·rw [decide_eq_false hp] at hfr ⊢;have e1 : swp R d.k = R := by unfold swp; rw [if_neg (by rw [hfr]; decide)]
   refine zA rfl (zu (zS ?_));refine ⟨hle2, sH sb ab1 tb1 mb1 lb1 db1 ev1 HA1 HT1 HM1 HL1 HD1 HV1 W1, ?_, ?_⟩
   ·rw [hpl, hst, e1]; exact hS1'
   ·rw [hpl, hst, e1]; exact zD.Lc
 ·rintro xs S' hd ⟨hn, H1, hS1, hJ⟩;have hxl : xs.length = (due now S.I).length := by rw [hd, List.length_map, hdue]
  have e1 : UC now S xs.length = KT now S := by unfold UC KT; rw [hxl, List.take_length]
  rw [e1] at hS1 hJ;refine zS (za ?_);refine zq hJ (ze (z8 ?_));refine zh (zC rfl rfl ?_);refine zh (ZL rfl rfl (Ud rfl) ?_);refine zf (za (zI ?_));exact zH (jg (EI (b := p4) EG rfl)) ⟨[H1], .of, rfl, _, hS1, rfl⟩
 ·rintro e pre S' _ h;exact h.elim
end Go.Proofs.YtejmbmenbailmaaGreat