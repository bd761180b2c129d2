/- Stores (chapter 10): Sweep. -/
import Derived.Test.YtejmbmenbailmaaGreatStH
namespace Go.Proofs.YtejmbmenbailmaaGreat
open Go.Xs
open Enc (enc)
def swp (f : Ss × Nat) (k : Ky) : Ss × Nat := if free f.1.I k = true then (aL k f.1, f.2 + 1) else f
def Uv (now : Int) (S : Ss) (n : Nat) : Ss × Nat := ((due now S.I).take n).foldl swp (S, 0)
def KH (now : Int) (S : Ss) : Ss × Nat := (due now S.I).foldl swp (S, 0)
theorem YB {now : Int} {I : List It} (h : (keys I).Nodup) : (due now I).Nodup := by
 unfold due upto;have h1 := ((y8 (key := U3) (I.map It.de)).map (·.k)).nodup_iff.2 (by rw [List.map_map]; exact h);exact (List.filter_sublist.map De.k).nodup h1
theorem Qh {now : Int} {I : List It} {k : Ky} (h : k ∈ due now I) : k ∈ keys I := by
 obtain ⟨e, he, rfl⟩ := List.mem_map.1 h;exact KD he
structure Iy (now : Int) (S : Ss) (n : Nat) (R : Ss × Nat) : Prop where
 kn : (keys R.1.I).Nodup
 mem : ∀ x ∈ (due now S.I).drop n, x ∈ keys R.1.I
 len : R.1.V.length + R.1.I.length = S.V.length + S.I.length
 cnt : R.2 ≤ n
theorem lW {S : Ss} {k : Ky} {i : It} (hn : (keys S.I).Nodup) (h : WM S.I k = some i) : (aL k S).V.length + (aL k S).I.length = S.V.length + S.I.length := by
 have := UJ hn h;show (S.V ++ [k]).length + (vJ S.I k).length = _;rw [List.length_append, List.length_singleton]; omega
theorem lV {I : List It} {k : Ky} (h : free I k = true) : ∃ i, WM I k = some i ∧ i.pins = 0 := by
 unfold free at h;cases hb : WM I k with
 | none => rw [hb] at h; cases h
 | some i => rw [hb] at h; exact ⟨i, rfl, of_decide_eq_true h⟩
theorem Ic {now : Int} {S : Ss} (hn : (keys S.I).Nodup) : ∀ n, n ≤ (due now S.I).length → Iy now S n (Uv now S n)
 | 0, _ => ⟨hn, fun x hx => Qh hx, rfl, Nat.le_refl 0⟩
 | n + 1, hl => by
  have ih := Ic (now := now) hn n (by omega);have hl' : n < (due now S.I).length := by omega
  have e1 : Uv now S (n + 1) = swp (Uv now S n) (due now S.I)[n] := by
   unfold Uv;rw [List.take_succ_eq_append_getElem hl', List.foldl_append]; rfl
  have hd : (due now S.I).drop n = (due now S.I)[n] :: (due now S.I).drop (n + 1) := List.drop_eq_getElem_cons hl';have hnd := (List.drop_sublist n _).nodup (YB (now := now) hn);rw [hd] at hnd;have hnd := (List.nodup_cons.1 hnd).1;have hm := ih.mem;rw [hd] at hm;rw [e1];generalize (due now S.I)[n] = k at *
  generalize Uv now S n = R at *
  unfold swp;split
  ·next hf =>
   obtain ⟨i, hb, _⟩ := lV hf;refine ⟨((V3 R.1.I k).map _).nodup ih.kn, fun x hx => ?_, (lW ih.kn hb).trans ih.len, by show R.2 + 1 ≤ n + 1; have := ih.cnt; omega⟩;show x ∈ keys (vJ R.1.I k);rw [uV, List.mem_filter];refine ⟨hm x (List.mem_cons_of_mem _ hx), ?_⟩;have : x ≠ k := fun e => hnd (e ▸ hx)
   simpa using this
  ·exact ⟨ih.kn, fun x hx => hm x (List.mem_cons_of_mem _ hx), ih.len, by have := ih.cnt; omega⟩
theorem bI {now : Int} {S : Ss} {n : Nat} (h : n < (due now S.I).length) : Uv now S (n + 1) = swp (Uv now S n) (due now S.I)[n] := by
 unfold Uv;rw [List.take_succ_eq_append_getElem h, List.foldl_append]; rfl
theorem E9 : isAgg? Tryz.prog 3 = some false := by kernel_rfl
theorem zC.op2 {x y : List Chunk} {sb ab tb mb lb db : Nat} {ev : Value} {HA HT HM HL HD HV : List Chunk} {W : List En} : zC [x, y, sH sb ab tb mb lb db ev HA HT HM HL HD HV W] (x :: y :: ZX sb ab tb mb lb db ev :: HA :: HT :: HM :: HL :: HD :: HV :: Es W) := ⟨[], by simp [sH]⟩
theorem zC.Ik {x y : List Chunk} {S G : zo} {sb ab tb mb lb db : Nat} {ev : Value} {HA HT HM HL HD HV : List Chunk} {W : List En} [h : Sub S (x :: y :: ZX sb ab tb mb lb db ev :: HA :: HT :: HM :: HL :: HD :: HV :: Es W) G] : zC S [x, y, sH sb ab tb mb lb db ev HA HT HM HL HD HV W] := zC.trans (zC.of (h := h)) ⟨[], by simp [sH]⟩
abbrev iE (p2 p4 sb c : Nat) : zo := [[(p2, .cells #[.pointer (some ⟨sb, 0, none⟩)] 63)], [(p4, .cells #[.int .i64 (c : Int)] 3)]]
theorem Xm {sb N : Nat} {S : Ss} {H : List Chunk} (hS : Sr sb N S H) (now : Int) (hV : S.V.length + S.I.length < 2 ^ 30) :
 zP Tryz.prog 41 #[.pointer (some ⟨sb, 0, none⟩), .int .i64 now] [H] (fun r S' => r = .int .i64 ((KH now S).2 : Nat) ∧ ∃ H', Sr sb N (KH now S).1 H' ∧ S' = [H']) := by
 have hnb := hS.nb;have hS0 := hS;have hkn := hS.kn;obtain ⟨W, D, L, ab, tb, mb, lb, db, ev, HA, HT, HM, HL, HD, HV, h, rfl⟩ := hS;refine zP.forget (zP.gT (zm Tryz.G5 (Nat.le_of_ble_eq_true rfl) ?_));unfold Tryz.HZ;refine ze (z8 ?_);refine zh (gQ (jV rfl) fun p2 => ?_);refine zh (Ze fun p4 => ?_);refine zf (za (ze (ze (z8 ?_))));refine zh (zB rfl rfl ?_);refine yp (ZM rfl rfl) (zf (za (zA rfl (zu (za (ze (ze (z8 ?_))))))));refine zh (zB rfl rfl ?_);refine yp (zG rfl) (yp (zn rfl) ?_);refine zh (zB rfl rfl ?_);refine yp (pI rfl) ?_;refine zh (zk eD rfl rfl fun r S' h => ?_);obtain ⟨bd, ba, rfl, rfl⟩ := h;refine zf (za (zw ?_));have hdl : (S.I.map It.de).length < 2 ^ 38 := by rw [List.length_map]; omega
 have hdue : (due now S.I).length = (upto now (S.I.map It.de)).length := by unfold due; rw [List.length_map]
 refine XB (fun pre T => pre.length ≤ (due now S.I).length ∧ ∃ H', Sr sb N (Uv now S pre.length).1 H' ∧ zC T (iE p2 p4 sb (Uv now S pre.length).2 ++ [H']))
  (fun e pre T => False)
  rfl rfl (jf (db := db) (bd := bd) (ba := ba) (S0 := iE p2 p4 sb 0 ++ (ZX sb ab tb mb lb db ev :: HA :: HT :: HM :: HL :: HV :: Es W)) h.d hdl now) ⟨Nat.zero_le _, _, hS0, (show (iE p2 p4 sb (Uv now S ([] : List (Array Value)).length).2) = iE p2 p4 sb 0 from rfl) ▸ zC.Ik⟩ ?_ ?_ ?_ ?_
 ·intro pre x hx;obtain ⟨_, rfl⟩ := pfx hx;rfl
 ·rintro l pre x T hx ⟨hle, H1, hS1, hJ⟩;obtain ⟨hl, rfl⟩ := pfx hx;have hl2 : pre.length < (due now S.I).length := by omega
  have hI := Ic (now := now) hkn pre.length hle;have hst := bI hl2;have hmem := hI.mem;rw [List.drop_eq_getElem_cons hl2] at hmem;have hk0 : (due now S.I)[pre.length] = (upto now (S.I.map It.de))[pre.length].k := by simp only [due, List.getElem_map]
  rw [hk0] at hst hmem;generalize (upto now (S.I.map It.de))[pre.length] = d at hst hmem;have hkm := hmem d.k (by simp);have hcnt := hI.cnt;have hlen := hI.len;have hpl : (pre ++ [aK d]).length = pre.length + 1 := by rw [List.length_append]; rfl
  generalize Uv now S pre.length = R at hS1 hJ hst hkm hcnt hlen;have hle2 : (pre ++ [aK d]).length ≤ (due now S.I).length := by omega
  have hS1' := hS1;obtain ⟨W1, D1, L1, ab1, tb1, mb1, lb1, db1, ev1, HA1, HT1, HM1, HL1, HD1, HV1, h1, rfl⟩ := hS1;obtain ⟨e, hf, he, hb, hfr⟩ := K8 h1.q hkm;refine zq hJ (zq zC.op2 (z8 ?_));refine zh (Ze fun p5 => ?_);refine zh (WG rfl rfl rfl rfl rfl ?_);refine zf (za (zw (ze (zX (Z7 rfl rfl (zi (zG rfl) (zi (zn rfl) (Z7 rfl rfl (Wz rfl rfl ?_)))))))));refine Zp (Vj h1.m (by repeat (first | exact List.mem_cons_self | apply List.mem_cons_of_mem)) d.k U7 lS nS rfl rfl (jA hf) ⟨fun _ h => h, ?_⟩) zO;refine zi (zG rfl) (zi (zn rfl) (gY (v := .int .i64 e.i.pins) (by repeat (first | exact xX he | apply List.mem_cons_of_mem)) rfl rfl (zi (Wi rfl rfl) (zL (za ?_)))));by_cases hp : e.i.pins = 0
  ·rw [decide_eq_true hp] at hfr ⊢;have e1 : swp R d.k = (aL d.k R.1, R.2 + 1) := by unfold swp; rw [if_pos hfr]
   refine zH rfl (ze (z8 ?_));refine zh (zB rfl rfl ?_);refine zh (Zk rfl rfl ?_);refine zh (zk (zP.op (qD hS1' hb (by omega))) rfl rfl fun r S' h => ?_);obtain ⟨rfl, H2, hS2, rfl⟩ := h;have hR2 : R.2 < 2 ^ 40 := by
    have : (due now S.I).length ≤ S.I.length := by
     have := (YB (now := now) hkn).length_le_of_subset (fun x hx => Qh hx : due now S.I ⊆ keys S.I);unfold keys at this;rw [List.length_map] at this;exact this
    omega
   refine zf (za (z8 ?_));refine zh (zB rfl rfl ?_);refine yp (Zg rfl rfl (by omega)) ?_;refine zh (ZJ rfl rfl (U9 rfl) ?_);refine zf (zT ?_);refine ⟨hle2, H2, ?_, ?_⟩
   ·rw [hpl, hst, e1]; exact hS2
   ·rw [hpl, hst, e1]; exact .of
  ·rw [decide_eq_false hp] at hfr ⊢;have e1 : swp R d.k = R := by unfold swp; rw [if_neg (by rw [hfr]; decide)]
   refine zA rfl (zu (zT ?_));refine ⟨hle2, sH sb ab1 tb1 mb1 lb1 db1 ev1 HA1 HT1 HM1 HL1 HD1 HV1 W1, ?_, ?_⟩
   ·rw [hpl, hst, e1]; exact hS1'
   ·rw [hpl, hst, e1]; exact zC.Ik
 ·rintro xs S' hd ⟨hn, H1, hS1, hJ⟩;have hxl : xs.length = (due now S.I).length := by rw [hd, List.length_map, hdue]
  have e1 : Uv now S xs.length = KH now S := by unfold Uv KH; rw [hxl, List.take_length]
  rw [e1] at hS1 hJ;refine zT (za ?_);refine zq hJ (ze (z8 ?_));refine zh (zB rfl rfl ?_);refine zh (ZJ rfl rfl (U9 rfl) ?_);refine zf (za (zJ ?_));exact zI (KU (Ec (b := p4) E9 rfl)) ⟨[H1], .of, rfl, _, hS1, rfl⟩
 ·rintro e pre S' _ h;exact h.elim
end Go.Proofs.YtejmbmenbailmaaGreat