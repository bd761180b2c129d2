/- Stores (chapter 10): who goes next. -/
import Derived.Test.YtejmbmenbailmaaGreatStE
namespace Go.Proofs.YtejmbmenbailmaaGreat
open Go.Xs
open Enc (enc)
theorem rZ : isAgg? Tryz.prog 4 = some false := by kernel_rfl
theorem pfx {α : Type} {L : List α} {f : α → Array Value} {pre : List (Array Value)} {x : Array Value} (h : pre ++ [x] <+: L.map f) : ∃ (hl : pre.length < L.length), x = f L[pre.length] := by
 obtain ⟨t, ht⟩ := h;have h1 : (L.map f)[pre.length]? = some x := by
  rw [← ht, List.append_assoc, List.getElem?_append_right (Nat.le_refl _), Nat.sub_self]; rfl
 rw [List.getElem?_map] at h1;obtain ⟨y, hy, rfl⟩ := Option.map_eq_some_iff.1 h1;obtain ⟨hl, rfl⟩ := List.getElem?_eq_some_iff.1 hy;exact ⟨hl, rfl⟩
theorem yx {f : Ky → Bool} : ∀ {l : List Ky} {n : Nat} {k : Ky}, (∀ x ∈ l.take n, f x = false) → l[n]? = some k → f k = true → l.find? f = some k
 | y :: l, 0, k, _, hk, hf => by
  rw [List.getElem?_cons_zero] at hk;obtain rfl := Option.some.inj hk;rw [List.find?_cons, hf]
 | y :: l, n + 1, k, hn, hk, hf => by
  rw [List.getElem?_cons_succ] at hk;rw [List.find?_cons, hn y (by simp)];exact yx (fun x hx => hn x (by rw [List.take_succ_cons]; exact List.mem_cons_of_mem _ hx)) hk hf
theorem Yz {f : Ky → Bool} {l : List Ky} (h : ∀ x ∈ l, f x = false) : l.find? f = none := by
 rw [List.find?_eq_none];intro x hx;rw [h x hx]; decide
theorem KD {now : Int} {I : List It} {e : De} (h : e ∈ upto now (I.map It.de)) : e.k ∈ keys I := by
 unfold upto at h;have h1 := (List.mem_filter.1 h).1;have h2 := (y8 (key := U3) (I.map It.de)).mem_iff.1 h1;obtain ⟨i, hi, rfl⟩ := List.mem_map.1 h2;exact List.mem_map.2 ⟨i, hi, rfl⟩
theorem K8 {S : Ss} {W : List En} {D : List (Option Bt)} {L : List Nm} (hq : Sq S W D L) {k : Ky} (h : k ∈ keys S.I) : ∃ e, yU W k = some e ∧ e ∈ W ∧ WM S.I k = some e.i ∧ free S.I k = decide (e.i.pins = 0) := by
 cases hb : WM S.I k with
 | none => exact absurd h (vB.1 hb)
 | some i =>
  obtain ⟨e, hf, he, rfl, _⟩ := Uk hq hb;exact ⟨e, hf, he, rfl, by unfold free; rw [hb]⟩
theorem dW {now : Int} {S : Ss} {n : Nat} {e : De} (hn : ∀ x ∈ (upto now (S.I.map It.de)).take n, free S.I x.k = false) (he : (upto now (S.I.map It.de))[n]? = some e) (hf : free S.I e.k = true) : VB now S = some e.k := by
 unfold VB due;rw [List.find?_append];have : ((upto now (S.I.map It.de)).map (·.k)).find? (free S.I) = some e.k := yx (n := n) (fun x hx => by
  rw [← List.map_take] at hx;obtain ⟨y, hy, rfl⟩ := List.mem_map.1 hx;exact hn y hy) (by rw [List.getElem?_map, he]; rfl) hf
 rw [this]; rfl
theorem dV {now : Int} {S : Ss} (hn : ∀ x ∈ upto now (S.I.map It.de), free S.I x.k = false) : VB now S = (S.P ++ S.Q).find? (free S.I) := by
 unfold VB due;rw [List.find?_append];have : ((upto now (S.I.map It.de)).map (·.k)).find? (free S.I) = none := Yz fun x hx => by
  obtain ⟨y, hy, rfl⟩ := List.mem_map.1 hx;exact hn y hy
 rw [this]; rfl
theorem Yc {α : Type} {L : List α} {n : Nat} (h : n < L.length) {p : α → Prop} (hp : ∀ x ∈ L.take n, p x) (hx : p L[n]) : ∀ x ∈ L.take (n + 1), p x := fun x hx' => by
 rw [List.take_succ_eq_append_getElem h] at hx';rcases List.mem_append.1 hx' with h1 | h1
 ·exact hp x h1
 ·rw [List.mem_singleton.1 h1]; exact hx
abbrev sG (p2 p4 p5 sb : Nat) (k : Ky) (b : Bool) : zo := [[(p2, .cells #[.pointer (some ⟨sb, 0, none⟩)] 63)], [(p4, .cells (Wn k) 43)], [(p5, .cells #[.bool b] 4)]]
theorem oo {sb N : Nat} {S : Ss} {H : List Chunk} (hS : Sr sb N S H) (now : Int) :
 zP Tryz.prog 78 #[.pointer (some ⟨sb, 0, none⟩), .int .i64 now] [H] (fun r S' => r = .tuple #[.agg (Wn ((VB now S).getD ⟨[], 0⟩)), .bool (VB now S).isSome] ∧ S' = [H]) := by
 have hnb := hS.nb;obtain ⟨W, D, L, ab, tb, mb, lb, db, ev, HA, HT, HM, HL, HD, HV, h, rfl⟩ := hS;refine zP.forget (zP.gT (zm Tryz.Fz (Nat.le_of_ble_eq_true rfl) ?_));unfold Tryz.GJ;refine ze (z8 ?_);refine zh (gQ (jV rfl) fun p2 => ?_);refine zh (Ze fun p4 => ?_);refine zh (Ze fun p5 => ?_);refine zf (za (ze (ze (z8 ?_))));refine zh (zB rfl rfl ?_);refine yp (zG rfl) (yp (zn rfl) ?_);refine zh (zB rfl rfl ?_);refine yp (pI rfl) ?_;refine zh (zk eD rfl rfl fun r S' h => ?_);obtain ⟨bd, ba, rfl, rfl⟩ := h;refine zf (za (zw ?_));have hdl : (S.I.map It.de).length < 2 ^ 38 := by rw [List.length_map]; omega
 have hmemT : ∀ {e : En}, e ∈ W → ∀ {X : zo}, jy e ∈ X ++ Es W := fun he X => List.mem_append.2 (.inr (xX he))
 refine XB (fun pre T => (∀ x ∈ (upto now (S.I.map It.de)).take pre.length, free S.I x.k = false) ∧ zC T (sG p2 p4 p5 sb ⟨[], 0⟩ false ++ (ZX sb ab tb mb lb db ev :: HA :: HT :: HM :: HL :: HD :: HV :: Es W)))
  (fun e pre T => e = .ret ∧ ∃ k, VB now S = some k ∧ zC T (sG p2 p4 p5 sb k true ++ (ZX sb ab tb mb lb db ev :: HA :: HT :: HM :: HL :: HD :: HV :: Es W)))
  rfl rfl (jf (db := db) (bd := bd) (ba := ba) (S0 := sG p2 p4 p5 sb ⟨[], 0⟩ false ++ (ZX sb ab tb mb lb db ev :: HA :: HT :: HM :: HL :: HV :: Es W)) h.d hdl now) ⟨by simp, .of⟩ ?_ ?_ ?_ ?_
 ·intro pre x hx;obtain ⟨_, rfl⟩ := pfx hx;rfl
 ·rintro l pre x T hx ⟨hn, hJ⟩;obtain ⟨hl, rfl⟩ := pfx hx;have hm := List.getElem_mem hl;have hg : (upto now (S.I.map It.de))[pre.length]? = some (upto now (S.I.map It.de))[pre.length] := List.getElem?_eq_getElem hl;have hst := Yc hl hn;generalize (upto now (S.I.map It.de))[pre.length] = d at hm hg hst;obtain ⟨e, hf, he, hb, hfr⟩ := K8 h.q (KD hm);refine zq hJ (z8 ?_);refine zh (Ze fun p6 => ?_);refine zh (WG rfl rfl rfl rfl rfl ?_);refine zf (za (zw (ze (zX (Z7 rfl rfl (zi (zG rfl) (zi (zn rfl) (Z7 rfl rfl (Wz rfl rfl ?_)))))))));refine Zp (Vj h.m (by repeat (first | exact List.mem_cons_self | apply List.mem_cons_of_mem)) d.k U7 lS nS rfl rfl (jA hf) ⟨fun _ h => h, ?_⟩) zO;refine zi (zG rfl) (zi (zn rfl) (gY (v := .int .i64 e.i.pins) (by repeat (first | exact xX he | apply List.mem_cons_of_mem)) rfl rfl (zi (Wi rfl rfl) (zL (za ?_)))));by_cases hp : e.i.pins = 0
  ·rw [decide_eq_true hp] at hfr ⊢;have hnx := dW hn hg hfr;refine zH rfl (ze (z8 ?_));refine zh (Zk rfl rfl ?_);refine zh (WG rfl rfl rfl rfl rfl ?_);refine zh (ZJ rfl rfl (sF rfl) ?_);refine zf (za (zJ (bret ?_)));exact ⟨rfl, d.k, hnx, .of⟩
  ·rw [decide_eq_false hp] at hfr ⊢;refine zA rfl (zu (zT ?_));exact ⟨by rw [List.length_append]; exact hst hfr, .of⟩
 ·rintro xs S' hd ⟨hn, hJ⟩;have hxl : xs.length = (upto now (S.I.map It.de)).length := by rw [hd, List.length_map]
  rw [hxl, List.take_length] at hn;have hnx := dV (now := now) (S := S) hn;refine zT (za ?_);refine zq hJ (ze (ze (z8 ?_)));refine zh (zB rfl rfl ?_);refine yp (zG rfl) (yp (zn rfl) ?_);refine zh (zB rfl rfl ?_);refine zh (zk lK rfl rfl fun r S' h => ?_);obtain ⟨bl, rfl, rfl⟩ := h;refine zf (za (zw ?_));refine XB (fun pre T => (∀ x ∈ (S.P ++ S.Q).take pre.length, free S.I x = false) ∧ zC T (sG p2 p4 p5 sb ⟨[], 0⟩ false ++ (ZX sb ab tb mb lb db ev :: HA :: HT :: HM :: HL :: HD :: HV :: Es W)))
   (fun e pre T => e = .ret ∧ ∃ k, VB now S = some k ∧ zC T (sG p2 p4 p5 sb k true ++ (ZX sb ab tb mb lb db ev :: HA :: HT :: HM :: HL :: HD :: HV :: Es W)))
   rfl rfl (QK (bl := bl) (S0 := sG p2 p4 p5 sb ⟨[], 0⟩ false ++ (ZX sb ab tb mb lb db ev :: HA :: HT :: HM :: HD :: HV :: Es W)) h.l (by omega) (by omega)) ⟨by simp, .of⟩ ?_ ?_ ?_ ?_
  ·intro pre x hx;obtain ⟨_, rfl⟩ := pfx hx;rfl
  ·rintro l pre x T hx ⟨hn2, hJ⟩;obtain ⟨hl, rfl⟩ := pfx hx;have hm := List.getElem_mem hl;have hg : (S.P ++ S.Q)[pre.length]? = some (S.P ++ S.Q)[pre.length] := List.getElem?_eq_getElem hl;have hst := Yc hl hn2;generalize (S.P ++ S.Q)[pre.length] = d at hm hg hst;obtain ⟨e, hf, he, hb, hfr⟩ := K8 h.q (h.q.pq.mem_iff.1 hm);refine zq hJ (z8 ?_);refine zh (Ze fun p7 => ?_);refine zh (WG rfl rfl rfl rfl rfl ?_);refine zf (za (zw (ze (zX (Z7 rfl rfl (zi (zG rfl) (zi (zn rfl) (Z7 rfl rfl (Wz rfl rfl ?_)))))))));refine Zp (Vj h.m (by repeat (first | exact List.mem_cons_self | apply List.mem_cons_of_mem)) d U7 lS nS rfl rfl (jA hf) ⟨fun _ h => h, ?_⟩) zO;refine zi (zG rfl) (zi (zn rfl) (gY (v := .int .i64 e.i.pins) (by repeat (first | exact xX he | apply List.mem_cons_of_mem)) rfl rfl (zi (Wi rfl rfl) (zL (za ?_)))));by_cases hp : e.i.pins = 0
   ·rw [decide_eq_true hp] at hfr ⊢;refine zH rfl (ze (z8 ?_));refine zh (Zk rfl rfl ?_);refine zh (WG rfl rfl rfl rfl rfl ?_);refine zh (ZJ rfl rfl (sF rfl) ?_);refine zf (za (zJ (bret ?_)));exact ⟨rfl, d, by rw [hnx]; exact yx hn2 hg hfr, .of⟩
   ·rw [decide_eq_false hp] at hfr ⊢;refine zA rfl (zu (zT ?_));exact ⟨by rw [List.length_append]; exact hst hfr, .of⟩
  ·rintro xs S' hd ⟨hn2, hJ⟩;have hxl : xs.length = (S.P ++ S.Q).length := by rw [hd, List.length_map]
   rw [hxl, List.take_length] at hn2;rw [Yz hn2] at hnx;refine zT (za ?_);refine zq hJ (ze (z8 (yp VR ?_)));refine zh (WG rfl rfl rfl rfl rfl ?_);refine zh (ZJ rfl rfl (sF rfl) ?_);refine zf (za (zJ ?_));rw [hnx];exact zI (Uz (bW (b := p4) mF qA rfl rfl) (Ec (b := p5) rZ rfl)) ⟨_, zC.sp, rfl, rfl⟩
  ·rintro e pre S' _ ⟨rfl, k, hk, hJ⟩;rw [hk];refine bret (zV ?_);exact zI (Ym hJ (Uz (bW (b := p4) mF qA rfl rfl) (Ec (b := p5) rZ rfl))) ⟨_, hJ.trans zC.sp, rfl, rfl⟩
 ·rintro e pre S' _ ⟨rfl, k, hk, hJ⟩;rw [hk];refine bret (zV ?_);exact zI (Ym hJ (Uz (bW (b := p4) mF qA rfl rfl) (Ec (b := p5) rZ rfl))) ⟨_, hJ.trans zC.sp, rfl, rfl⟩
end Go.Proofs.YtejmbmenbailmaaGreat