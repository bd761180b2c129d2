/- Stores (chapter 10): who goes next. -/
import Derived.Test.YtejmbmenbailmaaGreatStE
namespace Go.Proofs.YtejmbmenbailmaaGreat
open Go.Xs
open Enc (enc)
theorem sW : isAgg? Tryz.prog 4 = some false := by kernel_rfl
theorem pfx {α : Type} {L : List α} {f : α → Array Value} {pre : List (Array Value)} {x : Array Value} (h : pre ++ [x] <+: L.map f) : ∃ (hl : pre.length < L.length), x = f L[pre.length] := by
 obtain ⟨t, ht⟩ := h;have h1 : (L.map f)[pre.length]? = some x := by
  rw [← ht, List.append_assoc, List.getElem?_append_right (Nat.le_refl _), Nat.sub_self]; rfl
 rw [List.getElem?_map] at h1;obtain ⟨y, hy, rfl⟩ := Option.map_eq_some_iff.1 h1;obtain ⟨hl, rfl⟩ := List.getElem?_eq_some_iff.1 hy;exact ⟨hl, rfl⟩
theorem yD {f : Ky → Bool} : ∀ {l : List Ky} {n : Nat} {k : Ky}, (∀ x ∈ l.take n, f x = false) → l[n]? = some k → f k = true → l.find? f = some k
 | y :: l, 0, k, _, hk, hf => by
  rw [List.getElem?_cons_zero] at hk;obtain rfl := Option.some.inj hk;rw [List.find?_cons, hf]
 | y :: l, n + 1, k, hn, hk, hf => by
  rw [List.getElem?_cons_succ] at hk;rw [List.find?_cons, hn y (by simp)];exact yD (fun x hx => hn x (by rw [List.take_succ_cons]; exact List.mem_cons_of_mem _ hx)) hk hf
theorem xR {f : Ky → Bool} {l : List Ky} (h : ∀ x ∈ l, f x = false) : l.find? f = none := by
 rw [List.find?_eq_none];intro x hx;rw [h x hx]; decide
theorem KP {now : Int} {I : List It} {e : De} (h : e ∈ upto now (I.map It.de)) : e.k ∈ keys I := by
 unfold upto at h;have h1 := (List.mem_filter.1 h).1;have h2 := (yc (key := U8) (I.map It.de)).mem_iff.1 h1;obtain ⟨i, hi, rfl⟩ := List.mem_map.1 h2;exact List.mem_map.2 ⟨i, hi, rfl⟩
theorem Ki {S : Ss} {W : List En} {D : List (Option Bt)} {L : List Nm} (hq : Sq S W D L) {k : Ky} (h : k ∈ keys S.I) : ∃ e, Y0 W k = some e ∧ e ∈ W ∧ WC S.I k = some e.i ∧ free S.I k = decide (e.i.pins = 0) := by
 cases hb : WC S.I k with
 | none => exact absurd h (Wz.1 hb)
 | some i =>
  obtain ⟨e, hf, he, rfl, _⟩ := xQ hq hb;exact ⟨e, hf, he, rfl, by unfold free; rw [hb]⟩
theorem eP {now : Int} {S : Ss} {n : Nat} {e : De} (hn : ∀ x ∈ (upto now (S.I.map It.de)).take n, free S.I x.k = false) (he : (upto now (S.I.map It.de))[n]? = some e) (hf : free S.I e.k = true) : Ww now S = some e.k := by
 unfold Ww due;rw [List.find?_append];have : ((upto now (S.I.map It.de)).map (·.k)).find? (free S.I) = some e.k := yD (n := n) (fun x hx => by
  rw [← List.map_take] at hx;obtain ⟨y, hy, rfl⟩ := List.mem_map.1 hx;exact hn y hy) (by rw [List.getElem?_map, he]; rfl) hf
 rw [this]; rfl
theorem eO {now : Int} {S : Ss} (hn : ∀ x ∈ upto now (S.I.map It.de), free S.I x.k = false) : Ww now S = (S.P ++ S.Q).find? (free S.I) := by
 unfold Ww due;rw [List.find?_append];have : ((upto now (S.I.map It.de)).map (·.k)).find? (free S.I) = none := xR fun x hx => by
  obtain ⟨y, hy, rfl⟩ := List.mem_map.1 hx;exact hn y hy
 rw [this]; rfl
theorem Yj {α : Type} {L : List α} {n : Nat} (h : n < L.length) {p : α → Prop} (hp : ∀ x ∈ L.take n, p x) (hx : p L[n]) : ∀ x ∈ L.take (n + 1), p x := fun x hx' => by
 rw [List.take_succ_eq_append_getElem h] at hx';rcases List.mem_append.1 hx' with h1 | h1
 ·exact hp x h1
 ·rw [List.mem_singleton.1 h1]; exact hx
abbrev tH (p2 p4 p5 sb : Nat) (k : Ky) (b : Bool) : zo := [[(p2, .cells #[.pointer (some ⟨sb, 0, none⟩)] 63)], [(p4, .cells (Wo k) 43)], [(p5, .cells #[.bool b] 4)]]
theorem oO {sb N : Nat} {S : Ss} {H : List Chunk} (hS : Sr sb N S H) (now : Int) :
 zQ Tryz.prog 78 #[.pointer (some ⟨sb, 0, none⟩), .int .i64 now] [H] (fun r S' => r = .tuple #[.agg (Wo ((Ww now S).getD ⟨[], 0⟩)), .bool (Ww now S).isSome] ∧ S' = [H]) := by
 have hnb := hS.nb;obtain ⟨W, D, L, ab, tb, mb, lb, db, ev, HA, HT, HM, HL, HD, HV, h, rfl⟩ := hS;refine zQ.forget (zQ.iE (zm Tryz.Gb (Nat.le_of_ble_eq_true rfl) ?_));unfold Tryz.Ia;refine ze (z8 ?_);refine zh (iD (J7 rfl) fun p2 => ?_);refine zh (Zf fun p4 => ?_);refine zh (Zf fun p5 => ?_);refine zf (za (ze (ze (z8 ?_))));refine zh (zC rfl rfl ?_);refine yp (zG rfl) (yp (zn rfl) ?_);refine zh (zC rfl rfl ?_);refine yp (pI rfl) ?_;refine zh (zk fq rfl rfl fun r S' h => ?_);obtain ⟨bd, ba, rfl, rfl⟩ := h;refine zf (za (zw ?_));have hdl : (S.I.map It.de).length < 2 ^ 38 := by rw [List.length_map]; omega
 have hmemT : ∀ {e : En}, e ∈ W → ∀ {X : zo}, jK e ∈ X ++ Es W := fun he X => List.mem_append.2 (.inr (xY he))
 refine XD (fun pre T => (∀ x ∈ (upto now (S.I.map It.de)).take pre.length, free S.I x.k = false) ∧ zD T (tH p2 p4 p5 sb ⟨[], 0⟩ false ++ (wm sb ab tb mb lb db ev :: HA :: HT :: HM :: HL :: HD :: HV :: Es W)))
  (fun e pre T => e = .ret ∧ ∃ k, Ww now S = some k ∧ zD T (tH p2 p4 p5 sb k true ++ (wm sb ab tb mb lb db ev :: HA :: HT :: HM :: HL :: HD :: HV :: Es W)))
  rfl rfl (jw (db := db) (bd := bd) (ba := ba) (S0 := tH p2 p4 p5 sb ⟨[], 0⟩ false ++ (wm sb ab tb mb lb db ev :: HA :: HT :: HM :: HL :: HV :: Es W)) h.d hdl now) ⟨by simp, .of⟩ ?_ ?_ ?_ ?_
 ·intro pre x hx;obtain ⟨_, rfl⟩ := pfx hx;rfl
 ·rintro l pre x T hx ⟨hn, hJ⟩;obtain ⟨hl, rfl⟩ := pfx hx;have hm := List.getElem_mem hl;have hg : (upto now (S.I.map It.de))[pre.length]? = some (upto now (S.I.map It.de))[pre.length] := List.getElem?_eq_getElem hl;have hst := Yj hl hn;generalize (upto now (S.I.map It.de))[pre.length] = d at hm hg hst;obtain ⟨e, hf, he, hb, hfr⟩ := Ki h.q (KP hm);refine zq hJ (z8 ?_);refine zh (Zf fun p6 => ?_);refine zh (V8 rfl rfl rfl rfl rfl ?_);refine zf (za (zw (ze (zX (Z5 rfl rfl (zi (zG rfl) (zi (zn rfl) (Z5 rfl rfl (WE rfl rfl ?_)))))))));refine Zm (Vr h.m (by repeat (first | exact List.mem_cons_self | apply List.mem_cons_of_mem)) d.k Ub mI om rfl rfl (jL hf) ⟨fun _ h => h, ?_⟩) zM;refine zi (zG rfl) (zi (zn rfl) (iJ (v := .int .i64 e.i.pins) (by repeat (first | exact xY he | apply List.mem_cons_of_mem)) rfl rfl (zi (WG rfl rfl) (zL (za ?_)))));by_cases hp : e.i.pins = 0
  ·rw [decide_eq_true hp] at hfr ⊢;have hnx := eP hn hg hfr;refine zJ rfl (ze (z8 ?_));refine zh (Zu rfl rfl ?_);refine zh (V8 rfl rfl rfl rfl rfl ?_);refine zh (ZL rfl rfl (tC rfl) ?_);refine zf (za (zI (bret ?_)));exact ⟨rfl, d.k, hnx, .of⟩
  ·rw [decide_eq_false hp] at hfr ⊢;refine zA rfl (zu (zS ?_));exact ⟨by rw [List.length_append]; exact hst hfr, .of⟩
 ·rintro xs S' hd ⟨hn, hJ⟩;have hxl : xs.length = (upto now (S.I.map It.de)).length := by rw [hd, List.length_map]
  rw [hxl, List.take_length] at hn;have hnx := eO (now := now) (S := S) hn;refine zS (za ?_);refine zq hJ (ze (ze (z8 ?_)));refine zh (zC rfl rfl ?_);refine yp (zG rfl) (yp (zn rfl) ?_);refine zh (zC rfl rfl ?_);refine zh (zk mE rfl rfl fun r S' h => ?_);obtain ⟨bl, rfl, rfl⟩ := h;refine zf (za (zw ?_));refine XD (fun pre T => (∀ x ∈ (S.P ++ S.Q).take pre.length, free S.I x = false) ∧ zD T (tH p2 p4 p5 sb ⟨[], 0⟩ false ++ (wm sb ab tb mb lb db ev :: HA :: HT :: HM :: HL :: HD :: HV :: Es W)))
   (fun e pre T => e = .ret ∧ ∃ k, Ww now S = some k ∧ zD T (tH p2 p4 p5 sb k true ++ (wm sb ab tb mb lb db ev :: HA :: HT :: HM :: HL :: HD :: HV :: Es W)))
   rfl rfl (QW (bl := bl) (S0 := tH p2 p4 p5 sb ⟨[], 0⟩ false ++ (wm sb ab tb mb lb db ev :: HA :: HT :: HM :: HD :: HV :: Es W)) h.l (by omega) (by omega)) ⟨by simp, .of⟩ ?_ ?_ ?_ ?_
  ·intro pre x hx;obtain ⟨_, rfl⟩ := pfx hx;rfl
  ·rintro l pre x T hx ⟨hn2, hJ⟩;obtain ⟨hl, rfl⟩ := pfx hx;have hm := List.getElem_mem hl;have hg : (S.P ++ S.Q)[pre.length]? = some (S.P ++ S.Q)[pre.length] := List.getElem?_eq_getElem hl;have hst := Yj hl hn2;generalize (S.P ++ S.Q)[pre.length] = d at hm hg hst;obtain ⟨e, hf, he, hb, hfr⟩ := Ki h.q (h.q.pq.mem_iff.1 hm);refine zq hJ (z8 ?_);refine zh (Zf fun p7 => ?_);refine zh (V8 rfl rfl rfl rfl rfl ?_);refine zf (za (zw (ze (zX (Z5 rfl rfl (zi (zG rfl) (zi (zn rfl) (Z5 rfl rfl (WE rfl rfl ?_)))))))));refine Zm (Vr h.m (by repeat (first | exact List.mem_cons_self | apply List.mem_cons_of_mem)) d Ub mI om rfl rfl (jL hf) ⟨fun _ h => h, ?_⟩) zM;refine zi (zG rfl) (zi (zn rfl) (iJ (v := .int .i64 e.i.pins) (by repeat (first | exact xY he | apply List.mem_cons_of_mem)) rfl rfl (zi (WG rfl rfl) (zL (za ?_)))));by_cases hp : e.i.pins = 0
   ·rw [decide_eq_true hp] at hfr ⊢;refine zJ rfl (ze (z8 ?_));refine zh (Zu rfl rfl ?_);refine zh (V8 rfl rfl rfl rfl rfl ?_);refine zh (ZL rfl rfl (tC rfl) ?_);refine zf (za (zI (bret ?_)));exact ⟨rfl, d, by rw [hnx]; exact yD hn2 hg hfr, .of⟩
   ·rw [decide_eq_false hp] at hfr ⊢;refine zA rfl (zu (zS ?_));exact ⟨by rw [List.length_append]; exact hst hfr, .of⟩
  ·rintro xs S' hd ⟨hn2, hJ⟩;have hxl : xs.length = (S.P ++ S.Q).length := by rw [hd, List.length_map]
   rw [hxl, List.take_length] at hn2;rw [xR hn2] at hnx;refine zS (za ?_);refine zq hJ (ze (z8 (yp U0 ?_)));refine zh (V8 rfl rfl rfl rfl rfl ?_);refine zh (ZL rfl rfl (tC rfl) ?_);refine zf (za (zI ?_));rw [hnx];exact zH (XR (lD (b := p4) mX qE rfl rfl) (EI (b := p5) sW rfl)) ⟨_, zD.sp, rfl, rfl⟩
  ·rintro e pre S' _ ⟨rfl, k, hk, hJ⟩;rw [hk];refine bret (zV ?_);exact zH (Yu hJ (XR (lD (b := p4) mX qE rfl rfl) (EI (b := p5) sW rfl))) ⟨_, hJ.trans zD.sp, rfl, rfl⟩
 ·rintro e pre S' _ ⟨rfl, k, hk, hJ⟩;rw [hk];refine bret (zV ?_);exact zH (Yu hJ (XR (lD (b := p4) mX qE rfl rfl) (EI (b := p5) sW rfl))) ⟨_, hJ.trans zD.sp, rfl, rfl⟩
end Go.Proofs.YtejmbmenbailmaaGreat