/- Stores (chapter 10): Put. -/
import Derived.Test.YtejmbmenbailmaaGreatStG
namespace Go.Proofs.YtejmbmenbailmaaGreat
open Go.Xs
open Enc (enc)
instance (priority := low) Sub.appSuf {A S : zo} : Sub (A ++ S) S A := ⟨by rw [List.flatten_append]; exact List.perm_append_comm⟩
theorem zC.Ij {sb ab tb mb lb db : Nat} {ev : Value} {HA HT HM HL HD HV : List Chunk} {W : List En} {S0 : zo} : zC (sH sb ab tb mb lb db ev HA HT HM HL HD HV W :: S0) (ZX sb ab tb mb lb db ev :: HA :: HT :: HM :: HL :: HD :: HV :: (Es W ++ S0)) := ⟨[], by simp [sH]⟩
theorem zC.add {x : List Chunk} {S G S0 : zo} {sb ab tb mb lb db : Nat} {ev : Value} {HA HT HM HL HD HV : List Chunk} {W : List En} {e : En} (hx : x = jy e) [h : Sub S (x :: ZX sb ab tb mb lb db ev :: HA :: HT :: HM :: HL :: HD :: HV :: (Es W ++ S0)) G] :
 zC S (sH sb ab tb mb lb db ev HA HT HM HL HD HV (W ++ [e]) :: S0) := zC.trans (zC.of (h := h)) ⟨[], by
 subst hx;have e1 : Es (W ++ [e]) = Es W ++ [jy e] := qb W [e];simp only [sH, e1, List.flatten_cons, List.flatten_nil, List.flatten_append, List.append_nil, List.append_assoc];have := (UF [] (ZX sb ab tb mb lb db ev ++ (HA ++ (HT ++ (HM ++ (HL ++ (HD ++ (HV ++ (Es W).flatten))))))) (jy e) S0.flatten).symm;simpa only [List.nil_append, List.append_assoc] using this⟩
theorem zC.Il {x y : List Chunk} {S G S0 : zo} {sb ab tb mb lb db : Nat} {ev : Value} {HA HT HM HL HD HV : List Chunk} {W : List En} [h : Sub S (x :: y :: ZX sb ab tb mb lb db ev :: HA :: HT :: HM :: HL :: HD :: HV :: (Es W ++ S0)) G] : zC S (x :: y :: sH sb ab tb mb lb db ev HA HT HM HL HD HV W :: S0) := zC.trans (zC.of (h := h)) ⟨[], by simp [sH]⟩
theorem zC.Iw {S G S0 : zo} {sb ab tb mb lb db : Nat} {ev : Value} {HA HT HM HL HD HV : List Chunk} {W : List En} [h : Sub S (ZX sb ab tb mb lb db ev :: HA :: HT :: HM :: HL :: HD :: HV :: (Es W ++ S0)) G] : zC S (sH sb ab tb mb lb db ev HA HT HM HL HD HV W :: S0) := zC.trans (zC.of (h := h)) ⟨[], by simp [sH]⟩
theorem zP.op {P : Program} {f : FuncId} {args : Array Value} {R : Value → zo → Prop} {sb ab tb mb lb db : Nat} {ev : Value} {HA HT HM HL HD HV : List Chunk} {W : List En} (h : zP P f args [sH sb ab tb mb lb db ev HA HT HM HL HD HV W] R) : zP P f args (ZX sb ab tb mb lb db ev :: HA :: HT :: HM :: HL :: HD :: HV :: Es W) R := h.perm (by simp [sH])
theorem iF {sb ab tb mb lb db N : Nat} {ev : Value} {D : List (Option Bt)} {HA : List Chunk} (hA : Ar ab N D HA) : zP Tryz.prog 37 #[.pointer (some ⟨sb, 0, none⟩)] [ZX sb ab tb mb lb db ev, HA] (fun r S' => r = .int .i64 ((N - Zd D : Nat) : Int) ∧ S' = [ZX sb ab tb mb lb db ev, HA]) := by
 refine zP.forget (zm Tryz.G9 (Nat.le_of_ble_eq_true rfl) ?_);unfold Tryz.I5;refine ze (z8 (yp pC (zf (za (ze (ze (z8 (yp (pP rfl) (yp (ZM rfl rfl) (zf (za (zA rfl (zu (za (ze (z8 (yp (pP rfl) (yp (zG rfl) (yp (zn rfl) ?_)))))))))))))))))));refine zh (zB rfl rfl ?_);refine zh (zk (mD hA) rfl rfl fun r S' h => ?_);obtain ⟨rfl, rfl⟩ := h;refine yp (pI rfl) (zf (za (zJ ?_)));exact zI (rI rfl) ⟨_, .of, rfl, rfl⟩
theorem lG {now : Int} {S : Ss} {k : Ky} (h : VB now S = some k) : ∃ i, WM S.I k = some i ∧ i.pins = 0 := by
 have hf := List.find?_some h;unfold free at hf;cases hb : WM S.I k with
 | none => rw [hb] at hf; cases hf
 | some i => rw [hb] at hf; exact ⟨i, rfl, of_decide_eq_true hf⟩
theorem UJ {I : List It} (hn : (keys I).Nodup) {k : Ky} {i : It} (h : WM I k = some i) : I.length = (vJ I k).length + 1 := by
 obtain ⟨hi, rfl⟩ := jG h;clear h
 induction I with
 | nil => simp at hi
 | cons j I ih =>
  have hn2 := List.nodup_cons.1 hn;unfold vJ at ih ⊢;rw [List.filter_cons];by_cases hj : j.k = i.k
  ·rw [if_neg (by simp [hj]), List.filter_eq_self.2, List.length_cons];intro y hy;have : y.k ≠ i.k := fun q => hn2.1 (List.mem_map.2 ⟨y, hy, q.trans hj.symm⟩)
   simpa using this
  ·rw [if_pos (by simp [hj]), List.length_cons, List.length_cons, ih hn2.2 ?_];rcases List.mem_cons.1 hi with rfl | hi
   ·exact absurd rfl hj
   ·exact hi
theorem mo {I : List It} {k k' : Ky} (h : WM I k = none) : WM (vJ I k') k = none := by
 rw [vB] at h ⊢;rw [uV];exact fun hm => h (List.mem_filter.1 hm).1
theorem fV (I : List It) (k : Ky) : WM (vJ I k) k = none := by
 rw [vB, uV];intro hm;have := (List.mem_filter.1 hm).2;simp at this
theorem bS {N : Nat} {K k : Ky} {s : St} {rank now exp : Int} {S : Ss} {i : It} (hn : (keys S.I).Nodup) (h : UO N S < uo (sets S.I) s) (hk : VB now S = some k) (hb : WM S.I k = some i) : Ue N K s rank now exp S = Ue N K s rank now exp (aL k S) := by
 have hl := UJ hn hb;unfold Ue;have e1 : uz N now s S.I.length S = uz N now s (aL k S).I.length (aL k S) := by
  rw [hl, uz, if_pos h, hk]; rfl
 rw [e1]
theorem ow {N : Nat} {K : Ky} {s : St} {rank now exp : Int} {S : Ss} (h : UO N S < uo (sets S.I) s) (hk : VB now S = none) : Ue N K s rank now exp S = (S, 4) := by
 unfold Ue;have e1 : uz N now s S.I.length S = (S, false) := by
  cases S.I.length with
  | zero => rw [uz, decide_eq_false (by omega)]
  | succ n => rw [uz, if_pos h, hk]
 rw [e1]
theorem bT {N : Nat} {K : Ky} {s : St} {rank now exp : Int} {S : Ss} (h : ¬ UO N S < uo (sets S.I) s) : Ue N K s rank now exp S = (⟨S.I ++ [⟨K, s, rank, now, exp, 0⟩], S.P ++ [K], S.Q, S.V⟩, 0) := by
 unfold Ue;have e1 : uz N now s S.I.length S = (S, true) := by
  cases S.I.length with
  | zero => rw [uz, decide_eq_true (by omega)]
  | succ n => rw [uz, if_neg h]
 rw [e1]
theorem Sr.kn {sb N : Nat} {S : Ss} {H : List Chunk} (h : Sr sb N S H) : (keys S.I).Nodup := by
 obtain ⟨W, D, L, ab, tb, mb, lb, db, ev, HA, HT, HM, HL, HD, HV, h, rfl⟩ := h;exact h.q.kn
abbrev dx (p6 : Nat) (s : St) (v : Value) : List Chunk := [(p6, .cells (aJ s v) 46)]
abbrev JA (p : Nat) (k : Ky) : List Chunk := [(p, .cells (Wn k) 43)]
set_option maxRecDepth 10000 in
set_option maxHeartbeats 1000000 in
theorem qC {sb N : Nat} {S : Ss} {H : List Chunk} {S0 : zo} {s : St} {v : Value} (hS : Sr sb N S H) (hs : jQ s) (hv : Src S0 v s.rrs) (hV : S.V.length + S.I.length < 2 ^ 30) (rank now exp : Int) :
 zP Tryz.prog 29 #[.pointer (some ⟨sb, 0, none⟩), .agg (aJ s v), .int .i64 rank, .int .i64 now, .int .i64 exp] (H :: S0) (fun r S' => r = .int .i64 (UD N s rank now exp S).2 ∧ ∃ H', Sr sb N (UD N s rank now exp S).1 H' ∧ S' = H' :: S0) := by
 have hsn := hs.name;refine zP.forget (zm Tryz.Gg (Nat.le_of_ble_eq_true rfl) ?_);unfold Tryz.x29;obtain ⟨va, vc, rfl⟩ := hv.isSlice;refine ze (z8 ?_);refine zh (Zr rfl fun p6 => ?_);refine yp pC (zf (za (ze (ze (z8 ?_)))));refine zh (Zk rfl rfl ?_);refine zh (zk (kQ hs hv) rfl rfl fun r S' h => ?_);obtain ⟨rfl, h⟩ := h;have h := h.symm;subst h;rcases Decidable.em (wz s ≠ 0) with hE | hE
 ·have hP : UD N s rank now exp S = (S, wz s) := by unfold UD; rw [if_pos hE]
  rw [hP];refine yp (pU rfl) (yp (pExt rfl rfl) (yp (pExt rfl rfl) (yp (pI rfl) (yp (pI rfl) (zf (za (ze (z8 (yp (pI rfl) (yp (Xb rfl rfl) (zf (za ?_))))))))))));rw [decide_eq_false hE];refine zH rfl (ze (z8 (yp (pI rfl) (yp (pI rfl) (zf (za (zJ (zV ?_))))))));exact zI (rI rfl) ⟨_, .of, rfl, _, hS, rfl⟩
 have hE := Decidable.not_not.1 hE;have hP0 : UD N s rank now exp S = if qW rank now exp = false then (S, 1) else Jk N s rank now exp S := by unfold UD; rw [if_neg (by rw [hE]; decide)]
 rw [hE];refine yp (pU rfl) (yp (pExt rfl rfl) (yp (pExt rfl rfl) (yp (pI rfl) (yp (pI rfl) (zf (za (ze (z8 (yp (pI rfl) (yp (Xb rfl rfl) (zf (za (zA rfl (zu (za ?_)))))))))))))));refine Y7 (fun E S' => Has E [(0, .pointer (some ⟨sb, 0, none⟩)), (2, .int .i64 rank), (3, .int .i64 now), (4, .int .i64 exp), (6, .pointer (some ⟨p6, 0, none⟩))] ∧ qW rank now exp = true ∧ zC S' (dx p6 s (.slice va s.rrs.length vc) :: H :: S0)) ?_ fun E S' ⟨hE2, hok, hJ⟩ => ?_
 ·have hbad : qW rank now exp = false → UD N s rank now exp S = (S, 1) := fun h => by rw [hP0, if_pos h]
  refine ze (z8 (yp (pI rfl) ?_));refine zh (zk (Uw now 1099511627776) rfl rfl fun r S' h => ?_);obtain ⟨rfl, rfl⟩ := h;cases h1 : jU now 1099511627776 with
  | false =>
   rw [hbad (by unfold qW; rw [h1]; rfl)];refine yp (Zi rfl) (yp (pB rfl) (Z0 rfl (Z0 rfl (Z0 rfl (yp (zM rfl rfl) (yp (pB rfl) (Z0 rfl (Z0 rfl (Z0 rfl (yp (zM rfl rfl) (yp (pB rfl) (Z0 rfl (Z0 rfl (Z0 rfl (yp (zM rfl rfl) (zf (za (zH rfl (ze (z8 (yp pC (zf (za (zJ (zV ?_)))))))))))))))))))))))));exact zI (rI rfl) ⟨_, .of, rfl, _, hS, rfl⟩
  | true =>
   refine yp (Zi rfl) (yp (pB rfl) (zZ rfl (Zb (pI rfl) (zZ rfl ?_))));refine zk (Uw exp 1099511627776) rfl rfl fun r S' h => ?_
   obtain ⟨rfl, rfl⟩ := h;cases h2 : jU exp 1099511627776 with
   | false =>
    rw [hbad (by unfold qW; rw [h1, h2]; rfl)];refine zZ rfl (Zb (Zi rfl) (yp (zS rfl rfl) (yp (pB rfl) (Z0 rfl (Z0 rfl (Z0 rfl (yp (zM rfl rfl) (yp (pB rfl) (Z0 rfl (Z0 rfl (Z0 rfl (yp (zM rfl rfl) (zf (za (zH rfl (ze (z8 (yp pC (zf (za (zJ (zV ?_))))))))))))))))))))));exact zI (rI rfl) ⟨_, .of, rfl, _, hS, rfl⟩
   | true =>
    refine zZ rfl (Zb (Zi rfl) (yp (zS rfl rfl) (yp (pB rfl) (zZ rfl (Zb (pI rfl) (zZ rfl (Zb (pI rfl) (zZ rfl (Zb (jW rfl rfl) (yp (zS rfl rfl) (yp (pB rfl) ?_)))))))))));by_cases h3 : exp ≤ now
    ·rw [hbad (by unfold qW; rw [h1, h2, decide_eq_true h3]; rfl)];rw [decide_eq_true h3];refine Z0 rfl (Z0 rfl (Z0 rfl (yp (zM rfl rfl) (zf (za (zH rfl (ze (z8 (yp pC (zf (za (zJ (zV ?_)))))))))))));exact zI (rI rfl) ⟨_, .of, rfl, _, hS, rfl⟩
    ·rw [decide_eq_false h3];refine zZ rfl (Zb (pI rfl) (zZ rfl ?_));refine zk (Uw rank 9) rfl rfl fun r S' h => ?_
     obtain ⟨rfl, rfl⟩ := h;cases h4 : jU rank 9 with
     | false =>
      rw [hbad (by unfold qW; rw [h4]; simp)];refine zZ rfl (Zb (Zi rfl) (yp (zS rfl rfl) (zf (za (zH rfl (ze (z8 (yp pC (zf (za (zJ (zV ?_))))))))))));exact zI (rI rfl) ⟨_, .of, rfl, _, hS, rfl⟩
     | true =>
      refine zZ rfl (Zb (Zi rfl) (yp (zS rfl rfl) (zf (za (zA rfl (zu (za ?_)))))));exact ⟨⟨rfl, rfl, rfl, rfl, rfl, trivial⟩, by unfold qW; rw [h1, h2, decide_eq_false h3, h4]; rfl, .of⟩
 rw [hok, if_neg (by decide)] at hP0;obtain ⟨E0, e0⟩ := zy hE2; subst e0; clear hE2;refine zq hJ (ze (ze (z8 (yp (pP rfl) (yp (ZM rfl rfl) (zf (za (zA rfl (zu (za (ze (z8 (yp (zn rfl) ?_)))))))))))));refine zh (wm (l := [sv s.name, .int .i64 s.typ]) rfl rfl rfl ?_);refine zh (zk (kD ⟨s.name, s.typ⟩ (by show s.name.length < _; omega)) rfl rfl fun r S' h => ?_);obtain ⟨rfl, rfl⟩ := h;show YL _ _ _ _ _ (Zf _ (.agg (Wn (Z6 s))) _) _;refine zh (Ze fun p13 => ?_);refine zh (WG rfl rfl rfl rfl rfl ?_);refine zf (za ?_);refine Y7 (fun E S' => Has E [(0, .pointer (some ⟨sb, 0, none⟩)), (2, .int .i64 rank), (3, .int .i64 now), (4, .int .i64 exp), (6, .pointer (some ⟨p6, 0, none⟩)), (13, .pointer (some ⟨p13, 0, none⟩))] ∧ ∃ S1 H1, Sr sb N S1 H1 ∧ WM S1.I (Z6 s) = none ∧ UD N s rank now exp S = Ue N (Z6 s) s rank now exp S1 ∧ S1.V.length + S1.I.length < 2 ^ 30 ∧ zC S' (JA p13 (Z6 s) :: dx p6 s (.slice va s.rrs.length vc) :: H1 :: S0)) ?_ fun E S' ⟨hE2, S1, H1, hS1, hb1, hP1, hV1, hJ⟩ => ?_
 ·have hS' := hS;obtain ⟨W, D, L, ab, tb, mb, lb, db, ev, HA, HT, HM, HL, HD, HV, h, rfl⟩ := hS;refine zq (S0 := JA p13 (Z6 s) :: dx p6 s (.slice va s.rrs.length vc) :: sH sb ab tb mb lb db ev HA HT HM HL HD HV W :: S0) zC.of (zq (zC.cons (zC.cons zC.Ij)) (ze (zX (zi (pP rfl) (zi (zG rfl) (zi (zn rfl) (Z7 rfl rfl (Wz rfl rfl ?_))))))));cases hb : WM S.I (Z6 s) with
  | none =>
   refine zN (Vj h.m (by repeat (first | exact List.mem_cons_self | apply List.mem_cons_of_mem)) (Z6 s) U7 lS nS rfl rfl (DU (xQ h.q hb)) ?_) zO;refine zi (pP rfl) (zL (za (ze (z8 (yp (pP rfl) (yp (kT rfl rfl) (zf (za (zA rfl (zu (za ?_)))))))))));exact ⟨⟨rfl, rfl, rfl, rfl, rfl, rfl, trivial⟩, S, _, hS', hb, hP0.trans (Yo hb), hV, zC.Il⟩
  | some i =>
   have hP1 := hP0.trans (xH hb);obtain ⟨e, hf, he, rfl, hek⟩ := Uk h.q hb;refine zN (Vj h.m (by repeat (first | exact List.mem_cons_self | apply List.mem_cons_of_mem)) (Z6 s) U7 lS nS rfl rfl (jA hf) ?_) zO;refine zi (pP rfl) (zL (za (ze (z8 (yp (pP rfl) (yp (kT rfl rfl) (zf (za (zH rfl (ze (ze (z8 (yp (pP rfl) (yp (zG rfl) (yp (zn rfl) ?_)))))))))))))));refine zh (XC (v := .int .i64 e.i.pins) (by repeat (first | exact List.mem_append.2 (.inl (xX he)) | apply List.mem_cons_of_mem)) rfl rfl ?_);refine yp (Vs rfl rfl) (zf (za ?_));by_cases hp : 0 < e.i.pins
   ·rw [decide_eq_true hp];rw [if_pos hp] at hP1;rw [hP1];refine zH rfl (ze (z8 (yp pC (zf (za (zJ (zV (zV ?_))))))));exact zI (rI rfl) ⟨_, zC.Iw, rfl, _, hS', rfl⟩
   ·rw [decide_eq_false hp];rw [if_neg hp] at hP1;refine zA rfl (zu (za (z8 (yp (pP rfl) ?_))));refine zh (Zk rfl rfl ?_);refine zh (zk (zP.op (Jb hS' hb)) rfl rfl fun r S' h => ?_);obtain ⟨rfl, H1, hS1, rfl⟩ := h;refine zf (za ?_);have hol := UJ hS'.kn hb;exact ⟨⟨rfl, rfl, rfl, rfl, rfl, rfl, trivial⟩, _, H1, hS1, fV _ _, hP1, by show S.V.length + (vJ S.I (Z6 s)).length < _; omega, .of⟩
 rw [hP1];clear hP1 hP0 hS hV;obtain ⟨E0, e0⟩ := zy hE2; subst e0; clear hE2;refine zq hJ ?_;generalize hR : Ue N (Z6 s) s rank now exp S1 = R;refine ze (zw ?_);refine Z9 (σ := Ss) (fun S2 E S' => Has E [(0, .pointer (some ⟨sb, 0, none⟩)), (2, .int .i64 rank), (3, .int .i64 now), (4, .int .i64 exp), (6, .pointer (some ⟨p6, 0, none⟩)), (13, .pointer (some ⟨p13, 0, none⟩))] ∧ WM S2.I (Z6 s) = none ∧ Ue N (Z6 s) s rank now exp S2 = R ∧ S2.V.length + S2.I.length < 2 ^ 30 ∧ ∃ H2, Sr sb N S2 H2 ∧ zC S' (JA p13 (Z6 s) :: dx p6 s (.slice va s.rrs.length vc) :: H2 :: S0)) (fun S2 => S2.I.length) S1 ⟨⟨rfl, rfl, rfl, rfl, rfl, rfl, trivial⟩, hb1, hR, hV1, H1, hS1, .of⟩ fun S2 E S' ⟨hE2, hb2, hP2, hV2, H2, hS2, hJ⟩ => ?_
 clear hS1 hb1 hV1 hR;have hS2' := hS2;obtain ⟨W, D, L, ab, tb, mb, lb, db, ev, HA, HT, HM, HL, HD, HV, h, rfl⟩ := hS2;have hnb := h.nb;obtain ⟨E0, e0⟩ := zy hE2; subst e0; clear hE2;refine zq hJ (zq (zC.cons (zC.cons zC.Ij)) (ze (ze (zX (zi (pP rfl) (zi (zG rfl) (zi (zn rfl) (Z7 rfl rfl (Wz rfl rfl (zi (pP rfl) ?_))))))))));have hv' : Src (Es W ++ S0) (.slice va s.rrs.length vc) s.rrs := Src.mono hv fun _ hs => List.mem_append.2 (.inr hs)
 refine zN (zk (oM (S := Es W ++ S0) h.t hs hv') rfl rfl fun r S' h => ?_) zO;obtain ⟨rfl, rfl⟩ := h;refine zN (zk (iF (sb := sb) (tb := tb) (mb := mb) (lb := lb) (db := db) (ev := ev) h.a) rfl rfl fun r S' h => ?_) zO;obtain ⟨rfl, rfl⟩ := h;rw [h.q.cost, h.q.left];refine zi (Vs rfl rfl) (zL (za ?_));by_cases hc : UO N S2 < uo (sets S2.I) s
 ·rw [decide_eq_true hc];refine zH rfl (zu (za (zw ?_)));refine zq (S0 := JA p13 (Z6 s) :: dx p6 s (.slice va s.rrs.length vc) :: sH sb ab tb mb lb db ev HA HT HM HL HD HV W :: S0) ?_ ?_
  ·exact zC.Il
  refine ze (z8 (yp (pP rfl) (yp (pI rfl) ?_)));refine zh (zk (oo hS2' now) rfl rfl fun r S' h => ?_);obtain ⟨rfl, rfl⟩ := h;cases hn : VB now S2 with
  | none =>
   rw [← hP2, ow hc hn];refine yp (pU rfl) (yp (pExt rfl rfl) (yp (pExt rfl rfl) ?_));refine zh (Ze fun p15 => ?_);refine zh (WG rfl rfl rfl rfl rfl ?_);refine yp (pB rfl) (zf (za (ze (ze (z8 (yp (pB rfl) (yp (Zi rfl) (zf (za (zH rfl (ze (z8 (yp pC (zf (za (zJ (zV (bret (zV (bret (zV ?_)))))))))))))))))))));exact zI (rI rfl) ⟨_, .of, rfl, _, hS2', rfl⟩
  | some k =>
   obtain ⟨i, hi, _⟩ := lG hn;refine yp (pU rfl) (yp (pExt rfl rfl) (yp (pExt rfl rfl) ?_));refine zh (Ze fun p15 => ?_);refine zh (WG rfl rfl rfl rfl rfl ?_);refine yp (pB rfl) (zf (za (ze (ze (z8 (yp (pB rfl) (yp (Zi rfl) (zf (za (zA rfl (zu (za (z8 (yp (pP rfl) ?_))))))))))))));refine zh (Zk rfl rfl ?_);refine zh (zk (qD hS2' hi (by omega)) rfl rfl fun r S' h => ?_);obtain ⟨rfl, H3, hS3, rfl⟩ := h;refine zf (zT (za ?_));have hol := UJ hS2'.kn hi;refine ⟨aL k S2, ⟨⟨rfl, rfl, rfl, rfl, rfl, rfl, trivial⟩, mo hb2, (bS hS2'.kn hc hn hi).symm.trans hP2, ?_, H3, hS3, .of⟩, ?_⟩
   ·show (S2.V ++ [k]).length + (vJ S2.I k).length < _;rw [List.length_append, List.length_singleton]; omega
   ·show (vJ S2.I k).length < _;omega
 ·rw [decide_eq_false hc];have hR := bT (K := Z6 s) (rank := rank) (now := now) (exp := exp) hc;rw [← hP2, hR];have hus := h.q.us hnb.2.1 hnb.1;refine zA rfl (Z4 (zF (zF (Z5 (za (ze (zX (zi (pP rfl) (zi (zG rfl) (zi (zn rfl) (Z7 rfl rfl (zi (pP rfl) (zi (zG rfl) (zi (zn rfl) (Z7 rfl rfl (Wz rfl rfl ?_))))))))))))))));refine zN (zk (oJ (S := Es W ++ S0) h.t h.a h.q.pk.inn h.q.pk.pos h.q.pk.hs hus hs hv') rfl rfl fun r S' hp => ?_) zO;have hfit : fits N D L s := by
   unfold fits;rw [h.q.cost];have := h.q.left (N := N);omega
  rcases hp with ⟨hp, _⟩ | ⟨_, hp, _⟩ | ⟨_, _, HT1, HA1, D1, rfl, hT1, hA1, hI1, hB1, _, rfl⟩
  ·exact absurd hE hp
  ·exact absurd hfit hp
  have hex := (jv hE hnb.2.1 ⟨by have := qE (VI hE).1; omega, (VI hE).2⟩ (XW (VI hE).1)).1 hfit;refine zi (pU rfl) (zi (pExt rfl rfl) (zi (pExt rfl rfl) (zi (pI rfl) (zi (pI rfl) (zL (za (ze (ze (z8 (yp (pI rfl) (yp (Xb rfl rfl) (zf (za (zA rfl (zu (za (ze (zX (zi (pP rfl) (zi (zG rfl) (zi (zn rfl) (Z7 rfl rfl (Wz rfl rfl (zi (pI rfl) (zi (pI rfl) (zi (pI rfl) (zi (pI rfl) (zi (v := .agg #[.int .i64 ((hnd (wE N D L (Z8 s)).D : Nat) : Int), .int .i64 rank, .int .i64 now, .int .i64 exp, .int .i64 0]) rfl ?_))))))))))))))))))))))))))));refine Zp (Zr rfl fun p112 => ⟨(by first | exact fun _ h => List.mem_cons_of_mem _ h | simp), ?_⟩) zO;refine zN (mJ h.m (Z6 s) (⟨some p112⟩ : Ptr) U7 lS rfl rfl rfl fun HM1 hM1 => ?_) zO;refine zL (za (ze (zX (zi (pP rfl) (zi (zG rfl) (zi (zn rfl) (Z7 rfl rfl (Wz rfl rfl ?_))))))));refine zN (zk (BI h.l (by omega) (by omega) (Z6 s)) rfl rfl fun r S' h => ?_) zO;obtain ⟨rfl, HL1, hL1, rfl⟩ := h;refine zL (za (ze (zX (zi (pP rfl) (zi (zG rfl) (zi (zn rfl) (Z7 rfl rfl (Wz rfl rfl (zi (pI rfl) ?_)))))))));refine zN (zk (BJ h.d (by rw [List.length_map]; omega) (Z6 s) exp) rfl rfl fun r S' h => ?_) zO;obtain ⟨rfl, HD1, hD1, rfl⟩ := h;refine zL (za (ze (z8 (yp pC (zf (za (zJ ?_)))))));have hfn := xQ h.q hb2;have hnk := vB.1 hb2;have hnP : ¬ (Z6 s ∈ S2.P ∨ Z6 s ∈ S2.Q) := fun hm => hnk (h.q.pq.mem_iff.1 (List.mem_append.2 hm))
  rw [gP, if_neg hnP] at hL1;rw [JJ hb2] at hD1;have hq := h.q.put hE hs hex.1 hI1 hB1 hb2 rank now exp p112;generalize hen : (⟨⟨Z6 s, s, rank, now, exp, 0⟩, ((hnd (wE N D L (Z8 s)).D : Nat) : Int), (wE N D L (Z8 s)).ids, p112⟩ : En) = en at hq;have hM2 : Mp mb (Xf (W ++ [en])) (W ++ [en]).length HM1 := by
   have e1 : Xf (W ++ [en]) = wI (Xf W) (Z6 s) (some (⟨some p112⟩ : Ptr)) := by rw [mg (by rw [← hen]; exact hfn), ← hen]
   have e2 : Xc (Xf W) (Z6 s) W.length = (W ++ [en]).length := by
    unfold Xc Xf;rw [hfn, List.length_append]; rfl
   rw [e1, ← e2]; exact hM1
  have hD2 : Du db ((S2.I ++ [(⟨Z6 s, s, rank, now, exp, 0⟩ : It)]).map It.de) HD1 := by rw [List.map_append]; exact hD1
  have hse : jy en = [(p112, .cells #[.int .i64 ((hnd (wE N D L (Z8 s)).D : Nat) : Int), .int .i64 rank, .int .i64 now, .int .i64 exp, .int .i64 0] 137)] := by rw [← hen]
  refine zI (rI rfl) ⟨_, ?_, rfl, _, Sr.mk ⟨hq, hA1, hT1, hM2, hL1, hD2, h.v⟩, rfl⟩;exact zC.add hse.symm
end Go.Proofs.YtejmbmenbailmaaGreat