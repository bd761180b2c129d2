/- Stores (chapter 10): Put. -/
import Derived.Test.YtejmbmenbailmaaGreatStG
namespace Go.Proofs.YtejmbmenbailmaaGreat
open Go.Xs
open Enc (enc)
instance (priority := low) Sub.appSuf {A S : zo} : Sub (A ++ S) S A := ⟨by rw [List.flatten_append]; exact List.perm_append_comm⟩
theorem zD.La {sb ab tb mb lb db : Nat} {ev : Value} {HA HT HM HL HD HV : List Chunk} {W : List En} {S0 : zo} : zD (sH sb ab tb mb lb db ev HA HT HM HL HD HV W :: S0) (wm sb ab tb mb lb db ev :: HA :: HT :: HM :: HL :: HD :: HV :: (Es W ++ S0)) := ⟨[], by simp [sH]⟩
theorem zD.add {x : List Chunk} {S G S0 : zo} {sb ab tb mb lb db : Nat} {ev : Value} {HA HT HM HL HD HV : List Chunk} {W : List En} {e : En} (hx : x = jK e) [h : Sub S (x :: wm sb ab tb mb lb db ev :: HA :: HT :: HM :: HL :: HD :: HV :: (Es W ++ S0)) G] :
 zD S (sH sb ab tb mb lb db ev HA HT HM HL HD HV (W ++ [e]) :: S0) := zD.trans (zD.of (h := h)) ⟨[], by
 subst hx;have e1 : Es (W ++ [e]) = Es W ++ [jK e] := qj W [e];simp only [sH, e1, List.flatten_cons, List.flatten_nil, List.flatten_append, List.append_nil, List.append_assoc];have := (UJ [] (wm sb ab tb mb lb db ev ++ (HA ++ (HT ++ (HM ++ (HL ++ (HD ++ (HV ++ (Es W).flatten))))))) (jK e) S0.flatten).symm;simpa only [List.nil_append, List.append_assoc] using this⟩
theorem zD.Le {x y : List Chunk} {S G S0 : zo} {sb ab tb mb lb db : Nat} {ev : Value} {HA HT HM HL HD HV : List Chunk} {W : List En} [h : Sub S (x :: y :: wm sb ab tb mb lb db ev :: HA :: HT :: HM :: HL :: HD :: HV :: (Es W ++ S0)) G] : zD S (x :: y :: sH sb ab tb mb lb db ev HA HT HM HL HD HV W :: S0) := zD.trans (zD.of (h := h)) ⟨[], by simp [sH]⟩
theorem zD.Lm {S G S0 : zo} {sb ab tb mb lb db : Nat} {ev : Value} {HA HT HM HL HD HV : List Chunk} {W : List En} [h : Sub S (wm sb ab tb mb lb db ev :: HA :: HT :: HM :: HL :: HD :: HV :: (Es W ++ S0)) G] : zD S (sH sb ab tb mb lb db ev HA HT HM HL HD HV W :: S0) := zD.trans (zD.of (h := h)) ⟨[], by simp [sH]⟩
theorem zQ.op {P : Program} {f : FuncId} {args : Array Value} {R : Value → zo → Prop} {sb ab tb mb lb db : Nat} {ev : Value} {HA HT HM HL HD HV : List Chunk} {W : List En} (h : zQ P f args [sH sb ab tb mb lb db ev HA HT HM HL HD HV W] R) : zQ P f args (wm sb ab tb mb lb db ev :: HA :: HT :: HM :: HL :: HD :: HV :: Es W) R := h.perm (by simp [sH])
theorem iU {sb ab tb mb lb db N : Nat} {ev : Value} {D : List (Option Bt)} {HA : List Chunk} (hA : Ar ab N D HA) : zQ Tryz.prog 37 #[.pointer (some ⟨sb, 0, none⟩)] [wm sb ab tb mb lb db ev, HA] (fun r S' => r = .int .i64 ((N - Zc D : Nat) : Int) ∧ S' = [wm sb ab tb mb lb db ev, HA]) := by
 refine zQ.forget (zm Tryz.CB (Nat.le_of_ble_eq_true rfl) ?_);unfold Tryz.EU;refine ze (z8 (yp pC (zf (za (ze (ze (z8 (yp (pP rfl) (yp (ZQ rfl rfl) (zf (za (zA rfl (zu (za (ze (z8 (yp (pP rfl) (yp (zG rfl) (yp (zn rfl) ?_)))))))))))))))))));refine zh (zC rfl rfl ?_);refine zh (zk (Qy hA) rfl rfl fun r S' h => ?_);obtain ⟨rfl, rfl⟩ := h;refine yp (pI rfl) (zf (za (zI ?_)));exact zH (rI rfl) ⟨_, .of, rfl, rfl⟩
theorem Q7 {now : Int} {S : Ss} {k : Ky} (h : Ww now S = some k) : ∃ i, WC S.I k = some i ∧ i.pins = 0 := by
 have hf := List.find?_some h;unfold free at hf;cases hb : WC S.I k with
 | none => rw [hb] at hf; cases hf
 | some i => rw [hb] at hf; exact ⟨i, rfl, of_decide_eq_true hf⟩
theorem VH {I : List It} (hn : (keys I).Nodup) {k : Ky} {i : It} (h : WC I k = some i) : I.length = (vL I k).length + 1 := by
 obtain ⟨hi, rfl⟩ := jR h;clear h
 induction I with
 | nil => simp at hi
 | cons j I ih =>
  have hn2 := List.nodup_cons.1 hn;unfold vL at ih ⊢;rw [List.filter_cons];by_cases hj : j.k = i.k
  ·rw [if_neg (by simp [hj]), List.filter_eq_self.2, List.length_cons];intro y hy;have : y.k ≠ i.k := fun q => hn2.1 (List.mem_map.2 ⟨y, hy, q.trans hj.symm⟩)
   simpa using this
  ·rw [if_pos (by simp [hj]), List.length_cons, List.length_cons, ih hn2.2 ?_];rcases List.mem_cons.1 hi with rfl | hi
   ·exact absurd rfl hj
   ·exact hi
theorem Qp {I : List It} {k k' : Ky} (h : WC I k = none) : WC (vL I k') k = none := by
 rw [Wz] at h ⊢;rw [U1];exact fun hm => h (List.mem_filter.1 hm).1
theorem gM (I : List It) (k : Ky) : WC (vL I k) k = none := by
 rw [Wz, U1];intro hm;have := (List.mem_filter.1 hm).2;simp at this
theorem j5 {N : Nat} {K k : Ky} {s : St} {rank now exp : Int} {S : Ss} {i : It} (hn : (keys S.I).Nodup) (h : Ue N S < uD (sets S.I) s) (hk : Ww now S = some k) (hb : WC S.I k = some i) : Uj N K s rank now exp S = Uj N K s rank now exp (KD k S) := by
 have hl := VH hn hb;unfold Uj;have e1 : uI N now s S.I.length S = uI N now s (KD k S).I.length (KD k S) := by
  rw [hl, uI, if_pos h, hk]; rfl
 rw [e1]
theorem cK {N : Nat} {K : Ky} {s : St} {rank now exp : Int} {S : Ss} (h : Ue N S < uD (sets S.I) s) (hk : Ww now S = none) : Uj N K s rank now exp S = (S, 4) := by
 unfold Uj;have e1 : uI N now s S.I.length S = (S, false) := by
  cases S.I.length with
  | zero => rw [uI, decide_eq_false (by omega)]
  | succ n => rw [uI, if_pos h, hk]
 rw [e1]
theorem cu {N : Nat} {K : Ky} {s : St} {rank now exp : Int} {S : Ss} (h : ¬ Ue N S < uD (sets S.I) s) : Uj N K s rank now exp S = (⟨S.I ++ [⟨K, s, rank, now, exp, 0⟩], S.P ++ [K], S.Q, S.V⟩, 0) := by
 unfold Uj;have e1 : uI N now s S.I.length S = (S, true) := by
  cases S.I.length with
  | zero => rw [uI, decide_eq_true (by omega)]
  | succ n => rw [uI, if_neg h]
 rw [e1]
theorem Sr.kn {sb N : Nat} {S : Ss} {H : List Chunk} (h : Sr sb N S H) : (keys S.I).Nodup := by
 obtain ⟨W, D, L, ab, tb, mb, lb, db, ev, HA, HT, HM, HL, HD, HV, h, rfl⟩ := h;exact h.q.kn
abbrev dH (p6 : Nat) (s : St) (v : Value) : List Chunk := [(p6, .cells (aS s v) 46)]
abbrev fB (p : Nat) (k : Ky) : List Chunk := [(p, .cells (Wo k) 43)]
set_option maxRecDepth 10000 in
set_option maxHeartbeats 1000000 in
theorem KW {sb N : Nat} {S : Ss} {H : List Chunk} {S0 : zo} {s : St} {v : Value} (hS : Sr sb N S H) (hs : J4 s) (hv : Src S0 v s.rrs) (hV : S.V.length + S.I.length < 2 ^ 30) (rank now exp : Int) :
 zQ Tryz.prog 29 #[.pointer (some ⟨sb, 0, none⟩), .agg (aS s v), .int .i64 rank, .int .i64 now, .int .i64 exp] (H :: S0) (fun r S' => r = .int .i64 (uE N s rank now exp S).2 ∧ ∃ H', Sr sb N (uE N s rank now exp S).1 H' ∧ S' = H' :: S0) := by
 have hsn := hs.name;refine zQ.forget (zm Tryz.GR (Nat.le_of_ble_eq_true rfl) ?_);unfold Tryz.x29;obtain ⟨va, vc, rfl⟩ := hv.isSlice;refine ze (z8 ?_);refine zh (Zv rfl fun p6 => ?_);refine yp pC (zf (za (ze (ze (z8 ?_)))));refine zh (Zu rfl rfl ?_);refine zh (zk (kY hs hv) rfl rfl fun r S' h => ?_);obtain ⟨rfl, h⟩ := h;have h := h.symm;subst h;rcases Decidable.em (wD s ≠ 0) with hE | hE
 ·have hP : uE N s rank now exp S = (S, wD s) := by unfold uE; rw [if_pos hE]
  rw [hP];refine yp (pU rfl) (yp (pExt rfl rfl) (yp (pExt rfl rfl) (yp (pI rfl) (yp (pI rfl) (zf (za (ze (z8 (yp (pI rfl) (yp (xq rfl rfl) (zf (za ?_))))))))))));rw [decide_eq_false hE];refine zJ rfl (ze (z8 (yp (pI rfl) (yp (pI rfl) (zf (za (zI (zV ?_))))))));exact zH (rI rfl) ⟨_, .of, rfl, _, hS, rfl⟩
 have hE := Decidable.not_not.1 hE;have hP0 : uE N s rank now exp S = if KC rank now exp = false then (S, 1) else Ju N s rank now exp S := by unfold uE; rw [if_neg (by rw [hE]; decide)]
 rw [hE];refine yp (pU rfl) (yp (pExt rfl rfl) (yp (pExt rfl rfl) (yp (pI rfl) (yp (pI rfl) (zf (za (ze (z8 (yp (pI rfl) (yp (xq rfl rfl) (zf (za (zA rfl (zu (za ?_)))))))))))))));refine Ye (fun E S' => Has E [(0, .pointer (some ⟨sb, 0, none⟩)), (2, .int .i64 rank), (3, .int .i64 now), (4, .int .i64 exp), (6, .pointer (some ⟨p6, 0, none⟩))] ∧ KC rank now exp = true ∧ zD S' (dH p6 s (.slice va s.rrs.length vc) :: H :: S0)) ?_ fun E S' ⟨hE2, hok, hJ⟩ => ?_
 ·have hbad : KC rank now exp = false → uE N s rank now exp S = (S, 1) := fun h => by rw [hP0, if_pos h]
  refine ze (z8 (yp (pI rfl) ?_));refine zh (zk (UD now 1099511627776) rfl rfl fun r S' h => ?_);obtain ⟨rfl, rfl⟩ := h;cases h1 : KO now 1099511627776 with
  | false =>
   rw [hbad (by unfold KC; rw [h1]; rfl)];refine yp (Zi rfl) (yp (pB rfl) (Z4 rfl (Z4 rfl (Z4 rfl (yp (zO rfl rfl) (yp (pB rfl) (Z4 rfl (Z4 rfl (Z4 rfl (yp (zO rfl rfl) (yp (pB rfl) (Z4 rfl (Z4 rfl (Z4 rfl (yp (zO rfl rfl) (zf (za (zJ rfl (ze (z8 (yp pC (zf (za (zI (zV ?_)))))))))))))))))))))))));exact zH (rI rfl) ⟨_, .of, rfl, _, hS, rfl⟩
  | true =>
   refine yp (Zi rfl) (yp (pB rfl) (Z7 rfl (Ze (pI rfl) (Z7 rfl ?_))));refine zk (UD exp 1099511627776) rfl rfl fun r S' h => ?_
   obtain ⟨rfl, rfl⟩ := h;cases h2 : KO exp 1099511627776 with
   | false =>
    rw [hbad (by unfold KC; rw [h1, h2]; rfl)];refine Z7 rfl (Ze (Zi rfl) (yp (zU rfl rfl) (yp (pB rfl) (Z4 rfl (Z4 rfl (Z4 rfl (yp (zO rfl rfl) (yp (pB rfl) (Z4 rfl (Z4 rfl (Z4 rfl (yp (zO rfl rfl) (zf (za (zJ rfl (ze (z8 (yp pC (zf (za (zI (zV ?_))))))))))))))))))))));exact zH (rI rfl) ⟨_, .of, rfl, _, hS, rfl⟩
   | true =>
    refine Z7 rfl (Ze (Zi rfl) (yp (zU rfl rfl) (yp (pB rfl) (Z7 rfl (Ze (pI rfl) (Z7 rfl (Ze (pI rfl) (Z7 rfl (Ze (J8 rfl rfl) (yp (zU rfl rfl) (yp (pB rfl) ?_)))))))))));by_cases h3 : exp ≤ now
    ·rw [hbad (by unfold KC; rw [h1, h2, decide_eq_true h3]; rfl)];rw [decide_eq_true h3];refine Z4 rfl (Z4 rfl (Z4 rfl (yp (zO rfl rfl) (zf (za (zJ rfl (ze (z8 (yp pC (zf (za (zI (zV ?_)))))))))))));exact zH (rI rfl) ⟨_, .of, rfl, _, hS, rfl⟩
    ·rw [decide_eq_false h3];refine Z7 rfl (Ze (pI rfl) (Z7 rfl ?_));refine zk (UD rank 9) rfl rfl fun r S' h => ?_
     obtain ⟨rfl, rfl⟩ := h;cases h4 : KO rank 9 with
     | false =>
      rw [hbad (by unfold KC; rw [h4]; simp)];refine Z7 rfl (Ze (Zi rfl) (yp (zU rfl rfl) (zf (za (zJ rfl (ze (z8 (yp pC (zf (za (zI (zV ?_))))))))))));exact zH (rI rfl) ⟨_, .of, rfl, _, hS, rfl⟩
     | true =>
      refine Z7 rfl (Ze (Zi rfl) (yp (zU rfl rfl) (zf (za (zA rfl (zu (za ?_)))))));exact ⟨⟨rfl, rfl, rfl, rfl, rfl, trivial⟩, by unfold KC; rw [h1, h2, decide_eq_false h3, h4]; rfl, .of⟩
 rw [hok, if_neg (by decide)] at hP0;obtain ⟨E0, e0⟩ := zy hE2; subst e0; clear hE2;refine zq hJ (ze (ze (z8 (yp (pP rfl) (yp (ZQ rfl rfl) (zf (za (zA rfl (zu (za (ze (z8 (yp (zn rfl) ?_)))))))))))));refine zh (w9 (l := [sv s.name, .int .i64 s.typ]) rfl rfl rfl ?_);refine zh (zk (kK ⟨s.name, s.typ⟩ (by show s.name.length < _; omega)) rfl rfl fun r S' h => ?_);obtain ⟨rfl, rfl⟩ := h;show YL _ _ _ _ _ (Zd _ (.agg (Wo (Z9 s))) _) _;refine zh (Zf fun p13 => ?_);refine zh (V8 rfl rfl rfl rfl rfl ?_);refine zf (za ?_);refine Ye (fun E S' => Has E [(0, .pointer (some ⟨sb, 0, none⟩)), (2, .int .i64 rank), (3, .int .i64 now), (4, .int .i64 exp), (6, .pointer (some ⟨p6, 0, none⟩)), (13, .pointer (some ⟨p13, 0, none⟩))] ∧ ∃ S1 H1, Sr sb N S1 H1 ∧ WC S1.I (Z9 s) = none ∧ uE N s rank now exp S = Uj N (Z9 s) s rank now exp S1 ∧ S1.V.length + S1.I.length < 2 ^ 30 ∧ zD S' (fB p13 (Z9 s) :: dH p6 s (.slice va s.rrs.length vc) :: H1 :: S0)) ?_ fun E S' ⟨hE2, S1, H1, hS1, hb1, hP1, hV1, hJ⟩ => ?_
 ·have hS' := hS;obtain ⟨W, D, L, ab, tb, mb, lb, db, ev, HA, HT, HM, HL, HD, HV, h, rfl⟩ := hS;refine zq (S0 := fB p13 (Z9 s) :: dH p6 s (.slice va s.rrs.length vc) :: sH sb ab tb mb lb db ev HA HT HM HL HD HV W :: S0) zD.of (zq (zD.cons (zD.cons zD.La)) (ze (zX (zi (pP rfl) (zi (zG rfl) (zi (zn rfl) (Z5 rfl rfl (WE rfl rfl ?_))))))));cases hb : WC S.I (Z9 s) with
  | none =>
   refine zN (Vr h.m (by repeat (first | exact List.mem_cons_self | apply List.mem_cons_of_mem)) (Z9 s) Ub mI om rfl rfl (Ev (yB h.q hb)) ?_) zM;refine zi (pP rfl) (zL (za (ze (z8 (yp (pP rfl) (yp (K4 rfl rfl) (zf (za (zA rfl (zu (za ?_)))))))))));exact ⟨⟨rfl, rfl, rfl, rfl, rfl, rfl, trivial⟩, S, _, hS', hb, hP0.trans (uX hb), hV, zD.Le⟩
  | some i =>
   have hP1 := hP0.trans (Yw hb);obtain ⟨e, hf, he, rfl, hek⟩ := xQ h.q hb;refine zN (Vr h.m (by repeat (first | exact List.mem_cons_self | apply List.mem_cons_of_mem)) (Z9 s) Ub mI om rfl rfl (jL hf) ?_) zM;refine zi (pP rfl) (zL (za (ze (z8 (yp (pP rfl) (yp (K4 rfl rfl) (zf (za (zJ rfl (ze (ze (z8 (yp (pP rfl) (yp (zG rfl) (yp (zn rfl) ?_)))))))))))))));refine zh (XE (v := .int .i64 e.i.pins) (by repeat (first | exact List.mem_append.2 (.inl (xY he)) | apply List.mem_cons_of_mem)) rfl rfl ?_);refine yp (uz rfl rfl) (zf (za ?_));by_cases hp : 0 < e.i.pins
   ·rw [decide_eq_true hp];rw [if_pos hp] at hP1;rw [hP1];refine zJ rfl (ze (z8 (yp pC (zf (za (zI (zV (zV ?_))))))));exact zH (rI rfl) ⟨_, zD.Lm, rfl, _, hS', rfl⟩
   ·rw [decide_eq_false hp];rw [if_neg hp] at hP1;refine zA rfl (zu (za (z8 (yp (pP rfl) ?_))));refine zh (Zu rfl rfl ?_);refine zh (zk (zQ.op (Jl hS' hb)) rfl rfl fun r S' h => ?_);obtain ⟨rfl, H1, hS1, rfl⟩ := h;refine zf (za ?_);have hol := VH hS'.kn hb;exact ⟨⟨rfl, rfl, rfl, rfl, rfl, rfl, trivial⟩, _, H1, hS1, gM _ _, hP1, by show S.V.length + (vL S.I (Z9 s)).length < _; omega, .of⟩
 rw [hP1];clear hP1 hP0 hS hV;obtain ⟨E0, e0⟩ := zy hE2; subst e0; clear hE2;refine zq hJ ?_;generalize hR : Uj N (Z9 s) s rank now exp S1 = R;refine ze (zw ?_);refine Z8 (σ := Ss) (fun S2 E S' => Has E [(0, .pointer (some ⟨sb, 0, none⟩)), (2, .int .i64 rank), (3, .int .i64 now), (4, .int .i64 exp), (6, .pointer (some ⟨p6, 0, none⟩)), (13, .pointer (some ⟨p13, 0, none⟩))] ∧ WC S2.I (Z9 s) = none ∧ Uj N (Z9 s) s rank now exp S2 = R ∧ S2.V.length + S2.I.length < 2 ^ 30 ∧ ∃ H2, Sr sb N S2 H2 ∧ zD S' (fB p13 (Z9 s) :: dH p6 s (.slice va s.rrs.length vc) :: H2 :: S0)) (fun S2 => S2.I.length) S1 ⟨⟨rfl, rfl, rfl, rfl, rfl, rfl, trivial⟩, hb1, hR, hV1, H1, hS1, .of⟩ fun S2 E S' ⟨hE2, hb2, hP2, hV2, H2, hS2, hJ⟩ => ?_
 clear hS1 hb1 hV1 hR;have hS2' := hS2;obtain ⟨W, D, L, ab, tb, mb, lb, db, ev, HA, HT, HM, HL, HD, HV, h, rfl⟩ := hS2;have hnb := h.nb;obtain ⟨E0, e0⟩ := zy hE2; subst e0; clear hE2;refine zq hJ (zq (zD.cons (zD.cons zD.La)) (ze (ze (zX (zi (pP rfl) (zi (zG rfl) (zi (zn rfl) (Z5 rfl rfl (WE rfl rfl (zi (pP rfl) ?_))))))))));have hv' : Src (Es W ++ S0) (.slice va s.rrs.length vc) s.rrs := Src.mono hv fun _ hs => List.mem_append.2 (.inr hs)
 refine zN (zk (pQ (S := Es W ++ S0) h.t hs hv') rfl rfl fun r S' h => ?_) zM;obtain ⟨rfl, rfl⟩ := h;refine zN (zk (iU (sb := sb) (tb := tb) (mb := mb) (lb := lb) (db := db) (ev := ev) h.a) rfl rfl fun r S' h => ?_) zM;obtain ⟨rfl, rfl⟩ := h;rw [h.q.cost, h.q.left];refine zi (uz rfl rfl) (zL (za ?_));by_cases hc : Ue N S2 < uD (sets S2.I) s
 ·rw [decide_eq_true hc];refine zJ rfl (zu (za (zw ?_)));refine zq (S0 := fB p13 (Z9 s) :: dH p6 s (.slice va s.rrs.length vc) :: sH sb ab tb mb lb db ev HA HT HM HL HD HV W :: S0) ?_ ?_
  ·exact zD.Le
  refine ze (z8 (yp (pP rfl) (yp (pI rfl) ?_)));refine zh (zk (oO hS2' now) rfl rfl fun r S' h => ?_);obtain ⟨rfl, rfl⟩ := h;cases hn : Ww now S2 with
  | none =>
   rw [← hP2, cK hc hn];refine yp (pU rfl) (yp (pExt rfl rfl) (yp (pExt rfl rfl) ?_));refine zh (Zf fun p15 => ?_);refine zh (V8 rfl rfl rfl rfl rfl ?_);refine yp (pB rfl) (zf (za (ze (ze (z8 (yp (pB rfl) (yp (Zi rfl) (zf (za (zJ rfl (ze (z8 (yp pC (zf (za (zI (zV (bret (zV (bret (zV ?_)))))))))))))))))))));exact zH (rI rfl) ⟨_, .of, rfl, _, hS2', rfl⟩
  | some k =>
   obtain ⟨i, hi, _⟩ := Q7 hn;refine yp (pU rfl) (yp (pExt rfl rfl) (yp (pExt rfl rfl) ?_));refine zh (Zf fun p15 => ?_);refine zh (V8 rfl rfl rfl rfl rfl ?_);refine yp (pB rfl) (zf (za (ze (ze (z8 (yp (pB rfl) (yp (Zi rfl) (zf (za (zA rfl (zu (za (z8 (yp (pP rfl) ?_))))))))))))));refine zh (Zu rfl rfl ?_);refine zh (zk (qH hS2' hi (by omega)) rfl rfl fun r S' h => ?_);obtain ⟨rfl, H3, hS3, rfl⟩ := h;refine zf (zS (za ?_));have hol := VH hS2'.kn hi;refine ⟨KD k S2, ⟨⟨rfl, rfl, rfl, rfl, rfl, rfl, trivial⟩, Qp hb2, (j5 hS2'.kn hc hn hi).symm.trans hP2, ?_, H3, hS3, .of⟩, ?_⟩
   ·show (S2.V ++ [k]).length + (vL S2.I k).length < _;rw [List.length_append, List.length_singleton]; omega
   ·show (vL S2.I k).length < _;omega
 ·rw [decide_eq_false hc];have hR := cu (K := Z9 s) (rank := rank) (now := now) (exp := exp) hc;rw [← hP2, hR];have hus := h.q.us hnb.2.1 hnb.1;refine zA rfl (zZ (zF (zF (Z0 (za (ze (zX (zi (pP rfl) (zi (zG rfl) (zi (zn rfl) (Z5 rfl rfl (zi (pP rfl) (zi (zG rfl) (zi (zn rfl) (Z5 rfl rfl (WE rfl rfl ?_))))))))))))))));refine zN (zk (pJ (S := Es W ++ S0) h.t h.a h.q.pk.inn h.q.pk.pos h.q.pk.hs hus hs hv') rfl rfl fun r S' hp => ?_) zM;have hfit : fits N D L s := by
   unfold fits;rw [h.q.cost];have := h.q.left (N := N);omega
  rcases hp with ⟨hp, _⟩ | ⟨_, hp, _⟩ | ⟨_, _, HT1, HA1, D1, rfl, hT1, hA1, hI1, hB1, _, rfl⟩
  ·exact absurd hE hp
  ·exact absurd hfit hp
  have hex := (jI hE hnb.2.1 ⟨by have := qI (VQ hE).1; omega, (VQ hE).2⟩ (XZ (VQ hE).1)).1 hfit;refine zi (pU rfl) (zi (pExt rfl rfl) (zi (pExt rfl rfl) (zi (pI rfl) (zi (pI rfl) (zL (za (ze (ze (z8 (yp (pI rfl) (yp (xq rfl rfl) (zf (za (zA rfl (zu (za (ze (zX (zi (pP rfl) (zi (zG rfl) (zi (zn rfl) (Z5 rfl rfl (WE rfl rfl (zi (pI rfl) (zi (pI rfl) (zi (pI rfl) (zi (pI rfl) (zi (v := .agg #[.int .i64 ((hnd (wH N D L (Z6 s)).D : Nat) : Int), .int .i64 rank, .int .i64 now, .int .i64 exp, .int .i64 0]) rfl ?_))))))))))))))))))))))))))));refine Zm (Zv rfl fun p112 => ⟨(by first | exact fun _ h => List.mem_cons_of_mem _ h | simp), ?_⟩) zM;refine zN (ni h.m (Z9 s) (⟨some p112⟩ : Ptr) Ub mI rfl rfl rfl fun HM1 hM1 => ?_) zM;refine zL (za (ze (zX (zi (pP rfl) (zi (zG rfl) (zi (zn rfl) (Z5 rfl rfl (WE rfl rfl ?_))))))));refine zN (zk (Ci h.l (by omega) (by omega) (Z9 s)) rfl rfl fun r S' h => ?_) zM;obtain ⟨rfl, HL1, hL1, rfl⟩ := h;refine zL (za (ze (zX (zi (pP rfl) (zi (zG rfl) (zi (zn rfl) (Z5 rfl rfl (WE rfl rfl (zi (pI rfl) ?_)))))))));refine zN (zk (Cj h.d (by rw [List.length_map]; omega) (Z9 s) exp) rfl rfl fun r S' h => ?_) zM;obtain ⟨rfl, HD1, hD1, rfl⟩ := h;refine zL (za (ze (z8 (yp pC (zf (za (zI ?_)))))));have hfn := yB h.q hb2;have hnk := Wz.1 hb2;have hnP : ¬ (Z9 s ∈ S2.P ∨ Z9 s ∈ S2.Q) := fun hm => hnk (h.q.pq.mem_iff.1 (List.mem_append.2 hm))
  rw [iC, if_neg hnP] at hL1;rw [JQ hb2] at hD1;have hq := h.q.put hE hs hex.1 hI1 hB1 hb2 rank now exp p112;generalize hen : (⟨⟨Z9 s, s, rank, now, exp, 0⟩, ((hnd (wH N D L (Z6 s)).D : Nat) : Int), (wH N D L (Z6 s)).ids, p112⟩ : En) = en at hq;have hM2 : Mp mb (Xi (W ++ [en])) (W ++ [en]).length HM1 := by
   have e1 : Xi (W ++ [en]) = wL (Xi W) (Z9 s) (some (⟨some p112⟩ : Ptr)) := by rw [mU (by rw [← hen]; exact hfn), ← hen]
   have e2 : Xf (Xi W) (Z9 s) W.length = (W ++ [en]).length := by
    unfold Xf Xi;rw [hfn, List.length_append]; rfl
   rw [e1, ← e2]; exact hM1
  have hD2 : Du db ((S2.I ++ [(⟨Z9 s, s, rank, now, exp, 0⟩ : It)]).map It.de) HD1 := by rw [List.map_append]; exact hD1
  have hse : jK en = [(p112, .cells #[.int .i64 ((hnd (wH N D L (Z6 s)).D : Nat) : Int), .int .i64 rank, .int .i64 now, .int .i64 exp, .int .i64 0] 137)] := by rw [← hen]
  refine zH (rI rfl) ⟨_, ?_, rfl, _, Sr.mk ⟨hq, hA1, hT1, hM2, hL1, hD2, h.v⟩, rfl⟩;exact zD.add hse.symm
end Go.Proofs.YtejmbmenbailmaaGreat