/- Sets in blocks (chapter 8): what may be, its names, its size. Sets in blocks (chapter 8): a set's names, its size. Sets in blocks (chapter 8): what a set would cost. Sets in blocks (chapter 8): a set's bytes. -/
import Derived.Test.YtejmbmenbailmaaP1
import Derived.Test.YtejmbmenbailmaaI1
namespace Go.Proofs.Ytejmbmenbailmaa
open Go.Xs
open Enc (enc)

theorem nmSame (a b : Bs) (ha : a.length < 2 ^ 62) (hb : b.length < 2 ^ 62) : Tri Try.prog 46 #[sv a, sv b] [] (fun r S => r = .bool (sameN a b) ∧ S = []) := by
  refine Tri.forget (ycallee Try.fx46 (Nat.le_of_ble_eq_true rfl) ?_)
  unfold Try.x46 sameN
  refine yseq (yregion (yp pC (ynil (tnorm (yseq (yregion (yp (pT rfl) ?_)))))))
  refine ycons (ycall (nmValid a ha) rfl rfl fun r S' h => ?_)
  obtain ⟨rfl, rfl⟩ := h
  cases vld a with
  | false =>
    refine yp (pB rfl) (ygF rfl (ygF rfl (yp (pPickF rfl rfl) (yp (pB rfl) (ygF rfl (ygF rfl (ygF rfl (ygF rfl (ygF rfl (yp (pPickF rfl rfl) (yp (pB rfl) (ynil (tnorm (yret ?_))))))))))))))
    exact yfin (rB rfl) ⟨_, .of, rfl, rfl⟩
  | true =>
    refine yp (pB rfl) (ygT rfl (yop (pT rfl) (ygT rfl ?_)))
    refine ycall (nmValid b hb) rfl rfl fun r S' h => ?_
    obtain ⟨rfl, rfl⟩ := h
    cases vld b with
    | false =>
      refine yp (pPickT rfl rfl) (yp (pB rfl) (ygF rfl (ygF rfl (ygF rfl (ygF rfl (ygF rfl (yp (pPickF rfl rfl) (yp (pB rfl) (ynil (tnorm (yret ?_)))))))))))
      exact yfin (rB rfl) ⟨_, .of, rfl, rfl⟩
    | true =>
      refine yp (pPickT rfl rfl) (yp (pB rfl) (ygT rfl (yop (pT rfl) (ygT rfl ?_))))
      refine ycall (nmfold a ha) rfl rfl fun r S' h => ?_
      obtain ⟨rfl, rfl⟩ := h
      refine ygT rfl (yop (pT rfl) (ygT rfl ?_))
      refine ycall (nmfold b hb) rfl rfl fun r S' h => ?_
      obtain ⟨rfl, rfl⟩ := h
      refine ygT rfl (yop (pEqS rfl rfl) (yp (pPickT rfl rfl) (yp (pB rfl) (ynil (tnorm (yret ?_))))))
      exact yfin (rB rfl) ⟨_, .of, by
        congr 1
        by_cases h : a.map low = b.map low
        · rw [decide_eq_true (sv_inj.2 h)]; simp [h]
        · rw [decide_eq_false (fun h2 => h (sv_inj.1 h2))]; simp [h], rfl⟩
/-- how long a set's texts are -/
structure Sok (s : St) : Prop where
  name : s.name.length < 2 ^ 40
  zone : s.zone.length < 2 ^ 40
  rrs : s.rrs.length < 2 ^ 20
  each : ∀ r ∈ s.rrs, r.n.length < 2 ^ 40 ∧ r.d.length < 2 ^ 40
abbrev scl (s : St) (w : Value) : Array Value := #[sv s.name, .int .i64 s.typ, w, .int .i64 s.kind, sv s.zone]
abbrev sbox (b : Nat) (s : St) (w : Value) : List Chunk := [(b, .cells (scl s w) 32)]
abbrev rcl (r : RR) : Array Value := #[sv r.n, .int .i64 r.t, .int .i64 r.c, .int .i64 r.ttl, sv r.d]
theorem pkMay1 {bs : Nat} {s : St} {w : Value} (r : RR) (h1 : s.name.length < 2 ^ 40) (h2 : r.n.length < 2 ^ 40) (h3 : r.d.length < 2 ^ 40) : Tri Try.prog 45 #[.agg (rcl r), .pointer (some ⟨bs, 0, none⟩)] [sbox bs s w] (fun x S => x = .bool (!rrOk s r) ∧ S = [sbox bs s w]) := by
  refine Tri.forget (ycallee Try.fx45 (Nat.le_of_ble_eq_true rfl) ?_)
  unfold Try.x45 rrOk
  refine yseq (yregion ?_)
  refine ycons (yboxG rfl fun p2 => ?_)
  refine yp pC (ynil (tnorm (yseq (yregion (yp (pFadr rfl) ?_)))))
  refine ycons (yload1 rfl rfl ?_)
  refine yp (pFadr rfl) (yp (pFadr rfl) ?_)
  refine ycons (yload1 rfl rfl ?_)
  refine ycons (ycall (nmSame r.n s.name (by omega) (by omega)) rfl rfl fun r' S' h => ?_)
  obtain ⟨rfl, rfl⟩ := h
  cases sameN r.n s.name with
  | false =>
    refine yp (pNot rfl) (yp (pB rfl) (ygF rfl (ygF rfl (ygF rfl (ygF rfl (ygF rfl (ygF rfl (yp (pPickT rfl rfl) (yp (pB rfl) (ygF rfl (ygF rfl (ygF rfl (yp (pPickT rfl rfl) (yp (pB rfl) (ygF rfl (ygF rfl (ygF rfl (ygF rfl (ygF rfl (ygF rfl (yp (pPickT rfl rfl) (yp (pB rfl) (ynil (tnorm (yret ?_)))))))))))))))))))))))))
    exact yfin (rB rfl) ⟨_, .of, rfl, rfl⟩
  | true =>
    refine yp (pNot rfl) (yp (pB rfl) (ygT rfl (yop (pFadr rfl) (ygT rfl ?_))))
    refine (yload1 rfl rfl ?_)
    refine ygT rfl (yop (pFadr rfl) (ygT rfl (yop (pFadr rfl) (ygT rfl ?_))))
    refine (yload1 rfl rfl ?_)
    refine ygT rfl (yop (pNe rfl rfl) (yp (pPickF rfl rfl) (yp (pB rfl) ?_)))
    by_cases ht : r.t = s.typ
    · rw [decide_eq_true ht]
      refine ygT rfl (yop (pFadr rfl) (ygT rfl ?_))
      refine (yload1 rfl rfl ?_)
      refine ygT rfl (yop (pNe rfl rfl) (yp (pPickF rfl rfl) (yp (pB rfl) ?_)))
      by_cases hc : r.c = 1
      · rw [decide_eq_true hc]
        refine ygT rfl (yop (pFadr rfl) (ygT rfl ?_))
        refine (yload1 rfl rfl ?_)
        refine ygT rfl (yop (pFadr rfl) (ygT rfl ?_))
        refine (yload1 rfl rfl ?_)
        refine ygT rfl ?_
        refine ycall (rcData r.t r.d h3) rfl rfl fun r' S' h => ?_
        obtain ⟨rfl, rfl⟩ := h
        refine ygT rfl (yop (pNot rfl) (yp (pPickF rfl rfl) (yp (pB rfl) (ynil (tnorm (yret ?_))))))
        exact yfin (rB rfl) ⟨_, .of, by cases dataOk r.t r.d <;> rfl, rfl⟩
      · rw [decide_eq_false hc]
        refine ygF rfl (ygF rfl (ygF rfl (ygF rfl (ygF rfl (ygF rfl (yp (pPickT rfl rfl) (yp (pB rfl) (ynil (tnorm (yret ?_))))))))))
        exact yfin (rB rfl) ⟨_, .of, rfl, rfl⟩
    · rw [decide_eq_false ht]
      refine ygF rfl (ygF rfl (ygF rfl (yp (pPickT rfl rfl) (yp (pB rfl) (ygF rfl (ygF rfl (ygF rfl (ygF rfl (ygF rfl (ygF rfl (yp (pPickT rfl rfl) (yp (pB rfl) (ynil (tnorm (yret ?_)))))))))))))))
      exact yfin (rB rfl) ⟨_, .of, rfl, rfl⟩
theorem pkIdx {S : Segs} {bs : Nat} {s : St} {w v : Value} (hs : Sok s) (hv : Src S v s.rrs) : Tri Try.prog 68 #[v, .func (.func 45) #[] #[.pointer (some ⟨bs, 0, none⟩)]] (sbox bs s w :: S)
    (fun x S' => ∃ z, x = .int .i64 z ∧ decide (0 ≤ z) = !(s.rrs.all (rrOk s)) ∧ S' = sbox bs s w :: S) := by
  refine Tri.forget (ycallee Try.fx68 (Nat.le_of_ble_eq_true rfl) ?_)
  unfold Try.x68
  obtain ⟨a, c, rfl⟩ := hv.isSlice
  have hrr := hs.rrs
  refine yseq (yregion (yp pC (ynil (tnorm (yseq (yseq (yregion (yp (pS rfl) (yp (pLen rfl) (yp pC (ynil (tnorm (yblock ?_)))))))))))))
  refine yloop (σ := Nat) (fun i E S' => Has E [(0, .slice a s.rrs.length c), (1, .func (.func 45) #[] #[.pointer (some ⟨bs, 0, none⟩)]), (7, .int .i64 (s.rrs.length : Int)), (8, .int .i64 (i : Int))] ∧ (i ≤ s.rrs.length ∧ ∀ r ∈ s.rrs.take i, rrOk s r = true) ∧ Junk S' (sbox bs s w :: S)) (fun i => s.rrs.length - i) 0
    ⟨⟨rfl, rfl, rfl, rfl, trivial⟩, ⟨Nat.zero_le _, fun r h => by simp at h⟩, .of⟩ fun i E S' ⟨hE, ⟨hi, hall⟩, hJ⟩ => ?_
  obtain ⟨E0, e0⟩ := has_puts hE; subst e0; clear hE
  refine yforget hJ (yseq (yregion (yp (pLt rfl rfl) (ynil (tnorm (yseq ?_))))))
  refine ycondD rfl (fun h => ?_) (fun h => ?_)
  · have hlt : i < s.rrs.length := by omega
    obtain ⟨b, o, ca, ty, fz, rfl, _, hmem, _, hg⟩ := hv.get (by intro h; simp [h] at hlt)
    have hge := hg i hlt
    have hr := List.getElem_mem hlt
    have hts : s.rrs.take (i + 1) = s.rrs.take i ++ [s.rrs[i]] := List.take_succ_eq_append_getElem hlt
    generalize s.rrs[i] = r at hge hr hts
    obtain ⟨hn, hd⟩ := hs.each r hr
    refine yskip (tnorm (yseq (yblock (yseq (yregion (yp (pI rfl) (yp (pI rfl) (ynil (tnorm (yseq (yregion (yp (pF rfl) (yp (pS rfl) (yp (pI rfl) (yp (pIxN rfl rfl (by omega)) ?_)))))))))))))))
    refine ycons (yloadNM (S := sbox bs s w :: S) (l := enc r) (List.mem_cons_of_mem _ hmem) rfl hge rfl ?_)
    skip
    refine ycons (ycall (pkMay1 (s := s) (w := w) r hs.name hn hd) rfl rfl fun r' S' h => ?_)
    obtain ⟨rfl, rfl⟩ := h
    cases hok : rrOk s r with
    | false =>
      refine ynil (tnorm (ycondT rfl (yseq (yregion (yp (pI rfl) (yp (pI rfl) (ynil (tnorm (yret (bret (tret (tret (bret (tret ?_))))))))))))))
      refine yfin (rI rfl) ⟨_, .of, _, rfl, ?_, rfl⟩
      rw [decide_eq_true (by omega)]
      cases ha : s.rrs.all (rrOk s) with
      | false => rfl
      | true => have := List.all_eq_true.1 ha r hr; rw [hok] at this; cases this
    | true =>
      refine ynil (tnorm (ycondF rfl (yskip (bnorm (tnorm (yregion (yp (pInc rfl rfl (by omega)) (yp (pI rfl) (ynil (tnorm ?_))))))))))
      refine ⟨i + 1, ⟨⟨rfl, rfl, rfl, rfl, trivial⟩, ⟨by omega, fun x hx => ?_⟩, .of⟩, by omega⟩
      rw [hts] at hx
      rcases List.mem_append.1 hx with hx | hx
      · exact hall x hx
      · rw [List.mem_singleton.1 hx]; exact hok
  · refine yexit (texit (texit (bexit (tnorm (yseq (yregion (yp pC (ynil (tnorm (yret ?_))))))))))
    refine yfin (rI rfl) ⟨_, .of, _, rfl, ?_, rfl⟩
    have : s.rrs.all (rrOk s) = true := List.all_eq_true.2 fun r hr => hall r (by rw [List.take_of_length_le (by omega)]; exact hr)
    rw [this]; rfl
theorem pkAny {S : Segs} {bs : Nat} {s : St} {w v : Value} (hs : Sok s) (hv : Src S v s.rrs) : Tri Try.prog 44 #[v, .func (.func 45) #[] #[.pointer (some ⟨bs, 0, none⟩)]] (sbox bs s w :: S)
    (fun x S' => x = .bool (!(s.rrs.all (rrOk s))) ∧ S' = sbox bs s w :: S) := by
  refine Tri.forget (ycallee Try.fx44 (Nat.le_of_ble_eq_true rfl) ?_)
  unfold Try.x44
  obtain ⟨a, c, rfl⟩ := hv.isSlice
  refine yseq (yregion (yp pC (ynil (tnorm (yseq (yregion (yp (pS rfl) (yp (pF rfl) ?_))))))))
  refine ycons (ycall (pkIdx (bs := bs) (w := w) hs hv) rfl rfl fun r' S' h => ?_)
  obtain ⟨z, rfl, hz, rfl⟩ := h
  refine yp (pGe rfl rfl) (yp (pB rfl) (ynil (tnorm (yret ?_))))
  exact yfin (rB rfl) ⟨_, .of, by rw [hz], rfl⟩
theorem pkMay {S : Segs} {s : St} {v : Value} (hs : Sok s) (hv : Src S v s.rrs) : Tri Try.prog 27 #[.agg (scl s v)] S (fun x S' => x = .bool (mayS s) ∧ S' = S) := by
  refine Tri.forget (ycallee Try.fx27 (Nat.le_of_ble_eq_true rfl) ?_)
  unfold Try.x27 mayS
  have hno : ∀ {x : Value} {b : Bool} {S' : Segs}, b = false → x = .bool false → Junk S' S → ∃ S'', Junk S' S'' ∧ x = .bool b ∧ S'' = S := fun h1 h2 h3 => ⟨S, h3, by rw [h1, h2], rfl⟩
  refine yseq (yregion ?_)
  refine ycons (yboxG rfl fun p1 => ?_)
  refine yp pC (ynil (tnorm (yseq (yseq (yregion (yp (pFadr rfl) (yp (pFadr rfl) ?_)))))))
  refine ycons (yload1 rfl rfl ?_)
  refine ycons (ycall (nmValid s.name (by have := hs.name; omega)) rfl rfl fun r' S' h => ?_)
  obtain ⟨rfl, rfl⟩ := h
  cases vld s.name with
  | false =>
    refine yp (pNot rfl) (yp (pB rfl) (ygF rfl (ygF rfl (ygF rfl (ygF rfl (yp (pPickT rfl rfl) (yp (pB rfl) (ygF rfl (ygF rfl (ygF rfl (ygF rfl (yp (pPickT rfl rfl) (yp (pB rfl) (ygF rfl (ygF rfl (ygF rfl (ygF rfl (yp (pPickT rfl rfl) (yp (pB rfl) (ygF rfl (ygF rfl (ygF rfl (yp (pPickT rfl rfl) (yp (pB rfl) (ygF rfl (ygF rfl (ygF rfl (yp (pPickT rfl rfl) (ynil (tnorm (ycondT rfl (yseq (yregion (yp pC (ynil (tnorm (yret (tret ?_))))))))))))))))))))))))))))))))))))))
    exact yfin (rB rfl) (hno rfl rfl .of)
  | true =>
  refine yp (pNot rfl) (yp (pB rfl) (ygT rfl (yop (pFadr rfl) (ygT rfl ?_))))
  refine (yload1 rfl rfl ?_)
  refine ygT rfl ?_
  refine ycall (nmValid s.zone (by have := hs.zone; omega)) rfl rfl fun r' S' h => ?_
  obtain ⟨rfl, rfl⟩ := h
  cases vld s.zone with
  | false =>
    refine ygT rfl (yop (pNot rfl) (yp (pPickF rfl rfl) (yp (pB rfl) (ygF rfl (ygF rfl (ygF rfl (ygF rfl (yp (pPickT rfl rfl) (yp (pB rfl) (ygF rfl (ygF rfl (ygF rfl (ygF rfl (yp (pPickT rfl rfl) (yp (pB rfl) (ygF rfl (ygF rfl (ygF rfl (yp (pPickT rfl rfl) (yp (pB rfl) (ygF rfl (ygF rfl (ygF rfl (yp (pPickT rfl rfl) (ynil (tnorm (ycondT rfl (yseq (yregion (yp pC (ynil (tnorm (yret (tret ?_))))))))))))))))))))))))))))))))))
    exact yfin (rB rfl) (hno rfl rfl .of)
  | true =>
  refine ygT rfl (yop (pNot rfl) (yp (pPickF rfl rfl) (yp (pB rfl) (ygT rfl (yop (pFadr rfl) (ygT rfl (yop (pFadr rfl) (ygT rfl ?_))))))))
  refine (yload1 rfl rfl ?_)
  refine ygT rfl (yop (pLt rfl rfl) (yp (pPickF rfl rfl) (yp (pB rfl) ?_)))
  by_cases h1 : s.typ < 1
  · rw [decide_eq_true h1]
    refine ygF rfl (ygF rfl (ygF rfl (ygF rfl (yp (pPickT rfl rfl) (yp (pB rfl) (ygF rfl (ygF rfl (ygF rfl (yp (pPickT rfl rfl) (yp (pB rfl) (ygF rfl (ygF rfl (ygF rfl (yp (pPickT rfl rfl) (ynil (tnorm (ycondT rfl (yseq (yregion (yp pC (ynil (tnorm (yret (tret ?_))))))))))))))))))))))))
    exact yfin (rB rfl) (hno (by rw [decide_eq_false (by omega)]; simp) rfl .of)
  rw [decide_eq_false h1]
  refine ygT rfl (yop (pFadr rfl) (ygT rfl (yop (pFadr rfl) (ygT rfl ?_))))
  refine (yload1 rfl rfl ?_)
  refine ygT rfl (yop (pGt rfl rfl) (yp (pPickF rfl rfl) (yp (pB rfl) ?_)))
  by_cases h2 : 65535 < s.typ
  · rw [decide_eq_true h2]
    refine ygF rfl (ygF rfl (ygF rfl (yp (pPickT rfl rfl) (yp (pB rfl) (ygF rfl (ygF rfl (ygF rfl (yp (pPickT rfl rfl) (ynil (tnorm (ycondT rfl (yseq (yregion (yp pC (ynil (tnorm (yret (tret ?_))))))))))))))))))
    exact yfin (rB rfl) (hno (by rw [decide_eq_false (by omega)]; simp) rfl .of)
  rw [decide_eq_false h2]
  refine ygT rfl (yop (pFadr rfl) (ygT rfl ?_))
  refine (yload1 rfl rfl ?_)
  refine ygT rfl (yop (pLt rfl rfl) (yp (pPickF rfl rfl) (yp (pB rfl) ?_)))
  by_cases h3 : s.kind < 0
  · rw [decide_eq_true h3]
    refine ygF rfl (ygF rfl (ygF rfl (yp (pPickT rfl rfl) (ynil (tnorm (ycondT rfl (yseq (yregion (yp pC (ynil (tnorm (yret (tret ?_)))))))))))))
    exact yfin (rB rfl) (hno (by rw [decide_eq_false (show ¬ (1 ≤ s.typ ∧ s.typ ≤ 65535 ∧ 0 ≤ s.kind ∧ s.kind ≤ 2) from by omega)]; simp) rfl .of)
  rw [decide_eq_false h3]
  refine ygT rfl (yop (pFadr rfl) (ygT rfl ?_))
  refine (yload1 rfl rfl ?_)
  refine ygT rfl (yop (pGt rfl rfl) (yp (pPickF rfl rfl) (ynil (tnorm ?_))))
  by_cases h4 : 2 < s.kind
  · rw [decide_eq_true h4]
    refine ycondT rfl (yseq (yregion (yp pC (ynil (tnorm (yret (tret ?_)))))))
    exact yfin (rB rfl) (hno (by rw [decide_eq_false (show ¬ (1 ≤ s.typ ∧ s.typ ≤ 65535 ∧ 0 ≤ s.kind ∧ s.kind ≤ 2) from by omega)]; simp) rfl .of)
  rw [decide_eq_false h4, decide_eq_true (show 1 ≤ s.typ ∧ s.typ ≤ 65535 ∧ 0 ≤ s.kind ∧ s.kind ≤ 2 from by omega)]
  obtain ⟨a, c, rfl⟩ := hv.isSlice
  refine ycondF rfl (yskip (tnorm (yseq (yseq (yregion (yp (pFadr rfl) ?_))))))
  refine ycons (yload1 rfl rfl ?_)
  refine yp (pLen rfl) (yp (pGt rfl rfl) (yp (pB rfl) ?_))
  by_cases h5 : 32 < (s.rrs.length : Int)
  · rw [decide_eq_true h5]
    refine ygF rfl (ygF rfl (ygF rfl (ygF rfl (ygF rfl (ygF rfl (ygF rfl (ygF rfl (yp (pPickT rfl rfl) (ynil (tnorm (ycondT rfl (yseq (yregion (yp pC (ynil (tnorm (yret (tret ?_))))))))))))))))))
    exact yfin (rB rfl) (hno (by rw [decide_eq_false (show ¬ s.rrs.length ≤ 32 from by omega)]; simp) rfl .of)
  rw [decide_eq_false h5, decide_eq_true (show s.rrs.length ≤ 32 from by omega)]
  refine ygT rfl (yop (pFadr rfl) (ygT rfl ?_))
  refine (yload1 rfl rfl ?_)
  refine ygT rfl (yop (pLen rfl) (ygT rfl (yop (pGt rfl rfl) (ygT rfl (yop (pFadr rfl) (ygT rfl ?_))))))
  refine (yload1 rfl rfl ?_)
  refine ygT rfl (yop (pEq rfl rfl) (ygT rfl (yop (pNeB rfl rfl) (yp (pPickF rfl rfl) (ynil (tnorm ?_))))))
  rw [show decide (0 < (s.rrs.length : Int)) = decide (0 < s.rrs.length) from decide_eq_decide.2 (by omega)]
  cases h6 : (decide (0 < s.rrs.length) == decide (s.kind = 0)) with
  | false =>
    refine ycondT rfl (yseq (yregion (yp pC (ynil (tnorm (yret (tret ?_)))))))
    exact yfin (rB rfl) (hno rfl rfl .of)
  | true =>
  refine ycondF rfl (yskip (tnorm (yseq (yregion (yp (pFadr rfl) ?_)))))
  refine ycons (yload1 rfl rfl ?_)
  refine yp (pFn1 (scP rfl)) ?_
  refine ycons (ycall (pkAny (w := .slice a s.rrs.length c) hs hv) rfl rfl fun r' S' h => ?_)
  obtain ⟨rfl, rfl⟩ := h
  refine yp (pNot rfl) (yp (pB rfl) (ynil (tnorm (yret ?_))))
  exact yfin (rB rfl) ⟨_, .of, by cases s.rrs.all (rrOk s) <;> rfl, rfl⟩
end Go.Proofs.Ytejmbmenbailmaa
namespace Go.Proofs.Ytejmbmenbailmaa
open Go.Xs
open Enc (enc)

def bss (l : List Bs) : List ByteArray := l.map fun Y => ⟨Y.toArray⟩
theorem bss_len (l : List Bs) : (bss l).length = l.length := by unfold bss; simp
theorem bss_append (l m : List Bs) : bss (l ++ m) = bss l ++ bss m := by unfold bss; simp
theorem nms_len : ∀ (l : List RR), ((l.map nmsR).flatten).length ≤ 2 * l.length
  | [] => Nat.le_refl _
  | r :: l => by
    have h := nms_len l
    have h2 : (nmsR r).length ≤ 2 := by
      unfold nmsR prt
      rw [List.length_map]
      split
      · cases hp : pls r.t r.d with
        | none => simp
        | some x => exact pls_len hp
      · simp
    rw [List.map_cons, List.flatten_cons, List.length_append, List.length_cons]; omega
/-- the names of the first i records, and of the next one's first k -/
theorem nms_take {l : List RR} {i : Nat} (h : i < l.length) : ((l.take (i + 1)).map nmsR).flatten = ((l.take i).map nmsR).flatten ++ nmsR l[i] := by
  rw [List.take_succ_eq_append_getElem h, List.map_append, List.flatten_append]; simp
theorem pkNames {S : Segs} {s : St} {v : Value} (hs : Sok s) (hv : Src S v s.rrs) : Tri Try.prog 29 #[.agg (scl s v)] S (fun x S' => ∃ H, Slc 9 x (bss (nmsS s)) H ∧ S' = H :: S) := by
  refine Tri.forget (ycallee Try.fx29 (Nat.le_of_ble_eq_true rfl) ?_)
  unfold Try.x29
  obtain ⟨a, c, rfl⟩ := hv.isSlice
  have hrr := hs.rrs
  refine yseq (yregion ?_)
  refine ycons (yboxG rfl fun p1 => ?_)
  refine yp pC (ynil (tnorm (yseq (yregion (yp (pFadr rfl) (yp (pFadr rfl) ?_))))))
  refine ycons (yload1 rfl rfl ?_)
  refine yp (pFadr rfl) ?_
  refine ycons (yload1 rfl rfl ?_)
  refine ycons (ybsl (l := [sv s.name, sv s.zone]) rfl (by decide) (by decide) (by decide) rfl fun p13 => ?_)
  refine ycons (yalloc fun p3 => ?_)
  refine ycons (yst1_0 rfl rfl (scS rfl) ?_)
  refine ynil (tnorm (yseq (yseq (yregion (yp (pFadr rfl) ?_)))))
  refine ycons (yload1 rfl rfl ?_)
  refine yp (pLen rfl) (yp pC (ynil (tnorm (yblock ?_))))
  have h0 : Slc 9 (.slice (some ⟨p13, 0, none⟩) 2 2) (bss (s.name :: s.zone :: ((s.rrs.take 0).map nmsR).flatten)) [(p13, .cells [sv s.name, sv s.zone].toArray 9)] := Slc.full (L := bss [s.name, s.zone]) rfl
  refine yloop (σ := Nat) (fun i E S' => ∃ vo Ho, Has E [(3, .pointer (some ⟨p3, 0, none⟩)), (15, .slice a s.rrs.length c), (16, .int .i64 (s.rrs.length : Int)), (17, .int .i64 (i : Int))] ∧ i ≤ s.rrs.length ∧ Slc 9 vo (bss (s.name :: s.zone :: ((s.rrs.take i).map nmsR).flatten)) Ho ∧ Junk S' (Ho :: [(p3, .cells #[vo] 56)] :: S)) (fun i => s.rrs.length - i) 0
    ⟨_, _, ⟨rfl, rfl, rfl, rfl, trivial⟩, Nat.zero_le _, h0, .of⟩ fun i E S' ⟨vo, Ho, hE, hi, hL, hJ⟩ => ?_
  obtain ⟨E0, e0⟩ := has_puts hE; subst e0; clear hE
  refine yforget hJ ?_
  obtain ⟨la, lc, rfl⟩ := hL.isSlice
  refine yseq (yregion (yp (pLt rfl rfl) (ynil (tnorm (yseq ?_)))))
  refine ycondD rfl (fun h => ?_) (fun h => ?_)
  · have hlt : i < s.rrs.length := by omega
    obtain ⟨b, o, ca, ty, fz, rfl, _, hmem, _, hg⟩ := hv.get (by intro h; simp [h] at hlt)
    have hge := hg i hlt
    have hr := List.getElem_mem hlt
    have hts := nms_take hlt
    have hnl := nms_len (s.rrs.take i)
    have hil : (s.rrs.take i).length = i := by rw [List.length_take]; omega
    generalize s.rrs[i] = r at hge hr hts
    obtain ⟨hn, hd⟩ := hs.each r hr
    refine yskip (tnorm (yseq (yblock (yseq (yregion (yp (pIxN rfl rfl (by omega)) ?_))))))
    refine ycons (yloadNM (S := Ho :: [(p3, .cells #[.slice la (bss (s.name :: s.zone :: ((s.rrs.take i).map nmsR).flatten)).length lc] 56)] :: S) (l := enc r) (List.mem_cons_of_mem _ (List.mem_cons_of_mem _ hmem)) rfl hge rfl ?_)
    refine ycons (yalloc fun p5 => ?_)
    refine ycons (ystAll (c' := [sv r.n, .int .i64 r.t, .int .i64 r.c, .int .i64 r.ttl, sv r.d]) rfl rfl rfl rfl rfl ?_)
    refine ynil (tnorm (yseq (yregion (yp (pFadr rfl) ?_))))
    refine ycons (yload1 rfl rfl ?_)
    refine yp (pFadr rfl) ?_
    refine ycons (yload1 rfl rfl ?_)
    refine ycons (ycall (rcNames r.t r.d) rfl rfl fun r' S' h => ?_)
    obtain ⟨bt, bd, rfl, rfl⟩ := h
    refine ynil (tnorm (yblock ?_))
    refine yrNames (t := r.t) (d := r.d) (S := [(p5, .cells (rcl r) 34)] :: Ho :: [(p3, .cells #[.slice la (bss (s.name :: s.zone :: ((s.rrs.take i).map nmsR).flatten)).length lc] 56)] :: S)
      (fun k T => ∃ vo Ho, Slc 9 vo (bss (s.name :: s.zone :: ((s.rrs.take i).map nmsR).flatten ++ (nmsR r).take k)) Ho ∧ Junk T ([(p5, .cells (rcl r) 34)] :: Ho :: [(p3, .cells #[vo] 56)] :: S)) rfl rfl hd ⟨_, Ho, by rw [List.take_zero, List.append_nil]; exact hL, .self⟩ ?_ ?_
    · rintro l k x T hx ⟨vo, Ho, hL, hJ⟩
      obtain ⟨hv1, hv2, hv3⟩ := prt_vld (List.mem_of_getElem? hx)
      obtain ⟨la2, lc2, rfl⟩ := hL.isSlice
      have hkl := (List.getElem?_eq_some_iff.1 hx).1
      have htk : (nmsR r).take (k + 1) = (nmsR r).take k ++ [cutP r.d x] := by
        unfold nmsR
        rw [← List.map_take, ← List.map_take, List.take_add_one, hx]; simp
      have hlen : (bss (s.name :: s.zone :: ((s.rrs.take i).map nmsR).flatten ++ (nmsR r).take k)).length ≤ 2 ^ 22 + 2 := by
        have h1 := nms_len (s.rrs.take (i + 1))
        rw [hts, List.length_append, List.length_take] at h1
        rw [bss_len, List.cons_append, List.cons_append, List.length_cons, List.length_cons, List.length_append, List.length_take]
        omega
      refine yforget hJ (yseq (yregion (yp (pI rfl) (ynil (tnorm (yregion (yp (pI rfl) (ynil (tnorm (yblock (ydraw (ytl1 rfl rfl (ytq (pFadr rfl) (ytl1 rfl rfl (ytq (pI rfl) (ytq (pI rfl) (ytq (pI rfl) (ytq (pAddN rfl rfl (by omega)) (ytq (pSvFT (Y := r.d) (j := x.at_) (k := x.at_ + x.n) rfl rfl rfl ⟨by omega, hv3⟩) ?_)))))))))))))))))))
      rw [show x.at_ + x.n - x.at_ = x.n from by omega]
      refine ytaltC (ybsl1 (⟨(cutP r.d x).toArray⟩ : ByteArray) rfl rfl (by decide) (by decide) rfl fun p36 => ⟨fun _ hs => List.mem_cons_of_mem _ hs, ?_⟩) ytno
      refine ytalt (yapp (Y := [(⟨(cutP r.d x).toArray⟩ : ByteArray)]) rfl rfl hL (.lit (by repeat (first | exact List.mem_cons_self | apply List.mem_cons_of_mem)) rfl) rfl (⟨#[]⟩ : ByteArray) rfl (by rw [List.length_singleton]; omega) (by rw [List.length_singleton]; omega) fun v2 H2 hL2 => ?_) ytno
      obtain ⟨la3, lc3, rfl⟩ := hL2.isSlice
      refine ytalt (yst1_0 rfl rfl (scS rfl) ?_) ytno
      refine ytdone (bnorm ?_)
      exact ⟨.slice la3 (bss (s.name :: s.zone :: ((s.rrs.take i).map nmsR).flatten ++ (nmsR r).take k) ++ [(⟨(cutP r.d x).toArray⟩ : ByteArray)]).length lc3, H2, by rw [htk, ← List.append_assoc, bss_append _ [cutP r.d x]]; exact hL2, .of⟩
    · rintro T ⟨vo, Ho, hL, hJ⟩
      have hkt : (nmsR r).take (prt r.t r.d).length = nmsR r := List.take_of_length_le (by unfold nmsR; rw [List.length_map]; exact Nat.le_refl _)
      rw [hkt, List.cons_append, List.cons_append, ← hts] at hL
      refine bnorm (bnorm (tnorm ?_))
      refine yforget hJ (yregion (yp (pInc rfl rfl (by omega)) (yp (pI rfl) (ynil (tnorm ?_)))))
      exact ⟨i + 1, ⟨vo, Ho, ⟨rfl, rfl, rfl, rfl, trivial⟩, by omega, hL, .of⟩, by omega⟩
  · refine yexit (texit (texit (bexit (tnorm (yseq (yregion ?_))))))
    refine ycons (yload1 rfl rfl ?_)
    refine yp (pS rfl) (ynil (tnorm (yret ?_)))
    have hni : s.rrs.take i = s.rrs := List.take_of_length_le (by omega)
    have hfin : bss (nmsS s) = bss (s.name :: s.zone :: ((s.rrs.take i).map nmsR).flatten) := by unfold nmsS; rw [hni]
    exact yfin (rS rfl) ⟨_, .of, Ho, by rw [hfin]; exact hL, rfl⟩

theorem sumI_take {l : List Int} {i : Nat} (h : i < l.length) : sumI (l.take (i + 1)) = sumI (l.take i) + l[i] := by
  rw [List.take_succ_eq_append_getElem h, sumI_append]
  show _ + (l[i] + 0) = _; omega
theorem prt_sum {t : Int} {d : Bs} (k : Nat) : -(255 * (k : Int)) ≤ sumI (((prt t d).take k).map fun p => 4 - (p.n : Int)) ∧ sumI (((prt t d).take k).map fun p => 4 - (p.n : Int)) ≤ 4 * (k : Int) := by
  have key : ∀ (l : List Pl) (k : Nat), (∀ p ∈ l, p.n ≤ 255) → -(255 * (k : Int)) ≤ sumI ((l.take k).map fun p => 4 - (p.n : Int)) ∧ sumI ((l.take k).map fun p => 4 - (p.n : Int)) ≤ 4 * (k : Int) := by
    intro l
    induction l with
    | nil => intro k _; rw [List.take_nil]; show -(255 * (k : Int)) ≤ 0 ∧ (0 : Int) ≤ 4 * (k : Int); omega
    | cons p l ih =>
      intro k h
      cases k with
      | zero => show -(255 * ((0 : Nat) : Int)) ≤ 0 ∧ (0 : Int) ≤ 4 * ((0 : Nat) : Int); omega
      | succ k =>
        have := ih k fun q hq => h q (List.mem_cons_of_mem _ hq)
        have h1 := h p (by simp)
        rw [List.take_succ_cons, List.map_cons, sumI_cons]
        push_cast
        omega
  refine key _ k fun p hp => ?_
  obtain ⟨h1, h2, _⟩ := prt_vld hp
  have := vld_len h1
  omega
theorem prt_len (t : Int) (d : Bs) : (prt t d).length ≤ 2 := by
  unfold prt
  split
  · cases hp : pls t d with
    | none => simp
    | some x => exact pls_len hp
  · simp
theorem siz_bd {s : St} (hm : mayS s = true) (i : Nat) : 0 ≤ sumI ((s.rrs.map sizR).take i) ∧ sumI ((s.rrs.map sizR).take i) ≤ 1100 * (i : Int) := by
  have key : ∀ (l : List RR) (i : Nat), (∀ r ∈ l, dataOk r.t r.d = true) → 0 ≤ sumI ((l.map sizR).take i) ∧ sumI ((l.map sizR).take i) ≤ 1100 * (i : Int) := by
    intro l
    induction l with
    | nil => intro i _; rw [List.map_nil, List.take_nil]; show (0 : Int) ≤ 0 ∧ (0 : Int) ≤ 1100 * (i : Int); omega
    | cons r l ih =>
      intro i h
      cases i with
      | zero => show (0 : Int) ≤ 0 ∧ (0 : Int) ≤ 1100 * ((0 : Nat) : Int); omega
      | succ i =>
        have := ih i fun q hq => h q (List.mem_cons_of_mem _ hq)
        have h1 := h r (by simp)
        have h2 := sizR_ge h1
        have h3 := dataOk_len h1
        have h4 := (prt_sum (t := r.t) (d := r.d) (prt r.t r.d).length).2
        have h5 := prt_len r.t r.d
        rw [List.take_length] at h4
        have h6 : sizR r ≤ 1100 := by unfold sizR; omega
        rw [List.map_cons, List.take_succ_cons, sumI_cons]
        push_cast
        omega
  exact key _ i fun r hr => (mayS_data hm r hr).1
set_option maxRecDepth 10000 in
theorem pkSize {S : Segs} {s : St} {v : Value} (hs : Sok s) (hv : Src S v s.rrs) : Tri Try.prog 9 #[.agg (scl s v)] S (fun x S' => x = .tuple #[.int .i64 (szOf s), .int .i64 (errS s)] ∧ S' = S) := by
  refine Tri.forget (ycallee Try.fx9 (Nat.le_of_ble_eq_true rfl) ?_)
  unfold Try.x9
  obtain ⟨a, c, rfl⟩ := hv.isSlice
  have hrr := hs.rrs
  refine yseq (yregion ?_)
  refine ycons (yboxG rfl fun p1 => ?_)
  refine yp pC (yp pC (ynil (tnorm (yseq (yseq (yregion ?_))))))
  refine ycons (yloadN (l := [sv s.name, .int .i64 s.typ, .slice a s.rrs.length c, .int .i64 s.kind, sv s.zone]) rfl rfl rfl ?_)
  refine ycons (ycall (pkMay hs hv) rfl rfl fun r' S' h => ?_)
  obtain ⟨rfl, hSS⟩ := h
  have hSS := hSS.symm
  subst hSS
  cases hm : mayS s with
  | false =>
    have hE : errS s = 1 := by unfold errS; rw [if_pos hm]
    have hZ : szOf s = 0 := by unfold szOf; rw [hE, if_neg (by decide)]
    refine yp (pNot rfl) (ynil (tnorm (ycondT rfl (yseq (yregion (yp pC (yp pC (ynil (tnorm (yret (tret ?_)))))))))))
    exact yfin (rII rfl rfl) ⟨_, .of, by rw [hE, hZ], rfl⟩
  | true =>
  have hE0 : errS s = if 4096 < sizS s then 3 else 0 := by unfold errS; rw [if_neg (by rw [hm]; decide)]
  have hbd := siz_bd hm
  have hlen32 := (mayS_nums hm).2.2.2.2.2.2.1
  refine yp (pNot rfl) (ynil (tnorm (ycondF rfl (yskip (tnorm (yseq (yregion ?_)))))))
  refine ycons (yalloc fun p4 => ?_)
  refine ycons (yst1_0 rfl rfl (scI rfl) ?_)
  refine ynil (tnorm (yseq (yseq (yregion (yp (pFadr rfl) ?_)))))
  refine ycons (yload1 rfl rfl ?_)
  refine yp (pLen rfl) (yp pC (ynil (tnorm (yblock ?_))))
  refine yloop (σ := Nat) (fun i E S' => Has E [(4, .pointer (some ⟨p4, 0, none⟩)), (13, .slice a s.rrs.length c), (14, .int .i64 (s.rrs.length : Int)), (15, .int .i64 (i : Int))] ∧ i ≤ s.rrs.length ∧ Junk S' ([(p4, .cells #[.int .i64 (16 + sumI ((s.rrs.map sizR).take i))] 3)] :: S)) (fun i => s.rrs.length - i) 0
    ⟨⟨rfl, rfl, rfl, rfl, trivial⟩, Nat.zero_le _, by rw [show (16 : Int) + sumI ((s.rrs.map sizR).take 0) = 16 from rfl]; exact .of⟩ fun i E S' ⟨hE, hi, hJ⟩ => ?_
  obtain ⟨E0, e0⟩ := has_puts hE; subst e0; clear hE
  refine yforget hJ ?_
  have hbi := hbd i
  refine yseq (yregion (yp (pLt rfl rfl) (ynil (tnorm (yseq ?_)))))
  refine ycondD rfl (fun h => ?_) (fun h => ?_)
  · have hlt : i < s.rrs.length := by omega
    obtain ⟨b, o, ca, ty, fz, rfl, _, hmem, _, hg⟩ := hv.get (by intro h; simp [h] at hlt)
    have hge := hg i hlt
    have hr := List.getElem_mem hlt
    have hts := sumI_take (l := s.rrs.map sizR) (i := i) (by rw [List.length_map]; exact hlt)
    rw [List.getElem_map] at hts
    generalize s.rrs[i] = r at hge hr hts
    obtain ⟨hn, hd⟩ := hs.each r hr
    have hd1000 := dataOk_len (mayS_data hm r hr).1
    generalize sumI ((s.rrs.map sizR).take i) = A at hts hbi
    refine yskip (tnorm (yseq (yblock (yseq (yregion (yp (pIxN rfl rfl (by omega)) ?_))))))
    refine ycons (yloadNM (S := [(p4, .cells #[.int .i64 (16 + A)] 3)] :: S) (l := enc r) (List.mem_cons_of_mem _ hmem) rfl hge rfl ?_)
    refine ycons (yalloc fun p6 => ?_)
    refine ycons (ystAll (c' := [sv r.n, .int .i64 r.t, .int .i64 r.c, .int .i64 r.ttl, sv r.d]) rfl rfl rfl rfl rfl ?_)
    refine ynil (tnorm (yseq (yregion ?_)))
    refine ycons (yload1 rfl rfl ?_)
    refine yp (pFadr rfl) ?_
    refine ycons (yload1 rfl rfl ?_)
    refine yp (pLenS rfl) ?_
    rw [szS]
    refine yp (pAdd rfl rfl (by omega)) (yp (pAdd rfl rfl (by omega)) ?_)
    refine ycons (yst1_0 rfl rfl (scI rfl) ?_)
    refine ynil (tnorm (yseq (yregion (yp (pFadr rfl) ?_))))
    refine ycons (yload1 rfl rfl ?_)
    refine yp (pFadr rfl) ?_
    refine ycons (yload1 rfl rfl ?_)
    refine ycons (ycall (rcNames r.t r.d) rfl rfl fun r' S' h => ?_)
    obtain ⟨bt, bd, rfl, rfl⟩ := h
    refine ynil (tnorm (yblock ?_))
    refine yrNames (t := r.t) (d := r.d) (S := [(p4, .cells #[.int .i64 (16 + A + (2 + (r.d.length : Int)))] 3)] :: S)
      (fun k T => Junk T ([(p4, .cells #[.int .i64 (16 + A + (2 + (r.d.length : Int)) + sumI (((prt r.t r.d).take k).map fun p => 4 - (p.n : Int)))] 3)] :: S)) rfl rfl hd ?_ ?_ ?_
    · rw [List.take_zero, List.map_nil, show sumI [] = 0 from rfl, Int.add_zero]; exact .self
    · rintro l k x T hx hJ
      have hk2 := prt_sum (t := r.t) (d := r.d) k
      obtain ⟨hv1, hv2, hv3⟩ := prt_vld (List.mem_of_getElem? hx)
      have h255 := vld_len hv1
      have hkl := (List.getElem?_eq_some_iff.1 hx).1
      have hpl := prt_len r.t r.d
      have hst : sumI (((prt r.t r.d).take (k + 1)).map fun p => 4 - (p.n : Int)) = sumI (((prt r.t r.d).take k).map fun p => 4 - (p.n : Int)) + (4 - (x.n : Int)) := by
        rw [List.take_add_one, hx, List.map_append, sumI_append]
        show _ + ((4 - (x.n : Int)) + 0) = _; omega
      show Y _ _ _ _ (thenQ (fun E1 S1 => Y _ _ _ _ (roundQ (fun _ S' => Junk S' _) _ _) E1 S1) _) _ _
      rw [hst]
      generalize sumI (((prt r.t r.d).take k).map fun p => 4 - (p.n : Int)) = B at hJ hk2
      refine yforget hJ (yregion (yp (pI rfl) (ynil (tnorm (yblock (yregion ?_))))))
      refine ycons (yload1 rfl rfl ?_)
      refine yp (pI rfl) (yp (pSub rfl rfl (by omega)) (yp (pAdd rfl rfl (by omega)) ?_))
      refine ycons (yst1_0 rfl rfl (scI rfl) ?_)
      refine ynil (bnorm ?_)
      rw [show 16 + A + (2 + (r.d.length : Int)) + (B + (4 - (x.n : Int))) = 16 + A + (2 + (r.d.length : Int)) + B + (4 - (x.n : Int)) from by omega]
      exact .of
    · rintro T hJ
      rw [List.take_length] at hJ
      have hsz : 16 + A + (2 + (r.d.length : Int)) + sumI ((prt r.t r.d).map fun p => 4 - (p.n : Int)) = 16 + sumI ((s.rrs.map sizR).take (i + 1)) := by rw [hts]; unfold sizR; omega
      rw [hsz] at hJ
      refine bnorm (bnorm (tnorm ?_))
      refine yforget hJ (yregion (yp (pInc rfl rfl (by omega)) (yp (pI rfl) (ynil (tnorm ?_)))))
      exact ⟨i + 1, ⟨⟨rfl, rfl, rfl, rfl, trivial⟩, by omega, .of⟩, by omega⟩
  · have hni : (s.rrs.map sizR).take i = s.rrs.map sizR := List.take_of_length_le (by rw [List.length_map]; omega)
    have hsz : 16 + sumI ((s.rrs.map sizR).take i) = sizS s := by rw [hni]; rfl
    rw [hsz]
    refine yexit (texit (texit (bexit (tnorm (yseq (yseq (yregion ?_)))))))
    refine ycons (yload1 rfl rfl ?_)
    refine yp (pGt rfl rfl) (ynil (tnorm ?_))
    by_cases h4 : 4096 < sizS s
    · rw [if_pos h4] at hE0
      have hZ : szOf s = 0 := by unfold szOf; rw [hE0, if_neg (by decide)]
      rw [decide_eq_true h4]
      refine ycondT rfl (yseq (yregion (yp pC (yp pC (ynil (tnorm (yret (tret ?_))))))))
      exact yfin (rII rfl rfl) ⟨_, .of, by rw [hE0, hZ], rfl⟩
    · rw [if_neg h4] at hE0
      have hZ : szOf s = sizS s := by unfold szOf; rw [hE0, if_pos rfl]
      rw [decide_eq_false h4]
      refine ycondF rfl (yskip (tnorm (yseq (yregion ?_))))
      refine ycons (yload1 rfl rfl ?_)
      refine yp (pI rfl) (yp pC (ynil (tnorm (yret ?_))))
      exact yfin (rII rfl rfl) ⟨_, .of, by rw [hE0, hZ], rfl⟩
end Go.Proofs.Ytejmbmenbailmaa
namespace Go.Proofs.Ytejmbmenbailmaa
open Go.Xs
open Enc (enc)

theorem undMet : Try.prog.underlying 73 = some (.map 9 4) := by kernel_rfl
def metF (l : List Bs) : ByteArray → Option Bool := fun s => if s.data.toList ∈ l then some true else none
theorem metF_nil : (fun _ : ByteArray => (none : Option Bool)) = metF [] := by funext s; simp [metF]
theorem metF_cons (l : List Bs) (n : Bs) : mset (metF l) (⟨n.toArray⟩ : ByteArray) (some true) = metF (n :: l) := by
  funext s
  unfold mset metF
  by_cases h : s = ⟨n.toArray⟩
  · rw [if_pos h, if_pos (by rw [h]; simp)]
  · rw [if_neg h]
    have : s.data.toList ∈ n :: l ↔ s.data.toList ∈ l := by
      rw [List.mem_cons]
      exact ⟨fun h2 => h2.resolve_left fun e => h ((bs_eta s n).2 e), .inr⟩
    simp only [this]
def costS (L : List Nm) (s : St) : Int := if errS s = 0 then cost (sizS s) + (costL L [] (nmsS s) : Nat) else 0
theorem costN_bd (k : Nat) : costN k ≤ 8192 := by
  unfold costN
  (repeat' split) <;> omega
theorem costL_bd (L : List Nm) : ∀ (l s : List Bs), costL L s l ≤ 8192 * l.length
  | [], _ => Nat.le_refl _
  | n :: l, s => by
    have h1 := costL_bd L l (foldB n :: s)
    have h2 := costN_bd (8 + n.length)
    unfold costL
    rw [List.length_cons]
    split <;> omega
theorem nmsS_len (s : St) : (nmsS s).length ≤ 2 + 2 * s.rrs.length := by
  have := nms_len s.rrs
  unfold nmsS
  rw [List.length_cons, List.length_cons]; omega
set_option maxRecDepth 10000 in
theorem pkCost {S : Segs} {s : St} {v : Value} {tb ab : Nat} {L : List Nm} {T : List Chunk} (hT : Tb tb ab L T) (hs : Sok s) (hv : Src S v s.rrs) : Tri Try.prog 11 #[.pointer (some ⟨tb, 0, none⟩), .agg (scl s v)] (T :: S) (fun x S' => x = .int .i64 (costS L s) ∧ S' = T :: S) := by
  refine Tri.forget (ycallee Try.fx11 (Nat.le_of_ble_eq_true rfl) ?_)
  unfold Try.x11
  obtain ⟨a, c, rfl⟩ := hv.isSlice
  refine yseq (yregion ?_)
  refine ycons (yboxG rfl fun p3 => ?_)
  refine yp pC (ynil (tnorm (yseq (yregion ?_))))
  refine ycons (yloadN (l := [sv s.name, .int .i64 s.typ, .slice a s.rrs.length c, .int .i64 s.kind, sv s.zone]) rfl rfl rfl ?_)
  refine ycons (ycall (pkSize hs hv) rfl rfl fun r' S' h => ?_)
  obtain ⟨rfl, hSS⟩ := h
  have hSS := hSS.symm
  subst hSS
  refine yp (pU rfl) (yp (pExt rfl rfl) (yp (pExt rfl rfl) (yp (pI rfl) (yp (pI rfl) (ynil (tnorm (yseq (yseq (yregion (yp (pI rfl) (yp (pNe rfl rfl) (ynil (tnorm ?_)))))))))))))
  by_cases hE : errS s = 0
  case neg =>
    have hC : costS L s = 0 := by unfold costS; rw [if_neg hE]
    rw [decide_eq_false hE]
    refine ycondT rfl (yseq (yregion (yp pC (ynil (tnorm (yret (tret ?_)))))))
    exact yfin (rI rfl) ⟨_, .of, by rw [hC], rfl⟩
  have hm : mayS s = true := by
    cases hm : mayS s with
    | true => rfl
    | false => unfold errS at hE; rw [if_pos hm] at hE; cases hE
  have hZ : szOf s = sizS s := by unfold szOf; rw [if_pos hE]
  have hC : costS L s = cost (sizS s) + (costL L [] (nmsS s) : Nat) := by unfold costS; rw [if_pos hE]
  rw [decide_eq_true hE, hZ]
  refine ycondF rfl (yskip (tnorm (yseq (yregion (yp (pI rfl) ?_)))))
  refine ycons (ycall (arCost (sizS s)) rfl rfl fun r' S' h => ?_)
  obtain ⟨rfl, rfl⟩ := h
  refine yp (pI rfl) (ynil (tnorm (yseq (yregion ?_))))
  refine ycons (ymkmap ByteArray Bool fun mb HM hM => ?_)
  rw [metF_nil] at hM
  refine yp (pM rfl) (ynil (tnorm (yseq (yseq (yregion ?_)))))
  refine ycons (yloadN (l := [sv s.name, .int .i64 s.typ, .slice a s.rrs.length c, .int .i64 s.kind, sv s.zone]) rfl rfl rfl ?_)
  refine ycons (ycall (pkNames hs hv) rfl rfl fun r' S' h => ?_)
  obtain ⟨HN, hN, hSS⟩ := h
  subst hSS
  obtain ⟨na, nc, rfl⟩ := hN.isSlice
  rw [bss_len] at hN ⊢
  have hnl := nmsS_len s
  have hrr := hs.rrs
  have hcb : 0 ≤ cost (sizS s) ∧ cost (sizS s) ≤ 8192 := by
    have := costN_bd (sizS s).toNat
    unfold cost
    split <;> omega
  refine yp (pLen rfl) (yp pC (ynil (tnorm (yblock ?_))))
  refine yloop (σ := Nat) (fun i E S' => ∃ (seen : List Bs) (acc m : Nat) (HM : List Chunk), Has E [(0, .pointer (some ⟨tb, 0, none⟩)), (7, .int .i64 (cost (sizS s) + (acc : Nat))), (8, .map (some mb)), (22, .slice na (nmsS s).length nc), (23, .int .i64 ((nmsS s).length : Int)), (24, .int .i64 (i : Int))] ∧ i ≤ (nmsS s).length ∧ acc + costL L seen ((nmsS s).drop i) = costL L [] (nmsS s) ∧ Mp mb (metF seen) m HM ∧ Junk S' (HM :: T :: HN :: S)) (fun i => (nmsS s).length - i) 0
    ⟨[], 0, 0, HM, ⟨rfl, by show Value.int _ _ = _; congr 1; omega, rfl, rfl, rfl, rfl, trivial⟩, Nat.zero_le _, by rw [List.drop_zero, Nat.zero_add], hM, .of⟩ fun i E S' ⟨seen, acc, m, HM, hE2, hi, hacc, hM, hJ⟩ => ?_
  have htot := costL_bd L (nmsS s) []
  obtain ⟨E0, e0⟩ := has_puts hE2; subst e0; clear hE2
  refine yforget hJ (yseq (yregion (yp (pLt rfl rfl) (ynil (tnorm (yseq ?_))))))
  refine ycondD rfl (fun h => ?_) (fun h => ?_)
  · have hlt : i < (nmsS s).length := by omega
    have hdr : (nmsS s).drop i = (nmsS s)[i] :: (nmsS s).drop (i + 1) := List.drop_eq_getElem_cons hlt
    have hvl := mayS_vld hm _ (List.getElem_mem hlt)
    obtain ⟨b, sp, fz, hz, rfl, _, hc', rfl⟩ := hN.at' (by intro h; rw [← List.length_eq_zero_iff, bss_len] at h; omega)
    have hld : ((cells (bss (nmsS s) ++ sp)).toArray.toList)[0 + i * 1 + 0]? = some (sv (nmsS s)[i]) := (row_cell (kk := 1) (j := 0) (by rw [bss_len]; exact hlt) rfl (by omega)).trans (by unfold bss; rw [List.getElem_map]; rfl)
    generalize (nmsS s)[i] = n at hdr hvl hld
    have h255 := vld_len hvl
    rw [hdr, costL] at hacc
    refine yskip (tnorm (yseq (yblock (yseq (yregion (yp (pIxN rfl rfl (by omega)) ?_))))))
    refine ycons (yload1 (v := sv n) rfl hld ?_)
    refine yp (pT rfl) (ynil (tnorm (yseq (yregion (yp (pT rfl) ?_)))))
    refine ycons (ycall (nmFold n (by omega)) rfl rfl fun r' S' h => ?_)
    obtain ⟨rfl, rfl⟩ := h
    refine yp (pT rfl) (ynil (tnorm (yseq (yregion (yp (pM rfl) (yp (pT rfl) ?_))))))
    refine ycons (ylook1 (v := .bool (decide (foldB n ∈ seen))) hM (by simp) (⟨(foldB n).toArray⟩ : ByteArray) undMet undStr zerBool rfl rfl ?_ ?_)
    · unfold metF
      by_cases h : foldB n ∈ seen
      · rw [if_pos h, decide_eq_true h]; rfl
      · rw [if_neg h, decide_eq_false h]; rfl
    by_cases hin : foldB n ∈ seen
    · rw [decide_eq_true hin]
      rw [if_pos (.inl hin)] at hacc
      refine yp (pNot rfl) (ynil (tnorm (ycondF rfl (yskip (bnorm (tnorm (yregion (yp (pInc rfl rfl (by omega)) (yp (pI rfl) (ynil (tnorm ?_)))))))))))
      have hcg := costL_congr (L := L) (l := (nmsS s).drop (i + 1)) (s := foldB n :: seen) (s' := seen) fun m => by
        rw [List.mem_cons]
        exact ⟨fun h => by rcases h with rfl | h <;> assumption, .inr⟩
      exact ⟨i + 1, ⟨seen, acc, m, HM, ⟨rfl, rfl, rfl, rfl, rfl, rfl, trivial⟩, by omega, by rw [hcg] at hacc; omega, hM, .of⟩, by omega⟩
    · rw [decide_eq_false hin]
      refine yp (pNot rfl) (ynil (tnorm (ycondT rfl (yseq (yregion (yp (pM rfl) (yp (pT rfl) ?_)))))))
      refine ycons (ymupd hM (⟨(foldB n).toArray⟩ : ByteArray) true undMet undStr rfl rfl rfl fun HM2 hM2 => ?_)
      rw [metF_cons] at hM2
      refine ynil (tnorm (yregion (yp (pI rfl) (yp (pP rfl) (yp (pT rfl) ?_)))))
      refine ycons (ycall (tbCost hT (foldB n) (by rw [foldB_len]; omega)) rfl rfl fun r' S' h => ?_)
      obtain ⟨rfl, rfl⟩ := h
      rw [fold_fold, vld_fold, hvl, foldB_len]
      have hcc : cost (8 + (n.length : Int)) = (costN (8 + n.length) : Nat) := by
        unfold cost; rw [if_neg (by omega)]; congr 1
      have hval : (if (byN L (foldB n)).isSome = true ∨ true = false then (0 : Int) else cost (8 + (n.length : Int))) = ((if foldB n ∈ seen ∨ (byN L (foldB n)).isSome = true then 0 else costN (8 + n.length) : Nat) : Int) := by
        by_cases hb : (byN L (foldB n)).isSome = true
        · rw [if_pos (.inl hb), if_pos (.inr hb)]; rfl
        · rw [if_neg (by simp [hb]), if_neg (by simp [hb, hin]), hcc]
      rw [hval]
      generalize (if foldB n ∈ seen ∨ (byN L (foldB n)).isSome = true then 0 else costN (8 + n.length) : Nat) = q at hacc
      refine yp (pAdd rfl rfl (by omega)) (yp (pI rfl) (ynil (bnorm (tnorm (yregion (yp (pInc rfl rfl (by omega)) (yp (pI rfl) (ynil (tnorm ?_)))))))))
      exact ⟨i + 1, ⟨foldB n :: seen, acc + q, _, HM2, ⟨rfl, by show Value.int _ _ = _; congr 1; omega, rfl, rfl, rfl, rfl, trivial⟩, by omega, by omega, hM2, .of⟩, by omega⟩
  · have hd0 : (nmsS s).drop i = [] := List.drop_eq_nil_of_le (by omega)
    rw [hd0, costL] at hacc
    refine yexit (texit (texit (bexit (tnorm (yseq (yregion (yp (pI rfl) (yp (pI rfl) (ynil (tnorm (yret ?_)))))))))))
    exact yfin (rI rfl) ⟨_, .of, by rw [hC, ← hacc]; rfl, rfl⟩
end Go.Proofs.Ytejmbmenbailmaa
namespace Go.Proofs.Ytejmbmenbailmaa
open Go.Xs
open Enc (enc)

theorem pCvLow {E : Env} {x : Operand} {j : Nat} (h : ev E x = .int .i64 (j : Int)) : pstep (ev E) (.conv .u8 x) = some (.int .u8 ((UInt8.ofNat (j % 256)).toNat : Int)) := by
  simp only [pstep, h, u8wrap]
  have : (UInt8.ofNat (j % 256)).toNat = j % 256 % 256 := by simp
  rw [this]
  congr 2
  omega
theorem pShr8 {E : Env} {x : Operand} {j : Nat} (h : ev E x = .int .i64 (j : Int)) : pstep (ev E) (.bin .shr x (.const (.int .u64 8))) = some (.int .i64 ((j / 256 : Nat) : Int)) := by
  have h2 : (j : Int).fdiv 256 = ((j / 256 : Nat) : Int) := by rw [Int.fdiv_eq_ediv_of_nonneg _ (by decide)]; omega
  rw [← h2]
  simp only [pstep, h]
  rfl
theorem leN_step (k n : Nat) : leN (k + 1) n = UInt8.ofNat (n % 256) :: leN k (n / 256) := rfl
theorem pkPut {v : Value} {L : Bs} {H : List Chunk} (hL : Slc 5 v L H) (hLl : L.length < 2 ^ 40) (n size : Nat) (hs : size ≤ 8) : Tri Try.prog 58 #[v, .int .i64 (n : Int), .int .i64 (size : Int)] [H] (fun x S => ∃ H', Slc 5 x (L ++ leN size n) H' ∧ S = [H']) := by
  refine Tri.forget (ycallee Try.fx58 (Nat.le_of_ble_eq_true rfl) ?_)
  unfold Try.x58
  refine yseq (yregion (yp pC (ynil (tnorm (yseq (yseq (yregion (yp (pI rfl) (yp pC (ynil (tnorm (yblock ?_))))))))))))
  refine yloop (σ := Nat) (fun i E S => ∃ (v : Value) (L' : Bs) (H' : List Chunk) (m : Nat), Has E [(1, .int .i64 (m : Int)), (7, .int .i64 (size : Int)), (8, .int .i64 (i : Int))] ∧ E 0 = v ∧ Slc 5 v L' H' ∧ i ≤ size ∧ m ≤ n ∧ L'.length ≤ L.length + i ∧ L' ++ leN (size - i) m = L ++ leN size n ∧ Junk S [H']) (fun i => size - i) 0
    ⟨v, L, H, n, ⟨rfl, rfl, rfl, trivial⟩, rfl, hL, Nat.zero_le _, Nat.le_refl _, Nat.le_refl _, rfl, .of⟩ fun i E S ⟨v', L', H', m, hE, hE0, hL', hi, hm, hll, heq, hJ⟩ => ?_
  obtain ⟨la, lc, rfl⟩ := hL'.isSlice
  have hE2 : Has E [(0, .slice la L'.length lc), (1, .int .i64 (m : Int)), (7, .int .i64 (size : Int)), (8, .int .i64 (i : Int))] := ⟨hE0, hE⟩
  clear hE hE0
  obtain ⟨E0, e0⟩ := has_puts hE2; subst e0; clear hE2
  refine yforget hJ (yseq (yregion (yp (pLt rfl rfl) (ynil (tnorm (yseq ?_))))))
  refine ycondD rfl (fun h => ?_) (fun h => ?_)
  · obtain ⟨j, hj⟩ : ∃ j, size - i = j + 1 := ⟨size - i - 1, by omega⟩
    rw [hj, leN_step] at heq
    refine yskip (tnorm (yseq (yblock (yseq (yregion (yp (pS rfl) (yp (pI rfl) (yp (pCvLow rfl) ?_))))))))
    generalize UInt8.ofNat (m % 256) = b at heq
    refine ycons (ybsl1 b rfl rfl (by decide) (by decide) rfl fun p13 => ?_)
    refine ycons (yapp (Y := [b]) rfl rfl hL' (.lit (by repeat (first | exact List.mem_cons_self | apply List.mem_cons_of_mem)) rfl) rfl (0 : UInt8) rfl (by rw [List.length_singleton]; omega) (by rw [List.length_singleton]; omega) fun v2 H2 hL2 => ?_)
    obtain ⟨la2, lc2, rfl⟩ := hL2.isSlice
    refine yp (pS rfl) (ynil (tnorm (yregion (yp (pI rfl) (yp (pShr8 rfl) (yp (pI rfl) (ynil (bnorm (tnorm (yregion (yp (pInc rfl rfl (by omega)) (yp (pI rfl) (ynil (tnorm ?_))))))))))))))
    refine ⟨i + 1, ⟨.slice la2 (L' ++ [b]).length lc2, L' ++ [b], H2, m / 256, ⟨rfl, rfl, rfl, trivial⟩, rfl, hL2, by omega, by omega, by rw [List.length_append, List.length_singleton]; omega, ?_, .of⟩, by omega⟩
    rw [show size - (i + 1) = j from by omega, List.append_assoc]; exact heq
  · rw [show size - i = 0 from by omega] at heq
    have heq2 : L' = L ++ leN size n := by rw [← heq]; show L' = L' ++ []; rw [List.append_nil]
    refine yexit (texit (texit (bexit (tnorm (yseq (yregion (yp (pS rfl) (yp (pS rfl) (ynil (tnorm (yret ?_)))))))))))
    exact yfin (rS rfl) ⟨_, .of, H', by rw [← heq2]; exact hL', rfl⟩

theorem pkPutI {v : Value} {L : Bs} {H : List Chunk} (hL : Slc 5 v L H) (hLl : L.length < 2 ^ 40) (n : Int) (size : Nat) (hn : 0 ≤ n) (hs : size ≤ 8) : Tri Try.prog 58 #[v, .int .i64 n, .int .i64 (size : Int)] [H] (fun x S => ∃ H', Slc 5 x (L ++ leN size n.toNat) H' ∧ S = [H']) := by
  have := pkPut hL hLl n.toNat size hs
  rwa [show ((n.toNat : Nat) : Int) = n from by omega] at this
/-- an element of a list that is read -/
theorem srcAt {α : Type} [Enc α] {S : Segs} {a : Option Addr} {c : Nat} {L : List α} (h : Src S (.slice a L.length c) L) {i : Nat} (hi : i < L.length) : ∃ (b o : Nat) (ca : Array Value) (ty : TypeId) (fz : Nat × Nat), a = some ⟨b, o, none⟩ ∧ [(b, Obj.cells ca ty fz)] ∈ S ∧ (ca.toList.drop (o + i * Enc.k α)).take (Enc.k α) = enc L[i] ∧ ∀ j, j < Enc.k α → ca.toList[o + i * Enc.k α + j]? = (enc L[i])[j]? := by
  obtain ⟨b, o, ca, ty, fz, rfl, _, hmem, h1, h2⟩ := h.get (by intro h; simp [h] at hi)
  exact ⟨b, o, ca, ty, fz, rfl, hmem, h2 i hi, fun j hj => h1 i j hi hj⟩
set_option maxRecDepth 10000 in
theorem pkWrite {S : Segs} {s : St} {v iv : Value} {ids : List Int} (hs : Sok s) (hv : Src S v s.rrs) (hi : Src S iv ids) (hE : errS s = 0) (hlen : ids.length = (nmsS s).length) (hnn : ∀ i ∈ ids, 0 ≤ i) :
    Tri Try.prog 34 #[.agg (scl s v), iv] S (fun x S' => ∃ H, Slc 5 x (blkS s ids) H ∧ S' = H :: S) := by
  refine Tri.forget (ycallee Try.fx34 (Nat.le_of_ble_eq_true rfl) ?_)
  unfold Try.x34
  obtain ⟨a, c, rfl⟩ := hv.isSlice
  obtain ⟨ia, ic, rfl⟩ := hi.isSlice
  have hrr := hs.rrs
  have hl2 : 2 ≤ ids.length := by rw [hlen]; unfold nmsS; simp
  have hidb : ids.length ≤ 2 ^ 22 := by
    have := nmsS_len s
    omega
  obtain ⟨b0, o0, ca0, ty0, fz0, rfl, hm0, _, hg0⟩ := srcAt hi (i := 0) (by omega)
  obtain ⟨b1, o1, ca1, ty1, fz1, hb1, hm1, _, hg1⟩ := srcAt hi (i := 1) (by omega)
  have hg0 := hg0 0 (by decide)
  have hg1 := hg1 0 (by decide)
  have hn0 := hnn ids[0] (List.getElem_mem _)
  have hn1 := hnn ids[1] (List.getElem_mem _)
  have hi0 : ids.getD 0 0 = ids[0] := by rw [List.getD_eq_getElem?_getD, List.getElem?_eq_getElem (by omega)]; rfl
  have hi1 : ids.getD 1 0 = ids[1] := by rw [List.getD_eq_getElem?_getD, List.getElem?_eq_getElem (by omega)]; rfl
  have hld0 : ca0.toList[o0 + 0 * 1 + 0]? = some (.int .i64 ids[0]) := hg0
  have hld1 : ca1.toList[o1 + 1 * 1 + 0]? = some (.int .i64 ids[1]) := hg1
  have hm : mayS s = true := by
    cases hm : mayS s with
    | true => rfl
    | false => unfold errS at hE; rw [if_pos hm] at hE; cases hE
  have hnum := mayS_nums hm
  have hhead : blkS s ids = [] ++ leN 4 ids[0].toNat ++ leN 2 s.typ.toNat ++ leN 2 s.kind.toNat ++ leN 4 ids[1].toNat ++ leN 4 1585123525 ++ rrsB s.rrs (ids.drop 2) := by
    unfold blkS idB
    rw [hi0, hi1]; rfl
  generalize ids[0] = z0 at hld0 hn0 hhead
  generalize ids[1] = z1 at hld1 hn1 hhead
  refine yseq (yregion ?_)
  refine ycons (yboxG rfl fun p2 => ?_)
  refine ycons (ybx (scS rfl) fun p3 => ?_)
  refine yp pC (ynil (tnorm (yseq (yregion ?_))))
  refine ycons (yload1 rfl rfl ?_)
  refine yp (pIxN (k := 0) rfl rfl (by omega)) ?_
  refine ycons (yloadM (by repeat (first | exact hm0 | apply List.mem_cons_of_mem)) rfl hld0 ?_)
  refine ycons (ycall (pkPutI (v := .slice none 0 0) (L := []) (H := []) .nil (by decide) z0 4 hn0 (by decide)) rfl rfl fun x S' h => ?_)
  obtain ⟨H1, hL1, rfl⟩ := h
  obtain ⟨la1, lc1, rfl⟩ := hL1.isSlice
  refine yp (pS rfl) (ynil (tnorm (yseq (yregion (yp (pS rfl) (yp (pFadr rfl) (yp (pFadr rfl) ?_)))))))
  refine ycons (yload1 rfl rfl ?_)
  refine ycons (ycall (pkPutI hL1 (by simp [leN_len]) s.typ 2 (by omega) (by decide)) rfl rfl fun x S' h => ?_)
  obtain ⟨H2, hL2, rfl⟩ := h
  obtain ⟨la2, lc2, rfl⟩ := hL2.isSlice
  refine yp (pS rfl) (ynil (tnorm (yseq (yregion (yp (pS rfl) (yp (pFadr rfl) ?_))))))
  refine ycons (yload1 rfl rfl ?_)
  refine ycons (ycall (pkPutI hL2 (by simp [leN_len]) s.kind 2 (by omega) (by decide)) rfl rfl fun x S' h => ?_)
  obtain ⟨H3, hL3, rfl⟩ := h
  obtain ⟨la3, lc3, rfl⟩ := hL3.isSlice
  refine yp (pS rfl) (ynil (tnorm (yseq (yregion (yp (pS rfl) ?_)))))
  refine ycons (yload1 rfl rfl ?_)
  obtain ⟨rfl, rfl⟩ : b0 = b1 ∧ o0 = o1 := by cases hb1; exact ⟨rfl, rfl⟩
  refine yp (pIxN (k := 1) rfl rfl (by omega)) ?_
  refine ycons (yloadM (by repeat (first | exact hm1 | apply List.mem_cons_of_mem)) rfl hld1 ?_)
  refine ycons (ycall (pkPutI hL3 (by simp [leN_len]) z1 4 hn1 (by decide)) rfl rfl fun x S' h => ?_)
  obtain ⟨H4, hL4, rfl⟩ := h
  obtain ⟨la4, lc4, rfl⟩ := hL4.isSlice
  refine yp (pS rfl) (ynil (tnorm (yseq (yregion (yp (pS rfl) ?_)))))
  refine ycons (ycall (pkPutI hL4 (by simp [leN_len]) 1585123525 4 (by decide) (by decide)) rfl rfl fun x S' h => ?_)
  obtain ⟨H5, hL5, rfl⟩ := h
  obtain ⟨la5, lc5, rfl⟩ := hL5.isSlice
  refine yp (pS rfl) (ynil (tnorm (yseq (yregion ?_))))
  refine ycons (yalloc fun p6 => ?_)
  refine ycons (yst1_0 rfl rfl (scI rfl) ?_)
  refine ynil (tnorm (yseq (yseq (yregion (yp (pFadr rfl) ?_)))))
  refine ycons (yload1 rfl rfl ?_)
  refine yp (pLen rfl) (yp pC (ynil (tnorm (yblock ?_))))
  have hblk : (blkS s ids).length ≤ 4096 := by
    have h1 := blkS_len (fun r hr => (mayS_data hm r hr).1) hlen
    unfold errS at hE
    rw [if_neg (by rw [hm]; decide)] at hE
    split at hE
    · cases hE
    · omega
  refine yloop (σ := Nat) (fun i E S' => ∃ (v : Value) (Lb : Bs) (Hb : List Chunk), Has E [(3, .pointer (some ⟨p3, 0, none⟩)), (6, .pointer (some ⟨p6, 0, none⟩)), (34, .slice a s.rrs.length c), (35, .int .i64 (s.rrs.length : Int)), (36, .int .i64 (i : Int))] ∧ E 5 = v ∧ Slc 5 v Lb Hb ∧ i ≤ s.rrs.length ∧ Lb ++ rrsB (s.rrs.drop i) (ids.drop (2 + ((s.rrs.take i).map nmsR).flatten.length)) = blkS s ids ∧
      Junk S' (Hb :: [(p6, .cells #[.int .i64 ((2 + ((s.rrs.take i).map nmsR).flatten.length : Nat) : Int)] 3)] :: [(p3, .cells #[.slice (some ⟨b0, o0, none⟩) ids.length ic] 48)] :: S)) (fun i => s.rrs.length - i) 0
    ⟨.slice la5 _ lc5, _, H5, ⟨rfl, rfl, rfl, rfl, rfl, trivial⟩, rfl, hL5, Nat.zero_le _, hhead.symm, by
      show Junk _ (H5 :: [(p6, .cells #[.int .i64 2] 3)] :: [(p3, .cells #[.slice (some ⟨b0, o0, none⟩) ids.length ic] 48)] :: S)
      exact .of⟩ fun i E S' ⟨vb, Lb, Hb, hE2, hE5, hLb, hile, heq, hJ⟩ => ?_
  clear hL1 hL2 hL3 hL4 hL5 hhead
  obtain ⟨la, lc, rfl⟩ := hLb.isSlice
  have hE3 : Has E [(3, .pointer (some ⟨p3, 0, none⟩)), (5, .slice la Lb.length lc), (6, .pointer (some ⟨p6, 0, none⟩)), (34, .slice a s.rrs.length c), (35, .int .i64 (s.rrs.length : Int)), (36, .int .i64 (i : Int))] := ⟨hE2.1, hE5, hE2.2⟩
  clear hE2 hE5
  obtain ⟨E0, e0⟩ := has_puts hE3; subst e0; clear hE3
  refine yforget hJ (yseq (yregion (yp (pLt rfl rfl) (ynil (tnorm (yseq ?_))))))
  refine ycondD rfl (fun h => ?_) (fun h => ?_)
  · have hlt : i < s.rrs.length := by omega
    obtain ⟨rb, ro, rca, rty, rfz, rfl, rmem, hge, _⟩ := srcAt hv hlt
    have hr := List.getElem_mem hlt
    have hts := nms_take hlt
    have hdr : s.rrs.drop i = s.rrs[i] :: s.rrs.drop (i + 1) := List.drop_eq_getElem_cons hlt
    rw [hdr] at heq
    have hnt : ((s.rrs.take (i + 1)).map nmsR).flatten.length ≤ ((s.rrs.map nmsR).flatten).length := by
      have e : s.rrs.map nmsR = (s.rrs.take (i + 1)).map nmsR ++ (s.rrs.drop (i + 1)).map nmsR := by rw [← List.map_append, List.take_append_drop]
      rw [e, List.flatten_append, List.length_append]; omega
    have hidl : ids.length = 2 + ((s.rrs.map nmsR).flatten).length := by rw [hlen]; unfold nmsS; simp; omega
    rw [hts, List.length_append] at hnt
    have hts2 : ((s.rrs.take (i + 1)).map nmsR).flatten.length = ((s.rrs.take i).map nmsR).flatten.length + (prt s.rrs[i].t s.rrs[i].d).length := by rw [hts, List.length_append]; unfold nmsR; rw [List.length_map]
    have hnr : (nmsR s.rrs[i]).length = (prt s.rrs[i].t s.rrs[i].d).length := by unfold nmsR; rw [List.length_map]
    rw [hnr] at hnt
    clear hts hnr hdr
    generalize hnk : ((s.rrs.take (i + 1)).map nmsR).flatten.length = nk' at hts2
    generalize s.rrs[i] = r at hge hr hts2 hnt heq
    generalize ((s.rrs.take i).map nmsR).flatten.length = nk at hts2 hnt heq
    obtain ⟨hn, hd⟩ := hs.each r hr
    obtain ⟨hok, _⟩ := mayS_data hm r hr
    have hd1000 := dataOk_len hok
    have hrow : ∃ a0, Row r.d a0 (prt r.t r.d) := by
      rcases prt_row r.t r.d with h | ⟨a0, k, b, e, _, ha, hc, _⟩
      · exact ⟨0, by rw [h]; exact Nat.zero_le _⟩
      · exact ⟨a0, plc_row hc ha⟩
    obtain ⟨a0, hrow⟩ := hrow
    rw [rrsB] at heq
    refine yskip (tnorm (yseq (yblock (yseq (yregion (yp (pIxN rfl rfl (by omega)) ?_))))))
    refine ycons (yloadNM (l := enc r) (by repeat (first | exact rmem | apply List.mem_cons_of_mem)) rfl hge rfl ?_)
    refine ycons (yalloc fun p8 => ?_)
    refine ycons (ystAll (c' := [sv r.n, .int .i64 r.t, .int .i64 r.c, .int .i64 r.ttl, sv r.d]) rfl rfl rfl rfl rfl ?_)
    refine ynil (tnorm (yseq (yregion ?_)))
    refine ycons (yalloc fun p9 => ?_)
    refine ynil (tnorm (yseq (yregion ?_)))
    refine ycons (yalloc fun p10 => ?_)
    refine ycons (yst1_0 rfl rfl (scI rfl) ?_)
    refine ynil (tnorm (yseq (yseq (yregion (yp (pFadr rfl) ?_)))))
    refine ycons (yload1 rfl rfl ?_)
    refine yp (pFadr rfl) ?_
    refine ycons (yload1 rfl rfl ?_)
    refine ycons (ycall (rcNames r.t r.d) rfl rfl fun r' S' h => ?_)
    obtain ⟨bt, bd, rfl, rfl⟩ := h
    refine ynil (tnorm (yblock ?_))
    have hrle : ∀ {a0 : Nat} {l : List Pl}, Row r.d a0 l → a0 ≤ r.d.length := fun {a0 l} h => by
      cases l with
      | nil => exact h
      | cons p l =>
        have := (lead_pos h.2.1).2.2
        have h0 := (lead_pos h.2.1).1
        rw [List.length_drop] at this; omega
    refine yrNames (t := r.t) (d := r.d) (S := [(p8, .cells (rcl r) 34)] :: [] :: [(p9, .cells #[.slice none 0 0] 35)] :: [(p10, .cells #[.int .i64 0] 3)] :: Hb :: [(p6, .cells #[.int .i64 ((2 + nk : Nat) : Int)] 3)] :: [(p3, .cells #[.slice (some ⟨b0, o0, none⟩) ids.length ic] 48)] :: S)
      (fun q T => ∃ (vd : Value) (Ld : Bs) (Hd : List Chunk) (fr a0 : Nat), Slc 5 vd Ld Hd ∧ fr ≤ a0 ∧ Row r.d a0 ((prt r.t r.d).drop q) ∧ Ld ++ splice r.d fr ((prt r.t r.d).drop q) ((ids.drop (2 + nk + q)).map idB) = datB r (ids.drop (2 + nk)) ∧
        Junk T ([(p8, .cells (rcl r) 34)] :: Hd :: [(p9, .cells #[vd] 35)] :: [(p10, .cells #[.int .i64 (fr : Int)] 3)] :: Hb :: [(p6, .cells #[.int .i64 ((2 + nk + q : Nat) : Int)] 3)] :: [(p3, .cells #[.slice (some ⟨b0, o0, none⟩) ids.length ic] 48)] :: S)) rfl rfl hd ⟨_, [], [], 0, a0, .nil, Nat.zero_le _, hrow, rfl, .self⟩ ?_ ?_
    · rintro l q x T hx ⟨vd, Ld, Hd, fr, a1, hLd, hfr, hrw, hsp, hJ⟩
      have hql := (List.getElem?_eq_some_iff.1 hx).1
      have hdq : (prt r.t r.d).drop q = x :: (prt r.t r.d).drop (q + 1) := by
        rw [List.drop_eq_getElem_cons hql, (List.getElem?_eq_some_iff.1 hx).2]
      rw [hdq] at hrw hsp
      obtain ⟨hxa, hxl, hrw2⟩ := hrw
      obtain ⟨hx1, hx2, hx3⟩ := lead_pos hxl
      rw [List.length_drop] at hx3
      have hidq : 2 + nk + q < ids.length := by omega
      have hid : ids.drop (2 + nk + q) = ids[2 + nk + q] :: ids.drop (2 + nk + (q + 1)) := List.drop_eq_getElem_cons hidq
      have hz := hnn _ (List.getElem_mem hidq)
      obtain ⟨b2, o2, ca2, ty2, fz2, hb2, hm2, _, hg2⟩ := srcAt hi hidq
      have hg2 := hg2 0 (by decide)
      obtain ⟨rfl, rfl⟩ : b0 = b2 ∧ o0 = o2 := by cases hb2; exact ⟨rfl, rfl⟩
      have hld2 : ca2.toList[o0 + (2 + nk + q) * 1 + 0]? = some (.int .i64 ids[2 + nk + q]) := hg2
      rw [hid, List.map_cons, splice] at hsp
      generalize ids[2 + nk + q] = z at hz hld2 hsp
      obtain ⟨lda, ldc, rfl⟩ := hLd.isSlice
      have hdl : (datB r (ids.drop (2 + nk))).length ≤ 4096 := by
        rw [← heq] at hblk
        simp only [List.length_append] at hblk; omega
      have hLdl : Ld.length + (x.at_ - fr) ≤ 4096 := by
        rw [← hsp] at hdl
        simp only [List.length_append, List.length_take, List.length_drop] at hdl; omega
      refine yforget hJ ?_
      skip
      refine yseq (yregion (yp (pI rfl) (ynil (tnorm (yregion (yp (pI rfl) (ynil (tnorm (yblock (yseq ?_))))))))))
      have hR : ∀ (S' : Segs) (x9 : List Chunk), (∀ s ∈ [[(p8, Obj.cells (rcl r) 34)], x9, [(p10, Obj.cells #[.int .i64 (fr : Int)] 3)], [(p6, Obj.cells #[.int .i64 ((2 + nk + q : Nat) : Int)] 3)], [(p3, Obj.cells #[.slice (some ⟨b0, o0, none⟩) ids.length ic] 48)]], s ∈ S') → [(b0, Obj.cells ca2 ty2 fz2)] ∈ S' →
          ∀ s ∈ [[(p8, Obj.cells (rcl r) 34)], x9, [(p10, Obj.cells #[.int .i64 (fr : Int)] 3)], [(p6, Obj.cells #[.int .i64 ((2 + nk + q : Nat) : Int)] 3)], [(p3, Obj.cells #[.slice (some ⟨b0, o0, none⟩) ids.length ic] 48)], [(b0, Obj.cells ca2 ty2 fz2)]], s ∈ S' := fun S' x9 h1 h2 s hs => by
        simp only [List.mem_cons, List.not_mem_nil, or_false] at hs
        rcases hs with rfl | rfl | rfl | rfl | rfl | rfl
        · exact h1 _ (by simp)
        · exact h1 _ (by simp)
        · exact h1 _ (by simp)
        · exact h1 _ (by simp)
        · exact h1 _ (by simp)
        · exact h2
      refine ydrawR (R := [[(p8, Obj.cells (rcl r) 34)], [(p9, Obj.cells #[.slice lda Ld.length ldc] 35)], [(p10, Obj.cells #[.int .i64 (fr : Int)] 3)], [(p6, Obj.cells #[.int .i64 ((2 + nk + q : Nat) : Int)] 3)], [(p3, Obj.cells #[.slice (some ⟨b0, o0, none⟩) ids.length ic] 48)], [(b0, Obj.cells ca2 ty2 fz2)]]) (hR _ _ (by simp) (by repeat (first | exact hm2 | apply List.mem_cons_of_mem))) (ytl1 rfl rfl (ytq (pFadr rfl) (ytl1 rfl rfl (ytl1 rfl rfl (ytq (pI rfl) (ytq (pSvFT (Y := r.d) (j := fr) (k := x.at_) rfl rfl rfl ⟨by omega, by omega⟩) (ytl1 rfl rfl (ytl1 rfl rfl (ytq (pIxN rfl rfl (by omega)) (ytlM (b := b0) (c := ca2) (ty := ty2) (fz := fz2) (by repeat (first | exact List.mem_cons_self | apply List.mem_cons_of_mem)) rfl hld2 ?_))))))))))
      refine ytaltC (yappS (L := Ld) (H := Hd) rfl rfl hLd rfl (by rw [List.length_take, List.length_drop]; omega) (by rw [List.length_take, List.length_drop]; omega) fun v3 H3 hL3 => ⟨hR _ _ (by simp) (by repeat (first | exact hm2 | apply List.mem_cons_of_mem)), ?_⟩) ytno
      obtain ⟨l3a, l3c, rfl⟩ := hL3.isSlice
      refine ytalt (ycall (pkPutI hL3 (by rw [List.length_append, List.length_take, List.length_drop]; omega) z 4 hz (by decide)) rfl rfl fun x3 S3 h => ?_) ytno
      obtain ⟨H4, hL4, rfl⟩ := h
      obtain ⟨l4a, l4c, rfl⟩ := hL4.isSlice
      refine ytalt (yst1_0 rfl rfl (scS rfl) ?_) ytno
      refine ytdone (tnorm (yseq (yregion (yp (pI rfl) (yp (pI rfl) (yp (pAddN rfl rfl (by omega)) ?_))))))
      refine ycons (yst1_0 rfl rfl (scI rfl) ?_)
      refine ynil (tnorm (yregion ?_))
      refine ycons (yload1 rfl rfl ?_)
      refine yp (pInc rfl rfl (by omega)) ?_
      refine ycons (yst1_0 rfl rfl (scI rfl) ?_)
      refine ynil (bnorm ?_)
      refine ⟨.slice l4a (Ld ++ (r.d.drop fr).take (x.at_ - fr) ++ leN 4 z.toNat).length l4c, _, H4, x.at_ + x.n, a1 + x.n, hL4, by omega, hrw2, ?_, .of⟩
      rw [← hsp]
      simp only [List.append_assoc]
      rfl
    · rintro T ⟨vd, Ld, Hd, fr, a1, hLd, hfr, hrw, hsp, hJ⟩
      refine bnorm (tnorm ?_)
      refine yforget hJ ?_
      rw [List.drop_length] at hrw hsp
      have hfl : fr ≤ r.d.length := Nat.le_trans hfr hrw
      obtain ⟨lda, ldc, rfl⟩ := hLd.isSlice
      have hdat : Ld ++ r.d.drop fr = datB r (ids.drop (2 + nk)) := by
        rw [← hsp]
        cases (ids.drop (2 + nk + (prt r.t r.d).length)).map idB <;> rfl
      have hdl : (datB r (ids.drop (2 + nk))).length ≤ 4096 := by
        rw [← heq] at hblk
        simp only [List.length_append] at hblk; omega
      have hLdl : Ld.length + (r.d.length - fr) ≤ 4096 := by
        rw [← hdat] at hdl
        simp only [List.length_append, List.length_drop] at hdl; omega
      refine yseq (ydraw (ytl1 rfl rfl (ytq (pFadr rfl) (ytl1 rfl rfl (ytl1 rfl rfl (ytq (pSvFrom (Y := r.d) (j := fr) rfl rfl hfl) ?_))))))
      refine ytalt (yappS (L := Ld) (H := Hd) rfl rfl hLd rfl (by rw [List.length_drop]; omega) (by rw [List.length_drop]; omega) fun v3 H3 hL3 => ?_) ytno
      obtain ⟨l3a, l3c, rfl⟩ := hL3.isSlice
      rw [hdat] at hL3 ⊢
      refine ytalt (yst1_0 rfl rfl (scS rfl) ?_) ytno
      refine ytdone (tnorm ?_)
      refine ydrawR (R := [[(p9, Obj.cells #[.slice l3a (datB r (ids.drop (2 + nk))).length l3c] 35)]]) (by simp) (ytq (pS rfl) (ytl1 rfl rfl (ytq (pLen rfl) (ytl1 rfl rfl ?_))))
      refine ytaltC (ycall (pkPutI hLb (by rw [← heq, List.length_append] at hblk; omega) ((datB r (ids.drop (2 + nk))).length : Nat) 2 (by omega) (by decide)) rfl rfl fun x3 S3 h => ?_) ytno
      obtain ⟨H4, hL4, rfl⟩ := h
      refine ⟨by simp, ?_⟩
      obtain ⟨l4a, l4c, rfl⟩ := hL4.isSlice
      have hbl4 : (Lb ++ leN 2 (datB r (ids.drop (2 + nk))).length).length + (datB r (ids.drop (2 + nk))).length ≤ 4096 := by
        rw [← heq] at hblk
        simp only [List.length_append] at hblk ⊢; omega
      refine ytalt (yapp (Y := datB r (ids.drop (2 + nk))) rfl rfl hL4 (hL3.src (by simp)) rfl (0 : UInt8) rfl (by simp only [Int.toNat_natCast]; omega) (by simp only [Int.toNat_natCast]; omega) fun v5 H5 hL5 => ?_) ytno
      obtain ⟨l5a, l5c, rfl⟩ := hL5.isSlice
      refine ytq (pS rfl) (ytdone (bnorm (tnorm (yregion (yp (pInc rfl rfl (by omega)) (yp (pI rfl) (ynil (tnorm ?_))))))))
      refine ⟨i + 1, ⟨.slice l5a _ l5c, _, H5, ⟨rfl, rfl, rfl, rfl, rfl, trivial⟩, rfl, hL5, by omega, ?_, ?_⟩, by omega⟩
      · rw [hnk, hts2, ← heq, List.drop_drop, ← Nat.add_assoc, Int.toNat_natCast]
        simp only [List.append_assoc]
      · rw [hnk, hts2, ← Nat.add_assoc]
        exact .of
  · have hni : s.rrs.drop i = [] := List.drop_eq_nil_of_le (by omega)
    rw [hni, rrsB, List.append_nil] at heq
    refine yexit (texit (texit (bexit (tnorm (yseq (yregion (yp (pS rfl) (yp (pS rfl) (ynil (tnorm (yret ?_)))))))))))
    exact yfin (rS rfl) ⟨_, .of, Hb, by rw [← heq]; exact hLb, rfl⟩
end Go.Proofs.Ytejmbmenbailmaa
