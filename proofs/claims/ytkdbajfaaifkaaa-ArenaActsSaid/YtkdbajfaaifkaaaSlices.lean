/- Functions over slices, once for every type of their elements. -/
import Derived.Test.YtkdbajfaaifkaaaScal
namespace Go.Xs
open Enc (enc)
variable {P : Program} {α : Type} [Enc α] {S : Segs}

theorem setAll_len : ∀ (c l : List Value) (off : Nat), (setAll l off c).length = l.length
  | [], _, _ => rfl
  | x :: c, l, off => by rw [setAll, setAll_len c]; simp

/-- slices.Delete -/
def xDelete (ty k bytes : Nat) (z : List Value) : XCode :=
 .seq (.region [⟨some 6, .mov (.const (.slice none 0 0)), none⟩]) (
 .seq (.region [⟨some 8, .mov (.tmp 0), none⟩,
    ⟨some 9, .mov (.tmp 1), none⟩,
    ⟨some 10, .mov (.tmp 2), none⟩,
    ⟨some 11, .mov (.tmp 0), none⟩,
    ⟨some 12, .len (.tmp 11), none⟩,
    ⟨some 13, .slc k (.tmp 8) (some (.tmp 9)) (some (.tmp 10)) (some (.tmp 12)), none⟩]) (
 .seq (.seq (.region [⟨some 14, .mov (.tmp 1), none⟩,
     ⟨some 15, .mov (.tmp 2), none⟩,
     ⟨some 16, .bin .eql (.tmp 14) (.tmp 15), none⟩]) (
  .cond (.tmp 16) (
   .seq (.region [⟨some 17, .mov (.tmp 0), none⟩,
      ⟨some 6, .mov (.tmp 17), none⟩]) (
   .ret)) (
   .skip))) (
 .seq (.region [⟨some 18, .mov (.tmp 0), none⟩,
    ⟨some 19, .len (.tmp 18), none⟩,
    ⟨some 7, .mov (.tmp 19), none⟩]) (
 .seq (.draw (
   .q ⟨some 20, .mov (.tmp 0), none⟩ (
   .q ⟨some 21, .mov (.tmp 1), none⟩ (
   .q ⟨some 22, .slc k (.tmp 20) none (some (.tmp 21)) none, none⟩ (
   .q ⟨some 23, .mov (.tmp 0), none⟩ (
   .q ⟨some 24, .mov (.tmp 2), none⟩ (
   .q ⟨some 25, .slc k (.tmp 23) (some (.tmp 24)) none none, none⟩ (
   .alt ⟨some 26, .app ty k bytes z (.tmp 22) (.tmp 25), none⟩ false (
    .q ⟨some 0, .mov (.tmp 26), none⟩ (
    .done)) (.noalt))))))))) (
 .seq (.region [⟨some 27, .mov (.tmp 0), none⟩,
    ⟨some 28, .mov (.tmp 0), none⟩,
    ⟨some 29, .len (.tmp 28), none⟩,
    ⟨some 30, .mov (.tmp 7), none⟩,
    ⟨some 31, .slc k (.tmp 27) (some (.tmp 29)) (some (.tmp 30)) none, none⟩,
    ⟨none, .clr z (.tmp 31), none⟩]) (
 .seq (.region [⟨some 32, .mov (.tmp 0), none⟩,
    ⟨some 6, .mov (.tmp 32), none⟩]) (
 .ret)))))))

/-- one element is taken out -/
theorem delete_one {f ty k bytes : Nat} {z : List Value} (hf : FnX P f 33 #[.tmp 6] (xDelete ty k bytes z)) (hk : Enc.k α = k) (z0 : α) (hz : enc z0 = z)
    {v : Value} {L : List α} {H : List Chunk} (hL : Slc ty v L H) (hlen : L.length < 2 ^ 40) {i j : Nat} (hi : i < L.length) (hj : j = i + 1) :
    Tri P f #[v, .int .i64 (i : Int), .int .i64 (j : Int)] [H] (fun r S => ∃ H', Slc ty r (L.eraseIdx i) H' ∧ S = [H']) := by
  subst hj
  refine ycallee hf (Nat.le_of_ble_eq_true rfl) ?_
  unfold xDelete
  obtain ⟨a, c, rfl⟩ := hL.isSlice
  obtain ⟨b, sp, fz, hfz, rfl, _, rfl, rfl⟩ := hL.at' (by intro h; simp [h] at hi)
  refine yseq ?_
  refine yregion ?_
  refine yp pC ?_
  refine ynil ?_
  refine tnorm ?_
  refine yseq ?_
  refine yregion ?_
  refine yp (pS rfl) ?_
  refine yp (pI rfl) ?_
  refine yp (pI rfl) ?_
  refine yp (pS rfl) ?_
  refine yp (pLen rfl) ?_
  refine yp (pSl3 rfl rfl rfl rfl (by omega)) ?_
  refine ynil ?_
  refine tnorm ?_
  refine yseq ?_
  refine yseq ?_
  refine yregion ?_
  refine yp (pI rfl) ?_
  refine yp (pI rfl) ?_
  refine yp (pEq rfl rfl) ?_
  refine ynil ?_
  refine tnorm ?_
  refine ycondD rfl (fun h => absurd h (by omega)) (fun h => ?_)
  refine yskip ?_
  refine tnorm ?_
  refine yseq ?_
  refine yregion ?_
  refine yp (pS rfl) ?_
  refine yp (pLen rfl) ?_
  refine yp (pI rfl) ?_
  refine ynil ?_
  refine tnorm ?_
  refine yseq ?_
  refine ydraw ?_
  refine ytq (pS rfl) ?_
  refine ytq (pI rfl) ?_
  refine ytq (pSlTo rfl rfl (by omega)) ?_
  refine ytq (pS rfl) ?_
  refine ytq (pI rfl) ?_
  refine ytq (pSlFrom rfl rfl (by omega)) ?_
  have hsz : (cells (L ++ sp)).toArray.size = (L.length + sp.length) * Enc.k α := by rw [List.size_toArray, cells_length, List.length_append]
  have hfz' : FzOk fz (cells (L ++ sp)).toArray.size := by rw [List.size_toArray]; exact hfz
  refine ytalt (yappfit (Y := L.drop (i + 1)) rfl rfl (Src.tail (by repeat (first | exact List.mem_cons_self | apply List.mem_cons_of_mem)) hk (by omega)) hk (by simp; omega) ?_ hfz' ?_) ytno
  · rw [hsz]; exact Nat.mul_le_mul_right _ (by simp; omega)
  refine ytq (pS rfl) ?_
  refine ytdone ?_
  refine tnorm ?_
  refine yseq ?_
  refine yregion ?_
  refine yp (pS rfl) ?_
  refine yp (pS rfl) ?_
  refine yp (pLen rfl) ?_
  refine yp (pI rfl) ?_
  refine yp (pSlFT rfl rfl rfl ?_) ?_
  · simp; omega
  have hn : i + (L.drop (i + 1)).length = L.length - 1 := by simp; omega
  rw [hn, if_neg (by omega), Nat.zero_add, show L.length - (L.length - 1) = 1 from by omega]
  have hsz2 : (setAll (cells (L ++ sp)).toArray.toList (i * Enc.k α) (cells (L.drop (i + 1)))).toArray.size = (L.length + sp.length) * Enc.k α := by
    rw [List.size_toArray]
    rw [setAll_len]; exact hsz
  refine ycons (yclr rfl z0 hz ?_ ?_ ?_)
  · rw [hsz2, ← hk, ← Nat.add_mul]; exact Nat.mul_le_mul_right _ (by omega)
  · rw [hsz2]; rw [hsz] at hfz'; exact hfz'
  refine ynil ?_
  refine tnorm ?_
  refine yseq ?_
  refine yregion ?_
  refine yp (pS rfl) ?_
  refine yp (pS rfl) ?_
  refine ynil ?_
  refine tnorm ?_
  refine yret ?_
  refine yfin (rS rfl) ⟨_, ?_, rfl⟩
  have e : setAll (setAll (cells (L ++ sp)).toArray.toList (i * Enc.k α) (cells (L.drop (i + 1)))).toArray.toList ((L.length - 1) * k) (cells (List.replicate 1 z0)) = cells (L.eraseIdx i ++ z0 :: sp) := by
    rw [← hk]
    exact del_cells z0 hi
  rw [e]
  have hl2 : (L.eraseIdx i).length = L.length - 1 := by rw [List.length_eraseIdx, if_pos hi]
  have := Slc.row (ty := ty) (b := b) (L := L.eraseIdx i) (sp := z0 :: sp) (fz := fz) (by
    rw [hsz] at hfz'
    rw [cells_length]
    simpa [hl2, show L.length - 1 + (sp.length + 1) = L.length + sp.length from by omega] using hfz')
  simpa [hl2, show L.length - 1 + (sp.length + 1) = L.length + sp.length from by omega] using this

theorem setAll_set {M : List α} {i : Nat} (y : α) (hi : i < M.length) : setAll (cells M) (i * Enc.k α) (enc y) = cells (M.set i y) := by
  have := setAll_cells M i [y] (by simp; omega)
  rw [show cells [y] = enc y from by simp [cells]] at this
  rw [this, List.set_eq_take_append_cons_drop, if_pos hi]
  simp

/-- an element of a row is stored -/
theorem ystoreE {r : Option Nat} {n : Nat} {K : Env → Segs → Prop} {E : Env} {d : Option Tmp} {b i kk ty : Nat} {a v : Operand} {M : List α} {y : α} {fz : Nat × Nat} {f : Obj → Segs} [hA : At S b (.cells (cells M).toArray ty fz) f]
    (ha : ev E a = .pointer (some ⟨b, 0 + i * kk, none⟩)) (hi : i < M.length) (hk : Enc.k α = kk) (hv : (ev E v).cells.toList = enc y) (hz : FzOk fz (cells M).length)
    (h : K (putE d undef E) (f (.cells (cells (M.set i y)).toArray ty fz))) : YO P r n d (.store kk a v) K E S := by
  subst hk
  have hb : 0 + i * Enc.k α + Enc.k α ≤ (cells M).length := by
    rw [cells_length, Nat.zero_add, ← Nat.succ_mul]; exact Nat.mul_le_mul_right _ hi
  refine ystore ha hv (Enc.len y) (Enc.plain y) (by simpa using hb) (hz.imp (fun h => by omega) (fun h => by omega)) ?_
  have e : setAll (cells M).toArray.toList (0 + i * Enc.k α) (enc y) = cells (M.set i y) := by rw [Nat.zero_add]; exact setAll_set y hi
  rw [e]; exact h

theorem row_elem' {L sp : List α} {i kk : Nat} {x : α} (h : L[i]? = some x) (hk : Enc.k α = kk) : ((cells (L ++ sp)).toArray.toList.drop (0 + i * kk)).take kk = enc x := by
  obtain ⟨hi, rfl⟩ := List.getElem?_eq_some_iff.1 h
  exact row_elem hi hk
theorem snoc_or {β : Type} (A : List β) : A = [] ∨ ∃ A' y, A = A' ++ [y] := by
  by_cases h : A = []
  · exact .inl h
  · exact .inr ⟨A.dropLast, A.getLast h, (List.dropLast_concat_getLast h).symm⟩
theorem swap_mid {β : Type} (X Z : List β) (x y : β) : ((X ++ y :: x :: Z).set (X.length + 1) y).set X.length x = X ++ x :: y :: Z := by
  rw [List.set_append_right _ _ (by omega), List.set_append_right _ _ (by omega)]
  simp

def keyed (key : α → Int) (k : Int) (L : List α) : List α := L.filter (fun e => key e == k)
/-- R is L, put in order, those of one key as they stood -/
def SS (key : α → Int) (L R : List α) : Prop := R.Pairwise (fun a b => key a ≤ key b) ∧ ∀ k, keyed key k R = keyed key k L

def xIns (k : Nat) : XCode :=
 .seq (.region [⟨some 10, .mov (.tmp 1), none⟩,
    ⟨some 11, .bin .add (.tmp 10) (.const (.int .i64 1)), none⟩,
    ⟨some 8, .mov (.tmp 11), none⟩]) (
 .block 0 (
  .loop (
   .seq (.seq (.region [⟨some 12, .mov (.tmp 8), none⟩,
       ⟨some 13, .mov (.tmp 2), none⟩,
       ⟨some 14, .bin .lss (.tmp 12) (.tmp 13), none⟩]) (
    .cond (.tmp 14) (
     .skip) (
     .exit 0))) (
   .seq (.block 1 (
     .seq (.region [⟨some 17, .mov (.tmp 8), none⟩,
        ⟨some 9, .mov (.tmp 17), none⟩]) (
     .block 2 (
      .loop (
       .seq (.seq (.draw (
          .q ⟨some 18, .mov (.tmp 9), none⟩ (
          .q ⟨some 19, .mov (.tmp 1), none⟩ (
          .q ⟨some 20, .bin .gtr (.tmp 18) (.tmp 19), none⟩ (
          .q ⟨some 21, .mov (.tmp 20), none⟩ (
          .q ⟨some 22, .mov (.tmp 3), some (21, true)⟩ (
          .q ⟨some 23, .mov (.tmp 0), some (21, true)⟩ (
          .q ⟨some 24, .mov (.tmp 9), some (21, true)⟩ (
          .q ⟨some 25, .iadr (.tmp 23) (.tmp 24) k, some (21, true)⟩ (
          .q ⟨some 26, .loadN k (.tmp 25), some (21, true)⟩ (
          .q ⟨some 27, .mov (.tmp 0), some (21, true)⟩ (
          .q ⟨some 28, .mov (.tmp 9), some (21, true)⟩ (
          .q ⟨some 29, .bin .sub (.tmp 28) (.const (.int .i64 1)), some (21, true)⟩ (
          .q ⟨some 30, .iadr (.tmp 27) (.tmp 29) k, some (21, true)⟩ (
          .q ⟨some 31, .loadN k (.tmp 30), some (21, true)⟩ (
          .alt ⟨some 32, .call (.tmp 22) [(.tmp 26), (.tmp 31)], some (21, true)⟩ false (
           .q ⟨some 33, .bin .lss (.tmp 32) (.const (.int .i64 0)), some (21, true)⟩ (
           .q ⟨some 34, .pick (.tmp 21) (.tmp 33) (.const (.bool false)), none⟩ (
           .done))) (.noalt))))))))))))))))) (
        .cond (.tmp 34) (
         .skip) (
         .exit 2))) (
       .seq (.block 3 (
         .draw (
          .q ⟨some 37, .mov (.tmp 0), none⟩ (
          .q ⟨some 38, .mov (.tmp 9), none⟩ (
          .q ⟨some 39, .mov (.tmp 0), none⟩ (
          .q ⟨some 40, .mov (.tmp 9), none⟩ (
          .q ⟨some 41, .bin .sub (.tmp 40) (.const (.int .i64 1)), none⟩ (
          .q ⟨some 42, .mov (.tmp 0), none⟩ (
          .q ⟨some 43, .mov (.tmp 9), none⟩ (
          .q ⟨some 44, .bin .sub (.tmp 43) (.const (.int .i64 1)), none⟩ (
          .q ⟨some 45, .iadr (.tmp 42) (.tmp 44) k, none⟩ (
          .q ⟨some 46, .loadN k (.tmp 45), none⟩ (
          .q ⟨some 47, .mov (.tmp 0), none⟩ (
          .q ⟨some 48, .mov (.tmp 9), none⟩ (
          .q ⟨some 49, .iadr (.tmp 47) (.tmp 48) k, none⟩ (
          .q ⟨some 50, .loadN k (.tmp 49), none⟩ (
          .q ⟨some 51, .iadr (.tmp 37) (.tmp 38) k, none⟩ (
          .alt ⟨none, .store k (.tmp 51) (.tmp 46), none⟩ false (
           .q ⟨some 52, .iadr (.tmp 39) (.tmp 41) k, none⟩ (
           .alt ⟨none, .store k (.tmp 52) (.tmp 50), none⟩ false (
            .done) (.noalt))) (.noalt))))))))))))))))))) (
       .region [⟨some 35, .mov (.tmp 9), none⟩,
         ⟨some 36, .bin .sub (.tmp 35) (.const (.int .i64 1)), none⟩,
         ⟨some 9, .mov (.tmp 36), none⟩]))))))) (
   .region [⟨some 15, .mov (.tmp 8), none⟩,
     ⟨some 16, .bin .add (.tmp 15) (.const (.int .i64 1)), none⟩,
     ⟨some 8, .mov (.tmp 16), none⟩])))))

theorem SS.insert {β : Type} {key : β → Int} {D A B : List β} {x : β} (h : SS key D (A ++ B)) (hA : ∀ a, A.getLast? = some a → key a ≤ key x) (hB : ∀ b ∈ B, key x < key b) : SS key (D ++ [x]) (A ++ x :: B) := by
  obtain ⟨hp, hk⟩ := h
  have hA' : ∀ a ∈ A, key a ≤ key x := by
    intro a ha
    rcases snoc_or A with rfl | ⟨A', y, rfl⟩
    · cases ha
    · have hy := hA y (by simp)
      simp only [List.mem_append, List.mem_singleton] at ha
      rcases ha with ha | rfl
      · have := (List.pairwise_append.1 (List.pairwise_append.1 hp).1).2.2 a ha y (by simp)
        omega
      · exact hy
  obtain ⟨p1, p2, p3⟩ := List.pairwise_append.1 hp
  refine ⟨List.pairwise_append.2 ⟨p1, List.pairwise_cons.2 ⟨fun b hb => by have := hB b hb; omega, p2⟩, fun a ha b hb => ?_⟩, fun k => ?_⟩
  · simp only [List.mem_cons] at hb
    rcases hb with rfl | hb
    · exact hA' a ha
    · exact p3 a ha b hb
  · have := hk k
    simp only [keyed, List.filter_append, List.filter_cons, List.filter_nil] at this ⊢
    by_cases hx : (key x == k) = true
    · rw [if_pos hx]
      have hBn : B.filter (fun e => key e == k) = [] := by
        rw [List.filter_eq_nil_iff]
        intro b hb
        have h1 := hB b hb
        have h2 : key x = k := by simpa using hx
        have h3 : ¬ key b = k := by omega
        simpa using h3
      rw [hBn, List.append_nil] at this
      rw [hBn, this, if_pos hx]
    · rw [if_neg hx, if_neg hx]
      simpa using this

theorem ins_sort {f k ty : Nat} (hf : FnX P f 53 #[] (xIns k)) (hk : Enc.k α = k) (key : α → Int) {cf : Nat}
    (hc : ∀ a b : α, Tri P cf #[.agg (enc a).toArray, .agg (enc b).toArray] [] (fun r S => (∃ z, r = .int .i64 z ∧ (z < 0 ↔ key a < key b)) ∧ S = []))
    {v : Value} {pre seg rest : List α} {H : List Chunk} (hL : Slc ty v (pre ++ seg ++ rest) H) (hlen : (pre ++ seg ++ rest).length < 2 ^ 40) {a b : Nat} (ha : a = pre.length) (hb : b = pre.length + seg.length) :
    Tri P f #[v, .int .i64 (a : Int), .int .i64 (b : Int), .func (.func cf) #[] #[]] [H] (fun r S => r = .tuple #[] ∧ ∃ seg' H', SS key seg seg' ∧ seg'.length = seg.length ∧ Slc ty v (pre ++ seg' ++ rest) H' ∧ S = [H']) := by
  refine Tri.forget (ycallee hf (Nat.le_of_ble_eq_true rfl) ?_)
  unfold xIns
  have hn : (pre ++ seg ++ rest).length = pre.length + seg.length + rest.length := by simp; omega
  generalize hN : (pre ++ seg ++ rest).length = N at *
  obtain ⟨a0, c0, hv⟩ := hL.isSlice
  rw [hN] at hv
  subst hv
  refine yseq ?_
  refine yregion ?_
  refine yp (pI rfl) ?_
  refine yp (pInc rfl rfl (by omega)) ?_
  refine yp (pI rfl) ?_
  refine ynil ?_
  refine tnorm ?_
  refine yblock ?_
  refine yloop (σ := Nat) (fun i E S => Has E [(0, .slice a0 N c0), (1, .int .i64 a), (2, .int .i64 b), (3, .func (.func cf) #[] #[]), (8, .int .i64 i)] ∧ a + 1 ≤ i ∧ ∃ D H', SS key (seg.take (i - a)) D ∧ D.length = (seg.take (i - a)).length ∧ Slc ty (.slice a0 N c0) (pre ++ (D ++ seg.drop (i - a)) ++ rest) H' ∧ Junk S [H']) (fun i => b - i) (a + 1) ⟨⟨rfl, rfl, rfl, rfl, rfl, trivial⟩, Nat.le_refl _, seg.take (a + 1 - a), H, ⟨?_, fun _ => rfl⟩, rfl, by rw [List.take_append_drop]; exact hL, .self⟩ fun i E S ⟨hE, hi, D, H1, hS, hDl, hL1, hJ⟩ => ?_
  · rw [show a + 1 - a = 1 from by omega]
    cases seg with
    | nil => simp
    | cons x l => simp
  obtain ⟨E0, e0⟩ := has_puts hE; subst e0; clear hE
  refine yforget hJ ?_
  refine yseq ?_
  refine yseq ?_
  refine yregion ?_
  refine yp (pI rfl) ?_
  refine yp (pI rfl) ?_
  refine yp (pLt rfl rfl) ?_
  refine ynil ?_
  refine tnorm ?_
  refine ycondD rfl (fun h => ?_) (fun h => ?_)
  · have hlt : i - a < seg.length := by omega
    have hd : seg.drop (i - a) = seg[i - a] :: seg.drop (i - a + 1) := List.drop_eq_getElem_cons hlt
    generalize seg[i - a] = x at hd
    have htk : seg.take (i - a + 1) = seg.take (i - a) ++ [x] := by
      rw [List.take_add, hd]; rfl
    have hDl' : D.length = i - a := by rw [hDl, List.length_take, Nat.min_eq_left (by omega)]
    refine yskip ?_
    refine tnorm ?_
    refine yseq ?_
    refine yblock ?_
    refine yseq ?_
    refine yregion ?_
    refine yp (pI rfl) ?_
    refine yp (pI rfl) ?_
    refine ynil ?_
    refine tnorm ?_
    refine yblock ?_
    refine yloop (σ := List α × List α) (fun s E S => Has E [(0, .slice a0 N c0), (1, .int .i64 a), (2, .int .i64 b), (3, .func (.func cf) #[] #[]), (8, .int .i64 i), (9, .int .i64 (pre.length + s.1.length : Nat))] ∧ s.1 ++ s.2 = D ∧ (∀ y ∈ s.2, key x < key y) ∧ ∃ H', Slc ty (.slice a0 N c0) (pre ++ ((s.1 ++ x :: s.2) ++ seg.drop (i - a + 1)) ++ rest) H' ∧ Junk S [H']) (fun s => s.1.length) (D, []) ⟨⟨rfl, rfl, rfl, rfl, rfl, ?_, trivial⟩, by simp, by simp, H1, by rw [hd] at hL1; simpa using hL1, .self⟩ fun s E S ⟨hE, hAB, hB, H2, hL2, hJ2⟩ => ?_
    · show Value.int .i64 (i : Int) = .int .i64 (pre.length + D.length : Nat)
      rw [show pre.length + D.length = i from by omega]
    obtain ⟨A, B⟩ := s
    simp only at hAB hB hL2 hE
    have hfin : (∀ y, A.getLast? = some y → key y ≤ key x) → SS key (seg.take (i + 1 - a)) (A ++ x :: B) := fun hA => by
      rw [show i + 1 - a = i - a + 1 from by omega, htk]
      rw [← hAB] at hS
      exact hS.insert hA hB
    have hfl : (A ++ x :: B).length = (seg.take (i + 1 - a)).length := by
      have : A.length + B.length = i - a := by rw [← hDl', ← hAB]; simp
      rw [List.length_take, Nat.min_eq_left (by omega)]
      simp; omega
    have hfs : seg.drop (i - a + 1) = seg.drop (i + 1 - a) := by rw [show i + 1 - a = i - a + 1 from by omega]
    rcases snoc_or A with rfl | ⟨A', y, rfl⟩
    · obtain ⟨E0, e0⟩ := has_puts hE; subst e0; clear hE
      refine yforget hJ2 ?_
      refine yseq ?_
      refine yseq ?_
      refine ydraw ?_
      refine ytq (pI rfl) ?_
      refine ytq (pI rfl) ?_
      refine ytq (pGt rfl rfl) ?_
      refine ytq (pB rfl) ?_
      rw [show decide ((a : Int) < ((pre.length + ([] : List α).length : Nat) : Int)) = false from decide_eq_false (by simp; omega)]
      refine ytgF rfl ?_
      refine ytgF rfl ?_
      refine ytgF rfl ?_
      refine ytgF rfl ?_
      refine ytgF rfl ?_
      refine ytgF rfl ?_
      refine ytgF rfl ?_
      refine ytgF rfl ?_
      refine ytgF rfl ?_
      refine ytgF rfl ?_
      refine ytaltF rfl ?_ ytno
      refine ytgF rfl ?_
      refine ytq (pPickF rfl rfl) ?_
      refine ytdone ?_
      refine tnorm ?_
      refine ycondF rfl ?_
      refine yexit ?_
      refine texit ?_
      refine texit ?_
      refine bexit ?_
      refine bnorm ?_
      refine tnorm ?_
      refine yregion ?_
      refine yp (pI rfl) ?_
      refine yp (pInc rfl rfl (by omega)) ?_
      refine yp (pI rfl) ?_
      refine ynil ?_
      refine tnorm ?_
      exact ⟨i + 1, ⟨⟨rfl, rfl, rfl, rfl, rfl, trivial⟩, by omega, _, H2, hfin (by simp), hfl, by rw [← hfs]; exact hL2, .of⟩, by omega⟩
    · simp only [List.length_append, List.length_cons, List.length_nil] at hE
      have hl : A'.length + 1 + B.length = i - a := by rw [← hDl', ← hAB]; simp; omega
      obtain ⟨E0, e0⟩ := has_puts hE; subst e0; clear hE
      refine yforget hJ2 ?_
      obtain ⟨bb, sp, fz, hz, rfl, hN2, hc0, rfl⟩ := hL2.at' (by simp)
      refine yseq ?_
      refine yseq ?_
      refine ydraw ?_
      refine ytq (pI rfl) ?_
      refine ytq (pI rfl) ?_
      refine ytq (pGt rfl rfl) ?_
      refine ytq (pB rfl) ?_
      rw [show decide ((a : Int) < ((pre.length + (A'.length + (0 + 1)) : Nat) : Int)) = true from decide_eq_true (by omega)]
      refine ytgT rfl ?_
      refine ytq (pF rfl) ?_
      refine ytgT rfl ?_
      refine ytq (pS rfl) ?_
      refine ytgT rfl ?_
      refine ytq (pI rfl) ?_
      refine ytgT rfl ?_
      refine ytq (pIxN rfl rfl (by omega)) ?_
      refine ytgT rfl ?_
      have hLq : pre ++ (A' ++ [y] ++ x :: B ++ seg.drop (i - a + 1)) ++ rest = (pre ++ A') ++ y :: x :: (B ++ seg.drop (i - a + 1) ++ rest) := by simp
      have hx1 : (pre ++ (A' ++ [y] ++ x :: B ++ seg.drop (i - a + 1)) ++ rest)[pre.length + (A'.length + (0 + 1))]? = some x := by
        rw [hLq, show pre.length + (A'.length + (0 + 1)) = (pre ++ A').length + 1 from by simp <;> omega, List.getElem?_append_right (by omega)]
        simp
      have hy1 : (pre ++ (A' ++ [y] ++ x :: B ++ seg.drop (i - a + 1)) ++ rest)[pre.length + (A'.length + (0 + 1)) - 1]? = some y := by
        rw [hLq, show pre.length + (A'.length + (0 + 1)) - 1 = (pre ++ A').length from by simp <;> omega, List.getElem?_append_right (by omega)]
        simp
      refine ytlN (l := enc x) rfl (row_elem' hx1 hk) (by rw [Enc.len, hk]) ?_
      refine ytgT rfl ?_
      refine ytq (pS rfl) ?_
      refine ytgT rfl ?_
      refine ytq (pI rfl) ?_
      refine ytgT rfl ?_
      refine ytq (pDec rfl rfl (by omega)) ?_
      refine ytgT rfl ?_
      refine ytq (pIxN rfl rfl (by omega)) ?_
      refine ytgT rfl ?_
      refine ytlN (l := enc y) rfl (row_elem' hy1 hk) (by rw [Enc.len, hk]) ?_
      refine ytaltT rfl ?_ ytno
      refine ytalt (ycall (hc x y) rfl rfl fun v S' h => ?_) ytno
      obtain ⟨⟨z, rfl, hz2⟩, rfl⟩ := h
      refine ytgT rfl ?_
      refine ytq (pLt rfl rfl) ?_
      refine ytq (pPickT rfl rfl) ?_
      refine ytdone ?_
      refine tnorm ?_
      refine ycondD rfl (fun h3 => ?_) (fun h3 => ?_)
      · refine yskip ?_
        refine tnorm ?_
        refine yseq ?_
        refine yblock ?_
        refine ydraw ?_
        refine ytq (pS rfl) ?_
        refine ytq (pI rfl) ?_
        refine ytq (pS rfl) ?_
        refine ytq (pI rfl) ?_
        refine ytq (pDec rfl rfl (by omega)) ?_
        refine ytq (pS rfl) ?_
        refine ytq (pI rfl) ?_
        refine ytq (pDec rfl rfl (by omega)) ?_
        refine ytq (pIxN rfl rfl (by omega)) ?_
        refine ytlN (l := enc y) rfl (row_elem' hy1 hk) (by rw [Enc.len, hk]) ?_
        refine ytq (pS rfl) ?_
        refine ytq (pI rfl) ?_
        refine ytq (pIxN rfl rfl (by omega)) ?_
        refine ytlN (l := enc x) rfl (row_elem' hx1 hk) (by rw [Enc.len, hk]) ?_
        refine ytq (pIxN rfl rfl (by omega)) ?_
        have hb1 : pre.length + (A'.length + (0 + 1)) < (pre ++ (A' ++ [y] ++ x :: B ++ seg.drop (i - a + 1)) ++ rest ++ sp).length := by simp <;> omega
        refine ytalt (ystoreE (y := y) rfl hb1 hk rfl hz ?_) ytno
        refine ytq (pIxN rfl rfl (by omega)) ?_
        refine ytalt (ystoreE (y := x) rfl (by rw [List.length_set]; omega) hk rfl (by rw [cells_length, List.length_set, ← cells_length]; exact hz) ?_) ytno
        refine ytdone ?_
        refine bnorm ?_
        refine tnorm ?_
        refine yregion ?_
        refine yp (pI rfl) ?_
        refine yp (pDec rfl rfl (by omega)) ?_
        refine yp (pI rfl) ?_
        refine ynil ?_
        refine tnorm ?_
        have hsw : ((pre ++ (A' ++ [y] ++ x :: B ++ seg.drop (i - a + 1)) ++ rest ++ sp).set (pre.length + (A'.length + (0 + 1))) y).set (pre.length + (A'.length + (0 + 1)) - 1) x = (pre ++ ((A' ++ x :: y :: B) ++ seg.drop (i - a + 1)) ++ rest) ++ sp := by
          have := swap_mid (pre ++ A') (B ++ seg.drop (i - a + 1) ++ rest ++ sp) x y
          rw [show (pre ++ A').length = pre.length + A'.length from by simp] at this
          rw [hLq]
          simp at this ⊢
          try exact this
        rw [hsw]
        refine ⟨(A', y :: B), ⟨⟨rfl, rfl, rfl, rfl, rfl, rfl, trivial⟩, by simpa using hAB, ?_, _, ?_, .self⟩, by simp⟩
        · intro b hb
          simp only [List.mem_cons] at hb
          rcases hb with rfl | hb
          · exact hz2.1 h3
          · exact hB b hb
        · have hl3 : (pre ++ ((A' ++ x :: y :: B) ++ seg.drop (i - a + 1)) ++ rest).length = N := by rw [hN2]; simp <;> omega
          have hl4 : c0 = (pre ++ ((A' ++ x :: y :: B) ++ seg.drop (i - a + 1)) ++ rest).length + sp.length := by rw [hl3, hc0, hN2]
          rw [hl4]
          conv => arg 2; rw [← hl3]
          refine .row ?_
          rw [cells_length, List.length_append, hl3, hN2, ← List.length_append, ← cells_length]; exact hz
      · refine yexit ?_
        refine texit ?_
        refine texit ?_
        refine bexit ?_
        refine bnorm ?_
        refine tnorm ?_
        refine yregion ?_
        refine yp (pI rfl) ?_
        refine yp (pInc rfl rfl (by omega)) ?_
        refine yp (pI rfl) ?_
        refine ynil ?_
        refine tnorm ?_
        exact ⟨i + 1, ⟨⟨rfl, rfl, rfl, rfl, rfl, trivial⟩, by omega, _, _, hfin (by
          intro w hw
          simp at hw
          subst hw
          have := mt hz2.2 h3
          omega), hfl, by rw [← hfs]; exact hL2, .of⟩, by omega⟩
  · refine yexit ?_
    refine texit ?_
    refine texit ?_
    refine bexit ?_
    have hd0 : seg.drop (i - a) = [] := List.drop_eq_nil_of_le (by omega)
    have ht0 : seg.take (i - a) = seg := List.take_of_length_le (by omega)
    rw [hd0, List.append_nil] at hL1
    rw [ht0] at hS hDl
    exact yfinN res0 ⟨_, .of, rfl, _, _, hS, hDl, hL1, rfl⟩

/-! ### the order is one -/
theorem SS.unique {β : Type} {key : β → Int} : ∀ {R R' L : List β}, SS key L R → SS key L R' → R = R'
  | [], R', L, h, h' => by
    cases R' with
    | nil => rfl
    | cons b R' =>
      have := (h'.2 (key b)).trans (h.2 (key b)).symm
      simp [keyed] at this
  | a :: R, [], L, h, h' => by
    have := (h.2 (key a)).trans (h'.2 (key a)).symm
    simp [keyed] at this
  | a :: R, b :: R', L, h, h' => by
    have hk : ∀ k, keyed key k (a :: R) = keyed key k (b :: R') := fun k => (h.2 k).trans (h'.2 k).symm
    have ha : a ∈ keyed key (key a) (b :: R') := by rw [← hk]; simp [keyed]
    have hb : b ∈ keyed key (key b) (a :: R) := by rw [hk]; simp [keyed]
    have hab : key b ≤ key a := by
      have : a ∈ b :: R' := (List.mem_filter.1 ha).1
      rcases List.mem_cons.1 this with rfl | hm
      · exact Int.le_refl _
      · exact (List.pairwise_cons.1 h'.1).1 a hm
    have hba : key a ≤ key b := by
      have : b ∈ a :: R := (List.mem_filter.1 hb).1
      rcases List.mem_cons.1 this with rfl | hm
      · exact Int.le_refl _
      · exact (List.pairwise_cons.1 h.1).1 b hm
    have hkey : key a = key b := by omega
    have h0 := hk (key a)
    have e1 : keyed key (key a) (a :: R) = a :: keyed key (key a) R := by simp [keyed]
    have e2 : keyed key (key a) (b :: R') = b :: keyed key (key a) R' := by simp [keyed, hkey]
    rw [e1, e2] at h0
    obtain ⟨rfl, _⟩ := List.cons.inj h0
    have ht : ∀ k, keyed key k R = keyed key k R' := by
      intro k
      have := hk k
      simp only [keyed, List.filter_cons] at this ⊢
      split at this
      · exact (List.cons.inj this).2
      · exact this
    rw [SS.unique (L := R) (R := R) (R' := R') ⟨(List.pairwise_cons.1 h.1).2, fun _ => rfl⟩ ⟨(List.pairwise_cons.1 h'.1).2, fun k => (ht k).symm⟩]

/-- put in order: into those there are, behind those of the same key -/
def ins1 {β : Type} (key : β → Int) (x : β) : List β → List β
  | [] => [x]
  | y :: l => if key y ≤ key x then y :: ins1 key x l else x :: y :: l
def isort {β : Type} (key : β → Int) (L : List β) : List β := L.foldl (fun R x => ins1 key x R) []
theorem ins1_split {β : Type} {key : β → Int} {x : β} : ∀ {R : List β}, R.Pairwise (fun a b => key a ≤ key b) → ∃ A B, R = A ++ B ∧ ins1 key x R = A ++ x :: B ∧ (∀ a, A.getLast? = some a → key a ≤ key x) ∧ ∀ b ∈ B, key x < key b
  | [], _ => ⟨[], [], rfl, rfl, by simp, by simp⟩
  | y :: R, h => by
    obtain ⟨h1, h2⟩ := List.pairwise_cons.1 h
    by_cases hy : key y ≤ key x
    · obtain ⟨A, B, e1, e2, h3, h4⟩ := ins1_split (x := x) h2
      refine ⟨y :: A, B, by rw [e1]; rfl, by rw [ins1, if_pos hy, e2]; rfl, ?_, h4⟩
      intro a ha
      cases A with
      | nil => simp at ha; subst ha; exact hy
      | cons z A => exact h3 a (by simpa using ha)
    · refine ⟨[], y :: R, rfl, by rw [ins1, if_neg hy]; rfl, by simp, ?_⟩
      intro b hb
      rcases List.mem_cons.1 hb with rfl | hb
      · omega
      · have := h1 b hb; omega
theorem isort_SS {β : Type} {key : β → Int} (L : List β) : SS key L (isort key L) := by
  have : ∀ (L D R : List β), SS key D R → SS key (D ++ L) (L.foldl (fun R x => ins1 key x R) R) := by
    intro L
    induction L with
    | nil => intro D R h; simpa using h
    | cons x L ih =>
      intro D R h
      obtain ⟨A, B, e1, e2, h3, h4⟩ := ins1_split (x := x) h.1
      rw [List.foldl_cons, e2]
      have := ih (D ++ [x]) (A ++ x :: B) ((e1 ▸ h).insert h3 h4)
      simpa using this
  have := this L [] [] ⟨.nil, fun _ => rfl⟩
  rw [List.nil_append] at this
  exact this
theorem SS.eq {β : Type} {key : β → Int} {L R : List β} (h : SS key L R) : R = isort key L := h.unique (isort_SS L)
theorem SS.filter {β : Type} {key : β → Int} {L R : List β} (h : SS key L R) (t : Int) : SS key (L.filter fun e => decide (key e ≤ t)) (R.filter fun e => decide (key e ≤ t)) :=
  ⟨h.1.filter _, fun k => by
    simp only [keyed, List.filter_filter]
    have h1 := congrArg (List.filter fun e => decide (key e ≤ t)) (h.2 k)
    simp only [keyed, List.filter_filter] at h1
    simpa [Bool.and_comm] using h1⟩
theorem SS.mem {β : Type} {key : β → Int} {L R : List β} (h : SS key L R) (x : β) : x ∈ R ↔ x ∈ L := by
  have h1 : x ∈ keyed key (key x) R ↔ x ∈ R := by simp [keyed]
  have h2 : x ∈ keyed key (key x) L ↔ x ∈ L := by simp [keyed]
  rw [← h1, ← h2, h.2]
theorem ins1_perm {β : Type} {key : β → Int} (x : β) : ∀ R : List β, (ins1 key x R).Perm (x :: R)
  | [] => .refl _
  | y :: R => by
    unfold ins1
    split
    · exact ((ins1_perm x R).cons y).trans (.swap x y R)
    · exact .refl _
theorem isort_perm {β : Type} {key : β → Int} (L : List β) : (isort key L).Perm L := by
  have : ∀ (L R : List β), (L.foldl (fun R x => ins1 key x R) R).Perm (L ++ R) := by
    intro L
    induction L with
    | nil => intro R; exact .refl _
    | cons x L ih =>
      intro R
      rw [List.foldl_cons]
      refine (ih _).trans ?_
      exact ((ins1_perm x R).append_left L).trans List.perm_middle
  have := this L []
  rwa [List.append_nil] at this

/-! ### what may be read -/
theorem At.of_mem {S : Segs} {b : Nat} {o : Obj} (h : [(b, o)] ∈ S) : ∃ f, At S b o f := by
  obtain ⟨S1, S2, rfl⟩ := List.append_of_mem h
  exact ⟨fun o' => S1 ++ [(b, o')] :: S2, ⟨S1, S2, rfl, fun _ => rfl⟩⟩
theorem Src.isSlice {v : Value} {Y : List α} (h : Src S v Y) : ∃ a c, v = .slice a Y.length c := by
  cases h with
  | nil => exact ⟨_, _, rfl⟩
  | part => exact ⟨_, _, rfl⟩
theorem Src.get {a : Option Addr} {m cap : Nat} {Y : List α} (h : Src S (.slice a m cap) Y) (hne : Y ≠ []) : ∃ (b o : Nat) (c : Array Value) (ty : TypeId) (fz : Nat × Nat), a = some ⟨b, o, none⟩ ∧ m = Y.length ∧ [(b, Obj.cells c ty fz)] ∈ S ∧
    (∀ (i j : Nat) (hi : i < Y.length), j < Enc.k α → c.toList[o + i * Enc.k α + j]? = (enc Y[i])[j]?) ∧ ∀ (i : Nat) (hi : i < Y.length), (c.toList.drop (o + i * Enc.k α)).take (Enc.k α) = enc Y[i] := by
  generalize hv : Value.slice a m cap = v at h
  cases h with
  | nil => exact absurd rfl hne
  | @part b o cap' c ty fz Y hm hc =>
    simp only [Value.slice.injEq] at hv
    refine ⟨b, o, c, ty, fz, hv.1, hv.2.1, hm, fun i j hi hj => ?_, fun i hi => ?_⟩
    · have hlt : i * Enc.k α + j < Y.length * Enc.k α := by
        have : (i + 1) * Enc.k α ≤ Y.length * Enc.k α := Nat.mul_le_mul_right _ hi
        rw [Nat.add_mul] at this; omega
      rw [← cells_get Y i j hi hj, ← hc, List.getElem?_take_of_lt hlt, List.getElem?_drop, Nat.add_assoc]
    · have hle : (i + 1) * Enc.k α ≤ Y.length * Enc.k α := Nat.mul_le_mul_right _ hi
      rw [Nat.add_mul, Nat.one_mul] at hle
      rw [← cells_elem Y i hi, ← hc, List.drop_take, List.take_take, List.drop_drop]
      congr 1
      omega
/-! unsigned halves; cutting code in two -/
section
theorem pCvU {E : Env} {x : Operand} {j : Nat} (h : ev E x = .int .i64 (j : Int)) (hj : j < 9223372036854775808) : pstep (ev E) (.conv .u64 x) = some (.int .u64 (j : Int)) := by
  simp only [pstep, h]
  rw [IntWalk.u64_in _ (by omega)]
theorem pCvI {E : Env} {x : Operand} {j : Nat} (h : ev E x = .int .u64 (j : Int)) (hj : j < 9223372036854775808) : pstep (ev E) (.conv .i64 x) = some (.int .i64 (j : Int)) := by
  simp only [pstep, h]
  rw [IntWalk.i64_in _ (by omega)]
theorem pShr1 {E : Env} {x : Operand} {j : Nat} (h : ev E x = .int .u64 (j : Int)) : pstep (ev E) (.bin .shr x (.const (.int .u64 1))) = some (.int .u64 ((j / 2 : Nat) : Int)) := by
  have h2 : (j : Int).fdiv 2 = ((j / 2 : Nat) : Int) := by rw [Int.fdiv_eq_ediv_of_nonneg _ (by decide)]; omega
  rw [← h2]
  simp only [pstep, h]
  rfl

theorem ycut {r : Option Nat} {n : Nat} {x y : XCode} {Q : Exit → Env → Segs → Prop} {E : Env} {S : Segs} (I : Env → Segs → Prop) (h1 : Y P r n x (thenQ I (fun _ _ _ => False)) E S) (h2 : ∀ E S, I E S → Y P r n y Q E S) : Y P r n (.seq x y) Q E S :=
  yseq (h1.mono fun e E' S' h => by
    cases e with
    | normal => exact h2 _ _ h
    | _ => exact h.elim)
theorem ycutQ {r : Option Nat} {n : Nat} {x y : XCode} {Q : Exit → Env → Segs → Prop} {E : Env} {S : Segs} (I : Env → Segs → Prop) (h1 : Y P r n x (thenQ I Q) E S) (h2 : ∀ E S, I E S → Y P r n y Q E S) : Y P r n (.seq x y) Q E S :=
  yseq (h1.mono fun e E' S' h => by
    cases e with
    | normal => exact h2 _ _ h
    | _ => exact h)
theorem pMulN {E : Env} {x y : Operand} {j k : Nat} (h1 : ev E x = .int .i64 (j : Int)) (h2 : ev E y = .int .i64 (k : Int)) (h : j * k ≤ 9223372036854775807) : pstep (ev E) (.bin .mul x y) = some (.int .i64 ((j * k : Nat) : Int)) := by
  have e : ((j * k : Nat) : Int) = (j : Int) * (k : Int) := by simp
  rw [pMul h1 h2 (by rw [← e]; omega), e]
theorem pQuoN {E : Env} {x y : Operand} {j k : Nat} (h1 : ev E x = .int .i64 (j : Int)) (h2 : ev E y = .int .i64 (k : Int)) (hk : 0 < k) (hj : j ≤ 9223372036854775807) : pstep (ev E) (.bin .quo x y) = some (.int .i64 ((j / k : Nat) : Int)) := by
  rw [pQuo h1 h2 (by omega) (by omega)]
  rfl
end
/-! slices.Clone -/
def xClone (ty k bytes : Nat) (z : List Value) : XCode :=
 .seq (.region [⟨some 2, .mov (.const (.slice none 0 0)), none⟩]) (
 .seq (.seq (.region [⟨some 3, .mov (.tmp 0), none⟩,
     ⟨some 4, .eqn 1 false (.tmp 3) (.const (.slice none 0 0)), none⟩]) (
  .cond (.tmp 4) (
   .seq (.region [⟨some 2, .mov (.const (.slice none 0 0)), none⟩]) (
   .ret)) (
   .skip))) (
 .seq (.region [⟨some 5, .bsl ty 0 k z [], none⟩,
    ⟨some 6, .mov (.tmp 0), none⟩,
    ⟨some 7, .app ty k bytes z (.tmp 5) (.tmp 6), none⟩,
    ⟨some 2, .mov (.tmp 7), none⟩]) (
 .ret)))
theorem Src.more {S' : Segs} {v : Value} {Y : List α} (h : Src S v Y) (hs : ∀ s ∈ S, s ∈ S') : Src S' v Y := by
  cases h with
  | nil => exact .nil
  | part hm hc => exact .part (hs _ hm) hc
theorem clone_all {f ty k bytes : Nat} {z : List Value} (hf : FnX P f 8 #[.tmp 2] (xClone ty k bytes z)) (hk : Enc.k α = k) (z0 : α) (hz : enc z0 = z) {v : Value} {L : List α} (hS : Src S v L) (hnil : v = .slice none 0 0 ∨ ∃ a c, v = .slice (some a) L.length c) (hlen : L.length < 2 ^ 40) (hb : L.length * bytes ≤ 140737488355328) :
    Tri P f #[v] S (fun r S' => ∃ H', Slc ty r L H' ∧ S' = H' :: S) := by
  refine Tri.forget (ycallee hf (Nat.le_of_ble_eq_true rfl) ?_)
  unfold xClone
  rcases hnil with rfl | ⟨a, c, rfl⟩
  · refine yseq ?_
    refine yregion ?_
    refine yp pC ?_
    refine ynil ?_
    refine tnorm ?_
    refine yseq ?_
    refine yseq ?_
    refine yregion ?_
    refine yp (pS rfl) ?_
    refine yp (pNilS rfl rfl) ?_
    refine ynil ?_
    refine tnorm ?_
    refine ycondT rfl ?_
    refine yseq ?_
    refine yregion ?_
    refine yp pC ?_
    refine ynil ?_
    refine tnorm ?_
    refine yret ?_
    refine tret ?_
    have : L = [] := by
      generalize hv : Value.slice none 0 0 = v at hS
      cases hS with
      | nil => rfl
      | part hm hc => simp at hv
    subst this
    exact yfin (rS rfl) ⟨[] :: S, ⟨[], by simp⟩, [], .nil, rfl⟩
  · refine yseq ?_
    refine yregion ?_
    refine yp pC ?_
    refine ynil ?_
    refine tnorm ?_
    refine yseq ?_
    refine yseq ?_
    refine yregion ?_
    refine yp (pS rfl) ?_
    refine yp (pNilS rfl rfl) ?_
    refine ynil ?_
    refine tnorm ?_
    refine ycondF rfl ?_
    refine yskip ?_
    refine tnorm ?_
    refine yseq ?_
    refine yregion ?_
    refine ycons (ybsl0 fun p5 => ?_)
    refine yp (pS rfl) ?_
    refine ycons (yapp rfl rfl Slc.empty (hS.more fun s hs => List.mem_cons_of_mem _ hs) hk z0 hz (by simpa using hb) (by simp; omega) fun v2 H2 hL2 => ?_)
    rw [List.nil_append] at hL2
    obtain ⟨a2, c2, rfl⟩ := hL2.isSlice
    refine yp (pS rfl) ?_
    refine ynil ?_
    refine tnorm ?_
    refine yret ?_
    exact yfin (rS rfl) ⟨H2 :: S, .self, H2, hL2, rfl⟩
theorem Slc.nilOr {ty : TypeId} {v : Value} {L : List α} {H : List Chunk} (h : Slc ty v L H) : v = .slice none 0 0 ∨ ∃ a c, v = .slice (some a) L.length c := by
  cases h with
  | nil => exact .inl rfl
  | row _ => exact .inr ⟨_, _, rfl⟩
theorem Junk.join3 {a b c : List Chunk} {G : Segs} [h : Sub S [a, b, c] G] : Junk S [a ++ b ++ c] := Junk.trans (Junk.of (h := h)) ⟨[], by simp⟩
theorem Tri.split3 {f : FuncId} {args : Array Value} {a b c : List Chunk} {S0 : Segs} {R : Value → Segs → Prop} (h : Tri P f args (a :: b :: c :: S0) R) : Tri P f args ((a ++ b ++ c) :: S0) R := h.perm (by simp)
end Go.Xs
