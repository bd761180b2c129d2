/- The arena (chapter 6): Compact, walked. -/
import Derived.Test.YtkdbajfaaifkaaaArenaX
namespace Go.Proofs.Ytkdbajfaaifkaaa
open Go.Xs
open Enc (enc)

def hkey (x : Array Value) : Int := match x.toList with | .int _ a :: _ => a | _ => 0
theorem hkey_hv (e : Int × Int) : hkey (hv e) = e.1 := rfl
theorem spl_nil (B : Bt) : spl B 0 [] = B := by simp [spl]
theorem Ar.mk {ab bb N : Nat} {kv : Value} {used top : Nat} {T : Tab} {HK : List Chunk} {B : Bt} (hI : Inv N T B used top) (hK : Slc 89 kv (kof T) HK) :
    Ar ab N (dof T) (aseg ab (.slice (some ⟨bb, 0, none⟩) N N) kv (used : Int) (top : Int) ++ bch bb B ++ HK) := ⟨bb, kv, HK, T, B, used, top, hI, rfl, hK, rfl⟩
set_option maxHeartbeats 1000000 in
theorem arCompactT {ab bb N : Nat} {kv : Value} {used top : Nat} {T : Tab} {HK : List Chunk} {B : Bt} (hI : Inv N T B used top) (hK : Slc 89 kv (kof T) HK) :
    Tri Try.prog 26 #[.pointer (some ⟨ab, 0, none⟩)] [aseg ab (.slice (some ⟨bb, 0, none⟩) N N) kv (used : Int) (top : Int), bch bb B, HK]
      (fun r S => r = .int .i64 ((N - usedD (dof T) : Nat) : Int) ∧ ∃ (kv' : Value) (HK' : List Chunk) (T' : Tab) (B' : Bt) (t : Nat), t = usedD (dof T) ∧ Inv N T' B' t t ∧ dof T' = dof T ∧ Slc 89 kv' (kof T') HK' ∧
        S = [aseg ab (.slice (some ⟨bb, 0, none⟩) N N) kv' (t : Int) (t : Int), bch bb B', HK']) := by
  refine Tri.forget (ycallee Try.fx26 (Nat.le_of_ble_eq_true rfl) ?_)
  unfold Try.x26
  have hl := hI.tlen
  have hbig := hI.big
  have hut := hI.ut
  have htn := hI.tn
  have hDl : (hlist 0 (dof T)).length < 2 ^ 30 := by have := hlist_len (dof T) 0; rw [dof_len] at this; have := hI.few; omega
  refine yseq ?_
  refine yregion ?_
  refine ycons (ybx (scP rfl) fun p1 => ?_)
  refine yp pC ?_
  refine ynil ?_
  refine tnorm ?_
  refine yseq ?_
  refine yseq ?_
  refine yregion ?_
  refine ycons (yload1 rfl rfl ?_)
  refine yp (pNilP rfl rfl) ?_
  refine ynil ?_
  refine tnorm ?_
  refine ycondF rfl ?_
  refine yskip ?_
  refine tnorm ?_
  refine yseq ?_
  refine yregion ?_
  refine ycons (yalloc fun p3 => ?_)
  refine ynil ?_
  refine tnorm ?_
  refine yseq ?_
  refine yseq ?_
  refine yregion ?_
  refine ycons (yload1 rfl rfl ?_)
  refine ycons (ycall arHandles rfl rfl fun r S' h => ?_)
  obtain ⟨bx, rfl, rfl⟩ := h
  refine ynil ?_
  refine tnorm ?_
  refine yblock ?_
  refine yforget (Junk.re (S1 := [[(bx, .cells #[.pointer (some ⟨ab, 0, none⟩)] 25)], aseg ab (.slice (some ⟨bb, 0, none⟩) N N) kv (used : Int) (top : Int), bch bb B, HK, [(p1, .cells #[.pointer (some ⟨ab, 0, none⟩)] 25)], [(p3, .cells #[.slice none 0 0] 55)]])
    (S2 := [[(bx, .cells #[.pointer (some ⟨ab, 0, none⟩)] 25)], aseg ab (.slice (some ⟨bb, 0, none⟩) N N) kv (used : Int) (top : Int) ++ bch bb B ++ HK, [(p1, .cells #[.pointer (some ⟨ab, 0, none⟩)] 25)], [(p3, .cells #[.slice none 0 0] 55)]]) (by simp)) ?_
  refine yrange (fun pre S => pre <+: (hlist 0 (dof T)).map hv ∧ ∃ vo Ho, Slc 3 vo (pre.map hkey) Ho ∧ Junk S [aseg ab (.slice (some ⟨bb, 0, none⟩) N N) kv (used : Int) (top : Int) ++ bch bb B ++ HK, [(p1, .cells #[.pointer (some ⟨ab, 0, none⟩)] 25)], [(p3, .cells #[vo] 55)], Ho])
    (fun e pre S => False) rfl rfl (itHandles (bx := bx) (S0 := [[(p1, .cells #[.pointer (some ⟨ab, 0, none⟩)] 25)], [(p3, .cells #[.slice none 0 0] 55)]]) (Ar.mk (ab := ab) (bb := bb) hI hK)) ⟨List.nil_prefix, _, [], .nil, .of⟩ ?_ ?_ ?_ ?_
  · intro pre x hx
    have : x ∈ (hlist 0 (dof T)).map hv := hx.subset (by simp)
    obtain ⟨e, _, rfl⟩ := List.mem_map.1 this
    rfl
  · rintro l pre x S hx ⟨_, vo, Ho, hLo, hJ⟩
    have : x ∈ (hlist 0 (dof T)).map hv := hx.subset (by simp)
    obtain ⟨e, _, rfl⟩ := List.mem_map.1 this
    have hpl := hx.length_le
    simp only [List.length_append, List.length_map, List.length_singleton] at hpl
    refine yforget hJ ?_
    obtain ⟨a, c, rfl⟩ := hLo.isSlice
    refine yregion ?_
    refine yp (pI rfl) ?_
    refine ynil ?_
    refine tnorm ?_
    refine yblock ?_
    refine yregion ?_
    refine ycons (yload1 rfl rfl ?_)
    refine yp (pI rfl) ?_
    refine ycons (ybsl1 (e.1) rfl rfl (by decide) (by decide) rfl fun p16 => ?_)
    refine ycons (yapp (Y := [e.1]) rfl rfl hLo (.lit (by repeat (first | exact List.mem_cons_self | apply List.mem_cons_of_mem)) rfl) rfl 0 rfl (by simp; omega) (by simp; omega) fun v2 H2 hL2 => ?_)
    obtain ⟨a2, c2, rfl⟩ := hL2.isSlice
    refine ycons (yst1_0 rfl rfl (scS rfl) ?_)
    refine ynil ?_
    refine bnorm ?_
    refine ⟨hx, .slice a2 (List.map hkey pre ++ [e.1]).length c2, H2, ?_, .of⟩
    rw [List.map_append]; exact hL2
  · rintro xs S' hd ⟨_, vo, Ho, hLo, hJ⟩
    have hm : xs.map hkey = (hlist 0 (dof T)).map (·.1) := by rw [hd, List.map_map]; rfl
    rw [hm] at hLo
    refine bnorm (tnorm ?_)
    refine yforget (hJ.trans (Junk.re (S1 := [[(p1, .cells #[.pointer (some ⟨ab, 0, none⟩)] 25)], aseg ab (.slice (some ⟨bb, 0, none⟩) N N) kv (used : Int) (top : Int) ++ bch bb B ++ HK, [(p3, .cells #[vo] 55)], Ho])
      (S2 := [[(p1, .cells #[.pointer (some ⟨ab, 0, none⟩)] 25)], aseg ab (.slice (some ⟨bb, 0, none⟩) N N) kv (used : Int) (top : Int), bch bb B, HK, [(p3, .cells #[vo] 55)], Ho]) (by simp))) ?_
    refine yforget (Junk.re (S1 := [[(p1, .cells #[.pointer (some ⟨ab, 0, none⟩)] 25)], aseg ab (.slice (some ⟨bb, 0, none⟩) N N) kv (used : Int) (top : Int), HK, bch bb B, [(p3, .cells #[vo] 55)], Ho])
      (S2 := [[(p1, .cells #[.pointer (some ⟨ab, 0, none⟩)] 25)] ++ aseg ab (.slice (some ⟨bb, 0, none⟩) N N) kv (used : Int) (top : Int) ++ HK, bch bb B, [(p3, .cells #[vo] 55)], Ho]) (by simp)) ?_
    have hHs : ∀ x ∈ (hlist 0 (dof T)).map (·.1), isH T x := fun x hx => by
      obtain ⟨e, he, rfl⟩ := List.mem_map.1 hx
      obtain ⟨j, b, hj, rfl⟩ := (hlist_mem _ _ _).1 he
      obtain ⟨i, p, e1, e2⟩ := getB_some (T := T) (h := (j : Int) + 1) (b := b) (by rw [getB_idx, hj]; rfl)
      exact ⟨i, p, b, by simp only [Nat.zero_add]; exact e1, e2⟩
    have hsort := sort_func (ty := 3) Try.fx59 Try.fx75 Try.fx88 pdInt ldInt rfl (arCmp (p1 := p1) (ab := ab) (bv := .slice (some ⟨bb, 0, none⟩) N N) (used := (used : Int)) (top := (top : Int)) hK hl) hLo (by rw [List.length_map]; omega) hHs
    obtain ⟨a, c, hvo⟩ := hLo.isSlice
    subst hvo
    refine yseq ?_
    refine yregion ?_
    refine ycons (yload1 rfl rfl ?_)
    refine yp (pFn1 (scP rfl)) ?_
    refine ycons (ycall hsort rfl rfl fun r S' h => ?_)
    obtain ⟨rfl, L, HL, hpm, hord, hL, rfl⟩ := h
    refine ynil ?_
    refine tnorm ?_
    refine yforget (Junk.re (S1 := [HL, [(p1, .cells #[.pointer (some ⟨ab, 0, none⟩)] 25)] ++ aseg ab (.slice (some ⟨bb, 0, none⟩) N N) kv (used : Int) (top : Int) ++ HK, bch bb B, [(p3, .cells #[.slice a ((hlist 0 (dof T)).map (·.1)).length c] 55)]]) (S2 := [HL, [(p1, .cells #[.pointer (some ⟨ab, 0, none⟩)] 25)], aseg ab (.slice (some ⟨bb, 0, none⟩) N N) kv (used : Int) (top : Int), HK, bch bb B, [(p3, .cells #[.slice a ((hlist 0 (dof T)).map (·.1)).length c] 55)]]) (by simp)) ?_
    refine yseq ?_
    refine ydrawR (R := [[(p1, .cells #[.pointer (some ⟨ab, 0, none⟩)] 25)]]) (by simp) ?_
    refine ytl1 rfl rfl ?_
    refine ytl1 rfl rfl ?_
    refine ytq (pNilc rfl) ?_
    refine ytq (pFadr rfl) ?_
    refine ytaltC (yst4_3 rfl rfl (scI rfl) ⟨by simp, ?_⟩) ytno
    refine ytq (pNilc rfl) ?_
    refine ytq (pFadr rfl) ?_
    refine ytalt (yst4_2 rfl rfl (scI rfl) ?_) ytno
    refine ytdone ?_
    refine tnorm ?_
    refine yseq ?_
    refine yseq ?_
    refine yregion ?_
    refine ycons (yload1 rfl rfl ?_)
    refine yp (pLen rfl) ?_
    refine yp pC ?_
    refine ynil ?_
    refine tnorm ?_
    refine yblock ?_
    have hLl := hpm.length_eq
    have hC0 := CInv.start hI hpm hord
    generalize hLen : ((hlist 0 (dof T)).map (·.1)).length = ln at hL hLl ⊢
    have hln : ln < 2 ^ 30 := by rw [← hLen, List.length_map]; exact hDl
    rw [← hLl] at hL ⊢
    refine yloop (σ := Nat) (fun q E S => Has E [(1, .pointer (some ⟨p1, 0, none⟩)), (27, .slice a L.length c), (28, .int .i64 (L.length : Int)), (29, .int .i64 (q : Int))] ∧ q ≤ L.length ∧ ∃ (T' : Tab) (B' : Bt) (t : Nat) (kv : Value) (HK : List Chunk), CInv N (dof T) T' B' t (L.drop q) ∧ Slc 89 kv (kof T') HK ∧
      Junk S [[(p1, .cells #[.pointer (some ⟨ab, 0, none⟩)] 25)], HL, aseg ab (.slice (some ⟨bb, 0, none⟩) N N) kv (t : Int) (t : Int), bch bb B', HK]) (fun q => L.length - q) 0 ⟨⟨rfl, rfl, rfl, rfl, trivial⟩, Nat.zero_le _, T, B, 0, kv, HK, hC0, hK, .of⟩ fun q E S ⟨hE, hq, T', B', t, kv, HK, hC, hK, hJ⟩ => ?_
    have hkl : (kof T').length < 2 ^ 40 := by rw [kof_len]; have := hC.few; omega
    have hBl := hC.len
    obtain ⟨E0, e0⟩ := has_puts hE; subst e0; clear hE
    refine yforget hJ ?_
    refine yseq ?_
    refine yregion ?_
    refine yp (pLt rfl rfl) ?_
    refine ynil ?_
    refine tnorm ?_
    refine yseq ?_
    refine ycondD rfl (fun h => ?_) (fun h => ?_)
    · have hlt : q < L.length := by omega
      have hd2 : L.drop q = L[q] :: L.drop (q + 1) := List.drop_eq_getElem_cons hlt
      have hload : ∀ sp : List Int, ((cells (L ++ sp)).toArray.toList)[0 + q * 1 + 0]? = some (.int .i64 L[q]) := fun sp => (row_cell (kk := 1) (j := 0) hlt rfl (by omega)).trans rfl
      rw [hd2] at hC
      generalize L[q] = x at hd2 hload hC
      obtain ⟨i, p, b, rfl, hi⟩ := hC.isHe x (by simp)
      obtain ⟨h4, hpN, hin⟩ := hC.inn i p b hi
      have htp := hC.todo i p b hi (by simp)
      have hcn := (costN_is b.length h4).2.1
      have hlti : i < (kof T').length := by rw [kof_len]; exact (List.getElem?_eq_some_iff.1 hi).1
      obtain ⟨b2, sp2, fz2, hz2, hae, _, hce, rfl⟩ := hL.at' (by intro h; simp [h] at hlt)
      subst hae
      refine yskip ?_
      refine tnorm ?_
      refine yseq ?_
      refine yblock ?_
      refine yseq ?_
      refine yregion ?_
      refine yp (pIxN rfl rfl (by omega)) ?_
      refine ycons (yload1 (v := .int .i64 ((i : Int) + 1)) rfl (hload sp2) ?_)
      refine yp (pI rfl) ?_
      refine ynil ?_
      refine tnorm ?_
      refine yseq ?_
      refine yregion ?_
      refine ycons (yload1 rfl rfl ?_)
      refine yp (pI rfl) ?_
      refine ycons (ycall (arData (ab := ab) (bb := bb) (N := N) (used := (t : Int)) (top := (t : Int)) hK (h := (i : Int) + 1) (i := i) (q := p + 8) (n := b.length) rfl ((kof_get hi).trans (by simp)) (by omega) (by omega) hkl) rfl rfl fun r S' h => ?_)
      obtain ⟨rfl, rfl⟩ := h
      refine ycons (ycall (cl_bytes (L := b) (S := [bch bb B']) (src_part (bb := bb) (o := if b.length = 0 then 0 else p + 8) (B := B') (ty := 5) (by simp) rfl fun k hk => ?_) (.inr ⟨_, _, rfl⟩) (by omega)) rfl rfl fun r S' h => ?_)
      · rw [if_neg (by omega)]; exact hin k hk
      obtain ⟨Hb, hLb, rfl⟩ := h
      obtain ⟨ab2, cb2, rfl⟩ := hLb.isSlice
      refine yp (pS rfl) ?_
      refine ynil ?_
      refine tnorm ?_
      refine yseq ?_
      refine yregion ?_
      refine ycons (yload1 rfl rfl ?_)
      refine yp (pI rfl) ?_
      refine yp (pS rfl) ?_
      refine yp (pLen rfl) ?_
      refine ycons (ycall (arPut (ab := ab) (bb := bb) (N := N) (used := t) (top := t) (B := B') hK (h := (i : Int) + 1) (i := i) (n := b.length) rfl hlti h4 (by omega) (Nat.le_refl _) hBl (by omega) hkl) rfl rfl fun r S' h => ?_)
      obtain ⟨rfl, B2, HK2, hB2, hx2, hK2, rfl⟩ := h
      refine ynil ?_
      refine tnorm ?_
      refine yregion ?_
      refine ycons (yload1 rfl rfl ?_)
      refine yp (pI rfl) ?_
      refine ycons (ycall (arData (ab := ab) (bb := bb) (N := N) (used := ((t + costN b.length : Nat) : Int)) (top := ((t + costN b.length : Nat) : Int)) hK2 (h := (i : Int) + 1) (i := i) (q := t + 8) (n := b.length) rfl (by rw [List.getElem?_set_self hlti]; simp) (by omega) (by omega) (by rw [List.length_set]; exact hkl)) rfl rfl fun r S' h => ?_)
      obtain ⟨rfl, rfl⟩ := h
      obtain ⟨o, ho⟩ : ∃ o, o = (if b.length = 0 then 0 else t + 8) := ⟨_, rfl⟩
      rw [← ho]
      have hoN : o + b.length ≤ N := by rw [ho]; split <;> omega
      refine yp (pS rfl) ?_
      refine ycons (ycopy (b := bb) (o := o) (fz := (0, 0)) rfl rfl (hLb.src (by repeat (first | exact List.mem_cons_self | apply List.mem_cons_of_mem))) rfl (by simp [cells_length, show Enc.k UInt8 = 1 from rfl]; omega) (.inl rfl) ?_)
      rw [set_bytes (by omega)]
      have hsp := spl_get (b := B2) (Y := b) (x := o) (by omega)
      have hC2 := hC.step (B' := spl B2 o b) hi (by rw [spl_len (by omega)]; exact hB2) (fun z hz => ?_) (fun z hz => ?_)
      rotate_left
      · rw [hsp]
        rcases Nat.eq_zero_or_pos b.length with h0 | h0
        · split
          · exact hx2 z (by omega)
          · rw [if_neg (by omega)]; exact hx2 z (by omega)
        · rw [if_neg (by omega)] at ho
          split
          · exact hx2 z (by omega)
          · rw [if_neg (by omega)]; exact hx2 z (by omega)
      · rw [hsp]
        rw [if_neg (by omega)] at ho
        rw [if_neg (by omega), if_pos (by omega)]
        congr 1; omega
      refine ynil ?_
      refine bnorm ?_
      refine tnorm ?_
      refine yregion ?_
      refine yp (pInc rfl rfl (by omega)) ?_
      refine yp (pI rfl) ?_
      refine ynil ?_
      refine tnorm ?_
      exact ⟨q + 1, ⟨⟨rfl, rfl, rfl, rfl, trivial⟩, by omega, T'.set i (some (t, b)), spl B2 o b, t + costN b.length, kv, HK2, hC2, by rw [kof_set]; exact hK2, .of⟩, by omega⟩
    · have hdn : L.drop q = [] := List.drop_eq_nil_of_le (by omega)
      rw [hdn] at hC
      obtain ⟨hI2, ht⟩ := hC.fin
      have htN := hI2.tn
      refine yexit ?_
      refine texit ?_
      refine texit ?_
      refine bexit ?_
      refine tnorm ?_
      refine yseq ?_
      refine yregion ?_
      refine ycons (yload1 rfl rfl ?_)
      refine ycons (ycall (arLeft (ab := ab) (kv := kv) (used := (t : Int)) (top := (t : Int)) (B := B') (H := bch bb B') (bv := .slice (some ⟨bb, 0, none⟩) N N) (by rw [← hBl]; exact Slc.full rfl) (by omega) (by omega)) rfl rfl fun r S' h => ?_)
      obtain ⟨rfl, rfl⟩ := h
      refine yp (pI rfl) ?_
      refine ynil ?_
      refine tnorm ?_
      refine yret ?_
      exact yfin (rI rfl) ⟨[aseg ab (.slice (some ⟨bb, 0, none⟩) N N) kv (t : Int) (t : Int), bch bb B', HK], .of, by rw [hBl, ← ht]; exact congrArg (Value.int .i64) (by omega), kv, HK, T', B', t, ht, hI2, hC.dofe, hK, rfl⟩
  · rintro e pre S' _ h
    exact h.elim
end Go.Proofs.Ytkdbajfaaifkaaa
