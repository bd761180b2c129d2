/- Keys by their use: Order. -/
import Derived.Test.YtejmbmenbailmaaGreatLk
namespace Go.Proofs.YtejmbmenbailmaaGreat
open Go.Xs
open Enc (enc)
theorem AJ : Tryz.prog.underlying 66 = some (.slice 43) := by kernel_rfl
theorem EU : Tryz.prog.underlying 3 = some (.int .i64) := by kernel_rfl
theorem AP : sizeOf? Tryz.prog 43 = some 2 := by kernel_rfl
theorem sJ : zero? Tryz.prog 43 = some [.string ⟨#[]⟩, .int .i64 0] := by kernel_rfl
theorem DZ : bytes? Tryz.prog 43 = some 24 := by kernel_rfl
theorem pX {n : Nat} (hn : n ≤ 1099511627776) : zP Tryz.prog 171 #[.slice none 0 0, .int .i64 (n : Int)] [] (fun r S => ∃ H, Zc 43 r ([] : List Ky) H ∧ S = [H]) := by
 refine zP.forget (zm Tryz.Cx (Nat.le_of_ble_eq_true rfl) ?_);unfold Tryz.tF;refine ze (z8 (yp pC (zf (za (ze (ze (z8 (yp (pI rfl) (yp (ZO rfl rfl) (zf (za (zA rfl (zu (za (ze (ze (z8 (yp (pI rfl) (yp (pS rfl) (yp (Bz rfl) (yp (pS rfl) (yp (ZP rfl) (yp (ZH rfl rfl (by omega)) (yp (ZH rfl rfl (by omega)) (yp (pI rfl) (zf (za (ze (z8 (yp (pI rfl) (yp (Vs rfl rfl) (zf (za ?_)))))))))))))))))))))))))))))))));rcases Nat.eq_zero_or_pos n with rfl | hp
 ·refine zA rfl (zu (za (ze (z8 (yp (pS rfl) (yp (pS rfl) (zf (za (zJ ?_)))))))));exact zI (rS rfl) ⟨_, .of, _, .nil, rfl⟩
 rw [show ((n : Int) - (((0 : Nat) : Int) - ((0 : Nat) : Int))) = (n : Int) from by omega];rw [decide_eq_true (show (0 : Int) < n from by omega)];refine zH rfl (z8 (yp (pS rfl) (yp (pS rfl) (yp (Bz rfl) (yp (v := .slice none 0 0) rfl (yp (pI rfl) ?_))))));refine zh (sO AJ EU AP sJ DZ rfl rfl hp (by decide) (by omega) hn fun b M hM => ?_);refine yp (pS rfl) (yp (ZP rfl) (yp (dA (j := 0) rfl rfl (Nat.zero_le _)) (yp (pS rfl) (zf (za (ze (z8 (yp (pS rfl) (yp (pS rfl) (zf (za (zJ ?_))))))))))));refine zI (rS rfl) ⟨_, .of, [(b, .cells ((List.replicate M [.string ⟨#[]⟩, .int .i64 0]).flatten).toArray 43)], ?_, rfl⟩;have h := Zc.of (ty := 43) (b := b) (L := ([] : List Ky)) (sp := List.replicate M (⟨[], 0⟩ : Ky));rw [um (z := [.string ⟨#[]⟩, .int .i64 0]) M (⟨[], 0⟩ : Ky) rfl];simpa using h
def iC (A B : List Ky) : Nat → Int
 | 0 => 0
 | 1 => A.length
 | _ => A.length + B.length
theorem dZ {u v : Value} {A B : List Ky} {S : zo} {b : Nat} (hA : Src S u A) (hB : Src S v B) (ha : A.length < 2 ^ 36) (hb : B.length < 2 ^ 36) (hm : [(b, .cells #[u, v] 66)] ∈ S) :
 zP Tryz.prog 150 #[.slice (some ⟨b, 0, none⟩) 2 2] S (fun r S' => ∃ H, Zc 43 r (A ++ B) H ∧ S' = H :: S) := by
 refine zP.forget (zm Tryz.CP (Nat.le_of_ble_eq_true rfl) ?_);unfold Tryz.x150;obtain ⟨a1, c1, rfl⟩ := hA.isSlice;obtain ⟨a2, c2, rfl⟩ := hB.isSlice;obtain ⟨f, hAt⟩ := At.kU hm;refine ze (z8 (yp pC (zf (za (ze (z8 (yp pC (zf (za (ze (ze (z8 (yp (pS rfl) (yp (ZP rfl) (yp pC (zf (za (zw ?_))))))))))))))))));refine Z9 (σ := Nat) (fun i E S' => Has E [(0, .slice (some ⟨b, 0, none⟩) 2 2), (3, .int .i64 (iC A B i)), (9, .slice (some ⟨b, 0, none⟩) 2 2), (10, .int .i64 2), (11, .int .i64 i)] ∧ i ≤ 2 ∧ S' = S) (fun i => 2 - i) 0 ⟨⟨rfl, rfl, rfl, rfl, rfl, trivial⟩, Nat.zero_le _, rfl⟩ fun i E S' ⟨hE, hi, hS⟩ => ?_
 subst hS;obtain ⟨E0, e0⟩ := zy hE; subst e0; clear hE;refine ze (z8 (yp (ZO rfl rfl) (zf (za (ze ?_)))));refine zQ rfl (fun h => ?_) (fun h => ?_)
 ·have h01 : i = 0 ∨ i = 1 := by omega
  rcases h01 with rfl | rfl
  ·rw [show iC A B 0 = 0 from rfl];refine zu (za (ze (zw (ze (z8 (yp (zU rfl rfl (by omega)) ?_))))));refine zh (zB rfl rfl ?_);refine yp (pS rfl) (zf (za (ze (z8 (yp (pI rfl) (yp (pS rfl) (yp (ZP rfl) (yp (Vy rfl rfl (by omega)) (yp (pI rfl) (zf (za (ze (z8 (yp (pI rfl) (yp (ZO rfl rfl) (zf (za (zA rfl (zu (zT (za (z8 (yp (Zg rfl rfl (by omega)) (yp (pI rfl) (zf (za ?_))))))))))))))))))))))))));refine ⟨1, ⟨⟨rfl, ?_, rfl, rfl, rfl, trivial⟩, by omega, rfl⟩, by omega⟩;show Value.int .i64 (0 + (A.length : Int)) = .int .i64 (A.length : Int);rw [Int.zero_add]
  ·rw [show iC A B 1 = A.length from rfl];refine zu (za (ze (zw (ze (z8 (yp (zU rfl rfl (by omega)) ?_))))));refine zh (zB rfl rfl ?_);refine yp (pS rfl) (zf (za (ze (z8 (yp (pI rfl) (yp (pS rfl) (yp (ZP rfl) (yp (Zo rfl rfl (by omega)) (yp (pI rfl) (zf (za (ze (z8 (yp (pI rfl) (yp (ZO rfl rfl) (zf (za (zA rfl (zu (zT (za (z8 (yp (Zg rfl rfl (by omega)) (yp (pI rfl) (zf (za ?_))))))))))))))))))))))))));exact ⟨2, ⟨⟨rfl, rfl, rfl, rfl, rfl, trivial⟩, by omega, rfl⟩, by omega⟩
 obtain rfl : i = 2 := by omega
 rw [show iC A B 2 = ((A.length + B.length : Nat) : Int) from by show (A.length : Int) + B.length = _; omega];refine Z4 (zF (zF (Z5 (za (ze (z8 (yp (pI rfl) ?_)))))));refine zh (zk (pX (n := A.length + B.length) (by omega)) rfl rfl fun r S' h => ?_);obtain ⟨H, hL, rfl⟩ := h;obtain ⟨a3, c3, rfl⟩ := hL.isSlice;refine yp (pS rfl) (zf (za (ze (ze (z8 (yp (pS rfl) (yp (ZP rfl) (yp pC (zf (za (zw ?_)))))))))));refine Z9 (σ := Nat) (fun i E S'' => Has E [(25, .slice (some ⟨b, 0, none⟩) 2 2), (26, .int .i64 2), (27, .int .i64 i)] ∧ i ≤ 2 ∧ ∃ v H, Zc 43 v (([A, B].take i).flatten) H ∧ E 6 = v ∧ S'' = H :: S') (fun i => 2 - i) 0 ⟨⟨rfl, rfl, rfl, trivial⟩, Nat.zero_le _, _, _, hL, rfl, rfl⟩ fun i E S'' ⟨hE, hi, v1, H1, hL1, hE6, hS⟩ => ?_
 subst hS;obtain ⟨a4, c4, rfl⟩ := hL1.isSlice;have hE2 : Has E [(6, .slice a4 ([A, B].take i).flatten.length c4), (25, .slice (some ⟨b, 0, none⟩) 2 2), (26, .int .i64 2), (27, .int .i64 i)] := ⟨hE6, hE⟩
 obtain ⟨E0, e0⟩ := zy hE2; subst e0; clear hE2;refine ze (z8 (yp (ZO rfl rfl) (zf (za (ze ?_)))));refine zQ rfl (fun h => ?_) (fun h => ?_)
 ·have h01 : i = 0 ∨ i = 1 := by omega
  rcases h01 with rfl | rfl
  ·refine zu (za (ze (zw (ze (z8 (yp (zU rfl rfl (by omega)) ?_))))));refine zh (zB rfl rfl ?_);refine yp (pS rfl) (zf (za (z8 (yp (pS rfl) (yp (pS rfl) ?_)))));refine zh (VK (Y := A) rfl rfl hL1 (Src.mono hA fun s hs => ?_) rfl (⟨[], 0⟩ : Ky) rfl (by simp; omega) (by simp; omega) fun v2 H2 hL2 => ?_)
   ·exact List.mem_cons_of_mem _ hs
   obtain ⟨a2, c2, rfl⟩ := hL2.isSlice;refine yp (pS rfl) (zf (zT (za (z8 (yp (Zg rfl rfl (by omega)) (yp (pI rfl) (zf (za ?_))))))));exact ⟨1, ⟨⟨rfl, rfl, rfl, trivial⟩, by omega, .slice a2 (([A, B].take 0).flatten ++ A).length c2, H2, by simpa using hL2, rfl, rfl⟩, by omega⟩
  ·refine zu (za (ze (zw (ze (z8 (yp (zU rfl rfl (by omega)) ?_))))));refine zh (zB rfl rfl ?_);refine yp (pS rfl) (zf (za (z8 (yp (pS rfl) (yp (pS rfl) ?_)))));refine zh (VK (Y := B) rfl rfl hL1 (Src.mono hB fun s hs => ?_) rfl (⟨[], 0⟩ : Ky) rfl (by simp; omega) (by simp; omega) fun v2 H2 hL2 => ?_)
   ·exact List.mem_cons_of_mem _ hs
   obtain ⟨a2, c2, rfl⟩ := hL2.isSlice;refine yp (pS rfl) (zf (zT (za (z8 (yp (Zg rfl rfl (by omega)) (yp (pI rfl) (zf (za ?_))))))));exact ⟨2, ⟨⟨rfl, rfl, rfl, trivial⟩, by omega, .slice a2 (([A, B].take 1).flatten ++ B).length c2, H2, by simpa using hL2, rfl, rfl⟩, by omega⟩
 obtain rfl : i = 2 := by omega
 refine Z4 (zF (zF (Z5 (za (ze (z8 (yp (pS rfl) (yp (pS rfl) (zf (za (zJ ?_)))))))))));exact zI (rS rfl) ⟨_, .self, _, by simpa using hL1, rfl⟩
theorem lK {p : Option Addr} : zP Tryz.prog 124 #[.pointer p] [] (fun r S => ∃ bl, r = .func (.func 149) #[] #[.pointer (some ⟨bl, 0, none⟩)] ∧ S = [[(bl, .cells #[.pointer p] 128)]]) := by
 refine zP.forget (zm Tryz.Dl (Nat.le_of_ble_eq_true rfl) ?_);unfold Tryz.Ah;refine ze (z8 ?_);refine zh (gQ (jV rfl) fun p1 => ?_);refine yp pC (zf (za (ze (z8 (yp (dH (jV rfl)) (yp (pF rfl) (zf (za (zJ ?_)))))))));exact zI (rF rfl) ⟨_, .of, _, rfl, rfl⟩
def gU (k : Ky) : Array Value := #[.agg (Wn k)]
theorem QK {bl lb : Nat} {most : Int} {A B : List Ky} {T0 : List Chunk} {S0 : zo} (hT : Lr lb most A B T0) (ha : A.length < 2 ^ 36) (hb : B.length < 2 ^ 36) :
 yR Tryz.prog 149 #[] #[.pointer (some ⟨bl, 0, none⟩)] [[(bl, .cells #[.pointer (some ⟨lb, 0, none⟩)] 128)]] (T0 :: S0)
  (fun pre x => pre ++ [x] <+: (A ++ B).map gU) (fun xs => xs = (A ++ B).map gU) := by
 obtain ⟨u, v, H, G, hA, hB, rfl⟩ := hT;intro l c J Jx hJ0 hround;have e0 : (#[] ++ #[.func (.yield l) #[] #[]] ++ #[.pointer (some ⟨bl, 0, none⟩)] : Array Value) = #[.func (.yield l) #[] #[], .pointer (some ⟨bl, 0, none⟩)] := rfl;rw [e0];refine zP.forget (zm Tryz.CQ (Nat.le_of_ble_eq_true rfl) ?_);unfold Tryz.tL;refine zq (zC.pm (S2 := [c] :: [(bl, .cells #[.pointer (some ⟨lb, 0, none⟩)] 128)] :: Xd lb most u v :: H :: G :: S0) (by simp)) ?_;obtain ⟨a0, c0, rfl⟩ := hA.isSlice;obtain ⟨a1, c1, rfl⟩ := hB.isSlice;refine ze (ze (z8 ?_));refine zh (zB rfl rfl ?_);refine yp (ZM rfl rfl) (zf (za (zA rfl (zu (za (ze (zX (Z7 rfl rfl (zi (zG rfl) (zi (zn rfl) (Z7 rfl rfl (Z7 rfl rfl (zi (zG rfl) (zi (zn rfl) (Z7 rfl rfl (zi pC ?_))))))))))))))));refine zN (gZ (l := [.slice a0 A.length c0, .slice a1 B.length c1]) rfl (by decide) (by decide) (by decide) rfl fun p15 => ?_) zO;refine zN (zk (dZ (S := [[(p15, .cells #[.slice a0 A.length c0, .slice a1 B.length c1] 66)], H, G]) (b := p15) (hA.src (by simp)) (hB.src (by simp)) ha hb (by simp)) rfl rfl fun r S' h => ?_) zO;obtain ⟨H1, hL1, rfl⟩ := h;obtain ⟨a2, c2, rfl⟩ := hL1.isSlice;generalize hR : A ++ B = R at hL1 hround ⊢;have hRl : R.length < 2 ^ 39 := by rw [← hR, List.length_append]; omega
 refine zi (ZP rfl) (zL (za (zw ?_)));refine Z9 (σ := Nat) (fun i E S => Has E [(0, .func (.yield l) #[] #[]), (16, .slice a2 R.length c2), (17, .int .i64 R.length), (18, .int .i64 i)] ∧ i ≤ R.length ∧ ∃ T, J ((R.take i).map gU) T ∧ zC S (H1 :: T)) (fun i => R.length - i) 0 ⟨⟨rfl, rfl, rfl, rfl, trivial⟩, Nat.zero_le _, [c] :: (Xd lb most (.slice a0 A.length c0) (.slice a1 B.length c1) ++ H ++ G) :: S0, hJ0, (zC.re (S1 := H1 :: [c] :: Xd lb most (.slice a0 A.length c0) (.slice a1 B.length c1) :: H :: G :: S0) (by simp))⟩ fun i E S ⟨hE, hi, T, hJ, hK⟩ => ?_
 obtain ⟨E0, e0⟩ := zy hE; subst e0; clear hE;refine zq hK (ze (z8 (yp (ZO rfl rfl) (zf (za (ze ?_))))));refine zQ rfl (fun h => ?_) (fun h => ?_)
 ·have hlt : i < R.length := by omega
  obtain ⟨bb, sp, fz, hz, rfl, hm, hc, rfl⟩ := hL1.at' (by intro h; simp [h] at hlt);have htk : R.take (i + 1) = R.take i ++ [R[i]] := by rw [List.take_add_one, List.getElem?_eq_getElem hlt]; rfl
  refine zu (za (ze (zw (ze (z8 (yp (zU rfl rfl (by omega)) ?_))))));refine zh (wm (l := enc R[i]) rfl (wV hlt rfl) rfl ?_);refine zh (Ze fun p4 => ?_);refine zh (WG rfl rfl rfl rfl rfl ?_);refine zf (za (ze (z8 (yp (pF rfl) ?_))));refine zh (Zk rfl rfl ?_);have hV : (R.take i).map gU ++ [gU R[i]] <+: R.map gU := by
   have e1 : (R.take i).map gU ++ [gU R[i]] = (R.take (i + 1)).map gU := by rw [htk, List.map_append]; rfl
   rw [e1];exact List.IsPrefix.map gU (List.take_prefix _ _)
  refine zh (Xi (hround _ _ T hV hJ) rfl rfl fun b T' h => ?_);rcases h with ⟨rfl, hJ'⟩ | ⟨rfl, hJx⟩
  ·refine yp (Zi rfl) (zf (za (zA rfl (zu (zT (za (z8 (yp (Zg rfl rfl (by omega)) (yp (pI rfl) (zf (za ?_)))))))))));refine ⟨i + 1, ⟨⟨rfl, rfl, rfl, rfl, trivial⟩, by omega, T', ?_, .of⟩, by omega⟩;rw [htk, List.map_append]; exact hJ'
  ·refine yp (Zi rfl) (zf (za (zH rfl (zJ (bret (zV (zV (bret ?_))))))));exact zI w9 ⟨T', .of, .inr ⟨_, hJx⟩⟩
 ·refine Z4 (zF (zF (Z5 ?_)));refine ZW w9 ⟨T, .of, .inl ⟨_, ?_, hJ⟩⟩;rw [List.take_of_length_le (by omega)]
end Go.Proofs.YtejmbmenbailmaaGreat