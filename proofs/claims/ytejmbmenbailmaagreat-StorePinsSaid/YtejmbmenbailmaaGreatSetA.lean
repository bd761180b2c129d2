/- The set of an address may be: what it takes. -/
import Derived.Test.YtejmbmenbailmaaGreatS1
namespace Go.Proofs.YtejmbmenbailmaaGreat
open Go.Xs
open Enc (enc)
theorem iQ {n d : Bs} (hn : vG n = true) (hd : d.length = 4) : wz (WV n d) = 0 ∧ Zm (WV n d) = 22 ∧ Z8 (WV n d) = [n, [0]] ∧ jQ (WV n d) := by
 have hv0 : vG [0] = true := by decide +kernel
 have hp : prt 1 d = [] := uD rfl;have hdo : ZI 1 d = true := by unfold ZI; rw [if_neg (by omega), if_pos rfl, hd]; rfl
 have hsz : Zm (WV n d) = 22 := by
  unfold Zm WV WU;simp only [List.map_cons, List.map_nil, hp, hd];decide
 have hm : vK (WV n d) = true := by
  unfold vK WV Xa Yk;simp [hn, hv0, hdo]
 have hnl := Wt hn;refine ⟨?_, hsz, ?_, ⟨by show n.length < _; omega, by show 1 < _; omega, by show 1 < _; omega, fun r hr => ?_⟩⟩
 ·unfold wz;rw [if_neg (by rw [hm]; decide), hsz, if_neg (by decide)]
 ·unfold Z8 WV Zt;simp only [List.map_cons, List.map_nil, hp]; rfl
 ·rw [List.mem_singleton.1 hr];exact ⟨by show n.length < _; omega, by show d.length < _; omega⟩
end Go.Proofs.YtejmbmenbailmaaGreat