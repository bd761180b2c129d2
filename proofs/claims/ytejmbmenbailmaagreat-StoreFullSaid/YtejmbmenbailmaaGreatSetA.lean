/- The set of an address may be: what it takes. -/
import Derived.Test.YtejmbmenbailmaaGreatS1
namespace Go.Proofs.YtejmbmenbailmaaGreat
open Go.Xs
open Enc (enc)
theorem l8 {n d : Bs} (hn : vF n = true) (hd : d.length = 4) : wD (wT n d) = 0 ∧ Zn (wT n d) = 22 ∧ Z6 (wT n d) = [n, [0]] ∧ J4 (wT n d) := by
 have hv0 : vF [0] = true := by decide +kernel
 have hp : prt 1 d = [] := uJ rfl;have hdo : ZI 1 d = true := by unfold ZI; rw [if_neg (by omega), if_pos rfl, hd]; rfl
 have hsz : Zn (wT n d) = 22 := by
  unfold Zn wT WY;simp only [List.map_cons, List.map_nil, hp, hd];decide
 have hm : vM (wT n d) = true := by
  unfold vM wT Xe Yq;simp [hn, hv0, hdo]
 have hnl := Wu hn;refine ⟨?_, hsz, ?_, ⟨by show n.length < _; omega, by show 1 < _; omega, by show 1 < _; omega, fun r hr => ?_⟩⟩
 ·unfold wD;rw [if_neg (by rw [hm]; decide), hsz, if_neg (by decide)]
 ·unfold Z6 wT Zr;simp only [List.map_cons, List.map_nil, hp]; rfl
 ·rw [List.mem_singleton.1 hr];exact ⟨by show n.length < _; omega, by show d.length < _; omega⟩
end Go.Proofs.YtejmbmenbailmaaGreat