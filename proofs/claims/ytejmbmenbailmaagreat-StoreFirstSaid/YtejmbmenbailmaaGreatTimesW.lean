/- StoreTimes: the walk. -/
import Derived.Test.YtejmbmenbailmaaGreatAwakeS
import Derived.Test.YtejmbmenbailmaaGreatTimesP
import Derived.Test.YtejmbmenbailmaaGreatKeq
import Derived.Test.YtejmbmenbailmaaGreatAlk
namespace Go.Proofs.YtejmbmenbailmaaGreat
open Go.Xs
open Enc (enc)
theorem dR {kF : Nat → Ky} {e p : Nat → Int} {n : Nat} {S : Ss} (h : Rw kF e p n S.I) {k : Ky} {j : Nat} (hj : j < n) (hk : fk k = kF j) {H : List Chunk} {rv : Value} {S' : zw} (hG : oV S k H rv S') :
 ∃ i a c HR, rv = .tuple #[.agg (oK i (.slice a (Zz i.s).rrs.length c)), .bool true] ∧ Wm S.I (kF j) = some i ∧ i.exp = e j ∧ i.pins = p j ∧ S' = [HR, H] := by
 obtain ⟨i, hi, h1, h2, h3, h4⟩ := h.get hj;rcases hG with ⟨g1, _⟩ | ⟨i', v, HR, g1, g2, g3, g4⟩
 ·rw [hk, h1] at g1; cases g1
 ·rw [hk, h1] at g1;obtain rfl := Option.some.inj g1;obtain ⟨a, c, rfl⟩ := g3.isSlice;exact ⟨i, a, c, HR, g2, h1, h3, h4, g4⟩
end Go.Proofs.YtejmbmenbailmaaGreat