/- StoreTimes: the walk. -/
import Derived.Test.YtejmbmenbailmaaGreatAwakeS
import Derived.Test.YtejmbmenbailmaaGreatTimesP
import Derived.Test.YtejmbmenbailmaaGreatKeq
import Derived.Test.YtejmbmenbailmaaGreatAlk
namespace Go.Proofs.YtejmbmenbailmaaGreat
open Go.Xs
open Enc (enc)
theorem zB.FC {A B G : zx} (h : zB A B) : zB (A ++ G) (B ++ G) := by
 obtain ⟨R, p⟩ := h;refine ⟨R, ?_⟩;rw [List.flatten_append, List.flatten_append];refine (p.append_right _).trans ?_;rw [List.append_assoc, List.append_assoc];exact List.perm_append_comm.append_left _
theorem fE {kF : Nat → Ky} {e p : Nat → Int} {n : Nat} {S : Ss} (h : Rw kF e p n S.I) {k : Ky} {j : Nat} (hj : j < n) (hk : fk k = kF j) {H : List Chunk} {rv : Value} {S' : zx} (hG : lU S k H rv S') :
 ∃ i a c HR, rv = .tuple #[.agg (og i (.slice a (ZA i.s).rrs.length c)), .bool true] ∧ wG S.I (kF j) = some i ∧ i.exp = e j ∧ i.pins = p j ∧ S' = [HR, H] := by
 obtain ⟨i, hi, h1, h2, h3, h4⟩ := h.get hj;rcases hG with ⟨g1, _⟩ | ⟨i', v, HR, g1, g2, g3, g4⟩
 ·rw [hk, h1] at g1; cases g1
 ·rw [hk, h1] at g1;obtain rfl := Option.some.inj g1;obtain ⟨a, c, rfl⟩ := g3.isSlice;exact ⟨i, a, c, HR, g2, h1, h3, h4, g4⟩
end Go.Proofs.YtejmbmenbailmaaGreat