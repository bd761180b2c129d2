/-
  No cell of these rows narrows 'for every input' (looked for: loops, veiled, ifaces, maps, wideKeys, modest, calm, conditions, laid).
  DERIVED. THE GIVEN ROWS OF THIS SEAT. 10 by the template 'for every input the law returns true; each argument reads behind the call as it read before'; 0 by the template 'total and deterministic' (their statements: YtkdbajfaaifkaaaTotals.lean).
  GIVEN WITH THE SEED: the statements are not yours to turn. If you find one false, say at which input.
  Laid BY PROGRAM, IN A SANDBOX (cutbox-rows.mjs): the forced cells as the released guide's own fill.sh prints them over the translation a3a41c0a90684281… (all of the seat's roots in one cut). By AI agents, Wed Nov 11 2026. No macro, syntax, notation, axiom, sorry.
-/
import Derived.Test.YtkdbajfaaifkaaaChecked
import GoSem.Claim
import GoSem.ClaimJoined
import GoSem.ClaimMapViews
import Derived.JoinedTies
import Derived.KernelRfl
namespace Go.Proofs.Ytkdbajfaaifkaaa
/- THE CELL 'sum', in the pinned program and in every row, IS THE sha256 OF THE DUMP (.gsa) THAT YtkdbajfaaifkaaaProg.lean LOADS. Nothing in Lean hashes anything: it is a label: what it is worth is what the hold of that sum in a sandbox is worth. -/
noncomputable def Try.pinned : Pinned := { name := "ytkdbajfaaifkaaa", sum := "a3a41c0a9068428122a80193ee23189266fdcdeea93867bf2e2bc4a79cd1d393", checked := Try.checked }
namespace Rows
def none {H : Type} : Left H := { results := [], args := [] }

/-- 'freshetlaw6.ArenaCosts': WHATEVER THE INPUT: true; the input reads as it did. -/
def arenaCostsSpec : ChangeSpec := { name := "arenaCosts", fn := fun _ => fun
  | [d] => { results := [.lit (.bool true)], args := [d] }
  | _ => none }
def arenaCostsRow : OpenClaim := { program := "ytkdbajfaaifkaaa", sum := "a3a41c0a9068428122a80193ee23189266fdcdeea93867bf2e2bc4a79cd1d393", func := "freshet/freshetlaw6.ArenaCosts", spec := "arenaCosts", unfollowed := true, recurses := true, apart := false }
def ArenaCostsSaid : Prop := arenaCostsRow.holds Try.pinned (OpenSpec.ofChange arenaCostsSpec)

/-- ITS FALSE NEIGHBOUR: 'it returns false'. Refute it at one input. -/
def arenaCostsWrong : ChangeSpec := { name := "arenaCosts", fn := fun _ => fun
  | [d] => { results := [.lit (.bool false)], args := [d] }
  | _ => none }
def ArenaCostsWrongFalsely : Prop := arenaCostsRow.holds Try.pinned (OpenSpec.ofChange arenaCostsWrong)

/-- 'freshetlaw6.ArenaEdges': WHATEVER THE INPUT: true; the input reads as it did. -/
def arenaEdgesSpec : ChangeSpec := { name := "arenaEdges", fn := fun _ => fun
  | [d1, d2, d3] => { results := [.lit (.bool true)], args := [d1, d2, d3] }
  | _ => none }
def arenaEdgesRow : OpenClaim := { program := "ytkdbajfaaifkaaa", sum := "a3a41c0a9068428122a80193ee23189266fdcdeea93867bf2e2bc4a79cd1d393", func := "freshet/freshetlaw6.ArenaEdges", spec := "arenaEdges", unfollowed := true, recurses := true, apart := false }
def ArenaEdgesSaid : Prop := arenaEdgesRow.holds Try.pinned (OpenSpec.ofChange arenaEdgesSpec)

/-- ITS FALSE NEIGHBOUR: 'it returns false'. Refute it at one input. -/
def arenaEdgesWrong : ChangeSpec := { name := "arenaEdges", fn := fun _ => fun
  | [d1, d2, d3] => { results := [.lit (.bool false)], args := [d1, d2, d3] }
  | _ => none }
def ArenaEdgesWrongFalsely : Prop := arenaEdgesRow.holds Try.pinned (OpenSpec.ofChange arenaEdgesWrong)

/-- 'freshetlaw6.ArenaActs': WHATEVER THE INPUT: true; the input reads as it did. -/
def arenaActsSpec : ChangeSpec := { name := "arenaActs", fn := fun _ => fun
  | [d1, d2] => { results := [.lit (.bool true)], args := [d1, d2] }
  | _ => none }
def arenaActsRow : OpenClaim := { program := "ytkdbajfaaifkaaa", sum := "a3a41c0a9068428122a80193ee23189266fdcdeea93867bf2e2bc4a79cd1d393", func := "freshet/freshetlaw6.ArenaActs", spec := "arenaActs", unfollowed := true, recurses := true, apart := false }
def ArenaActsSaid : Prop := arenaActsRow.holds Try.pinned (OpenSpec.ofChange arenaActsSpec)

/-- ITS FALSE NEIGHBOUR: 'it returns false'. Refute it at one input. -/
def arenaActsWrong : ChangeSpec := { name := "arenaActs", fn := fun _ => fun
  | [d1, d2] => { results := [.lit (.bool false)], args := [d1, d2] }
  | _ => none }
def ArenaActsWrongFalsely : Prop := arenaActsRow.holds Try.pinned (OpenSpec.ofChange arenaActsWrong)

/-- 'freshetlaw6.ArenaMoves': WHATEVER THE INPUT: true; the input reads as it did. -/
def arenaMovesSpec : ChangeSpec := { name := "arenaMoves", fn := fun _ => fun
  | [d1, d2, d3] => { results := [.lit (.bool true)], args := [d1, d2, d3] }
  | _ => none }
def arenaMovesRow : OpenClaim := { program := "ytkdbajfaaifkaaa", sum := "a3a41c0a9068428122a80193ee23189266fdcdeea93867bf2e2bc4a79cd1d393", func := "freshet/freshetlaw6.ArenaMoves", spec := "arenaMoves", unfollowed := true, recurses := true, apart := false }
def ArenaMovesSaid : Prop := arenaMovesRow.holds Try.pinned (OpenSpec.ofChange arenaMovesSpec)

/-- ITS FALSE NEIGHBOUR: 'it returns false'. Refute it at one input. -/
def arenaMovesWrong : ChangeSpec := { name := "arenaMoves", fn := fun _ => fun
  | [d1, d2, d3] => { results := [.lit (.bool false)], args := [d1, d2, d3] }
  | _ => none }
def ArenaMovesWrongFalsely : Prop := arenaMovesRow.holds Try.pinned (OpenSpec.ofChange arenaMovesWrong)

/-- 'freshetlaw6.ArenaHandles': WHATEVER THE INPUT: true; the input reads as it did. -/
def arenaHandlesSpec : ChangeSpec := { name := "arenaHandles", fn := fun _ => fun
  | [d1, d2] => { results := [.lit (.bool true)], args := [d1, d2] }
  | _ => none }
def arenaHandlesRow : OpenClaim := { program := "ytkdbajfaaifkaaa", sum := "a3a41c0a9068428122a80193ee23189266fdcdeea93867bf2e2bc4a79cd1d393", func := "freshet/freshetlaw6.ArenaHandles", spec := "arenaHandles", unfollowed := true, recurses := true, apart := false }
def ArenaHandlesSaid : Prop := arenaHandlesRow.holds Try.pinned (OpenSpec.ofChange arenaHandlesSpec)

/-- ITS FALSE NEIGHBOUR: 'it returns false'. Refute it at one input. -/
def arenaHandlesWrong : ChangeSpec := { name := "arenaHandles", fn := fun _ => fun
  | [d1, d2] => { results := [.lit (.bool false)], args := [d1, d2] }
  | _ => none }
def ArenaHandlesWrongFalsely : Prop := arenaHandlesRow.holds Try.pinned (OpenSpec.ofChange arenaHandlesWrong)

/-- 'freshetlaw6.ArenaReuse': WHATEVER THE INPUT: true; the input reads as it did. -/
def arenaReuseSpec : ChangeSpec := { name := "arenaReuse", fn := fun _ => fun
  | [d1, d2] => { results := [.lit (.bool true)], args := [d1, d2] }
  | _ => none }
def arenaReuseRow : OpenClaim := { program := "ytkdbajfaaifkaaa", sum := "a3a41c0a9068428122a80193ee23189266fdcdeea93867bf2e2bc4a79cd1d393", func := "freshet/freshetlaw6.ArenaReuse", spec := "arenaReuse", unfollowed := true, recurses := true, apart := false }
def ArenaReuseSaid : Prop := arenaReuseRow.holds Try.pinned (OpenSpec.ofChange arenaReuseSpec)

/-- ITS FALSE NEIGHBOUR: 'it returns false'. Refute it at one input. -/
def arenaReuseWrong : ChangeSpec := { name := "arenaReuse", fn := fun _ => fun
  | [d1, d2] => { results := [.lit (.bool false)], args := [d1, d2] }
  | _ => none }
def ArenaReuseWrongFalsely : Prop := arenaReuseRow.holds Try.pinned (OpenSpec.ofChange arenaReuseWrong)

/-- 'freshetlaw7.InternActs': WHATEVER THE INPUT: true; the input reads as it did. -/
def internActsSpec : ChangeSpec := { name := "internActs", fn := fun _ => fun
  | [d1, d2, d3] => { results := [.lit (.bool true)], args := [d1, d2, d3] }
  | _ => none }
def internActsRow : OpenClaim := { program := "ytkdbajfaaifkaaa", sum := "a3a41c0a9068428122a80193ee23189266fdcdeea93867bf2e2bc4a79cd1d393", func := "freshet/freshetlaw7.InternActs", spec := "internActs", unfollowed := true, recurses := true, apart := false }
def InternActsSaid : Prop := internActsRow.holds Try.pinned (OpenSpec.ofChange internActsSpec)

/-- ITS FALSE NEIGHBOUR: 'it returns false'. Refute it at one input. -/
def internActsWrong : ChangeSpec := { name := "internActs", fn := fun _ => fun
  | [d1, d2, d3] => { results := [.lit (.bool false)], args := [d1, d2, d3] }
  | _ => none }
def InternActsWrongFalsely : Prop := internActsRow.holds Try.pinned (OpenSpec.ofChange internActsWrong)

/-- 'freshetlaw7.InternOnce': WHATEVER THE INPUT: true; the input reads as it did. -/
def internOnceSpec : ChangeSpec := { name := "internOnce", fn := fun _ => fun
  | [d1, d2] => { results := [.lit (.bool true)], args := [d1, d2] }
  | _ => none }
def internOnceRow : OpenClaim := { program := "ytkdbajfaaifkaaa", sum := "a3a41c0a9068428122a80193ee23189266fdcdeea93867bf2e2bc4a79cd1d393", func := "freshet/freshetlaw7.InternOnce", spec := "internOnce", unfollowed := true, recurses := true, apart := false }
def InternOnceSaid : Prop := internOnceRow.holds Try.pinned (OpenSpec.ofChange internOnceSpec)

/-- ITS FALSE NEIGHBOUR: 'it returns false'. Refute it at one input. -/
def internOnceWrong : ChangeSpec := { name := "internOnce", fn := fun _ => fun
  | [d1, d2] => { results := [.lit (.bool false)], args := [d1, d2] }
  | _ => none }
def InternOnceWrongFalsely : Prop := internOnceRow.holds Try.pinned (OpenSpec.ofChange internOnceWrong)

/-- 'freshetlaw7.InternFull': WHATEVER THE INPUT: true; the input reads as it did. -/
def internFullSpec : ChangeSpec := { name := "internFull", fn := fun _ => fun
  | [d] => { results := [.lit (.bool true)], args := [d] }
  | _ => none }
def internFullRow : OpenClaim := { program := "ytkdbajfaaifkaaa", sum := "a3a41c0a9068428122a80193ee23189266fdcdeea93867bf2e2bc4a79cd1d393", func := "freshet/freshetlaw7.InternFull", spec := "internFull", unfollowed := true, recurses := true, apart := false }
def InternFullSaid : Prop := internFullRow.holds Try.pinned (OpenSpec.ofChange internFullSpec)

/-- ITS FALSE NEIGHBOUR: 'it returns false'. Refute it at one input. -/
def internFullWrong : ChangeSpec := { name := "internFull", fn := fun _ => fun
  | [d] => { results := [.lit (.bool false)], args := [d] }
  | _ => none }
def InternFullWrongFalsely : Prop := internFullRow.holds Try.pinned (OpenSpec.ofChange internFullWrong)

/-- 'freshetlaw7.InternCosts': WHATEVER THE INPUT: true; the input reads as it did. -/
def internCostsSpec : ChangeSpec := { name := "internCosts", fn := fun _ => fun
  | [d] => { results := [.lit (.bool true)], args := [d] }
  | _ => none }
def internCostsRow : OpenClaim := { program := "ytkdbajfaaifkaaa", sum := "a3a41c0a9068428122a80193ee23189266fdcdeea93867bf2e2bc4a79cd1d393", func := "freshet/freshetlaw7.InternCosts", spec := "internCosts", unfollowed := true, recurses := true, apart := false }
def InternCostsSaid : Prop := internCostsRow.holds Try.pinned (OpenSpec.ofChange internCostsSpec)

/-- ITS FALSE NEIGHBOUR: 'it returns false'. Refute it at one input. -/
def internCostsWrong : ChangeSpec := { name := "internCosts", fn := fun _ => fun
  | [d] => { results := [.lit (.bool false)], args := [d] }
  | _ => none }
def InternCostsWrongFalsely : Prop := internCostsRow.holds Try.pinned (OpenSpec.ofChange internCostsWrong)

/- THE SECOND FORM. 'bulk': how many values and letters a reading holds, each counted each time it is reached (what is shared counts as often as it is met; a slice's spare places count too). A statement '..UptoSaid' is the law's where the arguments, and the package variables that the reading takes, are together of bulk at most 1048576: NARROWER than '..Said'. Prove '..Said' where nothing that the law and all that it calls make is longer than what came in: it says more and counts as full. Else prove '..UptoSaid'. A law counts once. -/
mutual
def uptoBulk {H : Type} : DataW H → Nat
  | .lit (.string bytes) => bytes.length + 1
  | .lit _ => 1
  | .nil => 1
  | .ptr d => uptoBulk d + 1
  | .slice elems spare => uptoBulkAll elems + uptoBulkAll spare + 1
  | .agg parts => uptoBulkAll parts + 1
  | .iface _ d => uptoBulk d + 1
  | .map entries => uptoBulkEntries entries + 1
  | .held _ => 1
def uptoBulkAll {H : Type} : List (DataW H) → Nat
  | [] => 0
  | d :: r => uptoBulk d + uptoBulkAll r
def uptoBulkEntries {H : Type} : List (Lit × DataW H) → Nat
  | [] => 0
  | x :: r => uptoBulkEntry x + uptoBulkEntries r
def uptoBulkEntry {H : Type} : Lit × DataW H → Nat
  | (.string bytes, d) => bytes.length + uptoBulk d + 1
  | (_, d) => uptoBulk d + 1
 end
def uptoSmall : (H : Type) → List (DataW H) → Bool := fun _ ds => decide (uptoBulkAll ds ≤ 1048576)
def OpenSpec.upto (s : _root_.Go.ChangeSpec) : _root_.Go.OpenSpec := { _root_.Go.OpenSpec.ofChange s with cond := some uptoSmall }

/-- 'freshetlaw6.ArenaCosts', WHERE WHAT IT READS IS OF BULK AT MOST 1048576: true; the input reads as it did. -/
def arenaCostsUptoRow : OpenClaim := { program := "ytkdbajfaaifkaaa", sum := "a3a41c0a9068428122a80193ee23189266fdcdeea93867bf2e2bc4a79cd1d393", func := "freshet/freshetlaw6.ArenaCosts", spec := "arenaCosts", unfollowed := true, recurses := true, apart := false, narrowed := true }
def ArenaCostsUptoSaid : Prop := arenaCostsUptoRow.holds Try.pinned (OpenSpec.upto arenaCostsSpec)

/-- 'freshetlaw6.ArenaEdges', WHERE WHAT IT READS IS OF BULK AT MOST 1048576: true; the input reads as it did. -/
def arenaEdgesUptoRow : OpenClaim := { program := "ytkdbajfaaifkaaa", sum := "a3a41c0a9068428122a80193ee23189266fdcdeea93867bf2e2bc4a79cd1d393", func := "freshet/freshetlaw6.ArenaEdges", spec := "arenaEdges", unfollowed := true, recurses := true, apart := false, narrowed := true }
def ArenaEdgesUptoSaid : Prop := arenaEdgesUptoRow.holds Try.pinned (OpenSpec.upto arenaEdgesSpec)

/-- 'freshetlaw6.ArenaActs', WHERE WHAT IT READS IS OF BULK AT MOST 1048576: true; the input reads as it did. -/
def arenaActsUptoRow : OpenClaim := { program := "ytkdbajfaaifkaaa", sum := "a3a41c0a9068428122a80193ee23189266fdcdeea93867bf2e2bc4a79cd1d393", func := "freshet/freshetlaw6.ArenaActs", spec := "arenaActs", unfollowed := true, recurses := true, apart := false, narrowed := true }
def ArenaActsUptoSaid : Prop := arenaActsUptoRow.holds Try.pinned (OpenSpec.upto arenaActsSpec)

/-- 'freshetlaw6.ArenaMoves', WHERE WHAT IT READS IS OF BULK AT MOST 1048576: true; the input reads as it did. -/
def arenaMovesUptoRow : OpenClaim := { program := "ytkdbajfaaifkaaa", sum := "a3a41c0a9068428122a80193ee23189266fdcdeea93867bf2e2bc4a79cd1d393", func := "freshet/freshetlaw6.ArenaMoves", spec := "arenaMoves", unfollowed := true, recurses := true, apart := false, narrowed := true }
def ArenaMovesUptoSaid : Prop := arenaMovesUptoRow.holds Try.pinned (OpenSpec.upto arenaMovesSpec)

/-- 'freshetlaw6.ArenaHandles', WHERE WHAT IT READS IS OF BULK AT MOST 1048576: true; the input reads as it did. -/
def arenaHandlesUptoRow : OpenClaim := { program := "ytkdbajfaaifkaaa", sum := "a3a41c0a9068428122a80193ee23189266fdcdeea93867bf2e2bc4a79cd1d393", func := "freshet/freshetlaw6.ArenaHandles", spec := "arenaHandles", unfollowed := true, recurses := true, apart := false, narrowed := true }
def ArenaHandlesUptoSaid : Prop := arenaHandlesUptoRow.holds Try.pinned (OpenSpec.upto arenaHandlesSpec)

/-- 'freshetlaw6.ArenaReuse', WHERE WHAT IT READS IS OF BULK AT MOST 1048576: true; the input reads as it did. -/
def arenaReuseUptoRow : OpenClaim := { program := "ytkdbajfaaifkaaa", sum := "a3a41c0a9068428122a80193ee23189266fdcdeea93867bf2e2bc4a79cd1d393", func := "freshet/freshetlaw6.ArenaReuse", spec := "arenaReuse", unfollowed := true, recurses := true, apart := false, narrowed := true }
def ArenaReuseUptoSaid : Prop := arenaReuseUptoRow.holds Try.pinned (OpenSpec.upto arenaReuseSpec)

/-- 'freshetlaw7.InternActs', WHERE WHAT IT READS IS OF BULK AT MOST 1048576: true; the input reads as it did. -/
def internActsUptoRow : OpenClaim := { program := "ytkdbajfaaifkaaa", sum := "a3a41c0a9068428122a80193ee23189266fdcdeea93867bf2e2bc4a79cd1d393", func := "freshet/freshetlaw7.InternActs", spec := "internActs", unfollowed := true, recurses := true, apart := false, narrowed := true }
def InternActsUptoSaid : Prop := internActsUptoRow.holds Try.pinned (OpenSpec.upto internActsSpec)

/-- 'freshetlaw7.InternOnce', WHERE WHAT IT READS IS OF BULK AT MOST 1048576: true; the input reads as it did. -/
def internOnceUptoRow : OpenClaim := { program := "ytkdbajfaaifkaaa", sum := "a3a41c0a9068428122a80193ee23189266fdcdeea93867bf2e2bc4a79cd1d393", func := "freshet/freshetlaw7.InternOnce", spec := "internOnce", unfollowed := true, recurses := true, apart := false, narrowed := true }
def InternOnceUptoSaid : Prop := internOnceUptoRow.holds Try.pinned (OpenSpec.upto internOnceSpec)

/-- 'freshetlaw7.InternFull', WHERE WHAT IT READS IS OF BULK AT MOST 1048576: true; the input reads as it did. -/
def internFullUptoRow : OpenClaim := { program := "ytkdbajfaaifkaaa", sum := "a3a41c0a9068428122a80193ee23189266fdcdeea93867bf2e2bc4a79cd1d393", func := "freshet/freshetlaw7.InternFull", spec := "internFull", unfollowed := true, recurses := true, apart := false, narrowed := true }
def InternFullUptoSaid : Prop := internFullUptoRow.holds Try.pinned (OpenSpec.upto internFullSpec)

/-- 'freshetlaw7.InternCosts', WHERE WHAT IT READS IS OF BULK AT MOST 1048576: true; the input reads as it did. -/
def internCostsUptoRow : OpenClaim := { program := "ytkdbajfaaifkaaa", sum := "a3a41c0a9068428122a80193ee23189266fdcdeea93867bf2e2bc4a79cd1d393", func := "freshet/freshetlaw7.InternCosts", spec := "internCosts", unfollowed := true, recurses := true, apart := false, narrowed := true }
def InternCostsUptoSaid : Prop := internCostsUptoRow.holds Try.pinned (OpenSpec.upto internCostsSpec)

end Rows
end Go.Proofs.Ytkdbajfaaifkaaa
