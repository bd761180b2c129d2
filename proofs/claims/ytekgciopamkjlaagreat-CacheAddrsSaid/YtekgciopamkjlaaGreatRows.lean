/-
  No cell of these rows narrows 'for every input' (looked for: loops, veiled, ifaces, maps, wideKeys, modest, calm, conditions, laid).
  DERIVED. THE GIVEN ROWS OF THIS SEAT. 9 by the template 'for every input the law returns true; each argument reads behind the call as it read before'; 0 by the template 'total and deterministic' (their statements: YtekgciopamkjlaaGreatTotals.lean).
  GIVEN WITH THE SEED: the statements are not yours to turn. If you find one false, say at which input.
  Laid BY PROGRAM, IN A SANDBOX (cutbox-rows.mjs): the forced cells as the released guide's own fill.sh prints them over the translation 3332b6829e355123… (all of the seat's roots in one cut). By AI agents, Wed Nov 11 2026. No macro, syntax, notation, axiom, sorry.
-/
import Derived.Test.YtekgciopamkjlaaGreatChecked
import GoSem.Claim
import GoSem.ClaimJoined
import GoSem.ClaimMapViews
import Derived.JoinedTies
import Derived.KernelRfl
namespace Go.Proofs.YtekgciopamkjlaaGreat
/- THE CELL 'sum', in the pinned program and in every row, IS THE sha256 OF THE DUMP (.gsa) THAT YtekgciopamkjlaaGreatProg.lean LOADS. Nothing in Lean hashes anything: it is a label: what it is worth is what the hold of that sum in a sandbox is worth. -/
noncomputable def Tryz.pinned : Pinned := { name := "ytekgciopamkjlaagreat", sum := "3332b6829e3551236da67f4cfc6694e5df650555897a936c1a06dacbf28b7260", checked := Tryz.checked }
namespace Rows
def none {H : Type} : Left H := { results := [], args := [] }

/-- 'freshetlaw8.PackActs': WHATEVER THE INPUT: true; the input reads as it did. -/
def packActsSpec : ChangeSpec := { name := "packActs", fn := fun _ => fun
  | [d1, d2, d3] => { results := [.lit (.bool true)], args := [d1, d2, d3] }
  | _ => none }
def packActsRow : OpenClaim := { program := "ytekgciopamkjlaagreat", sum := "3332b6829e3551236da67f4cfc6694e5df650555897a936c1a06dacbf28b7260", func := "freshet/freshetlaw8.PackActs", spec := "packActs", unfollowed := true, recurses := true, plainKeys := false, apart := false }
def PackActsSaid : Prop := packActsRow.holds Tryz.pinned (OpenSpec.ofChange packActsSpec)

/-- ITS FALSE NEIGHBOUR: 'it returns false'. Refute it at one input. -/
def packActsWrong : ChangeSpec := { name := "packActs", fn := fun _ => fun
  | [d1, d2, d3] => { results := [.lit (.bool false)], args := [d1, d2, d3] }
  | _ => none }
def PackActsWrongFalsely : Prop := packActsRow.holds Tryz.pinned (OpenSpec.ofChange packActsWrong)

/-- 'freshetlaw13.CacheGoes': WHATEVER THE INPUT: true; the input reads as it did. -/
def cacheGoesSpec : ChangeSpec := { name := "cacheGoes", fn := fun _ => fun
  | [d1, d2, d3, d4, d5] => { results := [.lit (.bool true)], args := [d1, d2, d3, d4, d5] }
  | _ => none }
def cacheGoesRow : OpenClaim := { program := "ytekgciopamkjlaagreat", sum := "3332b6829e3551236da67f4cfc6694e5df650555897a936c1a06dacbf28b7260", func := "freshet/freshetlaw13.CacheGoes", spec := "cacheGoes", unfollowed := true, recurses := true, plainKeys := false, apart := false }
def CacheGoesSaid : Prop := cacheGoesRow.holds Tryz.pinned (OpenSpec.ofChange cacheGoesSpec)

/-- ITS FALSE NEIGHBOUR: 'it returns false'. Refute it at one input. -/
def cacheGoesWrong : ChangeSpec := { name := "cacheGoes", fn := fun _ => fun
  | [d1, d2, d3, d4, d5] => { results := [.lit (.bool false)], args := [d1, d2, d3, d4, d5] }
  | _ => none }
def CacheGoesWrongFalsely : Prop := cacheGoesRow.holds Tryz.pinned (OpenSpec.ofChange cacheGoesWrong)

/-- 'freshetlaw13.CacheRanks': WHATEVER THE INPUT: true; the input reads as it did. -/
def cacheRanksSpec : ChangeSpec := { name := "cacheRanks", fn := fun _ => fun
  | [d1, d2, d3, d4] => { results := [.lit (.bool true)], args := [d1, d2, d3, d4] }
  | _ => none }
def cacheRanksRow : OpenClaim := { program := "ytekgciopamkjlaagreat", sum := "3332b6829e3551236da67f4cfc6694e5df650555897a936c1a06dacbf28b7260", func := "freshet/freshetlaw13.CacheRanks", spec := "cacheRanks", unfollowed := true, recurses := true, plainKeys := false, apart := false }
def CacheRanksSaid : Prop := cacheRanksRow.holds Tryz.pinned (OpenSpec.ofChange cacheRanksSpec)

/-- ITS FALSE NEIGHBOUR: 'it returns false'. Refute it at one input. -/
def cacheRanksWrong : ChangeSpec := { name := "cacheRanks", fn := fun _ => fun
  | [d1, d2, d3, d4] => { results := [.lit (.bool false)], args := [d1, d2, d3, d4] }
  | _ => none }
def CacheRanksWrongFalsely : Prop := cacheRanksRow.holds Tryz.pinned (OpenSpec.ofChange cacheRanksWrong)

/-- 'freshetlaw13.CacheKinds': WHATEVER THE INPUT: true; the input reads as it did. -/
def cacheKindsSpec : ChangeSpec := { name := "cacheKinds", fn := fun _ => fun
  | [d1, d2, d3, d4] => { results := [.lit (.bool true)], args := [d1, d2, d3, d4] }
  | _ => none }
def cacheKindsRow : OpenClaim := { program := "ytekgciopamkjlaagreat", sum := "3332b6829e3551236da67f4cfc6694e5df650555897a936c1a06dacbf28b7260", func := "freshet/freshetlaw13.CacheKinds", spec := "cacheKinds", unfollowed := true, recurses := true, plainKeys := false, apart := false }
def CacheKindsSaid : Prop := cacheKindsRow.holds Tryz.pinned (OpenSpec.ofChange cacheKindsSpec)

/-- ITS FALSE NEIGHBOUR: 'it returns false'. Refute it at one input. -/
def cacheKindsWrong : ChangeSpec := { name := "cacheKinds", fn := fun _ => fun
  | [d1, d2, d3, d4] => { results := [.lit (.bool false)], args := [d1, d2, d3, d4] }
  | _ => none }
def CacheKindsWrongFalsely : Prop := cacheKindsRow.holds Tryz.pinned (OpenSpec.ofChange cacheKindsWrong)

/-- 'freshetlaw13.CacheAddrs': WHATEVER THE INPUT: true; the input reads as it did. -/
def cacheAddrsSpec : ChangeSpec := { name := "cacheAddrs", fn := fun _ => fun
  | [d] => { results := [.lit (.bool true)], args := [d] }
  | _ => none }
def cacheAddrsRow : OpenClaim := { program := "ytekgciopamkjlaagreat", sum := "3332b6829e3551236da67f4cfc6694e5df650555897a936c1a06dacbf28b7260", func := "freshet/freshetlaw13.CacheAddrs", spec := "cacheAddrs", unfollowed := true, recurses := true, plainKeys := false, apart := false }
def CacheAddrsSaid : Prop := cacheAddrsRow.holds Tryz.pinned (OpenSpec.ofChange cacheAddrsSpec)

/-- ITS FALSE NEIGHBOUR: 'it returns false'. Refute it at one input. -/
def cacheAddrsWrong : ChangeSpec := { name := "cacheAddrs", fn := fun _ => fun
  | [d] => { results := [.lit (.bool false)], args := [d] }
  | _ => none }
def CacheAddrsWrongFalsely : Prop := cacheAddrsRow.holds Tryz.pinned (OpenSpec.ofChange cacheAddrsWrong)

/-- 'freshetlaw13.CacheSweeps': WHATEVER THE INPUT: true; the input reads as it did. -/
def cacheSweepsSpec : ChangeSpec := { name := "cacheSweeps", fn := fun _ => fun
  | [d1, d2] => { results := [.lit (.bool true)], args := [d1, d2] }
  | _ => none }
def cacheSweepsRow : OpenClaim := { program := "ytekgciopamkjlaagreat", sum := "3332b6829e3551236da67f4cfc6694e5df650555897a936c1a06dacbf28b7260", func := "freshet/freshetlaw13.CacheSweeps", spec := "cacheSweeps", unfollowed := true, recurses := true, plainKeys := false, apart := false }
def CacheSweepsSaid : Prop := cacheSweepsRow.holds Tryz.pinned (OpenSpec.ofChange cacheSweepsSpec)

/-- ITS FALSE NEIGHBOUR: 'it returns false'. Refute it at one input. -/
def cacheSweepsWrong : ChangeSpec := { name := "cacheSweeps", fn := fun _ => fun
  | [d1, d2] => { results := [.lit (.bool false)], args := [d1, d2] }
  | _ => none }
def CacheSweepsWrongFalsely : Prop := cacheSweepsRow.holds Tryz.pinned (OpenSpec.ofChange cacheSweepsWrong)

/-- 'freshetlaw13.CachePinned': WHATEVER THE INPUT: true; the input reads as it did. -/
def cachePinnedSpec : ChangeSpec := { name := "cachePinned", fn := fun _ => fun
  | [d1, d2, d3] => { results := [.lit (.bool true)], args := [d1, d2, d3] }
  | _ => none }
def cachePinnedRow : OpenClaim := { program := "ytekgciopamkjlaagreat", sum := "3332b6829e3551236da67f4cfc6694e5df650555897a936c1a06dacbf28b7260", func := "freshet/freshetlaw13.CachePinned", spec := "cachePinned", unfollowed := true, recurses := true, plainKeys := false, apart := false }
def CachePinnedSaid : Prop := cachePinnedRow.holds Tryz.pinned (OpenSpec.ofChange cachePinnedSpec)

/-- ITS FALSE NEIGHBOUR: 'it returns false'. Refute it at one input. -/
def cachePinnedWrong : ChangeSpec := { name := "cachePinned", fn := fun _ => fun
  | [d1, d2, d3] => { results := [.lit (.bool false)], args := [d1, d2, d3] }
  | _ => none }
def CachePinnedWrongFalsely : Prop := cachePinnedRow.holds Tryz.pinned (OpenSpec.ofChange cachePinnedWrong)

/-- 'freshetlaw13.CacheClosest': WHATEVER THE INPUT: true; the input reads as it did. -/
def cacheClosestSpec : ChangeSpec := { name := "cacheClosest", fn := fun _ => fun
  | [d1, d2, d3] => { results := [.lit (.bool true)], args := [d1, d2, d3] }
  | _ => none }
def cacheClosestRow : OpenClaim := { program := "ytekgciopamkjlaagreat", sum := "3332b6829e3551236da67f4cfc6694e5df650555897a936c1a06dacbf28b7260", func := "freshet/freshetlaw13.CacheClosest", spec := "cacheClosest", unfollowed := true, recurses := true, plainKeys := false, apart := false }
def CacheClosestSaid : Prop := cacheClosestRow.holds Tryz.pinned (OpenSpec.ofChange cacheClosestSpec)

/-- ITS FALSE NEIGHBOUR: 'it returns false'. Refute it at one input. -/
def cacheClosestWrong : ChangeSpec := { name := "cacheClosest", fn := fun _ => fun
  | [d1, d2, d3] => { results := [.lit (.bool false)], args := [d1, d2, d3] }
  | _ => none }
def CacheClosestWrongFalsely : Prop := cacheClosestRow.holds Tryz.pinned (OpenSpec.ofChange cacheClosestWrong)

/-- 'freshetlaw13.CacheUses': WHATEVER THE INPUT: true; the input reads as it did. -/
def cacheUsesSpec : ChangeSpec := { name := "cacheUses", fn := fun _ => fun
  | [d1, d2] => { results := [.lit (.bool true)], args := [d1, d2] }
  | _ => none }
def cacheUsesRow : OpenClaim := { program := "ytekgciopamkjlaagreat", sum := "3332b6829e3551236da67f4cfc6694e5df650555897a936c1a06dacbf28b7260", func := "freshet/freshetlaw13.CacheUses", spec := "cacheUses", unfollowed := true, recurses := true, plainKeys := false, apart := false }
def CacheUsesSaid : Prop := cacheUsesRow.holds Tryz.pinned (OpenSpec.ofChange cacheUsesSpec)

/-- ITS FALSE NEIGHBOUR: 'it returns false'. Refute it at one input. -/
def cacheUsesWrong : ChangeSpec := { name := "cacheUses", fn := fun _ => fun
  | [d1, d2] => { results := [.lit (.bool false)], args := [d1, d2] }
  | _ => none }
def CacheUsesWrongFalsely : Prop := cacheUsesRow.holds Tryz.pinned (OpenSpec.ofChange cacheUsesWrong)

/- THE SECOND FORM. 'bulk': how many values and letters a reading holds, each counted each time it is reached (what is shared counts as often as it is met; a slice's spare places count too). A statement '..UptoSaid' is the law's where the arguments, and the package variables that the reading takes, are together of bulk at most 1048576: NARROWER than '..Said'. Prove '..Said' where nothing that the law and all that it calls make is longer than what came in: it says more and counts as full. Else prove '..UptoSaid'. A law counts once. -/
mutual
def uptoBulk {H : Type} : DataW H → Nat
  | .lit (.string bytes) => bytes.length + 1
  | .lit _ => 1
  | .nil => 1
  | .ptr d => uptoBulk d + 1
  | .slice elems spare => uptoBulkAll elems + uptoBulkAll spare + 1
  | .agg parts => uptoBulkAll parts + 1
  | .iface _ d => uptoBulk d + 1
  | .map entries => uptoBulkEntries entries + 1
  | .held _ => 1
def uptoBulkAll {H : Type} : List (DataW H) → Nat
  | [] => 0
  | d :: r => uptoBulk d + uptoBulkAll r
def uptoBulkEntries {H : Type} : List (Lit × DataW H) → Nat
  | [] => 0
  | x :: r => uptoBulkEntry x + uptoBulkEntries r
def uptoBulkEntry {H : Type} : Lit × DataW H → Nat
  | (.string bytes, d) => bytes.length + uptoBulk d + 1
  | (_, d) => uptoBulk d + 1
 end
def uptoSmall : (H : Type) → List (DataW H) → Bool := fun _ ds => decide (uptoBulkAll ds ≤ 1048576)
def OpenSpec.upto (s : _root_.Go.ChangeSpec) : _root_.Go.OpenSpec := { _root_.Go.OpenSpec.ofChange s with cond := some uptoSmall }

/-- 'freshetlaw8.PackActs', WHERE WHAT IT READS IS OF BULK AT MOST 1048576: true; the input reads as it did. -/
def packActsUptoRow : OpenClaim := { program := "ytekgciopamkjlaagreat", sum := "3332b6829e3551236da67f4cfc6694e5df650555897a936c1a06dacbf28b7260", func := "freshet/freshetlaw8.PackActs", spec := "packActs", unfollowed := true, recurses := true, plainKeys := false, apart := false, narrowed := true }
def PackActsUptoSaid : Prop := packActsUptoRow.holds Tryz.pinned (OpenSpec.upto packActsSpec)

/-- 'freshetlaw13.CacheGoes', WHERE WHAT IT READS IS OF BULK AT MOST 1048576: true; the input reads as it did. -/
def cacheGoesUptoRow : OpenClaim := { program := "ytekgciopamkjlaagreat", sum := "3332b6829e3551236da67f4cfc6694e5df650555897a936c1a06dacbf28b7260", func := "freshet/freshetlaw13.CacheGoes", spec := "cacheGoes", unfollowed := true, recurses := true, plainKeys := false, apart := false, narrowed := true }
def CacheGoesUptoSaid : Prop := cacheGoesUptoRow.holds Tryz.pinned (OpenSpec.upto cacheGoesSpec)

/-- 'freshetlaw13.CacheRanks', WHERE WHAT IT READS IS OF BULK AT MOST 1048576: true; the input reads as it did. -/
def cacheRanksUptoRow : OpenClaim := { program := "ytekgciopamkjlaagreat", sum := "3332b6829e3551236da67f4cfc6694e5df650555897a936c1a06dacbf28b7260", func := "freshet/freshetlaw13.CacheRanks", spec := "cacheRanks", unfollowed := true, recurses := true, plainKeys := false, apart := false, narrowed := true }
def CacheRanksUptoSaid : Prop := cacheRanksUptoRow.holds Tryz.pinned (OpenSpec.upto cacheRanksSpec)

/-- 'freshetlaw13.CacheKinds', WHERE WHAT IT READS IS OF BULK AT MOST 1048576: true; the input reads as it did. -/
def cacheKindsUptoRow : OpenClaim := { program := "ytekgciopamkjlaagreat", sum := "3332b6829e3551236da67f4cfc6694e5df650555897a936c1a06dacbf28b7260", func := "freshet/freshetlaw13.CacheKinds", spec := "cacheKinds", unfollowed := true, recurses := true, plainKeys := false, apart := false, narrowed := true }
def CacheKindsUptoSaid : Prop := cacheKindsUptoRow.holds Tryz.pinned (OpenSpec.upto cacheKindsSpec)

/-- 'freshetlaw13.CacheAddrs', WHERE WHAT IT READS IS OF BULK AT MOST 1048576: true; the input reads as it did. -/
def cacheAddrsUptoRow : OpenClaim := { program := "ytekgciopamkjlaagreat", sum := "3332b6829e3551236da67f4cfc6694e5df650555897a936c1a06dacbf28b7260", func := "freshet/freshetlaw13.CacheAddrs", spec := "cacheAddrs", unfollowed := true, recurses := true, plainKeys := false, apart := false, narrowed := true }
def CacheAddrsUptoSaid : Prop := cacheAddrsUptoRow.holds Tryz.pinned (OpenSpec.upto cacheAddrsSpec)

/-- 'freshetlaw13.CacheSweeps', WHERE WHAT IT READS IS OF BULK AT MOST 1048576: true; the input reads as it did. -/
def cacheSweepsUptoRow : OpenClaim := { program := "ytekgciopamkjlaagreat", sum := "3332b6829e3551236da67f4cfc6694e5df650555897a936c1a06dacbf28b7260", func := "freshet/freshetlaw13.CacheSweeps", spec := "cacheSweeps", unfollowed := true, recurses := true, plainKeys := false, apart := false, narrowed := true }
def CacheSweepsUptoSaid : Prop := cacheSweepsUptoRow.holds Tryz.pinned (OpenSpec.upto cacheSweepsSpec)

/-- 'freshetlaw13.CachePinned', WHERE WHAT IT READS IS OF BULK AT MOST 1048576: true; the input reads as it did. -/
def cachePinnedUptoRow : OpenClaim := { program := "ytekgciopamkjlaagreat", sum := "3332b6829e3551236da67f4cfc6694e5df650555897a936c1a06dacbf28b7260", func := "freshet/freshetlaw13.CachePinned", spec := "cachePinned", unfollowed := true, recurses := true, plainKeys := false, apart := false, narrowed := true }
def CachePinnedUptoSaid : Prop := cachePinnedUptoRow.holds Tryz.pinned (OpenSpec.upto cachePinnedSpec)

/-- 'freshetlaw13.CacheClosest', WHERE WHAT IT READS IS OF BULK AT MOST 1048576: true; the input reads as it did. -/
def cacheClosestUptoRow : OpenClaim := { program := "ytekgciopamkjlaagreat", sum := "3332b6829e3551236da67f4cfc6694e5df650555897a936c1a06dacbf28b7260", func := "freshet/freshetlaw13.CacheClosest", spec := "cacheClosest", unfollowed := true, recurses := true, plainKeys := false, apart := false, narrowed := true }
def CacheClosestUptoSaid : Prop := cacheClosestUptoRow.holds Tryz.pinned (OpenSpec.upto cacheClosestSpec)

/-- 'freshetlaw13.CacheUses', WHERE WHAT IT READS IS OF BULK AT MOST 1048576: true; the input reads as it did. -/
def cacheUsesUptoRow : OpenClaim := { program := "ytekgciopamkjlaagreat", sum := "3332b6829e3551236da67f4cfc6694e5df650555897a936c1a06dacbf28b7260", func := "freshet/freshetlaw13.CacheUses", spec := "cacheUses", unfollowed := true, recurses := true, plainKeys := false, apart := false, narrowed := true }
def CacheUsesUptoSaid : Prop := cacheUsesUptoRow.holds Tryz.pinned (OpenSpec.upto cacheUsesSpec)

end Rows
end Go.Proofs.YtekgciopamkjlaaGreat
