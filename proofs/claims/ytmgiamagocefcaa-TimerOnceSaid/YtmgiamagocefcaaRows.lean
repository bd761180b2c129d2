/-
  No cell of these rows narrows 'for every input' (looked for: loops, veiled, ifaces, maps, wideKeys, modest, calm, conditions, laid).
  DERIVED. THE GIVEN ROWS OF THIS SEAT. 11 by the template 'for every input the law returns true; each argument reads behind the call as it read before'; 0 by the template 'total and deterministic' (their statements: YtmgiamagocefcaaTotals.lean).
  GIVEN WITH THE SEED: the statements are not yours to turn. If you find one false, say at which input.
  Laid BY PROGRAM, IN A SANDBOX (cutbox-rows.mjs): the forced cells as the released guide's own fill.sh prints them over the translation a2536db7e7d4ff00… (all of the seat's roots in one cut). By AI agents, Wed Nov 11 2026. No macro, syntax, notation, axiom, sorry.
-/
import Derived.Test.YtmgiamagocefcaaChecked
import GoSem.Claim
import GoSem.ClaimJoined
import GoSem.ClaimMapViews
import Derived.JoinedTies
import Derived.KernelRfl
namespace Go.Proofs.Ytmgiamagocefcaa
/- THE CELL 'sum', in the pinned program and in every row, IS THE sha256 OF THE DUMP (.gsa) THAT YtmgiamagocefcaaProg.lean LOADS. Nothing in Lean hashes anything: it is a label: what it is worth is what the hold of that sum in a sandbox is worth. -/
noncomputable def Try.pinned : Pinned := { name := "ytmgiamagocefcaa", sum := "a2536db7e7d4ff00da59f9f042c041350a720c394421d6d82abafc0cf8425a63", checked := Try.checked }
namespace Rows
def none {H : Type} : Left H := { results := [], args := [] }

/-- 'freshetlaw16.TimerActs': WHATEVER THE INPUT: true; the input reads as it did. -/
def timerActsSpec : ChangeSpec := { name := "timerActs", fn := fun _ => fun
  | [d1, d2] => { results := [.lit (.bool true)], args := [d1, d2] }
  | _ => none }
def timerActsRow : OpenClaim := { program := "ytmgiamagocefcaa", sum := "a2536db7e7d4ff00da59f9f042c041350a720c394421d6d82abafc0cf8425a63", func := "freshet/freshetlaw16.TimerActs", spec := "timerActs", unfollowed := true, recurses := true, apart := false }
def TimerActsSaid : Prop := timerActsRow.holds Try.pinned (OpenSpec.ofChange timerActsSpec)

/-- ITS FALSE NEIGHBOUR: 'it returns false'. Refute it at one input. -/
def timerActsWrong : ChangeSpec := { name := "timerActs", fn := fun _ => fun
  | [d1, d2] => { results := [.lit (.bool false)], args := [d1, d2] }
  | _ => none }
def TimerActsWrongFalsely : Prop := timerActsRow.holds Try.pinned (OpenSpec.ofChange timerActsWrong)

/-- 'freshetlaw16.TimerOnce': WHATEVER THE INPUT: true; the input reads as it did. -/
def timerOnceSpec : ChangeSpec := { name := "timerOnce", fn := fun _ => fun
  | [d1, d2] => { results := [.lit (.bool true)], args := [d1, d2] }
  | _ => none }
def timerOnceRow : OpenClaim := { program := "ytmgiamagocefcaa", sum := "a2536db7e7d4ff00da59f9f042c041350a720c394421d6d82abafc0cf8425a63", func := "freshet/freshetlaw16.TimerOnce", spec := "timerOnce", unfollowed := true, recurses := true, apart := false }
def TimerOnceSaid : Prop := timerOnceRow.holds Try.pinned (OpenSpec.ofChange timerOnceSpec)

/-- ITS FALSE NEIGHBOUR: 'it returns false'. Refute it at one input. -/
def timerOnceWrong : ChangeSpec := { name := "timerOnce", fn := fun _ => fun
  | [d1, d2] => { results := [.lit (.bool false)], args := [d1, d2] }
  | _ => none }
def TimerOnceWrongFalsely : Prop := timerOnceRow.holds Try.pinned (OpenSpec.ofChange timerOnceWrong)

/-- 'freshetlaw16.TimerRoom': WHATEVER THE INPUT: true; the input reads as it did. -/
def timerRoomSpec : ChangeSpec := { name := "timerRoom", fn := fun _ => fun
  | [d1, d2, d3] => { results := [.lit (.bool true)], args := [d1, d2, d3] }
  | _ => none }
def timerRoomRow : OpenClaim := { program := "ytmgiamagocefcaa", sum := "a2536db7e7d4ff00da59f9f042c041350a720c394421d6d82abafc0cf8425a63", func := "freshet/freshetlaw16.TimerRoom", spec := "timerRoom", unfollowed := true, recurses := true, apart := false }
def TimerRoomSaid : Prop := timerRoomRow.holds Try.pinned (OpenSpec.ofChange timerRoomSpec)

/-- ITS FALSE NEIGHBOUR: 'it returns false'. Refute it at one input. -/
def timerRoomWrong : ChangeSpec := { name := "timerRoom", fn := fun _ => fun
  | [d1, d2, d3] => { results := [.lit (.bool false)], args := [d1, d2, d3] }
  | _ => none }
def TimerRoomWrongFalsely : Prop := timerRoomRow.holds Try.pinned (OpenSpec.ofChange timerRoomWrong)

/-- 'freshetlaw16.TimerMoves': WHATEVER THE INPUT: true; the input reads as it did. -/
def timerMovesSpec : ChangeSpec := { name := "timerMoves", fn := fun _ => fun
  | [d1, d2, d3] => { results := [.lit (.bool true)], args := [d1, d2, d3] }
  | _ => none }
def timerMovesRow : OpenClaim := { program := "ytmgiamagocefcaa", sum := "a2536db7e7d4ff00da59f9f042c041350a720c394421d6d82abafc0cf8425a63", func := "freshet/freshetlaw16.TimerMoves", spec := "timerMoves", unfollowed := true, recurses := true, apart := false }
def TimerMovesSaid : Prop := timerMovesRow.holds Try.pinned (OpenSpec.ofChange timerMovesSpec)

/-- ITS FALSE NEIGHBOUR: 'it returns false'. Refute it at one input. -/
def timerMovesWrong : ChangeSpec := { name := "timerMoves", fn := fun _ => fun
  | [d1, d2, d3] => { results := [.lit (.bool false)], args := [d1, d2, d3] }
  | _ => none }
def TimerMovesWrongFalsely : Prop := timerMovesRow.holds Try.pinned (OpenSpec.ofChange timerMovesWrong)

/-- 'freshetlaw9.ListsLRU': WHATEVER THE INPUT: true; the input reads as it did. -/
def listsLRUSpec : ChangeSpec := { name := "listsLRU", fn := fun _ => fun
  | [d1, d2, d3] => { results := [.lit (.bool true)], args := [d1, d2, d3] }
  | _ => none }
def listsLRURow : OpenClaim := { program := "ytmgiamagocefcaa", sum := "a2536db7e7d4ff00da59f9f042c041350a720c394421d6d82abafc0cf8425a63", func := "freshet/freshetlaw9.ListsLRU", spec := "listsLRU", unfollowed := true, recurses := true, apart := false }
def ListsLRUSaid : Prop := listsLRURow.holds Try.pinned (OpenSpec.ofChange listsLRUSpec)

/-- ITS FALSE NEIGHBOUR: 'it returns false'. Refute it at one input. -/
def listsLRUWrong : ChangeSpec := { name := "listsLRU", fn := fun _ => fun
  | [d1, d2, d3] => { results := [.lit (.bool false)], args := [d1, d2, d3] }
  | _ => none }
def ListsLRUWrongFalsely : Prop := listsLRURow.holds Try.pinned (OpenSpec.ofChange listsLRUWrong)

/-- 'freshetlaw9.ListsDue': WHATEVER THE INPUT: true; the input reads as it did. -/
def listsDueSpec : ChangeSpec := { name := "listsDue", fn := fun _ => fun
  | [d1, d2, d3] => { results := [.lit (.bool true)], args := [d1, d2, d3] }
  | _ => none }
def listsDueRow : OpenClaim := { program := "ytmgiamagocefcaa", sum := "a2536db7e7d4ff00da59f9f042c041350a720c394421d6d82abafc0cf8425a63", func := "freshet/freshetlaw9.ListsDue", spec := "listsDue", unfollowed := true, recurses := true, apart := false }
def ListsDueSaid : Prop := listsDueRow.holds Try.pinned (OpenSpec.ofChange listsDueSpec)

/-- ITS FALSE NEIGHBOUR: 'it returns false'. Refute it at one input. -/
def listsDueWrong : ChangeSpec := { name := "listsDue", fn := fun _ => fun
  | [d1, d2, d3] => { results := [.lit (.bool false)], args := [d1, d2, d3] }
  | _ => none }
def ListsDueWrongFalsely : Prop := listsDueRow.holds Try.pinned (OpenSpec.ofChange listsDueWrong)

/-- 'freshetlaw9.ListsWalk': WHATEVER THE INPUT: true; the input reads as it did. -/
def listsWalkSpec : ChangeSpec := { name := "listsWalk", fn := fun _ => fun
  | [d1, d2, d3] => { results := [.lit (.bool true)], args := [d1, d2, d3] }
  | _ => none }
def listsWalkRow : OpenClaim := { program := "ytmgiamagocefcaa", sum := "a2536db7e7d4ff00da59f9f042c041350a720c394421d6d82abafc0cf8425a63", func := "freshet/freshetlaw9.ListsWalk", spec := "listsWalk", unfollowed := true, recurses := true, apart := false }
def ListsWalkSaid : Prop := listsWalkRow.holds Try.pinned (OpenSpec.ofChange listsWalkSpec)

/-- ITS FALSE NEIGHBOUR: 'it returns false'. Refute it at one input. -/
def listsWalkWrong : ChangeSpec := { name := "listsWalk", fn := fun _ => fun
  | [d1, d2, d3] => { results := [.lit (.bool false)], args := [d1, d2, d3] }
  | _ => none }
def ListsWalkWrongFalsely : Prop := listsWalkRow.holds Try.pinned (OpenSpec.ofChange listsWalkWrong)

/-- 'freshetlaw9.ListsPlaces': WHATEVER THE INPUT: true; the input reads as it did. -/
def listsPlacesSpec : ChangeSpec := { name := "listsPlaces", fn := fun _ => fun
  | [d1, d2, d3] => { results := [.lit (.bool true)], args := [d1, d2, d3] }
  | _ => none }
def listsPlacesRow : OpenClaim := { program := "ytmgiamagocefcaa", sum := "a2536db7e7d4ff00da59f9f042c041350a720c394421d6d82abafc0cf8425a63", func := "freshet/freshetlaw9.ListsPlaces", spec := "listsPlaces", unfollowed := true, recurses := true, apart := false }
def ListsPlacesSaid : Prop := listsPlacesRow.holds Try.pinned (OpenSpec.ofChange listsPlacesSpec)

/-- ITS FALSE NEIGHBOUR: 'it returns false'. Refute it at one input. -/
def listsPlacesWrong : ChangeSpec := { name := "listsPlaces", fn := fun _ => fun
  | [d1, d2, d3] => { results := [.lit (.bool false)], args := [d1, d2, d3] }
  | _ => none }
def ListsPlacesWrongFalsely : Prop := listsPlacesRow.holds Try.pinned (OpenSpec.ofChange listsPlacesWrong)

/-- 'freshetlaw9.ListsTimes': WHATEVER THE INPUT: true; the input reads as it did. -/
def listsTimesSpec : ChangeSpec := { name := "listsTimes", fn := fun _ => fun
  | [d1, d2, d3] => { results := [.lit (.bool true)], args := [d1, d2, d3] }
  | _ => none }
def listsTimesRow : OpenClaim := { program := "ytmgiamagocefcaa", sum := "a2536db7e7d4ff00da59f9f042c041350a720c394421d6d82abafc0cf8425a63", func := "freshet/freshetlaw9.ListsTimes", spec := "listsTimes", unfollowed := true, recurses := true, apart := false }
def ListsTimesSaid : Prop := listsTimesRow.holds Try.pinned (OpenSpec.ofChange listsTimesSpec)

/-- ITS FALSE NEIGHBOUR: 'it returns false'. Refute it at one input. -/
def listsTimesWrong : ChangeSpec := { name := "listsTimes", fn := fun _ => fun
  | [d1, d2, d3] => { results := [.lit (.bool false)], args := [d1, d2, d3] }
  | _ => none }
def ListsTimesWrongFalsely : Prop := listsTimesRow.holds Try.pinned (OpenSpec.ofChange listsTimesWrong)

/-- 'freshetlaw9.ListsNew': WHATEVER THE INPUT: true; the input reads as it did. -/
def listsNewSpec : ChangeSpec := { name := "listsNew", fn := fun _ => fun
  | [d1, d2] => { results := [.lit (.bool true)], args := [d1, d2] }
  | _ => none }
def listsNewRow : OpenClaim := { program := "ytmgiamagocefcaa", sum := "a2536db7e7d4ff00da59f9f042c041350a720c394421d6d82abafc0cf8425a63", func := "freshet/freshetlaw9.ListsNew", spec := "listsNew", unfollowed := true, recurses := true, apart := false }
def ListsNewSaid : Prop := listsNewRow.holds Try.pinned (OpenSpec.ofChange listsNewSpec)

/-- ITS FALSE NEIGHBOUR: 'it returns false'. Refute it at one input. -/
def listsNewWrong : ChangeSpec := { name := "listsNew", fn := fun _ => fun
  | [d1, d2] => { results := [.lit (.bool false)], args := [d1, d2] }
  | _ => none }
def ListsNewWrongFalsely : Prop := listsNewRow.holds Try.pinned (OpenSpec.ofChange listsNewWrong)

/-- 'freshetlaw9.ListsCounts': WHATEVER THE INPUT: true; the input reads as it did. -/
def listsCountsSpec : ChangeSpec := { name := "listsCounts", fn := fun _ => fun
  | [d1, d2, d3] => { results := [.lit (.bool true)], args := [d1, d2, d3] }
  | _ => none }
def listsCountsRow : OpenClaim := { program := "ytmgiamagocefcaa", sum := "a2536db7e7d4ff00da59f9f042c041350a720c394421d6d82abafc0cf8425a63", func := "freshet/freshetlaw9.ListsCounts", spec := "listsCounts", unfollowed := true, recurses := true, apart := false }
def ListsCountsSaid : Prop := listsCountsRow.holds Try.pinned (OpenSpec.ofChange listsCountsSpec)

/-- ITS FALSE NEIGHBOUR: 'it returns false'. Refute it at one input. -/
def listsCountsWrong : ChangeSpec := { name := "listsCounts", fn := fun _ => fun
  | [d1, d2, d3] => { results := [.lit (.bool false)], args := [d1, d2, d3] }
  | _ => none }
def ListsCountsWrongFalsely : Prop := listsCountsRow.holds Try.pinned (OpenSpec.ofChange listsCountsWrong)

/- THE SECOND FORM. 'bulk': how many values and letters a reading holds, each counted each time it is reached (what is shared counts as often as it is met; a slice's spare places count too). A statement '..UptoSaid' is the law's where the arguments, and the package variables that the reading takes, are together of bulk at most 1048576: NARROWER than '..Said'. Prove '..Said' where nothing that the law and all that it calls make is longer than what came in: it says more and counts as full. Else prove '..UptoSaid'. A law counts once. -/
mutual
def uptoBulk {H : Type} : DataW H → Nat
  | .lit (.string bytes) => bytes.length + 1
  | .lit _ => 1
  | .nil => 1
  | .ptr d => uptoBulk d + 1
  | .slice elems spare => uptoBulkAll elems + uptoBulkAll spare + 1
  | .agg parts => uptoBulkAll parts + 1
  | .iface _ d => uptoBulk d + 1
  | .map entries => uptoBulkEntries entries + 1
  | .held _ => 1
def uptoBulkAll {H : Type} : List (DataW H) → Nat
  | [] => 0
  | d :: r => uptoBulk d + uptoBulkAll r
def uptoBulkEntries {H : Type} : List (Lit × DataW H) → Nat
  | [] => 0
  | x :: r => uptoBulkEntry x + uptoBulkEntries r
def uptoBulkEntry {H : Type} : Lit × DataW H → Nat
  | (.string bytes, d) => bytes.length + uptoBulk d + 1
  | (_, d) => uptoBulk d + 1
 end
def uptoSmall : (H : Type) → List (DataW H) → Bool := fun _ ds => decide (uptoBulkAll ds ≤ 1048576)
def OpenSpec.upto (s : _root_.Go.ChangeSpec) : _root_.Go.OpenSpec := { _root_.Go.OpenSpec.ofChange s with cond := some uptoSmall }

/-- 'freshetlaw16.TimerActs', WHERE WHAT IT READS IS OF BULK AT MOST 1048576: true; the input reads as it did. -/
def timerActsUptoRow : OpenClaim := { program := "ytmgiamagocefcaa", sum := "a2536db7e7d4ff00da59f9f042c041350a720c394421d6d82abafc0cf8425a63", func := "freshet/freshetlaw16.TimerActs", spec := "timerActs", unfollowed := true, recurses := true, apart := false, narrowed := true }
def TimerActsUptoSaid : Prop := timerActsUptoRow.holds Try.pinned (OpenSpec.upto timerActsSpec)

/-- 'freshetlaw16.TimerOnce', WHERE WHAT IT READS IS OF BULK AT MOST 1048576: true; the input reads as it did. -/
def timerOnceUptoRow : OpenClaim := { program := "ytmgiamagocefcaa", sum := "a2536db7e7d4ff00da59f9f042c041350a720c394421d6d82abafc0cf8425a63", func := "freshet/freshetlaw16.TimerOnce", spec := "timerOnce", unfollowed := true, recurses := true, apart := false, narrowed := true }
def TimerOnceUptoSaid : Prop := timerOnceUptoRow.holds Try.pinned (OpenSpec.upto timerOnceSpec)

/-- 'freshetlaw16.TimerRoom', WHERE WHAT IT READS IS OF BULK AT MOST 1048576: true; the input reads as it did. -/
def timerRoomUptoRow : OpenClaim := { program := "ytmgiamagocefcaa", sum := "a2536db7e7d4ff00da59f9f042c041350a720c394421d6d82abafc0cf8425a63", func := "freshet/freshetlaw16.TimerRoom", spec := "timerRoom", unfollowed := true, recurses := true, apart := false, narrowed := true }
def TimerRoomUptoSaid : Prop := timerRoomUptoRow.holds Try.pinned (OpenSpec.upto timerRoomSpec)

/-- 'freshetlaw16.TimerMoves', WHERE WHAT IT READS IS OF BULK AT MOST 1048576: true; the input reads as it did. -/
def timerMovesUptoRow : OpenClaim := { program := "ytmgiamagocefcaa", sum := "a2536db7e7d4ff00da59f9f042c041350a720c394421d6d82abafc0cf8425a63", func := "freshet/freshetlaw16.TimerMoves", spec := "timerMoves", unfollowed := true, recurses := true, apart := false, narrowed := true }
def TimerMovesUptoSaid : Prop := timerMovesUptoRow.holds Try.pinned (OpenSpec.upto timerMovesSpec)

/-- 'freshetlaw9.ListsLRU', WHERE WHAT IT READS IS OF BULK AT MOST 1048576: true; the input reads as it did. -/
def listsLRUUptoRow : OpenClaim := { program := "ytmgiamagocefcaa", sum := "a2536db7e7d4ff00da59f9f042c041350a720c394421d6d82abafc0cf8425a63", func := "freshet/freshetlaw9.ListsLRU", spec := "listsLRU", unfollowed := true, recurses := true, apart := false, narrowed := true }
def ListsLRUUptoSaid : Prop := listsLRUUptoRow.holds Try.pinned (OpenSpec.upto listsLRUSpec)

/-- 'freshetlaw9.ListsDue', WHERE WHAT IT READS IS OF BULK AT MOST 1048576: true; the input reads as it did. -/
def listsDueUptoRow : OpenClaim := { program := "ytmgiamagocefcaa", sum := "a2536db7e7d4ff00da59f9f042c041350a720c394421d6d82abafc0cf8425a63", func := "freshet/freshetlaw9.ListsDue", spec := "listsDue", unfollowed := true, recurses := true, apart := false, narrowed := true }
def ListsDueUptoSaid : Prop := listsDueUptoRow.holds Try.pinned (OpenSpec.upto listsDueSpec)

/-- 'freshetlaw9.ListsWalk', WHERE WHAT IT READS IS OF BULK AT MOST 1048576: true; the input reads as it did. -/
def listsWalkUptoRow : OpenClaim := { program := "ytmgiamagocefcaa", sum := "a2536db7e7d4ff00da59f9f042c041350a720c394421d6d82abafc0cf8425a63", func := "freshet/freshetlaw9.ListsWalk", spec := "listsWalk", unfollowed := true, recurses := true, apart := false, narrowed := true }
def ListsWalkUptoSaid : Prop := listsWalkUptoRow.holds Try.pinned (OpenSpec.upto listsWalkSpec)

/-- 'freshetlaw9.ListsPlaces', WHERE WHAT IT READS IS OF BULK AT MOST 1048576: true; the input reads as it did. -/
def listsPlacesUptoRow : OpenClaim := { program := "ytmgiamagocefcaa", sum := "a2536db7e7d4ff00da59f9f042c041350a720c394421d6d82abafc0cf8425a63", func := "freshet/freshetlaw9.ListsPlaces", spec := "listsPlaces", unfollowed := true, recurses := true, apart := false, narrowed := true }
def ListsPlacesUptoSaid : Prop := listsPlacesUptoRow.holds Try.pinned (OpenSpec.upto listsPlacesSpec)

/-- 'freshetlaw9.ListsTimes', WHERE WHAT IT READS IS OF BULK AT MOST 1048576: true; the input reads as it did. -/
def listsTimesUptoRow : OpenClaim := { program := "ytmgiamagocefcaa", sum := "a2536db7e7d4ff00da59f9f042c041350a720c394421d6d82abafc0cf8425a63", func := "freshet/freshetlaw9.ListsTimes", spec := "listsTimes", unfollowed := true, recurses := true, apart := false, narrowed := true }
def ListsTimesUptoSaid : Prop := listsTimesUptoRow.holds Try.pinned (OpenSpec.upto listsTimesSpec)

/-- 'freshetlaw9.ListsNew', WHERE WHAT IT READS IS OF BULK AT MOST 1048576: true; the input reads as it did. -/
def listsNewUptoRow : OpenClaim := { program := "ytmgiamagocefcaa", sum := "a2536db7e7d4ff00da59f9f042c041350a720c394421d6d82abafc0cf8425a63", func := "freshet/freshetlaw9.ListsNew", spec := "listsNew", unfollowed := true, recurses := true, apart := false, narrowed := true }
def ListsNewUptoSaid : Prop := listsNewUptoRow.holds Try.pinned (OpenSpec.upto listsNewSpec)

/-- 'freshetlaw9.ListsCounts', WHERE WHAT IT READS IS OF BULK AT MOST 1048576: true; the input reads as it did. -/
def listsCountsUptoRow : OpenClaim := { program := "ytmgiamagocefcaa", sum := "a2536db7e7d4ff00da59f9f042c041350a720c394421d6d82abafc0cf8425a63", func := "freshet/freshetlaw9.ListsCounts", spec := "listsCounts", unfollowed := true, recurses := true, apart := false, narrowed := true }
def ListsCountsUptoSaid : Prop := listsCountsUptoRow.holds Try.pinned (OpenSpec.upto listsCountsSpec)

end Rows
end Go.Proofs.Ytmgiamagocefcaa
