/-
  No cell of these rows narrows 'for every input' (looked for: loops, veiled, ifaces, maps, wideKeys, modest, calm, conditions, laid).
  DERIVED. THE GIVEN ROWS OF THIS SEAT. 7 by the template 'for every input the law returns true; each argument reads behind the call as it read before'; 0 by the template 'total and deterministic' (their statements: YtejmbmenbailmaaGreatTotals.lean).
  GIVEN WITH THE SEED: the statements are not yours to turn. If you find one false, say at which input.
  Laid BY PROGRAM, IN A SANDBOX (cutbox-rows.mjs): the forced cells as the released guide's own fill.sh prints them over the translation bc1e9bf7b8ec8e55… (all of the seat's roots in one cut). By AI agents, Wed Nov 11 2026. No macro, syntax, notation, axiom, sorry.
-/
import Derived.Test.YtejmbmenbailmaaGreatChecked
import GoSem.Claim
import GoSem.ClaimJoined
import GoSem.ClaimMapViews
import Derived.JoinedTies
import Derived.KernelRfl
namespace Go.Proofs.YtejmbmenbailmaaGreat
/- THE CELL 'sum', in the pinned program and in every row, IS THE sha256 OF THE DUMP (.gsa) THAT YtejmbmenbailmaaGreatProg.lean LOADS. Nothing in Lean hashes anything: it is a label: what it is worth is what the hold of that sum in a sandbox is worth. -/
noncomputable def Tryz.pinned : Pinned := { name := "ytejmbmenbailmaagreat", sum := "bc1e9bf7b8ec8e55167aa1cbd0a0568ab7f83ab285085a8155c7581b8ee11f9b", checked := Tryz.checked }
namespace Rows
def none {H : Type} : Left H := { results := [], args := [] }

/-- 'freshetlaw8.PackActs': WHATEVER THE INPUT: true; the input reads as it did. -/
def packActsSpec : ChangeSpec := { name := "packActs", fn := fun _ => fun
  | [d1, d2, d3] => { results := [.lit (.bool true)], args := [d1, d2, d3] }
  | _ => none }
def packActsRow : OpenClaim := { program := "ytejmbmenbailmaagreat", sum := "bc1e9bf7b8ec8e55167aa1cbd0a0568ab7f83ab285085a8155c7581b8ee11f9b", func := "freshet/freshetlaw8.PackActs", spec := "packActs", unfollowed := true, recurses := true, plainKeys := false, apart := false }
def PackActsSaid : Prop := packActsRow.holds Tryz.pinned (OpenSpec.ofChange packActsSpec)

/-- ITS FALSE NEIGHBOUR: 'it returns false'. Refute it at one input. -/
def packActsWrong : ChangeSpec := { name := "packActs", fn := fun _ => fun
  | [d1, d2, d3] => { results := [.lit (.bool false)], args := [d1, d2, d3] }
  | _ => none }
def PackActsWrongFalsely : Prop := packActsRow.holds Tryz.pinned (OpenSpec.ofChange packActsWrong)

/-- 'freshetlaw10.StoreFull': WHATEVER THE INPUT: true; the input reads as it did. -/
def storeFullSpec : ChangeSpec := { name := "storeFull", fn := fun _ => fun
  | [d] => { results := [.lit (.bool true)], args := [d] }
  | _ => none }
def storeFullRow : OpenClaim := { program := "ytejmbmenbailmaagreat", sum := "bc1e9bf7b8ec8e55167aa1cbd0a0568ab7f83ab285085a8155c7581b8ee11f9b", func := "freshet/freshetlaw10.StoreFull", spec := "storeFull", unfollowed := true, recurses := true, plainKeys := false, apart := false }
def StoreFullSaid : Prop := storeFullRow.holds Tryz.pinned (OpenSpec.ofChange storeFullSpec)

/-- ITS FALSE NEIGHBOUR: 'it returns false'. Refute it at one input. -/
def storeFullWrong : ChangeSpec := { name := "storeFull", fn := fun _ => fun
  | [d] => { results := [.lit (.bool false)], args := [d] }
  | _ => none }
def StoreFullWrongFalsely : Prop := storeFullRow.holds Tryz.pinned (OpenSpec.ofChange storeFullWrong)

/-- 'freshetlaw10.StoreHolds': WHATEVER THE INPUT: true; the input reads as it did. -/
def storeHoldsSpec : ChangeSpec := { name := "storeHolds", fn := fun _ => fun
  | [d1, d2, d3] => { results := [.lit (.bool true)], args := [d1, d2, d3] }
  | _ => none }
def storeHoldsRow : OpenClaim := { program := "ytejmbmenbailmaagreat", sum := "bc1e9bf7b8ec8e55167aa1cbd0a0568ab7f83ab285085a8155c7581b8ee11f9b", func := "freshet/freshetlaw10.StoreHolds", spec := "storeHolds", unfollowed := true, recurses := true, plainKeys := false, apart := false }
def StoreHoldsSaid : Prop := storeHoldsRow.holds Tryz.pinned (OpenSpec.ofChange storeHoldsSpec)

/-- ITS FALSE NEIGHBOUR: 'it returns false'. Refute it at one input. -/
def storeHoldsWrong : ChangeSpec := { name := "storeHolds", fn := fun _ => fun
  | [d1, d2, d3] => { results := [.lit (.bool false)], args := [d1, d2, d3] }
  | _ => none }
def StoreHoldsWrongFalsely : Prop := storeHoldsRow.holds Tryz.pinned (OpenSpec.ofChange storeHoldsWrong)

/-- 'freshetlaw10.StoreFirst': WHATEVER THE INPUT: true; the input reads as it did. -/
def storeFirstSpec : ChangeSpec := { name := "storeFirst", fn := fun _ => fun
  | [d1, d2] => { results := [.lit (.bool true)], args := [d1, d2] }
  | _ => none }
def storeFirstRow : OpenClaim := { program := "ytejmbmenbailmaagreat", sum := "bc1e9bf7b8ec8e55167aa1cbd0a0568ab7f83ab285085a8155c7581b8ee11f9b", func := "freshet/freshetlaw10.StoreFirst", spec := "storeFirst", unfollowed := true, recurses := true, plainKeys := false, apart := false }
def StoreFirstSaid : Prop := storeFirstRow.holds Tryz.pinned (OpenSpec.ofChange storeFirstSpec)

/-- ITS FALSE NEIGHBOUR: 'it returns false'. Refute it at one input. -/
def storeFirstWrong : ChangeSpec := { name := "storeFirst", fn := fun _ => fun
  | [d1, d2] => { results := [.lit (.bool false)], args := [d1, d2] }
  | _ => none }
def StoreFirstWrongFalsely : Prop := storeFirstRow.holds Tryz.pinned (OpenSpec.ofChange storeFirstWrong)

/-- 'freshetlaw10.StoreTimes': WHATEVER THE INPUT: true; the input reads as it did. -/
def storeTimesSpec : ChangeSpec := { name := "storeTimes", fn := fun _ => fun
  | [d1, d2, d3] => { results := [.lit (.bool true)], args := [d1, d2, d3] }
  | _ => none }
def storeTimesRow : OpenClaim := { program := "ytejmbmenbailmaagreat", sum := "bc1e9bf7b8ec8e55167aa1cbd0a0568ab7f83ab285085a8155c7581b8ee11f9b", func := "freshet/freshetlaw10.StoreTimes", spec := "storeTimes", unfollowed := true, recurses := true, plainKeys := false, apart := false }
def StoreTimesSaid : Prop := storeTimesRow.holds Tryz.pinned (OpenSpec.ofChange storeTimesSpec)

/-- ITS FALSE NEIGHBOUR: 'it returns false'. Refute it at one input. -/
def storeTimesWrong : ChangeSpec := { name := "storeTimes", fn := fun _ => fun
  | [d1, d2, d3] => { results := [.lit (.bool false)], args := [d1, d2, d3] }
  | _ => none }
def StoreTimesWrongFalsely : Prop := storeTimesRow.holds Tryz.pinned (OpenSpec.ofChange storeTimesWrong)

/-- 'freshetlaw10.StorePins': WHATEVER THE INPUT: true; the input reads as it did. -/
def storePinsSpec : ChangeSpec := { name := "storePins", fn := fun _ => fun
  | [d1, d2] => { results := [.lit (.bool true)], args := [d1, d2] }
  | _ => none }
def storePinsRow : OpenClaim := { program := "ytejmbmenbailmaagreat", sum := "bc1e9bf7b8ec8e55167aa1cbd0a0568ab7f83ab285085a8155c7581b8ee11f9b", func := "freshet/freshetlaw10.StorePins", spec := "storePins", unfollowed := true, recurses := true, plainKeys := false, apart := false }
def StorePinsSaid : Prop := storePinsRow.holds Tryz.pinned (OpenSpec.ofChange storePinsSpec)

/-- ITS FALSE NEIGHBOUR: 'it returns false'. Refute it at one input. -/
def storePinsWrong : ChangeSpec := { name := "storePins", fn := fun _ => fun
  | [d1, d2] => { results := [.lit (.bool false)], args := [d1, d2] }
  | _ => none }
def StorePinsWrongFalsely : Prop := storePinsRow.holds Tryz.pinned (OpenSpec.ofChange storePinsWrong)

/-- 'freshetlaw10.StoreItems': WHATEVER THE INPUT: true; the input reads as it did. -/
def storeItemsSpec : ChangeSpec := { name := "storeItems", fn := fun _ => fun
  | [d1, d2] => { results := [.lit (.bool true)], args := [d1, d2] }
  | _ => none }
def storeItemsRow : OpenClaim := { program := "ytejmbmenbailmaagreat", sum := "bc1e9bf7b8ec8e55167aa1cbd0a0568ab7f83ab285085a8155c7581b8ee11f9b", func := "freshet/freshetlaw10.StoreItems", spec := "storeItems", unfollowed := true, recurses := true, plainKeys := false, apart := false }
def StoreItemsSaid : Prop := storeItemsRow.holds Tryz.pinned (OpenSpec.ofChange storeItemsSpec)

/-- ITS FALSE NEIGHBOUR: 'it returns false'. Refute it at one input. -/
def storeItemsWrong : ChangeSpec := { name := "storeItems", fn := fun _ => fun
  | [d1, d2] => { results := [.lit (.bool false)], args := [d1, d2] }
  | _ => none }
def StoreItemsWrongFalsely : Prop := storeItemsRow.holds Tryz.pinned (OpenSpec.ofChange storeItemsWrong)

/- THE SECOND FORM. 'bulk': how many values and letters a reading holds, each counted each time it is reached (what is shared counts as often as it is met; a slice's spare places count too). A statement '..UptoSaid' is the law's where the arguments, and the package variables that the reading takes, are together of bulk at most 1048576: NARROWER than '..Said'. Prove '..Said' where nothing that the law and all that it calls make is longer than what came in: it says more and counts as full. Else prove '..UptoSaid'. A law counts once. -/
mutual
def uptoBulk {H : Type} : DataW H → Nat
  | .lit (.string bytes) => bytes.length + 1
  | .lit _ => 1
  | .nil => 1
  | .ptr d => uptoBulk d + 1
  | .slice elems spare => uptoBulkAll elems + uptoBulkAll spare + 1
  | .agg parts => uptoBulkAll parts + 1
  | .iface _ d => uptoBulk d + 1
  | .map entries => uptoBulkEntries entries + 1
  | .held _ => 1
def uptoBulkAll {H : Type} : List (DataW H) → Nat
  | [] => 0
  | d :: r => uptoBulk d + uptoBulkAll r
def uptoBulkEntries {H : Type} : List (Lit × DataW H) → Nat
  | [] => 0
  | x :: r => uptoBulkEntry x + uptoBulkEntries r
def uptoBulkEntry {H : Type} : Lit × DataW H → Nat
  | (.string bytes, d) => bytes.length + uptoBulk d + 1
  | (_, d) => uptoBulk d + 1
 end
def uptoSmall : (H : Type) → List (DataW H) → Bool := fun _ ds => decide (uptoBulkAll ds ≤ 1048576)
def OpenSpec.upto (s : _root_.Go.ChangeSpec) : _root_.Go.OpenSpec := { _root_.Go.OpenSpec.ofChange s with cond := some uptoSmall }

/-- 'freshetlaw8.PackActs', WHERE WHAT IT READS IS OF BULK AT MOST 1048576: true; the input reads as it did. -/
def packActsUptoRow : OpenClaim := { program := "ytejmbmenbailmaagreat", sum := "bc1e9bf7b8ec8e55167aa1cbd0a0568ab7f83ab285085a8155c7581b8ee11f9b", func := "freshet/freshetlaw8.PackActs", spec := "packActs", unfollowed := true, recurses := true, plainKeys := false, apart := false, narrowed := true }
def PackActsUptoSaid : Prop := packActsUptoRow.holds Tryz.pinned (OpenSpec.upto packActsSpec)

/-- 'freshetlaw10.StoreFull', WHERE WHAT IT READS IS OF BULK AT MOST 1048576: true; the input reads as it did. -/
def storeFullUptoRow : OpenClaim := { program := "ytejmbmenbailmaagreat", sum := "bc1e9bf7b8ec8e55167aa1cbd0a0568ab7f83ab285085a8155c7581b8ee11f9b", func := "freshet/freshetlaw10.StoreFull", spec := "storeFull", unfollowed := true, recurses := true, plainKeys := false, apart := false, narrowed := true }
def StoreFullUptoSaid : Prop := storeFullUptoRow.holds Tryz.pinned (OpenSpec.upto storeFullSpec)

/-- 'freshetlaw10.StoreHolds', WHERE WHAT IT READS IS OF BULK AT MOST 1048576: true; the input reads as it did. -/
def storeHoldsUptoRow : OpenClaim := { program := "ytejmbmenbailmaagreat", sum := "bc1e9bf7b8ec8e55167aa1cbd0a0568ab7f83ab285085a8155c7581b8ee11f9b", func := "freshet/freshetlaw10.StoreHolds", spec := "storeHolds", unfollowed := true, recurses := true, plainKeys := false, apart := false, narrowed := true }
def StoreHoldsUptoSaid : Prop := storeHoldsUptoRow.holds Tryz.pinned (OpenSpec.upto storeHoldsSpec)

/-- 'freshetlaw10.StoreFirst', WHERE WHAT IT READS IS OF BULK AT MOST 1048576: true; the input reads as it did. -/
def storeFirstUptoRow : OpenClaim := { program := "ytejmbmenbailmaagreat", sum := "bc1e9bf7b8ec8e55167aa1cbd0a0568ab7f83ab285085a8155c7581b8ee11f9b", func := "freshet/freshetlaw10.StoreFirst", spec := "storeFirst", unfollowed := true, recurses := true, plainKeys := false, apart := false, narrowed := true }
def StoreFirstUptoSaid : Prop := storeFirstUptoRow.holds Tryz.pinned (OpenSpec.upto storeFirstSpec)

/-- 'freshetlaw10.StoreTimes', WHERE WHAT IT READS IS OF BULK AT MOST 1048576: true; the input reads as it did. -/
def storeTimesUptoRow : OpenClaim := { program := "ytejmbmenbailmaagreat", sum := "bc1e9bf7b8ec8e55167aa1cbd0a0568ab7f83ab285085a8155c7581b8ee11f9b", func := "freshet/freshetlaw10.StoreTimes", spec := "storeTimes", unfollowed := true, recurses := true, plainKeys := false, apart := false, narrowed := true }
def StoreTimesUptoSaid : Prop := storeTimesUptoRow.holds Tryz.pinned (OpenSpec.upto storeTimesSpec)

/-- 'freshetlaw10.StorePins', WHERE WHAT IT READS IS OF BULK AT MOST 1048576: true; the input reads as it did. -/
def storePinsUptoRow : OpenClaim := { program := "ytejmbmenbailmaagreat", sum := "bc1e9bf7b8ec8e55167aa1cbd0a0568ab7f83ab285085a8155c7581b8ee11f9b", func := "freshet/freshetlaw10.StorePins", spec := "storePins", unfollowed := true, recurses := true, plainKeys := false, apart := false, narrowed := true }
def StorePinsUptoSaid : Prop := storePinsUptoRow.holds Tryz.pinned (OpenSpec.upto storePinsSpec)

/-- 'freshetlaw10.StoreItems', WHERE WHAT IT READS IS OF BULK AT MOST 1048576: true; the input reads as it did. -/
def storeItemsUptoRow : OpenClaim := { program := "ytejmbmenbailmaagreat", sum := "bc1e9bf7b8ec8e55167aa1cbd0a0568ab7f83ab285085a8155c7581b8ee11f9b", func := "freshet/freshetlaw10.StoreItems", spec := "storeItems", unfollowed := true, recurses := true, plainKeys := false, apart := false, narrowed := true }
def StoreItemsUptoSaid : Prop := storeItemsUptoRow.holds Tryz.pinned (OpenSpec.upto storeItemsSpec)

end Rows
end Go.Proofs.YtejmbmenbailmaaGreat
