/-
  No cell of these rows narrows 'for every input' (looked for: loops, veiled, ifaces, maps, wideKeys, modest, calm, conditions, laid).
  DERIVED. THE GIVEN ROWS OF THIS SEAT. 3 by the template 'for every input the law returns true; each argument reads behind the call as it read before'; 0 by the template 'total and deterministic' (their statements: YtejmbmenbailmaaTotals.lean).
  GIVEN WITH THE SEED: the statements are not yours to turn. If you find one false, say at which input.
  Laid BY PROGRAM, IN A SANDBOX (cutbox-rows.mjs): the forced cells as the released guide's own fill.sh prints them over the translation eb4d3e1032c0cc7a… (all of the seat's roots in one cut). By AI agents, Wed Nov 11 2026. No macro, syntax, notation, axiom, sorry.
-/
import Derived.Test.YtejmbmenbailmaaChecked
import GoSem.Claim
import GoSem.ClaimJoined
import GoSem.ClaimMapViews
import Derived.JoinedTies
import Derived.KernelRfl
namespace Go.Proofs.Ytejmbmenbailmaa
/- THE CELL 'sum', in the pinned program and in every row, IS THE sha256 OF THE DUMP (.gsa) THAT YtejmbmenbailmaaProg.lean LOADS. Nothing in Lean hashes anything: it is a label: what it is worth is what the hold of that sum in a sandbox is worth. -/
noncomputable def Try.pinned : Pinned := { name := "ytejmbmenbailmaa", sum := "eb4d3e1032c0cc7aac4465be87944e3b4b46debb318cc6b505859e29939abf77", checked := Try.checked }
namespace Rows
def none {H : Type} : Left H := { results := [], args := [] }

/-- 'freshetlaw8.PackShares': WHATEVER THE INPUT: true; the input reads as it did. -/
def packSharesSpec : ChangeSpec := { name := "packShares", fn := fun _ => fun
  | [d1, d2, d3] => { results := [.lit (.bool true)], args := [d1, d2, d3] }
  | _ => none }
def packSharesRow : OpenClaim := { program := "ytejmbmenbailmaa", sum := "eb4d3e1032c0cc7aac4465be87944e3b4b46debb318cc6b505859e29939abf77", func := "freshet/freshetlaw8.PackShares", spec := "packShares", unfollowed := true, recurses := true, apart := false }
def PackSharesSaid : Prop := packSharesRow.holds Try.pinned (OpenSpec.ofChange packSharesSpec)

/-- ITS FALSE NEIGHBOUR: 'it returns false'. Refute it at one input. -/
def packSharesWrong : ChangeSpec := { name := "packShares", fn := fun _ => fun
  | [d1, d2, d3] => { results := [.lit (.bool false)], args := [d1, d2, d3] }
  | _ => none }
def PackSharesWrongFalsely : Prop := packSharesRow.holds Try.pinned (OpenSpec.ofChange packSharesWrong)

/-- 'freshetlaw8.PackForms': WHATEVER THE INPUT: true; the input reads as it did. -/
def packFormsSpec : ChangeSpec := { name := "packForms", fn := fun _ => fun
  | [d1, d2] => { results := [.lit (.bool true)], args := [d1, d2] }
  | _ => none }
def packFormsRow : OpenClaim := { program := "ytejmbmenbailmaa", sum := "eb4d3e1032c0cc7aac4465be87944e3b4b46debb318cc6b505859e29939abf77", func := "freshet/freshetlaw8.PackForms", spec := "packForms", unfollowed := true, recurses := true, apart := false }
def PackFormsSaid : Prop := packFormsRow.holds Try.pinned (OpenSpec.ofChange packFormsSpec)

/-- ITS FALSE NEIGHBOUR: 'it returns false'. Refute it at one input. -/
def packFormsWrong : ChangeSpec := { name := "packForms", fn := fun _ => fun
  | [d1, d2] => { results := [.lit (.bool false)], args := [d1, d2] }
  | _ => none }
def PackFormsWrongFalsely : Prop := packFormsRow.holds Try.pinned (OpenSpec.ofChange packFormsWrong)

/-- 'freshetlaw8.PackDrops': WHATEVER THE INPUT: true; the input reads as it did. -/
def packDropsSpec : ChangeSpec := { name := "packDrops", fn := fun _ => fun
  | [d1, d2] => { results := [.lit (.bool true)], args := [d1, d2] }
  | _ => none }
def packDropsRow : OpenClaim := { program := "ytejmbmenbailmaa", sum := "eb4d3e1032c0cc7aac4465be87944e3b4b46debb318cc6b505859e29939abf77", func := "freshet/freshetlaw8.PackDrops", spec := "packDrops", unfollowed := true, recurses := true, apart := false }
def PackDropsSaid : Prop := packDropsRow.holds Try.pinned (OpenSpec.ofChange packDropsSpec)

/-- ITS FALSE NEIGHBOUR: 'it returns false'. Refute it at one input. -/
def packDropsWrong : ChangeSpec := { name := "packDrops", fn := fun _ => fun
  | [d1, d2] => { results := [.lit (.bool false)], args := [d1, d2] }
  | _ => none }
def PackDropsWrongFalsely : Prop := packDropsRow.holds Try.pinned (OpenSpec.ofChange packDropsWrong)

/- THE SECOND FORM. 'bulk': how many values and letters a reading holds, each counted each time it is reached (what is shared counts as often as it is met; a slice's spare places count too). A statement '..UptoSaid' is the law's where the arguments, and the package variables that the reading takes, are together of bulk at most 1048576: NARROWER than '..Said'. Prove '..Said' where nothing that the law and all that it calls make is longer than what came in: it says more and counts as full. Else prove '..UptoSaid'. A law counts once. -/
mutual
def uptoBulk {H : Type} : DataW H → Nat
  | .lit (.string bytes) => bytes.length + 1
  | .lit _ => 1
  | .nil => 1
  | .ptr d => uptoBulk d + 1
  | .slice elems spare => uptoBulkAll elems + uptoBulkAll spare + 1
  | .agg parts => uptoBulkAll parts + 1
  | .iface _ d => uptoBulk d + 1
  | .map entries => uptoBulkEntries entries + 1
  | .held _ => 1
def uptoBulkAll {H : Type} : List (DataW H) → Nat
  | [] => 0
  | d :: r => uptoBulk d + uptoBulkAll r
def uptoBulkEntries {H : Type} : List (Lit × DataW H) → Nat
  | [] => 0
  | x :: r => uptoBulkEntry x + uptoBulkEntries r
def uptoBulkEntry {H : Type} : Lit × DataW H → Nat
  | (.string bytes, d) => bytes.length + uptoBulk d + 1
  | (_, d) => uptoBulk d + 1
 end
def uptoSmall : (H : Type) → List (DataW H) → Bool := fun _ ds => decide (uptoBulkAll ds ≤ 1048576)
def OpenSpec.upto (s : _root_.Go.ChangeSpec) : _root_.Go.OpenSpec := { _root_.Go.OpenSpec.ofChange s with cond := some uptoSmall }

/-- 'freshetlaw8.PackShares', WHERE WHAT IT READS IS OF BULK AT MOST 1048576: true; the input reads as it did. -/
def packSharesUptoRow : OpenClaim := { program := "ytejmbmenbailmaa", sum := "eb4d3e1032c0cc7aac4465be87944e3b4b46debb318cc6b505859e29939abf77", func := "freshet/freshetlaw8.PackShares", spec := "packShares", unfollowed := true, recurses := true, apart := false, narrowed := true }
def PackSharesUptoSaid : Prop := packSharesUptoRow.holds Try.pinned (OpenSpec.upto packSharesSpec)

/-- 'freshetlaw8.PackForms', WHERE WHAT IT READS IS OF BULK AT MOST 1048576: true; the input reads as it did. -/
def packFormsUptoRow : OpenClaim := { program := "ytejmbmenbailmaa", sum := "eb4d3e1032c0cc7aac4465be87944e3b4b46debb318cc6b505859e29939abf77", func := "freshet/freshetlaw8.PackForms", spec := "packForms", unfollowed := true, recurses := true, apart := false, narrowed := true }
def PackFormsUptoSaid : Prop := packFormsUptoRow.holds Try.pinned (OpenSpec.upto packFormsSpec)

/-- 'freshetlaw8.PackDrops', WHERE WHAT IT READS IS OF BULK AT MOST 1048576: true; the input reads as it did. -/
def packDropsUptoRow : OpenClaim := { program := "ytejmbmenbailmaa", sum := "eb4d3e1032c0cc7aac4465be87944e3b4b46debb318cc6b505859e29939abf77", func := "freshet/freshetlaw8.PackDrops", spec := "packDrops", unfollowed := true, recurses := true, apart := false, narrowed := true }
def PackDropsUptoSaid : Prop := packDropsUptoRow.holds Try.pinned (OpenSpec.upto packDropsSpec)

end Rows
end Go.Proofs.Ytejmbmenbailmaa
