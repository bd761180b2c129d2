/- Facts on the program as a whole, each checked by itself. -/
import Derived.Test.YtekgciopamkjlaaGreatRows
import Derived.WalkKit
import Derived.ProofKit
import Derived.OpenShut
namespace Go.Proofs.YtekgciopamkjlaaGreat
open Go.ChangeShapes Go.WideShapes Go.ChangeAt Go.RowKit
theorem wideLaid:laidOutB Tryz.prog=true:=by kernel_rfl
theorem wideMaps:mapsRowed Tryz.prog=true:=by kernel_rfl
theorem wideStops:Tryz.prog.stops=([]:List _):=by kernel_rfl
theorem wideKnobs:Tryz.prog.stopKnobs=([]:List _):=by kernel_rfl
theorem widePlain:Tryz.prog.plainKeys=Rows.packActsRow.plainKeys:=by kernel_rfl
theorem wideHeard:Tryz.prog.stopsHeard=true:=by kernel_rfl
theorem wideEnter:Tryz.prog.mayEnter=true:=by kernel_rfl
theorem wideFinal:Tryz.prog.liftsFinal=Rows.packActsRow.lifted:=by kernel_rfl
theorem wideMake:Tryz.prog.make=some Rows.packActsRow.make:=by kernel_rfl
theorem wideOwn:ownKnob Tryz.prog.godebug=none:=by kernel_rfl
end Go.Proofs.YtekgciopamkjlaaGreat