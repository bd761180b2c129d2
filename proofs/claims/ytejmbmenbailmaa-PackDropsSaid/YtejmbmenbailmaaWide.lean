/- Facts on the program as a whole, each checked by itself. -/
import Derived.Test.YtejmbmenbailmaaRows
import Derived.WalkKit
import Derived.ProofKit
import Derived.OpenShut
namespace Go.Proofs.Ytejmbmenbailmaa
open Go.ChangeShapes Go.WideShapes Go.ChangeAt Go.RowKit
theorem wideLaid : laidOutB Try.prog = true := by kernel_rfl
theorem wideMaps : mapsRowed Try.prog = true := by kernel_rfl
theorem wideStops : Try.prog.stops = ([] : List _) := by kernel_rfl
theorem wideKnobs : Try.prog.stopKnobs = ([] : List _) := by kernel_rfl
theorem widePlain : Try.prog.plainKeys = Rows.packSharesRow.plainKeys := by kernel_rfl
theorem wideHeard : Try.prog.stopsHeard = true := by kernel_rfl
theorem wideEnter : Try.prog.mayEnter = true := by kernel_rfl
theorem wideFinal : Try.prog.liftsFinal = Rows.packSharesRow.lifted := by kernel_rfl
theorem wideMake : Try.prog.make = some Rows.packSharesRow.make := by kernel_rfl
theorem wideOwn : ownKnob Try.prog.godebug = none := by kernel_rfl
end Go.Proofs.Ytejmbmenbailmaa
