/- BackendNil: the closed facts of its row. -/
import Derived.Test.YtlaefnijhokcgaaGreatDoorRows
import Derived.ProofKit
import Derived.KernelRfl
set_option linter.unusedSimpArgs false
set_option linter.unusedVariables false
set_option linter.unusedSectionVars false
namespace Go.Proofs.YtlaefnijhokcgaaGreatDoor
open Go Go.ChangeShapes Go.WideShapes Go.ChangeAt Go.RowKit Go.WideElems
theorem fact0 : (Rows.backendNilRow.wf (OpenSpec.ofChange Rows.backendNilSpec)) = true := by kernel_rfl
theorem fact1 : (laidOutB Tryz.prog) = true := by kernel_rfl
theorem fact2 : (mapsRowed Tryz.prog) = true := by kernel_rfl
theorem fact3 : (Tryz.f10.params.all (Tryz.prog.readableRec ·)) = true := by kernel_rfl
theorem fact4 : (namedTie Tryz.prog Rows.backendNilRow.named Rows.backendNilSpec.vars) = true := by kernel_rfl
theorem fact5 : (Rows.backendNilRow.stops == []) = true := by kernel_rfl
theorem fact6 : (Tryz.prog.stops == []) = true := by kernel_rfl
theorem fact7 : (Rows.backendNilRow.knobs == []) = true := by kernel_rfl
theorem fact8 : (Tryz.prog.stopKnobs == []) = true := by kernel_rfl
theorem fact9 : (Rows.backendNilRow.inPlace == Tryz.prog.inPlace 10) = true := by kernel_rfl
theorem fact10 : (Rows.backendNilRow.unfollowed == Tryz.prog.unfollowed 10) = true := by kernel_rfl
theorem fact11 : (Rows.backendNilRow.recurses == Tryz.prog.recurses 10) = true := by kernel_rfl
theorem fact12 : (Rows.backendNilRow.named == Tryz.prog.varsNamed 10) = true := by kernel_rfl
theorem fact13 : (Rows.backendNilRow.maps == (Tryz.f10.params.toList ++ Rows.backendNilSpec.plain.varTypes Tryz.prog).any (Tryz.prog.mapsRec ·)) = true := by kernel_rfl
theorem fact14 : (Rows.backendNilRow.ifaces == (Tryz.f10.params.toList ++ Rows.backendNilSpec.plain.varTypes Tryz.prog).any (Tryz.prog.ifacesRec ·)) = true := by kernel_rfl
theorem fact15 : (Rows.backendNilRow.mapsOut == Tryz.prog.mapsAmong Tryz.f10.resultTypes.toList) = true := by kernel_rfl
theorem fact16 : (Rows.backendNilRow.loops == (Tryz.f10.params.toList ++ Rows.backendNilSpec.plain.varTypes Tryz.prog).any (Tryz.prog.loopsFrom ·)) = true := by kernel_rfl
theorem fact17 : (Rows.backendNilRow.wideKeys == (Tryz.f10.params.toList ++ Rows.backendNilSpec.plain.varTypes Tryz.prog ++ Tryz.f10.resultTypes.toList).any (Tryz.prog.wideKeysFrom ·)) = true := by kernel_rfl
theorem fact18 : (Rows.backendNilSpec.vars.all (Tryz.prog.varReadable ·)) = true := by kernel_rfl
theorem fact19 : (Tryz.f10.resultTypes.all (fun t => Tryz.prog.readableRec t && decide (t < Tryz.prog.types.size))) = true := by kernel_rfl
theorem fact20 : (Rows.backendNilRow.ifacesOut == Tryz.f10.resultTypes.toList.any (Tryz.prog.ifacesRec ·)) = true := by kernel_rfl
theorem fact21 : (Rows.backendNilRow.loopsOut == Tryz.f10.resultTypes.toList.any (Tryz.prog.loopsFrom ·)) = true := by kernel_rfl
theorem fact22 : (Rows.backendNilRow.plainKeys == Tryz.prog.plainKeys) = true := by kernel_rfl
theorem fact23 : (Rows.backendNilRow.shortTexts.isNone) = true := by kernel_rfl
theorem fact24 : (Tryz.prog.stopsHeard) = true := by kernel_rfl
theorem fact25 : (Tryz.prog.mayEnter) = true := by kernel_rfl
theorem fact26 : (Rows.backendNilRow.lifted == Tryz.prog.liftsFinal) = true := by kernel_rfl
theorem fact27 : (Tryz.prog.make == some Rows.backendNilRow.make) = true := by kernel_rfl
theorem fact28 : (Rows.backendNilRow.kinds == (if Rows.backendNilRow.domain.isEmpty then [] else Tryz.f10.params.toList.map fun t => match Tryz.prog.underlying t with | some (.int k) => some k | _ => none)) = true := by kernel_rfl
theorem fact29 : (Rows.backendNilRow.pinned == Rows.backendNilRow.pinnedBy) = true := by kernel_rfl
theorem fact30 : (Rows.backendNilRow.veiled == (Tryz.f10.params.toList ++ Rows.backendNilSpec.plain.varTypes Tryz.prog ++ Tryz.f10.resultTypes.toList).any (Tryz.prog.veiledRec ·)) = true := by kernel_rfl
theorem fact31 : (Rows.backendNilRow.veiledFits Tryz.prog Tryz.f10.params.toList (Tryz.f10.params.toList ++ Rows.backendNilSpec.plain.varTypes Tryz.prog ++ Tryz.f10.resultTypes.toList)) = true := by kernel_rfl
end Go.Proofs.YtlaefnijhokcgaaGreatDoor
