/- BackendNil: its row. -/
import Derived.Test.YtlaefnijhokcgaaGreatDoorNilA
import Derived.Test.YtlaefnijhokcgaaGreatDoorNilF
set_option linter.unusedSimpArgs false
set_option linter.unusedVariables false
set_option linter.unusedSectionVars false
namespace Go.Proofs.YtlaefnijhokcgaaGreatDoor
open Go Go.ChangeShapes Go.WideShapes Go.ChangeAt Go.RowKit Go.WideElems
set_option maxRecDepth 100000 in
theorem facts : joinedFacts Tryz.prog 10 Tryz.f10 Rows.backendNilSpec Rows.backendNilRow = true := Ix.joined_of fact0 fact1 fact2 fact3 fact4 fact5 fact6 fact7 fact8 fact9 fact10 fact11 fact12 fact13 fact14 fact15 fact16 fact17 fact18 fact19 fact20 fact21 fact22 fact23 fact24 fact25 fact26 fact27 fact28 fact29 fact30 fact31
theorem named10 : Tryz.pinned.checked.prog.funcNamed Rows.backendNilRow.func = some 10 := by kernel_rfl
theorem inst10 : Tryz.f10.isInstance Tryz.pinned.checked.prog Rows.backendNilRow.origin Rows.backendNilRow.targs := of_decide_eq_true (by kernel_rfl)
theorem backendNil_said : Rows.BackendNilSaid :=
  OpenClaim.holds_of_wide 10 Tryz.f10 rfl rfl rfl rfl rfl rfl rfl ⟨rfl, rfl, rfl, rfl, rfl⟩ rfl rfl rfl rfl rfl named10 Tryz.func10 facts
    inst10 (by unfold Func.isWrapper; first | (rw [if_pos (by decide +kernel)]; kernel_rfl) | (rw [if_neg (by decide +kernel)]; exact ⟨rfl, rfl⟩))
    (fun os started H enc _ => lifted os started H enc)

end Go.Proofs.YtlaefnijhokcgaaGreatDoor
