/- The law BackendNil answers true and leaves its argument as it was, whatever call it is handed; no condition but what every row bears (its argument reads as data; math/bits' table deBruijn64tab as the program's text lays it, which the card ties). -/
import Derived.Test.YtlaefnijhokcgaaGreatDoorNilB
set_option linter.unusedSimpArgs false
set_option linter.unusedVariables false
set_option linter.unusedSectionVars false
namespace Go.Proofs.YtlaefnijhokcgaaGreatDoor
open Go Go.ChangeShapes Go.WideShapes Go.ChangeAt Go.RowKit Go.WideElems
theorem card0 : Rows.backendNilRow.wfByText (OpenSpec.ofChange Rows.backendNilSpec) = true := by kernel_rfl
theorem card1 : Tryz.prog.mainIs = some (true, "224ffa090e929a4027c1588533c82cd2e4cb0928bbade1502742dc623c5a4968".toList) := by kernel_rfl
theorem card2 : Tryz.prog.funcNamed "theodolite/theodolitelaw14.BackendNil" = some 10 := by kernel_rfl
theorem card3 : true = Tryz.prog.looks [] := by kernel_rfl
theorem card4 : ([54].all fun u => !Tryz.prog.wantsStandIn u) = true := by kernel_rfl
theorem card5 : false = Rows.backendNilRow.goesBy Tryz.prog := by kernel_rfl
set_option maxRecDepth 100000 in
theorem backendNil_holds : Rows.BackendNilCardSaid :=
  Claim7.holds_tied_plain_at .later [] [.data] true (true, "224ffa090e929a4027c1588533c82cd2e4cb0928bbade1502742dc623c5a4968") true
    backendNil_said (fun _ h => by cases h) card0 (fun _ h => by cases h) backendNil_row_tie rfl ⟨rfl, rfl⟩ card1 rfl
    (fun f fn hf hfn => by
      obtain rfl : f = 10 := Option.some.inj (card2.symm.trans hf) |>.symm
      obtain rfl : fn = Tryz.f10 := (Option.some.inj (Tryz.func10.symm.trans hfn)).symm
      exact ⟨card3, fun j t ht => by
        rw [Tryz.params10] at ht
        have hm : t ∈ [54] := by simpa using Array.mem_of_getElem? ht
        exact (show Tryz.prog.wantsStandIn t = false by simpa using List.all_eq_true.1 card4 t hm)⟩)
    card5
end Go.Proofs.YtlaefnijhokcgaaGreatDoor
