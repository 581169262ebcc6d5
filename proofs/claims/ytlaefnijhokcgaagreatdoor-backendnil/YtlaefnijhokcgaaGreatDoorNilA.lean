/- BackendNil: the call. -/
import Derived.Test.YtlaefnijhokcgaaGreatDoorRows
import Derived.Test.YtlaefnijhokcgaaGreatDoorTie
import Derived.Test.YtlaefnijhokcgaaGreatDoorCards
import Derived.ProofKit
import Derived.LaidMore
import Derived.OpenShut
import Derived.Stop.Joined
import Derived.Test.YtlaefnijhokcgaaGreatDoorIxC
import Derived.Test.YtlaefnijhokcgaaGreatDoorNil
set_option linter.unusedSimpArgs false
set_option linter.unusedVariables false
set_option linter.unusedSectionVars false
namespace Go.Proofs.YtlaefnijhokcgaaGreatDoor
open Go Go.ChangeShapes Go.WideShapes Go.ChangeAt Go.RowKit Go.WideElems

theorem ownK : ownKnob Tryz.prog.godebug = none := by kernel_rfl
theorem laidOut : laidOutB Tryz.prog = true := by kernel_rfl

theorem door_met (os : Os) (args : Array Value) : laidMetH Tryz.prog [("math/bits.deBruijn64tab", Rows.laid_math_bits_deBruijn64tab)] ((World.doorLaid Tryz.prog 14 os).forCall (fun _ _ => 0) ⟨#[], args, []⟩).memory :=
  laidMetH_of_parts3 (fuel := 8) (laidMet_of_run' 8 (by kernel_rfl) (by kernel_rfl)) (by kernel_rfl) (by kernel_rfl)

set_option maxRecDepth 100000 in
set_option maxHeartbeats 4000000 in
theorem lifted (os : Os) (started : os.Started) (H : Type) (enc : TypeId × Value → H) :
    ReturnsInHanded {} Tryz.checked os 10 .any (fun w args => (Rows.backendNilSpec.pre enc Tryz.prog Tryz.f10 [] false w args ∧ laidMetH Tryz.prog [("math/bits.deBruijn64tab", Rows.laid_math_bits_deBruijn64tab)] w) ∧ sizedMet enc Tryz.prog Tryz.f10 (OpenSpec.ofChange Rows.backendNilSpec) false w args)
      (Rows.backendNilSpec.post enc Tryz.prog Tryz.f10 false true false false) := by
  refine returnsInHanded_of_change_and (C := Tryz.checked) (X := fun w _ => laidMetH Tryz.prog [("math/bits.deBruijn64tab", Rows.laid_math_bits_deBruijn64tab)] w) (fun _ _ _ hh h => h.of_heap hh) ownK started (by kernel_rfl) Tryz.func10
    (ChangeSpec.witness_shaped (enc := enc) (C := Tryz.checked) (os := os) (X := fun w _ => laidMetH Tryz.prog [("math/bits.deBruijn64tab", Rows.laid_math_bits_deBruijn64tab)] w) false (World.doorLaid Tryz.prog 14 os) #[.agg #[.int .i64 0, .int .i64 0, .int .i64 0, .int .i64 0, .int .i64 0, .slice none 0 0, .slice none 0 0]] 8 rfl (World.shaped_of_RefB (by kernel_rfl) (by kernel_rfl)) (by kernel_rfl) (by kernel_rfl) (by kernel_rfl) (door_met os _)) ?_
  intro W base args ds gs before hval0 hW _ _ hL _
  have hval : ∀ (j : Nat) t v, Tryz.f10.params[j]? = some t → args[j]? = some v → Value.okWide Tryz.prog W .any base t v := hval0
  have hW' := hW
  obtain ⟨p, q, hA0, hV, rfl, hfz, hnd⟩ := hW
  have hA : DataW.TrodAll enc Tryz.prog W 0 (fun _ => true) true Tryz.f10.params.toList args.toList ds p := hA0
  rw [Tryz.params10] at hA hval
  obtain ⟨v0, d0, rfl, rfl, h0⟩ := trodAll_one hA
  obtain ⟨rfl, rfl⟩ := trodVars_none hV
  clear hA0
  have hu := hval 0 54 v0 rfl rfl
  unfold Value.okWide at hu
  rw [Tryz.underlying54] at hu
  obtain ⟨cs, rfl, hsz, ts, hts, _, hcell⟩ := hu
  obtain rfl : [3, 3, 3, 3, 3, 30, 30] = ts := Option.some.inj ((show Tryz.prog.cellTypes Tryz.prog.depth 54 = some [3, 3, 3, 3, 3, 30, 30] by kernel_rfl).symm.trans hts)
  have hsz7 : cs.size = 7 := hsz.trans (show Tryz.prog.cellsOf 54 = 7 by kernel_rfl)
  obtain ⟨l⟩ := cs
  have h7 : l.length = 7 := hsz7
  obtain ⟨c0, c1, c2, c3, c4, c5, c6, rfl⟩ := Ix.list7 h7
  have hc : ∀ (i : Nat) (v : Value) (u : TypeId), [c0, c1, c2, c3, c4, c5, c6][i]? = some v → [3, 3, 3, 3, 3, 30, 30][i % 7]? = some u → Cell.okWide Tryz.prog W .any base u v := by
    intro i v u h1 h2
    obtain ⟨u', h3, h4⟩ := hcell i v (by simpa using h1)
    have : u = u' := by
      have h3' : [3, 3, 3, 3, 3, 30, 30][i % 7]? = some u' := h3
      rw [h2] at h3'
      exact Option.some.inj h3'
    subst this
    exact h4
  obtain ⟨x1, rfl, _⟩ := Ix.cell_int Tryz.underlying3 (hc 0 _ 3 rfl rfl)
  obtain ⟨x2, rfl, _⟩ := Ix.cell_int Tryz.underlying3 (hc 1 _ 3 rfl rfl)
  obtain ⟨x3, rfl, _⟩ := Ix.cell_int Tryz.underlying3 (hc 2 _ 3 rfl rfl)
  obtain ⟨x4, rfl, _⟩ := Ix.cell_int Tryz.underlying3 (hc 3 _ 3 rfl rfl)
  obtain ⟨x5, rfl, _⟩ := Ix.cell_int Tryz.underlying3 (hc 4 _ 3 rfl rfl)
  obtain ⟨s1, n1, e1, hs1⟩ := Ix.cell_slice Tryz.underlying30 (hc 5 _ 30 rfl rfl)
  obtain ⟨s2, n2, e2, hs2⟩ := Ix.cell_slice Tryz.underlying30 (hc 6 _ 30 rfl rfl)
  have hX : Ix.concL (fun _ => none) [.agg [.int .i64 x1, .int .i64 x2, .int .i64 x3, .int .i64 x4, .int .i64 x5, .slice s1 n1 (.ex e1), .slice s2 n2 (.ex e2)]] = some [.agg ⟨[.int .i64 x1, .int .i64 x2, .int .i64 x3, .int .i64 x4, .int .i64 x5, c5, c6]⟩] := by
    simp only [Ix.concL, Ix.conc, hs1, hs2]
  refine (Ix.Zd.nil_calls W x1 x2 x3 x4 x5 s1 s2 n1 n2 (.ex e1) (.ex e2) _ hX).mono ?_
  rintro e W' ⟨rfl, hb⟩
  simp only [List.append_nil] at hW'
  have hlt : ∀ p' ∈ p, p'.block < W.heap.size := fun p' hp => hW'.lt p' hp
  refine ⟨_, rfl, Ix.post_of_below (pa := p) (pv := []) hW' (fun _ _ _ => trodAll_mk1 (shut_bool Tryz.underlying4 _)) (fun sp hsp => trodAll_mk1 ?_) (fun _ _ => rfl) (by simp) hb (ok_one (by kernel_rfl) rfl (okWide_bool_mk Tryz.underlying4 _))⟩
  exact Trod_stays laidOut (by kernel_rfl) (by decide +kernel) h0 (fun x hx => hb.same (hlt x hx)) hsp

end Go.Proofs.YtlaefnijhokcgaaGreatDoor
