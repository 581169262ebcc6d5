/- Ix: the law BackendNil, run. -/
import Derived.Test.YtlaefnijhokcgaaGreatDoorRun
import Derived.Test.YtlaefnijhokcgaaGreatDoorIxC
set_option linter.unusedSimpArgs false
set_option linter.unusedVariables false
set_option linter.unusedSectionVars false
namespace Go.Ix
open Go.Proofs
namespace Zd
variable {w0 : World}

def tabN : List (Nat × (List V → H → T (V × H))) := (12, gBig) :: (14, gTrue) :: tabL

theorem tabN_ok (G : Good2 (cfg o0) w0) : TabOk (cfg o0) w0 (tabOf tabN) := tabOf_ok fun p hp => by
  simp only [tabN, List.mem_cons] at hp
  rcases hp with rfl | rfl | hp
  · exact big_sum G vec0_sum
  · exact awake_sum
  · simp only [tabL, List.mem_cons, List.not_mem_nil, or_false] at hp
    rcases hp with rfl | rfl | rfl | rfl | rfl | rfl
    · exact mul64_sum G
    · exact mul_sum G
    · exact cmp_sum G
    · exact add_sum G
    · exact sqrt_sum G
    · exact add64_sum G

noncomputable def cfgN : Cfg := { P := Tryz.prog, ti := tiOf Tryz.prog, old := o0, keep := fun f => keepL.getD f (0, []), sum := tabOf tabN }

theorem goodN (w : World) : Good2 cfgN w where
  ti := (good0 w).ti
  old := (good0 w).old
  mixed := (good0 w).mixed
  dst := (good0 w).dst
  names := (good0 w).names
  sum := fun f g hg vs h Q μ w' X hq r hX => tabN_ok (good0 w) f g hg vs h Q hq μ w' X r hX

theorem nil_run (x1 x2 x3 x4 x5 : Int) (s1 s2 : Option Ad) (n1 n2 : Nat) (c1 c2 : Cap) :
    allB isTr (ev cfgN 300 (.fn 10) [.agg [.int .i64 x1, .int .i64 x2, .int .i64 x3, .int .i64 x4, .int .i64 x5, .slice s1 n1 c1, .slice s2 n2 c2]] H.empty) = true := by kernel_rfl

theorem okF_true {C : Cfg} {w0 : World} {f : FuncId} {vs : List V} (G : Good2 C w0) (n : Nat) (hev : allB isTr (ev C n (.fn f) vs H.empty) = true) : OkF C w0 f vs H.empty fun p => p.1 = .bool true :=
  (OkF.of_ev G n (allB_all hev)).mono fun _ hp => isTr_eq hp

/-- The law answers true. -/
theorem nil_ok (w : World) (x1 x2 x3 x4 x5 : Int) (s1 s2 : Option Ad) (n1 n2 : Nat) (c1 c2 : Cap) :
    OkF cfgN w 10 [.agg [.int .i64 x1, .int .i64 x2, .int .i64 x3, .int .i64 x4, .int .i64 x5, .slice s1 n1 c1, .slice s2 n2 c2]] H.empty fun p => p.1 = .bool true :=
  @okF_true cfgN w 10 [.agg [.int .i64 x1, .int .i64 x2, .int .i64 x3, .int .i64 x4, .int .i64 x5, .slice s1 n1 c1, .slice s2 n2 c2]] (goodN w) 300 (nil_run x1 x2 x3 x4 x5 s1 s2 n1 n2 c1 c2)
theorem calls_true {C : Cfg} {P : Program} (hP : C.P = P) {w : World} {f : FuncId} {vs : List V} {X : List Value} (hb : hasBody P f = true) (o : OkF C w f vs H.empty fun p => p.1 = .bool true) (hX : concL (fun _ => none) vs = some X) :
    Calls P f X.toArray w fun e w' => e = .returned (.bool true) ∧ Go.RowKit.Below w.heap.size w w' := by
  subst hP
  exact OkF.calls hb o hX

theorem nil_calls (w : World) (x1 x2 x3 x4 x5 : Int) (s1 s2 : Option Ad) (n1 n2 : Nat) (c1 c2 : Cap) (X : List Value)
    (hX : concL (fun _ => none) [.agg [.int .i64 x1, .int .i64 x2, .int .i64 x3, .int .i64 x4, .int .i64 x5, .slice s1 n1 c1, .slice s2 n2 c2]] = some X) :
    Calls Tryz.prog 10 X.toArray w fun e w' => e = .returned (.bool true) ∧ Go.RowKit.Below w.heap.size w w' :=
  @calls_true cfgN Tryz.prog rfl w 10 [.agg [.int .i64 x1, .int .i64 x2, .int .i64 x3, .int .i64 x4, .int .i64 x5, .slice s1 n1 c1, .slice s2 n2 c2]] X (by kernel_rfl) (nil_ok w x1 x2 x3 x4 x5 s1 s2 n1 n2 c1 c2) hX
end Zd
end Go.Ix
