/- Ix: the law BackendNil, run. -/
import Derived.Test.YtlaefnijhokcgaaGreatDoorBig
set_option linter.unusedSimpArgs false
set_option linter.unusedVariables false
set_option linter.unusedSectionVars false
namespace Go.Ix
open Go.Proofs
namespace Zd
variable {w0 : World}

/-- Nothing of what lay there at the start is read. -/
def o0 : Nat → Nat → Option V := fun _ _ => none
theorem good0 (w : World) : Good2 (cfg o0) w := good fun b i v h => by cases h
theorem goodS0 (w : World) : Good2 (cfgS o0) w := goodS (good0 w)

def isTr (p : V × H) : Bool := match p.1 with
  | .bool b => b
  | _ => false
def isZ (p : V × H) : Bool := match p.1 with
  | .int .i64 n => n == 0
  | _ => false
theorem isTr_eq {p : V × H} (h : isTr p = true) : p.1 = .bool true := by
  unfold isTr at h
  split at h
  · rename_i b hb; rw [hb, h]
  · cases h
theorem isZ_eq {p : V × H} (h : isZ p = true) : p.1 = .int .i64 0 := by
  unfold isZ at h
  split at h
  · rename_i n hn; rw [hn, show n = 0 by simpa using h]
  · cases h

theorem sameP : (cfgS o0).P = (cfg o0).P := rfl

/-- A closed run of a function as a contract. -/
theorem runB {C C' : Cfg} {w0 : World} {f : FuncId} {vs : List V} {h : H} (hP : C.P = C'.P) (G : ∀ w, Good2 C w) (n : Nat) (v : V) (hv : V.on H.empty v = true) (hvs : V.onL H.empty vs = true) (q : V × H → Bool) (hq : ∀ p, q p = true → p.1 = v)
    (hev : allB q (ev C n (.fn f) vs H.empty) = true) : OkF C' w0 f vs h fun p => p = (v, h) := OkF.run hP G n v hv hvs q hq (allB_all hev)

theorem vec0_run : allB isZ (ev (cfgS o0) 20 (.fn 35) [.slice none 0 (.ex 0), .int .i64 32768] H.empty) = true := by kernel_rfl
theorem vec0_ok (h : H) : OkF (cfg o0) w0 35 [.slice none 0 (.ex 0), .int .i64 32768] h fun p => p = (.int .i64 0, h) :=
  @runB (cfgS o0) (cfg o0) w0 35 [.slice none 0 (.ex 0), .int .i64 32768] h sameP goodS0 20 (.int .i64 0) rfl rfl isZ (fun _ => isZ_eq) vec0_run

theorem vec0_sum : Sum (cfg o0) w0 35 gVec0 := by
  intro vs h Q hq
  unfold gVec0 at hq
  split at hq
  · refine (vec0_ok _).mono ?_
    rintro _ rfl
    exact hq
  · exact hq.elim

theorem awake_run : allB isTr (ev (cfgS o0) 300 (.fn 14) [] H.empty) = true := by kernel_rfl
theorem awake_ok (h : H) : OkF (cfg o0) w0 14 [] h fun p => p = (.bool true, h) :=
  @runB (cfgS o0) (cfg o0) w0 14 [] h sameP goodS0 300 (.bool true) rfl rfl isTr (fun _ => isTr_eq) awake_run

def gTrue : List V → H → T (V × H)
  | [], h => .ret (.bool true, h)
  | _, _ => .fail

theorem awake_sum : Sum (cfg o0) w0 14 gTrue := by
  intro vs h Q hq
  unfold gTrue at hq
  split at hq
  · refine (awake_ok _).mono ?_
    rintro _ rfl
    exact hq
  · exact hq.elim
end Zd
end Go.Ix
