/- Ix: this seat's program meets what the evaluator asks. · Ix: the seat's functions over wide numbers. · Ix: the seat's square root. · Ix: the seat's sum of wide numbers. · Ix: the seat's summaries of wide numbers, as a table. -/
import Derived.Test.YtlaefnijhokcgaaGreatDoorTy
import Derived.Test.YtlaefnijhokcgaaGreatDoorIxC
set_option linter.unusedSimpArgs false
set_option linter.unusedVariables false
set_option linter.unusedSectionVars false
namespace Go.Ix
open Go.Proofs
namespace Zd
variable {o : Nat → Nat → Option V} {w0 : World}

def fnOk (fn : Func) : Bool := (match fn.body with
  | some c => Code.dstOk fn.ntmps c
  | none => true) && !(fn.name == "runtime.NumGoroutine")

theorem fns_ok : Tryz.prog.funcs.toList.all fnOk = true := by kernel_rfl

theorem fn_ok {f : FuncId} {fn : Func} (hf : Tryz.prog.funcs[f]? = some fn) : fnOk fn = true := by
  have := List.all_eq_true.1 fns_ok fn (by have := Array.mem_of_getElem? hf; simpa using this)
  exact this

theorem mixed_ok : Tryz.prog.follows .mixedOrders = true := by kernel_rfl

set_option maxRecDepth 100000 in
theorem good (ho : ∀ b i v, o b i = some v → ∃ x, (∀ μ, conc μ v = some x) ∧ w0.cell? ⟨b, i, none⟩ = some x) : Good2 (cfg o) w0 where
  ti := fun t i h => tiOf_ok (P := Tryz.prog) h
  old := ho
  mixed := mixed_ok
  dst := fun f fn c hf hb => by
    have := fn_ok hf
    simp only [fnOk, hb, Bool.and_eq_true] at this
    exact this.1
  names := fun f fn hf => by
    have := fn_ok hf
    simp only [fnOk, Bool.and_eq_true, Bool.not_eq_true'] at this
    exact this.2
  sum := fun f g h => by
    have h' : (none : Option (List V → H → T (V × H))) = some g := h
    cases h'
end Zd
end Go.Ix
namespace Go.Ix
open Go.Proofs
theorem ibeq (a b : Int) : (a == b) = decide (a = b) := by
  by_cases h : a = b <;> simp [h]
namespace Zd
variable {o : Nat → Nat → Option V} {w0 : World}
theorem noTab {C : Cfg} : TabOk C w0 (fun _ => none) := fun _ _ h => by cases h
theorem fn59 : (cfg o).P.funcs[59]? = some Tryz.f59 := Tryz.func59
theorem fn122 : (cfg o).P.funcs[122]? = some Tryz.f122 := Tryz.func122
def cmpI (a b c d : Nat) : Int := if a = c ∧ b = d then 0 else if a < c ∨ (a = c ∧ b < d) then -1 else 1
/-- A wide number. -/
def wd (a b : Nat) : V := .agg [V.u a, V.u b]

set_option maxRecDepth 100000 in
set_option maxHeartbeats 2000000 in
theorem cmp (G : Good2 (cfg o) w0) (a b c d : Nat) (h : H) : OkF (cfg o) w0 59 [wd a b, wd c d] h (fun p => p = (.int .i64 (cmpI a b c d), h)) := by
  have hx := ((H.Ext.refl h).push (.cells [V.u a, V.u b] 0)).push (.cells [V.u c, V.u d] 0)
  have G' := G.toGood
  have hc := callT_ok (C := cfg o) (w0 := w0) noTab
  unfold wd
  refine OkF.forget (OkF.body G fn59 rfl ?_)
  refine OkC.seqR 6 [9] G' hc (by simp [ti3, ti4, ti26, ti66, Env.ofArgs, evRegion, evOps, evOper, evVal, wantedV, kindOf, evW, evR, opd, opds, Env.get, Env.set, Env.dst, T.bind, T.of, newRow, V.cl, V.sc, rd, ldT, ldN, ld, stT, stN, st, fieldPlaces, isAggD, H.get_push, H.get_set, H.nx, Ad.add, unV, eqV, fits_u2, flatEq_u2, intOp, ibeq, partV, callee, calOf, callT, parts, fillC, placesL]; rfl) (by simp [Env.keep]; rfl) ?_
  refine OkC.seq (OkC.block ?_)
  refine OkC.seqR 6 [9] G' hc (by simp [ti3, ti4, ti26, ti66, Env.ofArgs, evRegion, evOps, evOper, evVal, wantedV, kindOf, evW, evR, opd, opds, Env.get, Env.set, Env.dst, T.bind, T.of, newRow, V.cl, V.sc, rd, ldT, ldN, ld, stT, stN, st, fieldPlaces, isAggD, H.get_push, H.get_set, H.nx, Ad.add, unV, eqV, fits_u2, flatEq_u2, intOp, ibeq, partV, callee, calOf, callT, parts, fillC, placesL, ti66, u_eql, eqBin]; rfl) (by simp [Env.keep]; rfl) ?_
  refine OkC.cond rfl (fun hb => ?_) (fun hb => ?_)
  · simp at hb
    refine OkC.seqR 6 [9] G' hc (by simp [ti3, ti4, ti26, ti66, Env.ofArgs, evRegion, evOps, evOper, evVal, wantedV, kindOf, evW, evR, opd, opds, Env.get, Env.set, Env.dst, T.bind, T.of, newRow, V.cl, V.sc, rd, ldT, ldN, ld, stT, stN, st, fieldPlaces, isAggD, H.get_push, H.get_set, H.nx, Ad.add, unV, eqV, fits_u2, flatEq_u2, intOp, ibeq, partV, callee, calOf, callT, parts, fillC, placesL]; rfl) (by simp [Env.keep]; rfl) ?_
    refine OkC.ret ⟨.inr rfl, _, _, rfl, rfl, hx, rfl, ?_⟩
    rw [cmpI, if_pos hb]
  · simp at hb
    have h4 : ¬ (a = c ∧ b = d) := fun h => hb h.1 h.2
    by_cases h1 : a < c
    · have h2 : ¬ a = c := by omega
      refine OkC.seqR 6 [9] G' hc (by simp [ti3, ti4, ti26, ti66, Env.ofArgs, evRegion, evOps, evOper, evVal, wantedV, kindOf, evW, evR, opd, opds, Env.get, Env.set, Env.dst, T.bind, T.of, newRow, V.cl, V.sc, rd, ldT, ldN, ld, stT, stN, st, fieldPlaces, isAggD, H.get_push, H.get_set, H.nx, Ad.add, unV, eqV, fits_u2, flatEq_u2, intOp, ibeq, partV, callee, calOf, callT, parts, fillC, placesL, ti66, ti26, u_eql, u_lss, h1, h2]; rfl) (by simp [Env.keep]; rfl) ?_
      refine OkC.cond rfl (fun hb' => ?_) (fun hb' => by cases hb')
      refine OkC.seqR 6 [9] G' hc (by simp [ti3, ti4, ti26, ti66, Env.ofArgs, evRegion, evOps, evOper, evVal, wantedV, kindOf, evW, evR, opd, opds, Env.get, Env.set, Env.dst, T.bind, T.of, newRow, V.cl, V.sc, rd, ldT, ldN, ld, stT, stN, st, fieldPlaces, isAggD, H.get_push, H.get_set, H.nx, Ad.add, unV, eqV, fits_u2, flatEq_u2, intOp, ibeq, partV, callee, calOf, callT, parts, fillC, placesL]; rfl) (by simp [Env.keep]; rfl) ?_
      refine OkC.ret ⟨.inr rfl, _, _, rfl, rfl, hx, rfl, ?_⟩
      rw [cmpI, if_neg h4, if_pos (.inl h1)]
    · by_cases h2 : a = c
      · subst h2
        by_cases h3 : b < d
        · refine OkC.seqR 6 [9] G' hc (by simp [ti3, ti4, ti26, ti66, Env.ofArgs, evRegion, evOps, evOper, evVal, wantedV, kindOf, evW, evR, opd, opds, Env.get, Env.set, Env.dst, T.bind, T.of, newRow, V.cl, V.sc, rd, ldT, ldN, ld, stT, stN, st, fieldPlaces, isAggD, H.get_push, H.get_set, H.nx, Ad.add, unV, eqV, fits_u2, flatEq_u2, intOp, ibeq, partV, callee, calOf, callT, parts, fillC, placesL, ti66, ti26, u_eql, u_lss, h1, h3]; rfl) (by simp [Env.keep]; rfl) ?_
          refine OkC.cond rfl (fun hb' => ?_) (fun hb' => by cases hb')
          refine OkC.seqR 6 [9] G' hc (by simp [ti3, ti4, ti26, ti66, Env.ofArgs, evRegion, evOps, evOper, evVal, wantedV, kindOf, evW, evR, opd, opds, Env.get, Env.set, Env.dst, T.bind, T.of, newRow, V.cl, V.sc, rd, ldT, ldN, ld, stT, stN, st, fieldPlaces, isAggD, H.get_push, H.get_set, H.nx, Ad.add, unV, eqV, fits_u2, flatEq_u2, intOp, ibeq, partV, callee, calOf, callT, parts, fillC, placesL]; rfl) (by simp [Env.keep]; rfl) ?_
          refine OkC.ret ⟨.inr rfl, _, _, rfl, rfl, hx, rfl, ?_⟩
          rw [cmpI, if_neg h4, if_pos (.inr ⟨rfl, h3⟩)]
        · refine OkC.seqR 6 [9] G' hc (by simp [ti3, ti4, ti26, ti66, Env.ofArgs, evRegion, evOps, evOper, evVal, wantedV, kindOf, evW, evR, opd, opds, Env.get, Env.set, Env.dst, T.bind, T.of, newRow, V.cl, V.sc, rd, ldT, ldN, ld, stT, stN, st, fieldPlaces, isAggD, H.get_push, H.get_set, H.nx, Ad.add, unV, eqV, fits_u2, flatEq_u2, intOp, ibeq, partV, callee, calOf, callT, parts, fillC, placesL, ti66, ti26, u_eql, u_lss, h1, h3]; rfl) (by simp [Env.keep]; rfl) ?_
          refine OkC.cond rfl (fun hb' => by cases hb') (fun hb' => ?_)
          refine OkC.skip ?_
          refine OkC.seqR 6 [9] G' hc (by simp [ti3, ti4, ti26, ti66, Env.ofArgs, evRegion, evOps, evOper, evVal, wantedV, kindOf, evW, evR, opd, opds, Env.get, Env.set, Env.dst, T.bind, T.of, newRow, V.cl, V.sc, rd, ldT, ldN, ld, stT, stN, st, fieldPlaces, isAggD, H.get_push, H.get_set, H.nx, Ad.add, unV, eqV, fits_u2, flatEq_u2, intOp, ibeq, partV, callee, calOf, callT, parts, fillC, placesL]; rfl) (by simp [Env.keep]; rfl) ?_
          refine OkC.ret ⟨.inr rfl, _, _, rfl, rfl, hx, rfl, ?_⟩
          rw [cmpI, if_neg h4, if_neg (by omega)]
      · refine OkC.seqR 6 [9] G' hc (by simp [ti3, ti4, ti26, ti66, Env.ofArgs, evRegion, evOps, evOper, evVal, wantedV, kindOf, evW, evR, opd, opds, Env.get, Env.set, Env.dst, T.bind, T.of, newRow, V.cl, V.sc, rd, ldT, ldN, ld, stT, stN, st, fieldPlaces, isAggD, H.get_push, H.get_set, H.nx, Ad.add, unV, eqV, fits_u2, flatEq_u2, intOp, ibeq, partV, callee, calOf, callT, parts, fillC, placesL, ti66, ti26, u_eql, u_lss, h1, h2]; rfl) (by simp [Env.keep]; rfl) ?_
        refine OkC.cond rfl (fun hb' => by cases hb') (fun hb' => ?_)
        refine OkC.skip ?_
        refine OkC.seqR 6 [9] G' hc (by simp [ti3, ti4, ti26, ti66, Env.ofArgs, evRegion, evOps, evOper, evVal, wantedV, kindOf, evW, evR, opd, opds, Env.get, Env.set, Env.dst, T.bind, T.of, newRow, V.cl, V.sc, rd, ldT, ldN, ld, stT, stN, st, fieldPlaces, isAggD, H.get_push, H.get_set, H.nx, Ad.add, unV, eqV, fits_u2, flatEq_u2, intOp, ibeq, partV, callee, calOf, callT, parts, fillC, placesL]; rfl) (by simp [Env.keep]; rfl) ?_
        refine OkC.ret ⟨.inr rfl, _, _, rfl, rfl, hx, rfl, ?_⟩
        rw [cmpI, if_neg h4, if_neg (by omega)]

set_option maxRecDepth 100000 in
set_option maxHeartbeats 2000000 in
theorem mul64 (G : Good2 (cfg o) w0) (m n : Nat) (hm : m < 18446744073709551616) (hn : n < 18446744073709551616) (h : H) :
    OkF (cfg o) w0 122 [V.u m, V.u n] h (fun p => p = (.tup [V.u (m * n / 18446744073709551616), V.u (m * n % 18446744073709551616)], h)) := by
  have hx := H.Ext.refl h
  have G' := G.toGood
  have hc := callT_ok (C := cfg o) (w0 := w0) noTab
  obtain ⟨e1, e2, e3, e4, e5, e6, e7, e8, e9⟩ := Go.Ix.mul64 m n hm hn
  refine OkF.forget (OkF.body G fn122 rfl ?_)
  refine OkC.seqR 2 [4,5,6,7,8,9,10,11,12,13] G' hc (by simp [ti3, ti4, ti26, ti66, Env.ofArgs, evRegion, evOps, evOper, evVal, wantedV, kindOf, evW, evR, opd, opds, Env.get, Env.set, Env.dst, T.bind, T.of, newRow, V.cl, V.sc, rd, ldT, ldN, ld, stT, stN, st, fieldPlaces, isAggD, H.get_push, H.get_set, H.nx, Ad.add, unV, eqV, fits_u2, flatEq_u2, intOp, ibeq, partV, callee, calOf, callT, parts, fillC, placesL]; rfl) (by simp [Env.keep]; rfl) ?_
  refine OkC.seqR 2 [4,5,6,7,8,9,10,11,12,13] G' hc (by simp [ti3, ti4, ti26, ti66, Env.ofArgs, evRegion, evOps, evOper, evVal, wantedV, kindOf, evW, evR, opd, opds, Env.get, Env.set, Env.dst, T.bind, T.of, newRow, V.cl, V.sc, rd, ldT, ldN, ld, stT, stN, st, fieldPlaces, isAggD, H.get_push, H.get_set, H.nx, Ad.add, unV, eqV, fits_u2, flatEq_u2, intOp, ibeq, partV, callee, calOf, callT, parts, fillC, placesL, u_and32]; rfl) (by simp [Env.keep]; rfl) ?_
  refine OkC.seqR 2 [4,5,6,7,8,9,10,11,12,13] G' hc (by simp [ti3, ti4, ti26, ti66, Env.ofArgs, evRegion, evOps, evOper, evVal, wantedV, kindOf, evW, evR, opd, opds, Env.get, Env.set, Env.dst, T.bind, T.of, newRow, V.cl, V.sc, rd, ldT, ldN, ld, stT, stN, st, fieldPlaces, isAggD, H.get_push, H.get_set, H.nx, Ad.add, unV, eqV, fits_u2, flatEq_u2, intOp, ibeq, partV, callee, calOf, callT, parts, fillC, placesL, u_shr32]; rfl) (by simp [Env.keep]; rfl) ?_
  refine OkC.seqR 2 [4,5,6,7,8,9,10,11,12,13] G' hc (by simp [ti3, ti4, ti26, ti66, Env.ofArgs, evRegion, evOps, evOper, evVal, wantedV, kindOf, evW, evR, opd, opds, Env.get, Env.set, Env.dst, T.bind, T.of, newRow, V.cl, V.sc, rd, ldT, ldN, ld, stT, stN, st, fieldPlaces, isAggD, H.get_push, H.get_set, H.nx, Ad.add, unV, eqV, fits_u2, flatEq_u2, intOp, ibeq, partV, callee, calOf, callT, parts, fillC, placesL, u_and32]; rfl) (by simp [Env.keep]; rfl) ?_
  refine OkC.seqR 2 [4,5,6,7,8,9,10,11,12,13] G' hc (by simp [ti3, ti4, ti26, ti66, Env.ofArgs, evRegion, evOps, evOper, evVal, wantedV, kindOf, evW, evR, opd, opds, Env.get, Env.set, Env.dst, T.bind, T.of, newRow, V.cl, V.sc, rd, ldT, ldN, ld, stT, stN, st, fieldPlaces, isAggD, H.get_push, H.get_set, H.nx, Ad.add, unV, eqV, fits_u2, flatEq_u2, intOp, ibeq, partV, callee, calOf, callT, parts, fillC, placesL, u_shr32]; rfl) (by simp [Env.keep]; rfl) ?_
  refine OkC.seqR 2 [4,5,6,7,8,9,10,11,12,13] G' hc (by simp [ti3, ti4, ti26, ti66, Env.ofArgs, evRegion, evOps, evOper, evVal, wantedV, kindOf, evW, evR, opd, opds, Env.get, Env.set, Env.dst, T.bind, T.of, newRow, V.cl, V.sc, rd, ldT, ldN, ld, stT, stN, st, fieldPlaces, isAggD, H.get_push, H.get_set, H.nx, Ad.add, unV, eqV, fits_u2, flatEq_u2, intOp, ibeq, partV, callee, calOf, callT, parts, fillC, placesL, u_mul]; rfl) (by simp [Env.keep]; rfl) ?_
  refine OkC.seqR 2 [4,5,6,7,8,9,10,11,12,13] G' hc (by simp [ti3, ti4, ti26, ti66, Env.ofArgs, evRegion, evOps, evOper, evVal, wantedV, kindOf, evW, evR, opd, opds, Env.get, Env.set, Env.dst, T.bind, T.of, newRow, V.cl, V.sc, rd, ldT, ldN, ld, stT, stN, st, fieldPlaces, isAggD, H.get_push, H.get_set, H.nx, Ad.add, unV, eqV, fits_u2, flatEq_u2, intOp, ibeq, partV, callee, calOf, callT, parts, fillC, placesL, u_mul, u_add, u_shr32]; rfl) (by simp [Env.keep]; rfl) ?_
  refine OkC.seqR 2 [4,5,6,7,8,9,10,11,12,13] G' hc (by simp [ti3, ti4, ti26, ti66, Env.ofArgs, evRegion, evOps, evOper, evVal, wantedV, kindOf, evW, evR, opd, opds, Env.get, Env.set, Env.dst, T.bind, T.of, newRow, V.cl, V.sc, rd, ldT, ldN, ld, stT, stN, st, fieldPlaces, isAggD, H.get_push, H.get_set, H.nx, Ad.add, unV, eqV, fits_u2, flatEq_u2, intOp, ibeq, partV, callee, calOf, callT, parts, fillC, placesL, u_and32]; rfl) (by simp [Env.keep]; rfl) ?_
  refine OkC.seqR 2 [4,5,6,7,8,9,10,11,12,13] G' hc (by simp [ti3, ti4, ti26, ti66, Env.ofArgs, evRegion, evOps, evOper, evVal, wantedV, kindOf, evW, evR, opd, opds, Env.get, Env.set, Env.dst, T.bind, T.of, newRow, V.cl, V.sc, rd, ldT, ldN, ld, stT, stN, st, fieldPlaces, isAggD, H.get_push, H.get_set, H.nx, Ad.add, unV, eqV, fits_u2, flatEq_u2, intOp, ibeq, partV, callee, calOf, callT, parts, fillC, placesL, u_shr32]; rfl) (by simp [Env.keep]; rfl) ?_
  refine OkC.seqR 2 [4,5,6,7,8,9,10,11,12,13] G' hc (by simp [ti3, ti4, ti26, ti66, Env.ofArgs, evRegion, evOps, evOper, evVal, wantedV, kindOf, evW, evR, opd, opds, Env.get, Env.set, Env.dst, T.bind, T.of, newRow, V.cl, V.sc, rd, ldT, ldN, ld, stT, stN, st, fieldPlaces, isAggD, H.get_push, H.get_set, H.nx, Ad.add, unV, eqV, fits_u2, flatEq_u2, intOp, ibeq, partV, callee, calOf, callT, parts, fillC, placesL, u_mul, u_add]; rfl) (by simp [Env.keep]; rfl) ?_
  refine OkC.seqR 2 [4,5,6,7,8,9,10,11,12,13] G' hc (by simp [ti3, ti4, ti26, ti66, Env.ofArgs, evRegion, evOps, evOper, evVal, wantedV, kindOf, evW, evR, opd, opds, Env.get, Env.set, Env.dst, T.bind, T.of, newRow, V.cl, V.sc, rd, ldT, ldN, ld, stT, stN, st, fieldPlaces, isAggD, H.get_push, H.get_set, H.nx, Ad.add, unV, eqV, fits_u2, flatEq_u2, intOp, ibeq, partV, callee, calOf, callT, parts, fillC, placesL, u_mul, u_add, u_shr32]; rfl) (by simp [Env.keep]; rfl) ?_
  refine OkC.seqR 2 [4,5,6,7,8,9,10,11,12,13] G' hc (by simp [ti3, ti4, ti26, ti66, Env.ofArgs, evRegion, evOps, evOper, evVal, wantedV, kindOf, evW, evR, opd, opds, Env.get, Env.set, Env.dst, T.bind, T.of, newRow, V.cl, V.sc, rd, ldT, ldN, ld, stT, stN, st, fieldPlaces, isAggD, H.get_push, H.get_set, H.nx, Ad.add, unV, eqV, fits_u2, flatEq_u2, intOp, ibeq, partV, callee, calOf, callT, parts, fillC, placesL, u_mul]; rfl) (by simp [Env.keep]; rfl) ?_
  refine OkC.ret ⟨.inr rfl, _, _, rfl, rfl, hx, rfl, ?_⟩
  rw [e1] at e4
  simp only [Nat.mod_eq_of_lt e5, Nat.mod_eq_of_lt e6, Nat.mod_eq_of_lt e7, Nat.mod_eq_of_lt e8, Nat.mod_eq_of_lt e2, Nat.mod_eq_of_lt e3, Nat.mod_eq_of_lt e9, e1, Nat.mod_eq_of_lt e4]

/-- Summaries. -/
def gCmp : List V → H → T (V × H)
  | [.agg [x, y], .agg [z, w]], h => match unU x, unU y, unU z, unU w with
    | some a, some b, some c, some d => .ret (.int .i64 (cmpI a b c d), h)
    | _, _, _, _ => .fail
  | _, _ => .fail

theorem gCmp_eq (a b c d : Nat) (h : H) : gCmp [.agg [V.u a, V.u b], .agg [V.u c, V.u d]] h = .ret (.int .i64 (cmpI a b c d), h) := rfl

theorem cmp_sum (G : Good2 (cfg o) w0) : Sum (cfg o) w0 59 gCmp := by
  intro vs h Q hq
  unfold gCmp at hq
  split at hq
  · split at hq
    · rename_i a b c d h1 h2 h3 h4
      rw [unU_eq h1, unU_eq h2, unU_eq h3, unU_eq h4]
      exact (cmp G a b c d h).mono fun p hp => hp ▸ hq
    · exact hq.elim
  · exact hq.elim

def gMul64 : List V → H → T (V × H)
  | [x, y], h => match unU x, unU y with
    | some a, some b => if a < 18446744073709551616 ∧ b < 18446744073709551616 then .ret (.tup [V.u (a * b / 18446744073709551616), V.u (a * b % 18446744073709551616)], h) else .fail
    | _, _ => .fail
  | _, _ => .fail

theorem gMul64_eq (a b : Nat) (h : H) (ha : a < 18446744073709551616) (hb : b < 18446744073709551616) : gMul64 [V.u a, V.u b] h = .ret (.tup [V.u (a * b / 18446744073709551616), V.u (a * b % 18446744073709551616)], h) := if_pos ⟨ha, hb⟩

theorem mul64_sum (G : Good2 (cfg o) w0) : Sum (cfg o) w0 122 gMul64 := by
  intro vs h Q hq
  unfold gMul64 at hq
  split at hq
  · split at hq
    · rename_i a b h1 h2
      split at hq
      · rename_i hc
        rw [unU_eq h1, unU_eq h2]
        exact (mul64 G a b hc.1 hc.2 h).mono fun p hp => hp ▸ hq
      · exact hq.elim
    · exact hq.elim
  · exact hq.elim

theorem fn98 : (cfg o).P.funcs[98]? = some Tryz.f98 := Tryz.func98
theorem tab122 (G : Good2 (cfg o) w0) : TabOk (cfg o) w0 (fun f => if f = 122 then some gMul64 else none) := fun f g hg => by
  simp only at hg
  split at hg
  · rename_i hf; obtain rfl := Option.some.inj hg; subst hf; exact mul64_sum G
  · cases hg

set_option maxRecDepth 100000 in
set_option maxHeartbeats 2000000 in
theorem mul (G : Good2 (cfg o) w0) (m n : Nat) (hm : m < 18446744073709551616) (hn : n < 18446744073709551616) (h : H) :
    OkF (cfg o) w0 98 [V.u m, V.u n] h (fun p => p = (wd (m * n / 18446744073709551616) (m * n % 18446744073709551616), h)) := by
  have G' := G.toGood
  have hc := callT_ok (tab122 G)
  refine OkF.forget (OkF.body G fn98 rfl ?_)
  refine OkC.seqR 2 [4,5,6] G' hc (by simp [ti3, ti4, ti26, ti66, Env.ofArgs, evRegion, evOps, evOper, evVal, wantedV, kindOf, evW, evR, opd, opds, Env.get, Env.set, Env.dst, T.bind, T.of, newRow, V.cl, V.sc, rd, ldT, ldN, ld, stT, stN, st, fieldPlaces, isAggD, H.get_push, H.get_set, H.nx, Ad.add, unV, eqV, fits_u2, flatEq_u2, intOp, ibeq, partV, callee, calOf, callT, parts, fillC, placesL, ti66]; rfl) (by simp [Env.keep]; rfl) ?_
  refine OkC.seqR 2 [4,5,6] G' hc (by simp [ti3, ti4, ti26, ti66, Env.ofArgs, evRegion, evOps, evOper, evVal, wantedV, kindOf, evW, evR, opd, opds, Env.get, Env.set, Env.dst, T.bind, T.of, newRow, V.cl, V.sc, rd, ldT, ldN, ld, stT, stN, st, fieldPlaces, isAggD, H.get_push, H.get_set, H.nx, Ad.add, unV, eqV, fits_u2, flatEq_u2, intOp, ibeq, partV, callee, calOf, callT, parts, fillC, placesL, gMul64_eq, hm, hn]; rfl) (by simp [Env.keep]; rfl) ?_
  refine OkC.seqR 2 [4,5,6] G' hc (by simp [ti3, ti4, ti26, ti66, Env.ofArgs, evRegion, evOps, evOper, evVal, wantedV, kindOf, evW, evR, opd, opds, Env.get, Env.set, Env.dst, T.bind, T.of, newRow, V.cl, V.sc, rd, ldT, ldN, ld, stT, stN, st, fieldPlaces, isAggD, H.get_push, H.get_set, H.nx, Ad.add, unV, eqV, fits_u2, flatEq_u2, intOp, ibeq, partV, callee, calOf, callT, parts, fillC, placesL, ti66, ti26]; rfl) (by simp [Env.keep]; rfl) ?_
  refine OkC.ret ⟨.inr rfl, _, _, rfl, (by simp [Tryz.f98, results, resV, ti3, ti4, ti26, ti66, Env.get, ldT, ldN, ld, isAggD, H.get_push, H.get_set, H.nx, Ad.add, ti66] <;> rfl), (((H.Ext.refl h).push _).set (Nat.le_refl _) _).set (Nat.le_refl _) _, rfl, rfl⟩

def gMul : List V → H → T (V × H)
  | [x, y], h => match unU x, unU y with
    | some a, some b => if a < 18446744073709551616 ∧ b < 18446744073709551616 then .ret (wd (a * b / 18446744073709551616) (a * b % 18446744073709551616), h) else .fail
    | _, _ => .fail
  | _, _ => .fail

theorem gMul_eq (a b : Nat) (h : H) (ha : a < 18446744073709551616) (hb : b < 18446744073709551616) : gMul [V.u a, V.u b] h = .ret (wd (a * b / 18446744073709551616) (a * b % 18446744073709551616), h) := if_pos ⟨ha, hb⟩

theorem mul_sum (G : Good2 (cfg o) w0) : Sum (cfg o) w0 98 gMul := by
  intro vs h Q hq
  unfold gMul at hq
  split at hq
  · split at hq
    · rename_i a b h1 h2
      split at hq
      · rename_i hc
        rw [unU_eq h1, unU_eq h2]
        exact (mul G a b hc.1 hc.2 h).mono fun p hp => hp ▸ hq
      · exact hq.elim
    · exact hq.elim
  · exact hq.elim

theorem fn97 : (cfg o).P.funcs[97]? = some Tryz.f97 := Tryz.func97
theorem tabSqrt (G : Good2 (cfg o) w0) : TabOk (cfg o) w0 (fun f => if f = 98 then some gMul else if f = 59 then some gCmp else none) := fun f g hg => by
  simp only at hg
  split at hg
  · rename_i hf; obtain rfl := Option.some.inj hg; subst hf; exact mul_sum G
  · split at hg
    · rename_i hf; obtain rfl := Option.some.inj hg; subst hf; exact cmp_sum G
    · cases hg
end Zd
end Go.Ix
namespace Go.Ix
open Go.Proofs
namespace Zd
variable {o : Nat → Nat → Option V} {w0 : World}

theorem cmpI_le {a b c d : Nat} (hb : b < 18446744073709551616) (hd : d < 18446744073709551616) : cmpI a b c d ≤ 0 ↔ a * 18446744073709551616 + b ≤ c * 18446744073709551616 + d := by
  unfold cmpI
  split
  · rename_i h; obtain ⟨rfl, rfl⟩ := h; simp
  · split <;> omega

/-- The root's bits, from the k-th on. -/
def sqF (N : Nat) : Nat → Nat → Nat
  | 0, r => if (r ||| 1) * (r ||| 1) ≤ N then r ||| 1 else r
  | k + 1, r => sqF N k (if (r ||| 2 ^ (k + 1)) * (r ||| 2 ^ (k + 1)) ≤ N then r ||| 2 ^ (k + 1) else r)

def SqI (N hi lo : Nat) (h : H) (s : S) : Prop :=
  ∃ k r, k ≤ 63 ∧ r < 18446744073709551616 ∧ sqF N k r = sqF N 63 0 ∧ s = ⟨[(0, .agg [V.u hi, V.u lo]), (1, .ptr (some ⟨.new h.next, 0⟩)), (2, .int .u64 0), (3, V.u r), (4, V.u (2 ^ k))], [], h.push (.cells [V.u hi, V.u lo] 0)⟩

def sqM (s : S) : Nat := match s.env.get 4 with
  | some v => match unU v with
    | some n => n
    | none => 0
  | none => 0

set_option maxRecDepth 100000 in
set_option maxHeartbeats 2000000 in
theorem sqrt (G : Good2 (cfg o) w0) (hi lo : Nat) (hlo : lo < 18446744073709551616) (h : H) :
    OkF (cfg o) w0 97 [wd hi lo] h (fun p => p = (V.u (sqF (hi * 18446744073709551616 + lo) 63 0), h)) := by
  have hx := (H.Ext.refl h).push (.cells [V.u hi, V.u lo] 0)
  have G' := G.toGood
  have hc := callT_ok (tabSqrt G)
  unfold wd
  refine OkF.forget (OkF.body G fn97 rfl ?_)
  refine OkC.seqR 6 [14,17] G' hc (by simp [ti3, ti4, ti26, ti66, Env.ofArgs, evRegion, evOps, evOper, evVal, wantedV, kindOf, evW, evR, opd, opds, Env.get, Env.set, Env.dst, T.bind, T.of, newRow, V.cl, V.sc, rd, ldT, ldN, ld, stT, stN, st, fieldPlaces, isAggD, H.get_push, H.get_set, H.nx, Ad.add, unV, eqV, fits_u2, flatEq_u2, intOp, ibeq, partV, callee, calOf, callT, parts, fillC, placesL]; rfl) (by simp [Env.keep]; rfl) ?_
  refine OkC.scope ?_
  refine OkC.seqR 6 [14,17] G' hc (by simp [ti3, ti4, ti26, ti66, Env.ofArgs, evRegion, evOps, evOper, evVal, wantedV, kindOf, evW, evR, opd, opds, Env.get, Env.set, Env.dst, T.bind, T.of, newRow, V.cl, V.sc, rd, ldT, ldN, ld, stT, stN, st, fieldPlaces, isAggD, H.get_push, H.get_set, H.nx, Ad.add, unV, eqV, fits_u2, flatEq_u2, intOp, ibeq, partV, callee, calOf, callT, parts, fillC, placesL]; rfl) (by simp [Env.keep]; rfl) ?_
  refine OkC.seqR 6 [14,17] G' hc (by simp [ti3, ti4, ti26, ti66, Env.ofArgs, evRegion, evOps, evOper, evVal, wantedV, kindOf, evW, evR, opd, opds, Env.get, Env.set, Env.dst, T.bind, T.of, newRow, V.cl, V.sc, rd, ldT, ldN, ld, stT, stN, st, fieldPlaces, isAggD, H.get_push, H.get_set, H.nx, Ad.add, unV, eqV, fits_u2, flatEq_u2, intOp, ibeq, partV, callee, calOf, callT, parts, fillC, placesL]; rfl) (by simp [Env.keep]; rfl) ?_
  refine OkC.seq (OkC.label ?_)
  refine OkC.seq (OkC.block ?_)
  refine OkC.loop (SqI (hi * 18446744073709551616 + lo) hi lo h) sqM ?_ ?_
  · exact ⟨63, 0, Nat.le_refl _, by decide, rfl, rfl⟩
  · rintro s ⟨k, r, hk, hr, hs, rfl⟩
    have hp : 2 ^ k < 18446744073709551616 := Nat.lt_of_lt_of_le (Nat.pow_lt_pow_right (by decide) (Nat.lt_succ_of_le hk)) (by decide)
    have hrp : r ||| 2 ^ k < 18446744073709551616 := Nat.or_lt_two_pow (n := 64) hr hp
    refine OkC.block ?_
    have hcmp : (cmpI ((r ||| 2 ^ k) * (r ||| 2 ^ k) / 18446744073709551616) ((r ||| 2 ^ k) * (r ||| 2 ^ k) % 18446744073709551616) hi lo ≤ 0) ↔ (r ||| 2 ^ k) * (r ||| 2 ^ k) ≤ hi * 18446744073709551616 + lo := by
      rw [cmpI_le (Nat.mod_lt _ (by decide)) hlo]
      omega
    refine OkC.seq (OkC.mono (Q := fun p => p = (Ex.normal, (⟨[(0, .agg [V.u hi, V.u lo]), (1, .ptr (some ⟨.new h.next, 0⟩)), (2, .int .u64 0), (3, V.u (if (r ||| 2 ^ k) * (r ||| 2 ^ k) ≤ hi * 18446744073709551616 + lo then r ||| 2 ^ k else r)), (4, V.u (2 ^ k))], [], h.push (.cells [V.u hi, V.u lo] 0)⟩ : S))) ?_ ?_)
    · refine OkC.seqR 6 [14,17] G' hc (by simp [ti3, ti4, ti26, ti66, Env.ofArgs, evRegion, evOps, evOper, evVal, wantedV, kindOf, evW, evR, opd, opds, Env.get, Env.set, Env.dst, T.bind, T.of, newRow, V.cl, V.sc, rd, ldT, ldN, ld, stT, stN, st, fieldPlaces, isAggD, H.get_push, H.get_set, H.nx, Ad.add, unV, eqV, fits_u2, flatEq_u2, intOp, ibeq, partV, callee, calOf, callT, parts, fillC, placesL, u_or, hr, hp]; rfl) (by simp [Env.keep]; rfl) ?_
      refine OkC.seqR 6 [14,17] G' hc ((evRegion_draw (segs := [⟨[0, 1, 3], [], [], some 2⟩, ⟨[], [3], [], some 4⟩, ⟨[5], [], [], none⟩]) (by kernel_rfl) (by kernel_rfl)).trans (by simp [ti3, ti4, ti26, ti66, Env.ofArgs, evRegion, evOps, evOper, evVal, wantedV, kindOf, evW, evR, opd, opds, Env.get, Env.set, Env.dst, T.bind, T.of, newRow, V.cl, V.sc, rd, ldT, ldN, ld, stT, stN, st, fieldPlaces, isAggD, H.get_push, H.get_set, H.nx, Ad.add, unV, eqV, fits_u2, flatEq_u2, intOp, ibeq, partV, callee, calOf, callT, parts, fillC, placesL, evSegs, evIdx, chk, V.beq_self, gMul_eq, gCmp_eq, hrp, wd, ti66, i_leq]; rfl)) (by simp [Env.keep]; rfl) ?_
      refine OkC.cond rfl (fun hb => ?_) (fun hb => ?_)
      · rw [decide_eq_true_eq, hcmp] at hb
        refine OkC.reg 5 [] G' hc (by simp [ti3, ti4, ti26, ti66, Env.ofArgs, evRegion, evOps, evOper, evVal, wantedV, kindOf, evW, evR, opd, opds, Env.get, Env.set, Env.dst, T.bind, T.of, newRow, V.cl, V.sc, rd, ldT, ldN, ld, stT, stN, st, fieldPlaces, isAggD, H.get_push, H.get_set, H.nx, Ad.add, unV, eqV, fits_u2, flatEq_u2, intOp, ibeq, partV, callee, calOf, callT, parts, fillC, placesL]; rfl) (by simp [Env.keep]; rfl) ?_
        rw [if_pos hb]
      · rw [decide_eq_false_iff_not, hcmp] at hb
        refine OkC.skipK 5 [] (by simp [Env.keep]; rfl) ?_
        rw [if_neg hb]
    · rintro _ rfl
      have hr' : (if (r ||| 2 ^ k) * (r ||| 2 ^ k) ≤ hi * 18446744073709551616 + lo then r ||| 2 ^ k else r) < 18446744073709551616 := by split <;> assumption
      generalize hrr : (if (r ||| 2 ^ k) * (r ||| 2 ^ k) ≤ hi * 18446744073709551616 + lo then r ||| 2 ^ k else r) = r' at *
      refine OkC.seq ?_
      refine OkC.seqR 6 [14,17] G' hc (by simp [ti3, ti4, ti26, ti66, Env.ofArgs, evRegion, evOps, evOper, evVal, wantedV, kindOf, evW, evR, opd, opds, Env.get, Env.set, Env.dst, T.bind, T.of, newRow, V.cl, V.sc, rd, ldT, ldN, ld, stT, stN, st, fieldPlaces, isAggD, H.get_push, H.get_set, H.nx, Ad.add, unV, eqV, fits_u2, flatEq_u2, intOp, ibeq, partV, callee, calOf, callT, parts, fillC, placesL, u_eql1]; rfl) (by simp [Env.keep]; rfl) ?_
      refine OkC.cond rfl (fun hb => ?_) (fun hb => ?_)
      · rw [decide_eq_true_eq] at hb
        have hk0 : k = 0 := by
          cases k with
          | zero => rfl
          | succ j => have := Nat.one_lt_two_pow (n := j + 1) (by omega); omega
        subst hk0
        have hr2 : r' = sqF (hi * 18446744073709551616 + lo) 63 0 := by rw [← hs, ← hrr]; rfl
        refine OkC.exit ?_
        refine OkC.seqR 6 [14,17] G' hc (by simp [ti3, ti4, ti26, ti66, Env.ofArgs, evRegion, evOps, evOper, evVal, wantedV, kindOf, evW, evR, opd, opds, Env.get, Env.set, Env.dst, T.bind, T.of, newRow, V.cl, V.sc, rd, ldT, ldN, ld, stT, stN, st, fieldPlaces, isAggD, H.get_push, H.get_set, H.nx, Ad.add, unV, eqV, fits_u2, flatEq_u2, intOp, ibeq, partV, callee, calOf, callT, parts, fillC, placesL]; rfl) (by simp [Env.keep]; rfl) ?_
        refine OkC.ret ⟨.inr rfl, _, _, rfl, rfl, hx, rfl, ?_⟩
        rw [hr2]
      · rw [decide_eq_false_iff_not] at hb
        refine OkC.skip ?_
        refine OkC.reg 5 [] G' hc (by simp [ti3, ti4, ti26, ti66, Env.ofArgs, evRegion, evOps, evOper, evVal, wantedV, kindOf, evW, evR, opd, opds, Env.get, Env.set, Env.dst, T.bind, T.of, newRow, V.cl, V.sc, rd, ldT, ldN, ld, stT, stN, st, fieldPlaces, isAggD, H.get_push, H.get_set, H.nx, Ad.add, unV, eqV, fits_u2, flatEq_u2, intOp, ibeq, partV, callee, calOf, callT, parts, fillC, placesL, u_shr1]; rfl) (by simp [Env.keep]; rfl) ?_
        cases k with
        | zero => exact absurd rfl hb
        | succ j =>
          have hj : 2 ^ (j + 1) / 2 = 2 ^ j := by rw [Nat.pow_succ]; omega
          have h1 : 0 < 2 ^ j := Nat.two_pow_pos j
          rw [hj]
          refine ⟨⟨j, r', by omega, hr', ?_, rfl⟩, ?_⟩
          · rw [← hs, ← hrr]; rfl
          · show 2 ^ j < 2 ^ (j + 1)
            rw [Nat.pow_succ]; omega
end Zd
end Go.Ix
namespace Go.Ix
open Go.Proofs
namespace Zd
variable {o : Nat → Nat → Option V} {w0 : World}

def gAdd64 : List V → H → T (V × H)
  | [x, y, c], h => match unU x, unU y, unU c with
    | some x, some y, some c => if c ≤ 1 then .ret (.tup [V.u ((x + y + c) % 18446744073709551616), V.u ((x + y + c) / 18446744073709551616)], h) else .fail
    | _, _, _ => .fail
  | _, _ => .fail

theorem gAdd64_eq (x y c : Nat) (h : H) (hc : c ≤ 1) : gAdd64 [V.u x, V.u y, V.u c] h = .ret (.tup [V.u ((x + y + c) % 18446744073709551616), V.u ((x + y + c) / 18446744073709551616)], h) := if_pos hc
theorem gAdd64_eq0 (x y : Nat) (h : H) : gAdd64 [V.u x, V.u y, .int .u64 0] h = .ret (.tup [V.u ((x + y) % 18446744073709551616), V.u ((x + y) / 18446744073709551616)], h) := rfl

theorem fn163 : (cfg o).P.funcs[163]? = some Tryz.f163 := Tryz.func163

theorem add64_sum (G : Good2 (cfg o) w0) : Sum (cfg o) w0 163 gAdd64 := by
  intro vs h Q hq
  unfold gAdd64 at hq
  split at hq
  · split at hq
    · rename_i x y c h1 h2 h3
      split at hq
      · rename_i hc
        rw [unU_eq h1, unU_eq h2, unU_eq h3]
        refine OkF.of_ev G 1 ?_
        have hs : (cfg o).sum 163 = none := rfl
        have hb : Tryz.f163.body = none := rfl
        have ho : Tryz.f163.origin = "" := rfl
        have hn : Tryz.f163.name = "math/bits.Add64" := rfl
        have hc' : ¬ (c > 1) := by omega
        simp only [ev, hs, fn163, hb, ho, hn, if_true, ext, V.u, Int.toNat_natCast, hc', if_false]
        exact hq
      · exact hq.elim
    · exact hq.elim
  · exact hq.elim

theorem fn121 : (cfg o).P.funcs[121]? = some Tryz.f121 := Tryz.func121
theorem tabAdd (G : Good2 (cfg o) w0) : TabOk (cfg o) w0 (fun f => if f = 163 then some gAdd64 else none) := fun f g hg => by
  simp only at hg
  split at hg
  · rename_i hf; obtain rfl := Option.some.inj hg; subst hf; exact add64_sum G
  · cases hg

/-- The sum of two wide numbers, and whether there is one. -/
def addW (a b c d : Nat) : V :=
  if 18446744073709551616 ≤ a + c + (b + d) / 18446744073709551616 then .tup [.agg [.int .u64 0, .int .u64 0], .int .i64 10]
  else .tup [wd ((a + c + (b + d) / 18446744073709551616) % 18446744073709551616) ((b + d) % 18446744073709551616), .int .i64 0]

set_option maxRecDepth 100000 in
set_option maxHeartbeats 2000000 in
theorem add (G : Good2 (cfg o) w0) (a b c d : Nat) (hb : b < 18446744073709551616) (hd : d < 18446744073709551616) (h : H) :
    OkF (cfg o) w0 121 [wd a b, wd c d] h (fun p => p = (addW a b c d, h)) := by
  have G' := G.toGood
  have hc := callT_ok (tabAdd G)
  have hcar : (b + d) / 18446744073709551616 ≤ 1 := by omega
  unfold wd
  refine OkF.forget (OkF.body G fn121 rfl ?_)
  refine OkC.seqR 9 [27] G' hc (by simp [ti3, ti4, ti26, ti66, Env.ofArgs, evRegion, evOps, evOper, evVal, wantedV, kindOf, evW, evR, opd, opds, Env.get, Env.set, Env.dst, T.bind, T.of, newRow, V.cl, V.sc, rd, ldT, ldN, ld, stT, stN, st, fieldPlaces, isAggD, H.get_push, H.get_set, H.nx, Ad.add, unV, eqV, fits_u2, flatEq_u2, intOp, ibeq, partV, callee, calOf, callT, parts, fillC, placesL, ti66]; rfl) (by simp [Env.keep]; rfl) ?_
  refine OkC.seqR 9 [27] G' hc (by simp [ti3, ti4, ti26, ti66, Env.ofArgs, evRegion, evOps, evOper, evVal, wantedV, kindOf, evW, evR, opd, opds, Env.get, Env.set, Env.dst, T.bind, T.of, newRow, V.cl, V.sc, rd, ldT, ldN, ld, stT, stN, st, fieldPlaces, isAggD, H.get_push, H.get_set, H.nx, Ad.add, unV, eqV, fits_u2, flatEq_u2, intOp, ibeq, partV, callee, calOf, callT, parts, fillC, placesL, ti66, ti26, gAdd64_eq0]; rfl) (by simp [Env.keep]; rfl) ?_
  refine OkC.seqR 9 [27] G' hc (by simp [ti3, ti4, ti26, ti66, Env.ofArgs, evRegion, evOps, evOper, evVal, wantedV, kindOf, evW, evR, opd, opds, Env.get, Env.set, Env.dst, T.bind, T.of, newRow, V.cl, V.sc, rd, ldT, ldN, ld, stT, stN, st, fieldPlaces, isAggD, H.get_push, H.get_set, H.nx, Ad.add, unV, eqV, fits_u2, flatEq_u2, intOp, ibeq, partV, callee, calOf, callT, parts, fillC, placesL, ti66, ti26, gAdd64_eq, hcar]; rfl) (by simp [Env.keep]; rfl) ?_
  refine OkC.seq ?_
  refine OkC.seqR 9 [27] G' hc (by simp [ti3, ti4, ti26, ti66, Env.ofArgs, evRegion, evOps, evOper, evVal, wantedV, kindOf, evW, evR, opd, opds, Env.get, Env.set, Env.dst, T.bind, T.of, newRow, V.cl, V.sc, rd, ldT, ldN, ld, stT, stN, st, fieldPlaces, isAggD, H.get_push, H.get_set, H.nx, Ad.add, unV, eqV, fits_u2, flatEq_u2, intOp, ibeq, partV, callee, calOf, callT, parts, fillC, placesL, u_gtr0]; rfl) (by simp [Env.keep]; rfl) ?_
  refine OkC.cond rfl (fun hb' => ?_) (fun hb' => ?_)
  · rw [decide_eq_true_eq] at hb'
    refine OkC.seqR 9 [27] G' hc (by simp [ti3, ti4, ti26, ti66, Env.ofArgs, evRegion, evOps, evOper, evVal, wantedV, kindOf, evW, evR, opd, opds, Env.get, Env.set, Env.dst, T.bind, T.of, newRow, V.cl, V.sc, rd, ldT, ldN, ld, stT, stN, st, fieldPlaces, isAggD, H.get_push, H.get_set, H.nx, Ad.add, unV, eqV, fits_u2, flatEq_u2, intOp, ibeq, partV, callee, calOf, callT, parts, fillC, placesL]; rfl) (by simp [Env.keep]; rfl) ?_
    refine OkC.ret ⟨.inr rfl, _, _, rfl, (by simp [Tryz.f121, results, resV, ti66, Env.get, ldT, ldN, ld, isAggD, H.get_push, H.get_set, H.nx, Ad.add] <;> rfl), ?_, ?_, ?_⟩
    · exact (((((H.Ext.refl h).push _).push _).push _).set (by simp) _).set (by simp) _
    · rfl
    · rw [addW, if_pos hb']
  · rw [decide_eq_false_iff_not] at hb'
    refine OkC.skip ?_
    refine OkC.seqR 9 [27] G' hc (by simp [ti3, ti4, ti26, ti66, Env.ofArgs, evRegion, evOps, evOper, evVal, wantedV, kindOf, evW, evR, opd, opds, Env.get, Env.set, Env.dst, T.bind, T.of, newRow, V.cl, V.sc, rd, ldT, ldN, ld, stT, stN, st, fieldPlaces, isAggD, H.get_push, H.get_set, H.nx, Ad.add, unV, eqV, fits_u2, flatEq_u2, intOp, ibeq, partV, callee, calOf, callT, parts, fillC, placesL]; rfl) (by simp [Env.keep]; rfl) ?_
    refine OkC.ret ⟨.inr rfl, _, _, rfl, (by simp [Tryz.f121, results, resV, ti66, Env.get, ldT, ldN, ld, isAggD, H.get_push, H.get_set, H.nx, Ad.add] <;> rfl), ?_, ?_, ?_⟩
    · exact (((((H.Ext.refl h).push _).push _).push _).set (by simp) _).set (by simp) _
    · rfl
    · rw [addW, if_neg hb']; rfl
end Zd
end Go.Ix
namespace Go.Ix
open Go.Proofs
namespace Zd
variable {o : Nat → Nat → Option V} {w0 : World}

def gAdd : List V → H → T (V × H)
  | [.agg [x, y], .agg [z, w]], h => match unU x, unU y, unU z, unU w with
    | some a, some b, some c, some d => if b < 18446744073709551616 ∧ d < 18446744073709551616 then .ret (addW a b c d, h) else .fail
    | _, _, _, _ => .fail
  | _, _ => .fail

theorem gAdd_eq (a b c d : Nat) (h : H) (hb : b < 18446744073709551616) (hd : d < 18446744073709551616) : gAdd [.agg [V.u a, V.u b], .agg [V.u c, V.u d]] h = .ret (addW a b c d, h) := if_pos ⟨hb, hd⟩

theorem add_sum (G : Good2 (cfg o) w0) : Sum (cfg o) w0 121 gAdd := by
  intro vs h Q hq
  unfold gAdd at hq
  split at hq
  · split at hq
    · rename_i a b c d h1 h2 h3 h4
      split at hq
      · rename_i hc
        rw [unU_eq h1, unU_eq h2, unU_eq h3, unU_eq h4]
        exact (add G a b c d hc.1 hc.2 h).mono fun p hp => hp ▸ hq
      · exact hq.elim
    · exact hq.elim
  · exact hq.elim

def gSqrt : List V → H → T (V × H)
  | [.agg [x, y]], h => match unU x, unU y with
    | some a, some b => if b < 18446744073709551616 then .ret (V.u (sqF (a * 18446744073709551616 + b) 63 0), h) else .fail
    | _, _ => .fail
  | _, _ => .fail

theorem gSqrt_eq (a b : Nat) (h : H) (hb : b < 18446744073709551616) : gSqrt [.agg [V.u a, V.u b]] h = .ret (V.u (sqF (a * 18446744073709551616 + b) 63 0), h) := if_pos hb

theorem sqrt_sum (G : Good2 (cfg o) w0) : Sum (cfg o) w0 97 gSqrt := by
  intro vs h Q hq
  unfold gSqrt at hq
  split at hq
  · split at hq
    · rename_i a b h1 h2
      split at hq
      · rename_i hc
        rw [unU_eq h1, unU_eq h2]
        exact (sqrt G a b hc h).mono fun p hp => hp ▸ hq
      · exact hq.elim
    · exact hq.elim
  · exact hq.elim

def tabL : List (Nat × (List V → H → T (V × H))) := [(122, gMul64), (98, gMul), (59, gCmp), (121, gAdd), (97, gSqrt), (163, gAdd64)]

def tabOf (l : List (Nat × (List V → H → T (V × H)))) (f : FuncId) : Option (List V → H → T (V × H)) := match l with
  | [] => none
  | (g, s) :: r => if Nat.beq g f then some s else tabOf r f

theorem tabOf_ok {C : Cfg} : ∀ {l : List (Nat × (List V → H → T (V × H)))}, (∀ p ∈ l, Sum C w0 p.1 p.2) → TabOk C w0 (tabOf l)
  | [], _, f, g, h => by cases h
  | (k, s) :: r, hl, f, g, h => by
    unfold tabOf at h
    split at h
    · rename_i hk
      obtain rfl := Option.some.inj h
      rw [← Nat.eq_of_beq_eq_true hk]
      exact hl _ (.head _)
    · exact tabOf_ok (fun p hp => hl p (.tail _ hp)) f g h

theorem tabL_ok (G : Good2 (cfg o) w0) : TabOk (cfg o) w0 (tabOf tabL) := tabOf_ok fun p hp => by
  simp only [tabL, List.mem_cons, List.not_mem_nil, or_false] at hp
  rcases hp with rfl | rfl | rfl | rfl | rfl | rfl
  · exact mul64_sum G
  · exact mul_sum G
  · exact cmp_sum G
  · exact add_sum G
  · exact sqrt_sum G
  · exact add64_sum G

noncomputable def cfgS (o : Nat → Nat → Option V) : Cfg := { P := Tryz.prog, ti := tiOf Tryz.prog, old := o, keep := fun f => keepL.getD f (0, []), sum := tabOf tabL }

theorem goodS (G : Good2 (cfg o) w0) : Good2 (cfgS o) w0 where
  ti := G.ti
  old := G.old
  mixed := G.mixed
  dst := G.dst
  names := G.names
  sum := fun f g hg vs h Q μ w X hq r hX => tabL_ok G f g hg vs h Q hq μ w X r hX
end Zd
end Go.Ix
