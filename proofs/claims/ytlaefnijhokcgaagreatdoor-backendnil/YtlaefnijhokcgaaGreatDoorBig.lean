/- Ix: what BackendNil calls: big of one call, and the examples. -/
import Derived.Test.YtlaefnijhokcgaaGreatDoorWide
set_option linter.unusedSimpArgs false
set_option linter.unusedVariables false
set_option linter.unusedSectionVars false
namespace Go.Ix
open Go.Proofs
namespace Zd
variable {o : Nat → Nat → Option V} {w0 : World}

def gVec0 : List V → H → T (V × H)
  | [.slice none 0 (.ex 0), .int .i64 32768], h => .ret (.int .i64 0, h)
  | _, _ => .fail

theorem fn12 : (cfg o).P.funcs[12]? = some Tryz.f12 := Tryz.func12

def bigH (x1 x2 x3 x4 x5 : Int) (s1 s2 : Option Ad) (n1 n2 : Nat) (c1 c2 : Cap) : O :=
  .cells [.int .i64 x1, .int .i64 x2, .int .i64 x3, .int .i64 x4, .int .i64 x5, .slice s1 n1 c1, .slice s2 n2 c2] 0

theorem tabBig (hv : Sum (cfg o) w0 35 gVec0) : TabOk (cfg o) w0 (fun f => if f = 35 then some gVec0 else none) := fun f g hg => by
  simp only at hg
  split at hg
  · rename_i hf; obtain rfl := Option.some.inj hg; subst hf; exact hv
  · cases hg

def BigI (k : Nat) (h : H) (s : S) : Prop :=
  s = ⟨[(0, .slice none 0 (.ex 0)), (1, .slice (some ⟨.new k, 0⟩) 1 (.ex 1)), (4, .bool false), (5, .int .i64 0), (6, .int .i64 0)], [], h⟩ ∨
  ∃ m, s = ⟨[(0, .slice none 0 (.ex 0)), (1, .slice (some ⟨.new k, 0⟩) 1 (.ex 1)), (4, .bool false), (5, .int .i64 m), (6, .int .i64 1)], [], h⟩

def bigM (s : S) : Nat := match s.env.get 6 with
  | some (.int _ n) => (1 - n).toNat
  | _ => 0

set_option maxRecDepth 100000 in
set_option maxHeartbeats 2000000 in
theorem big1 (G : Good2 (cfg o) w0) (hv : Sum (cfg o) w0 35 gVec0) {k : Nat} {h : H} {x1 x2 x3 x4 x5 : Int} {s1 s2 : Option Ad} {n1 n2 : Nat} {c1 c2 : Cap} (hk : h.get k = some (bigH x1 x2 x3 x4 x5 s1 s2 n1 n2 c1 c2)) :
    OkF (cfg o) w0 12 [.slice none 0 (.ex 0), .slice (some ⟨.new k, 0⟩) 1 (.ex 1)] h (fun p => p.2 = h ∧ ∃ b, p.1 = .bool b) := by
  have hx := H.Ext.refl h
  have G' := G.toGood
  have hc := callT_ok (tabBig hv)
  refine OkF.forget (OkF.body G fn12 rfl ?_)
  refine OkC.seqR 2 [4,5,6,19,27] G' hc (by simp [ti3, ti4, ti26, ti66, Env.ofArgs, evRegion, evOps, evOper, evVal, wantedV, kindOf, evW, evR, opd, opds, Env.get, Env.set, Env.dst, T.bind, T.of, newRow, V.cl, V.sc, rd, ldT, ldN, ld, stT, stN, st, fieldPlaces, isAggD, H.get_push, H.get_set, H.nx, Ad.add, unV, eqV, fits_u2, flatEq_u2, intOp, ibeq, partV, callee, calOf, callT, parts, fillC, placesL]; rfl) (by simp [Env.keep]; rfl) ?_
  refine OkC.seq ?_
  refine OkC.seqR 2 [4,5,6,19,27] G' hc (by simp [ti3, ti4, ti26, ti66, Env.ofArgs, evRegion, evOps, evOper, evVal, wantedV, kindOf, evW, evR, opd, opds, Env.get, Env.set, Env.dst, T.bind, T.of, newRow, V.cl, V.sc, rd, ldT, ldN, ld, stT, stN, st, fieldPlaces, isAggD, H.get_push, H.get_set, H.nx, Ad.add, unV, eqV, fits_u2, flatEq_u2, intOp, ibeq, partV, callee, calOf, callT, parts, fillC, placesL, ti29, ti22, lenV, gVec0, i_gtr]; rfl) (by simp [Env.keep]; rfl) ?_
  refine OkC.cond rfl (fun hb => by simp at hb) (fun hb => ?_)
  refine OkC.skipK 5 [] (by simp [Env.keep]; rfl) ?_
  refine OkC.seqR 2 [4,5,6,19,27] G' hc (by simp [ti3, ti4, ti26, ti66, Env.ofArgs, evRegion, evOps, evOper, evVal, wantedV, kindOf, evW, evR, opd, opds, Env.get, Env.set, Env.dst, T.bind, T.of, newRow, V.cl, V.sc, rd, ldT, ldN, ld, stT, stN, st, fieldPlaces, isAggD, H.get_push, H.get_set, H.nx, Ad.add, unV, eqV, fits_u2, flatEq_u2, intOp, ibeq, partV, callee, calOf, callT, parts, fillC, placesL]; rfl) (by simp [Env.keep]; rfl) ?_
  refine OkC.seq ?_
  refine OkC.seqR 2 [4,5,6,19,27] G' hc (by simp [ti3, ti4, ti26, ti66, Env.ofArgs, evRegion, evOps, evOper, evVal, wantedV, kindOf, evW, evR, opd, opds, Env.get, Env.set, Env.dst, T.bind, T.of, newRow, V.cl, V.sc, rd, ldT, ldN, ld, stT, stN, st, fieldPlaces, isAggD, H.get_push, H.get_set, H.nx, Ad.add, unV, eqV, fits_u2, flatEq_u2, intOp, ibeq, partV, callee, calOf, callT, parts, fillC, placesL]; rfl) (by simp [Env.keep]; rfl) ?_
  refine OkC.block ?_
  refine OkC.loop (BigI k h) bigM (.inl rfl) ?_
  rintro s (rfl | ⟨m, rfl⟩)
  · refine OkC.seq ?_
    refine OkC.seqR 2 [4,5,6,19,27] G' hc (by simp [ti3, ti4, ti26, ti66, Env.ofArgs, evRegion, evOps, evOper, evVal, wantedV, kindOf, evW, evR, opd, opds, Env.get, Env.set, Env.dst, T.bind, T.of, newRow, V.cl, V.sc, rd, ldT, ldN, ld, stT, stN, st, fieldPlaces, isAggD, H.get_push, H.get_set, H.nx, Ad.add, unV, eqV, fits_u2, flatEq_u2, intOp, ibeq, partV, callee, calOf, callT, parts, fillC, placesL, ti29, lenV, i_lss, i_leq]; rfl) (by simp [Env.keep]; rfl) ?_
    refine OkC.cond rfl (fun hb => ?_) (fun hb => by simp at hb)
    refine OkC.skipK 7 [] (by simp [Env.keep]; rfl) ?_
    refine OkC.seq (OkC.block ?_)
    refine OkC.reg 7 [] G' hc ((evRegion_draw (segs := [⟨[0, 1, 2, 3, 4, 5, 6, 7, 8, 9, 10, 11, 12, 13, 14, 15, 16], [], [], none⟩]) (by kernel_rfl) (by kernel_rfl)).trans (by simp [ti3, ti4, ti26, ti66, Env.ofArgs, evRegion, evOps, evOper, evVal, wantedV, kindOf, evW, evR, opd, opds, Env.get, Env.set, Env.dst, T.bind, T.of, newRow, V.cl, V.sc, rd, ldT, ldN, ld, stT, stN, st, fieldPlaces, isAggD, H.get_push, H.get_set, H.nx, Ad.add, unV, eqV, fits_u2, flatEq_u2, intOp, ibeq, partV, callee, calOf, callT, parts, fillC, placesL, evSegs, evIdx, chk, V.beq_self, ti29, ti30, ti52, ti54, lenV, hk, bigH, i_add]; rfl)) (by simp [Env.keep]; rfl) ?_
    refine OkC.reg 7 [] G' hc (by simp [ti3, ti4, ti26, ti66, Env.ofArgs, evRegion, evOps, evOper, evVal, wantedV, kindOf, evW, evR, opd, opds, Env.get, Env.set, Env.dst, T.bind, T.of, newRow, V.cl, V.sc, rd, ldT, ldN, ld, stT, stN, st, fieldPlaces, isAggD, H.get_push, H.get_set, H.nx, Ad.add, unV, eqV, fits_u2, flatEq_u2, intOp, ibeq, partV, callee, calOf, callT, parts, fillC, placesL, i_add]; rfl) (by simp [Env.keep]; rfl) ?_
    exact ⟨.inr ⟨_, rfl⟩, (by decide : (1 - IntKind.i64.wrap 1).toNat < ((1 : Int) - 0).toNat)⟩
  · refine OkC.seq ?_
    refine OkC.seqR 2 [4,5,6,19,27] G' hc (by simp [ti3, ti4, ti26, ti66, Env.ofArgs, evRegion, evOps, evOper, evVal, wantedV, kindOf, evW, evR, opd, opds, Env.get, Env.set, Env.dst, T.bind, T.of, newRow, V.cl, V.sc, rd, ldT, ldN, ld, stT, stN, st, fieldPlaces, isAggD, H.get_push, H.get_set, H.nx, Ad.add, unV, eqV, fits_u2, flatEq_u2, intOp, ibeq, partV, callee, calOf, callT, parts, fillC, placesL, ti29, lenV, i_lss, i_leq]; rfl) (by simp [Env.keep]; rfl) ?_
    refine OkC.cond rfl (fun hb => by simp at hb) (fun hb => ?_)
    refine OkC.exitK 7 [] (by simp [Env.keep]; rfl) ?_
    refine OkC.seqR 2 [4,5,6,19,27] G' hc (by simp [ti3, ti4, ti26, ti66, Env.ofArgs, evRegion, evOps, evOper, evVal, wantedV, kindOf, evW, evR, opd, opds, Env.get, Env.set, Env.dst, T.bind, T.of, newRow, V.cl, V.sc, rd, ldT, ldN, ld, stT, stN, st, fieldPlaces, isAggD, H.get_push, H.get_set, H.nx, Ad.add, unV, eqV, fits_u2, flatEq_u2, intOp, ibeq, partV, callee, calOf, callT, parts, fillC, placesL, i_gtr]; rfl) (by simp [Env.keep]; rfl) ?_
    refine OkC.ret ⟨.inr rfl, _, _, rfl, rfl, hx, rfl, ?_⟩
    exact ⟨rfl, _, rfl⟩

def gBig : List V → H → T (V × H)
  | [.slice none 0 (.ex 0), .slice (some ⟨.new k, 0⟩) 1 (.ex 1)], h => match h.get k with
    | some (.cells [.int .i64 _, .int .i64 _, .int .i64 _, .int .i64 _, .int .i64 _, .slice _ _ _, .slice _ _ _] 0) => .ask 2 fun i => .ret (.bool (Nat.beq i 0), h)
    | _ => .fail
  | _, _ => .fail

theorem big_sum (G : Good2 (cfg o) w0) (hv : Sum (cfg o) w0 35 gVec0) : Sum (cfg o) w0 12 gBig := by
  intro vs h Q hq
  unfold gBig at hq
  split at hq
  · split at hq
    · rename_i hk
      refine (big1 G hv hk).mono ?_
      rintro ⟨v, h'⟩ ⟨rfl, b, rfl⟩
      cases b with
      | true => exact hq 0 (by decide)
      | false => exact hq 1 (by decide)
    · exact hq.elim
  · exact hq.elim

def allB {α : Type} (q : α → Bool) : T α → Bool
  | .ret a => q a
  | .fail => false
  | .ask n k => (List.range n).all fun i => allB q (k i)
  | .spec _ _ _ => false

theorem allB_all {α : Type} {q : α → Bool} : ∀ {t : T α}, allB q t = true → t.all fun a => q a = true
  | .ret _, h => h
  | .fail, h => by cases h
  | .ask n k, h => fun i hi => allB_all (List.all_eq_true.1 h i (List.mem_range.2 hi))
  | .spec _ _ _, h => by cases h
end Zd
end Go.Ix
