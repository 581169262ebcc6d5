/- Ix: operations that change memory. · Ix: maps that are written; append, copy, clear; ranges. · Ix: append, copy, delete, clear; every operation that changes memory. · Ix: delete, copy, clear; every operation that changes memory. · Ix: calls, and one operation of a region. · Ix: code. · Ix: calls of functions, rounds of ranges over functions: the evaluator is sound. -/
import Derived.Test.YtlaefnijhokcgaaGreatDoorIxA
set_option linter.unusedSimpArgs false
set_option linter.unusedVariables false
set_option linter.unusedSectionVars false
namespace Go.Ix
open Go.RowKit (Below)
section
variable {C : Cfg} {w0 : World} {μ : Mu} {h : H} {w : World} {e : Env} {a : Act} {o : Oper} {v : V}

def WrOk (C : Cfg) (w0 : World) (μ : Mu) (h : H) (w : World) (a : Act) (o : Oper) (v : V) (h' : H) : Prop :=
  ∃ μ' w' nx x, (execOp a.eval o).run C.P w = .ok nx w' ∧ (nx = .value x ∨ (nx = .skip ∧ x = undef)) ∧ conc μ' v = some x ∧ Sim w0 μ h w μ' h' w'

theorem newRow_sound (r : R w0 μ h w) {cs : List V} {ad : Ad} {h' : H} (hn : newRow cs h = some (ad, h')) {X : Array Value} (hc : concL μ cs = some X.toList) (el : TypeId) (P : Program) :
    ∃ μ' y, ad.c μ' = some y ∧ ((Go.newRow el X).run P w = .ok y (w.alloc (.cells X el))) ∧ Sim w0 μ h w μ' h' (w.alloc (.cells X el)) := by
  unfold newRow at hn
  split at hn
  · simp only [Option.some.injEq, Prod.mk.injEq] at hn
    obtain ⟨rfl, rfl⟩ := hn
    have hl := concL_length hc
    refine ⟨μ.up h.next ⟨w.heap.size, 0, 0⟩, ⟨w.heap.size, 0, none⟩, by simp [Ad.c, Mu.up_self], by simp [Go.newRow], ?_⟩
    exact Sim.push r _ _ 0 0 ⟨X, el, X.toList, rfl, hc, by simp [← hl, List.take_of_length_le], by simp⟩
  · cases hn

theorem write_alloc (G : Good C w0) (r : R w0 μ h w) {t : TypeId} (ho : o.op = .alloc t) {Q : V × H → Prop} (hv : (evW C (.alloc t) e h).all Q) : ∃ v h', Q (v, h') ∧ WrOk C w0 μ h w a o v h' := by
  simp only [evW] at hv
  split at hv
  · rename_i i hi
    obtain ⟨⟨v, h'⟩, h1, h2⟩ := T.all_of.1 hv
    cases hn : newRow i.zero h with
    | none => simp [hn] at h1
    | some p =>
      obtain ⟨ad, h''⟩ := p
      simp only [hn, Option.map_some, Option.some.injEq, Prod.mk.injEq] at h1
      obtain ⟨rfl, rfl⟩ := h1
      obtain ⟨z, hz1, hz2, hz3⟩ := run_zero G hi w
      obtain ⟨μ', y, g1, g2, g3⟩ := newRow_sound r hn (hz3 μ) t C.P
      exact ⟨_, _, h2, μ', _, _, .pointer (some y), by simp [execOp, ho, Instr.alloc, hz1, newVar, g2], .inl rfl, by simp [conc, g1], g3⟩
  · exact hv.elim

theorem write_box (r : R w0 μ h w) (he : ER μ e a.tmps) {t : TypeId} {x : Operand} (ho : o.op = .box t x) {Q : V × H → Prop} (hv : (evW C (.box t x) e h).all Q) : ∃ v h', Q (v, h') ∧ WrOk C w0 μ h w a o v h' := by
  simp only [evW] at hv
  split at hv
  · rename_i u hu
    have hx := opd_sound he hu
    obtain ⟨⟨v, h'⟩, h1, h2⟩ := T.all_of.1 hv
    cases hn : newRow u.cells h with
    | none => simp [hn] at h1
    | some p =>
      obtain ⟨ad, h''⟩ := p
      simp only [hn, Option.map_some, Option.some.injEq, Prod.mk.injEq] at h1
      obtain ⟨rfl, rfl⟩ := h1
      obtain ⟨μ', y, g1, g2, g3⟩ := newRow_sound r hn (conc_cells hx) t C.P
      exact ⟨_, _, h2, μ', _, _, .pointer (some y), by simp [execOp, ho, Instr.box, newVar, g2], .inl rfl, by simp [conc, g1], g3⟩
  · exact hv.elim

theorem rep_length (n : Nat) (cs : List V) : (rep n cs).length = n * cs.length := by
  induction n with
  | zero => simp [rep]
  | succ n ih => simp [rep, ih, Nat.add_mul, Nat.add_comm]

theorem rep_get (n : Nat) (cs : List V) (i : Nat) (hi : i < n * cs.length) : (rep n cs)[i]? = cs[i % cs.length]? := by
  induction n generalizing i with
  | zero => simp at hi
  | succ n ih =>
    simp only [rep]
    rcases Nat.lt_or_ge i cs.length with hlt | hge
    · rw [List.getElem?_append_left hlt, Nat.mod_eq_of_lt hlt]
    · rw [List.getElem?_append_right hge, ih _ (by rw [Nat.add_mul] at hi; omega), Nat.mod_eq_sub_mod hge]

theorem concL_of_get {vs : List V} : ∀ {xs : List Value}, xs.length = vs.length → (∀ (i : Nat) (v : V), vs[i]? = some v → ∃ x, xs[i]? = some x ∧ conc μ v = some x) → concL μ vs = some xs := by
  induction vs with
  | nil => intro xs hl _; simp at hl; subst hl; rfl
  | cons v r ih =>
    intro xs hl hg
    cases xs with
    | nil => simp at hl
    | cons x s =>
      obtain ⟨y, h1, h2⟩ := hg 0 v rfl
      simp at h1
      subst h1
      exact concL_cons h2 (ih (by simpa using hl) fun i u hu => by simpa using hg (i + 1) u (by simpa using hu))

/-- A row of zero values, as the machine lays it. -/
theorem zeros_conc {z : Array Value} {cs : List V} (hz : concL μ cs = some z.toList) (n : Nat) :
    concL μ (rep n cs) = some ((Array.range (n * z.size)).map (fun i => z[i % z.size]!)).toList := by
  have hl := concL_length hz
  simp only [Array.length_toList] at hl
  refine concL_of_get (by simp [rep_length, hl]) fun i v hv => ?_
  have hi : i < n * cs.length := by
    have := (List.getElem?_eq_some_iff.1 hv).1
    rwa [rep_length] at this
  rw [rep_get n cs i hi] at hv
  obtain ⟨x, h1, h2⟩ := concL_get hz _ v hv
  refine ⟨x, ?_, h2⟩
  rw [← hl] at hi h1
  have hpos : 0 < z.size := by rcases Nat.eq_zero_or_pos z.size with h0 | h0
                               · rw [h0] at hi; omega
                               · exact h0
  have hm : i % z.size < z.size := Nat.mod_lt _ hpos
  simp only [Array.getElem?_toList, Array.getElem?_map, Array.getElem?_range, hi, if_true, Option.map_some, Option.some.injEq]
  simp only [Array.getElem?_toList] at h1
  simp [getElem!_def, h1]

theorem write_buildSlice (G : Good C w0) (r : R w0 μ h w) (he : ER μ e a.tmps) {t : TypeId} {n : Nat} {ps : Array (Nat × Operand)} (ho : o.op = .buildSlice t n ps) {Q : V × H → Prop}
    (hv : (evW C (.buildSlice t n ps) e h).all Q) : ∃ v h', Q (v, h') ∧ WrOk C w0 μ h w a o v h' := by
  simp only [evW] at hv
  split at hv
  · rename_i i vs hi hp
    split at hv
    · rename_i el hd
      split at hv
      · rename_i j hj
        split at hv
        · rename_i hsz
          split at hv
          · rename_i cs hf
            obtain ⟨⟨v, h'⟩, h1, h2⟩ := T.all_of.1 hv
            cases hn : newRow cs h with
            | none => simp [hn] at h1
            | some p =>
              obtain ⟨ad, h''⟩ := p
              simp only [hn, Option.map_some, Option.some.injEq, Prod.mk.injEq] at h1
              obtain ⟨rfl, rfl⟩ := h1
              obtain ⟨g1, g2⟩ := parts_sound he hp
              obtain ⟨z, hz1, hz2, hz3⟩ := run_zero G hj w
              have hzl : z.cells.size = j.size := by
                have := concL_length (hz3 μ)
                simp only [Array.length_toList] at this
                rw [this, (G.ti el j hj).zlen]
              have hmap : (ps.map fun (i, x) => (i, a.eval x)).toList = ps.toList.map fun p => (p.1, a.eval p.2) := by simp
              have hnn : vs.map (·.1) = (ps.toList.map fun p => (p.1, a.eval p.2)).map (·.1) := by rw [g1]; simp
              have hzero : concL μ (rep n j.zero) = some ((Array.range (n * j.size)).map (fun i => (if n * j.size = 0 then #[] else z.cells)[i % (if n * j.size = 0 then (#[] : Array Value) else z.cells).size]!)).toList := by
                by_cases h0 : n * j.size = 0
                · have : rep n j.zero = [] := List.eq_nil_of_length_eq_zero (by rw [rep_length, (G.ti el j hj).zlen, h0])
                  rw [this, h0]; simp [concL]
                · simp only [h0, if_false]
                  have := zeros_conc (hz3 μ) n
                  rw [hzl] at this
                  rw [hzl]
                  exact this
              obtain ⟨res, r1, r2⟩ := fill_sound vs _ _ _ cs hnn g2 hzero hf
              obtain ⟨μ', y, k1, k2, k3⟩ := newRow_sound r hn r2 el C.P
              refine ⟨_, _, h2, μ', _, _, .slice (some y) n n, ?_, .inl rfl, by simp [conc, k1], k3⟩
              simp only [execOp, ho, Instr.buildSlice, Sem.run_bind, run_und G hi, Result.andThen_ok, hd, run_size G hj, Sem.run_ite, Sem.run_pure]
              rw [if_neg (by omega)]
              by_cases h0 : n * j.size = 0
              · simp only [h0, if_true] at r1 ⊢
                simp only [hmap]
                rw [r1]
                simp [k2]
              · simp only [h0, if_false] at r1 ⊢
                simp only [hz1, Result.andThen_ok, hmap]
                rw [r1]
                simp [k2]
          · exact hv.elim
        · exact hv.elim
      · exact hv.elim
    · exact hv.elim
  · exact hv.elim

theorem write_makeSlice (G : Good C w0) (r : R w0 μ h w) (he : ER μ e a.tmps) {t : TypeId} {l c : Operand} (ho : o.op = .makeSlice t l c) {Q : V × H → Prop}
    (hv : (evW C (.makeSlice t l c) e h).all Q) : ∃ v h', Q (v, h') ∧ WrOk C w0 μ h w a o v h' := by
  simp only [evW] at hv
  split at hv
  · rename_i i k1 l' k2 c' hi hl hc
    have hL := conc_int (opd_sound he hl)
    have hC := conc_int (opd_sound he hc)
    split at hv
    · rename_i el hd
      split at hv
      · rename_i j hj
        split at hv
        · rename_i hb
          obtain ⟨b1, b2, b3, b4⟩ := hb
          obtain ⟨⟨v, h'⟩, h1, h2⟩ := T.all_of.1 hv
          cases hn : newRow (rep c'.toNat j.zero) h with
          | none => simp [hn] at h1
          | some p =>
            obtain ⟨ad, h''⟩ := p
            simp only [hn, Option.map_some, Option.some.injEq, Prod.mk.injEq] at h1
            obtain ⟨rfl, rfl⟩ := h1
            obtain ⟨f, z, f1, f2, f3, f4, hz2, hz3⟩ := run_tinfo G hj w
            have hzl : z.cells.size = j.size := by
              have := concL_length (hz3 μ)
              simp only [Array.length_toList] at this
              rw [this, (G.ti el j hj).zlen]
            have hz1 : (zeroValue el).run C.P w = .ok z w := by simp [zeroValue, f1, f4]
            have hzero : concL μ (rep c'.toNat j.zero) = some ((Array.range (c'.toNat * j.size)).map (fun i => (if c'.toNat * j.size = 0 then #[] else z.cells)[i % (if c'.toNat * j.size = 0 then (#[] : Array Value) else z.cells).size]!)).toList := by
              by_cases h0 : c'.toNat * j.size = 0
              · have : rep c'.toNat j.zero = [] := List.eq_nil_of_length_eq_zero (by rw [rep_length, (G.ti el j hj).zlen, h0])
                rw [this, h0]; simp [concL]
              · simp only [h0, if_false]
                have := zeros_conc (hz3 μ) c'.toNat
                rw [hzl] at this
                rw [hzl]
                exact this
            obtain ⟨μ', y, k1', k2', k3'⟩ := newRow_sound r hn hzero el C.P
            have w1 : IntKind.i64.wrap l' = l' := by unfold IntKind.wrap; simp [IntKind.bits, IntKind.signed]; omega
            have w2 : IntKind.i64.wrap c' = c' := by unfold IntKind.wrap; simp [IntKind.bits, IntKind.signed]; omega
            refine ⟨_, _, h2, μ', _, _, .slice (some y) l'.toNat c'.toNat, ?_, .inl rfl, by simp [conc, k1'], k3'⟩
            have hbytes : ¬ ((f.bytes : Int) * c' > 2 ^ 48) := by
              rw [f3, Int.mul_comm]; omega
            simp only [execOp, ho, Instr.makeSlice, Sem.run_bind, run_und G hi, Result.andThen_ok, hd, hL, hC, asInt, asIntOf, Sem.run_pure, f1, w1, w2]
            have hcond : (decide (c' < 0) || decide ((f.bytes : Int) * c' > 2 ^ 48) || decide (l' < 0) || decide (l' > c')) = false := by
              simp only [Bool.or_eq_false_iff, decide_eq_false_iff_not]
              exact ⟨⟨⟨by omega, hbytes⟩, by omega⟩, by omega⟩
            simp only [hcond, Bool.false_eq_true, if_false, Result.andThen_ok, Sem.run_bind, run_askRoom, run_size G hj]
            by_cases h0 : c'.toNat * j.size = 0
            · simp only [h0, if_true] at k2' ⊢
              simp only [Sem.run_pure, Result.andThen_ok, Sem.run_bind]
              rw [k2']
              simp
            · simp only [h0, if_false] at k2' ⊢
              simp only [Sem.run_bind, hz1, Sem.run_pure, Result.andThen_ok]
              rw [k2']
              simp
        · exact hv.elim
      · exact hv.elim
    · exact hv.elim
  · exact hv.elim

theorem write_makeMap (r : R w0 μ h w) {t : TypeId} {rs : Option Operand} (ho : o.op = .makeMap t rs) {Q : V × H → Prop} (hv : (evW C (.makeMap t rs) e h).all Q) : ∃ v h', Q (v, h') ∧ WrOk C w0 μ h w a o v h' := by
  cases rs with
  | some x => exact hv.elim
  | none =>
    refine ⟨_, _, hv, μ.up h.next ⟨w.heap.size, 0, 0⟩, w.alloc (.map #[] 0), _, .map (some w.heap.size), by simp [execOp, ho, Instr.makeMap], .inl rfl, by simp [conc, Id.c, Mu.up_self], ?_⟩
    exact Sim.push r _ _ 0 0 ⟨#[], rfl, trivial⟩

/-! Stores -/

theorem st_sound (r : R w0 μ h w) {ad : Ad} {u : V} {x : Value} {h' : H} (hs : st ad u h = some h') (hx : conc μ u = some x) {y : Addr} (hy : ad.c μ = some y) (P : Program) :
    (store y x).run P w = .ok () (w.setCell y x) ∧ Sim w0 μ h w μ h' (w.setCell y x) := by
  unfold st at hs
  cases hb : ad.blk with
  | old b => simp [hb] at hs
  | new k =>
    simp only [hb] at hs
    cases hk : h.get k with
    | none => simp [hk] at hs
    | some ob =>
      cases ob <;> simp only [hk] at hs <;> try (cases hs; done)
      rename_i vs es
      split at hs
      · rename_i hcond
        simp only [Bool.and_eq_true, decide_eq_true_eq] at hcond
        obtain rfl := Option.some.inj hs
        obtain ⟨en, ob, h1, h2, h3, c, el, xs, h4, h5, h6, h7⟩ := r.obj k _ hk rfl
        subst h4
        simp only [Ad.c, hb, h1, Option.map_some, Option.some.injEq] at hy
        subst hy
        have hlen := concL_length h5
        have hin : en.base + ad.off < c.size := by
          have : xs.length ≤ c.size - en.base := by
            rw [← h6]; simp; omega
          omega
        have hcell : w.cell? ⟨en.blk, en.base + ad.off, none⟩ = some c[en.base + ad.off] := by
          simp [World.cell?, h3, hin]
        have hfr : w.frozen? ⟨en.blk, en.base + ad.off, none⟩ = false := by simp [World.frozen?, h3]
        refine ⟨by rw [run_store P w _ x .plain (conc_scalar hx hcond.1)]; simp [hcell, hfr], ?_⟩
        refine Sim.set r (e := en) (ob' := .cells (c.setIfInBounds (en.base + ad.off) x) el (0, 0)) hk rfl h1 rfl rfl rfl (by simp) ?_ ?_
        · intro b
          simp only [World.setCell, Array.getElem?_modify]
          by_cases hbb : b = en.blk
          · subst hbb; simp [h3]
          · rw [if_neg (Ne.symm hbb), if_neg hbb]
        · refine ⟨_, el, xs.set ad.off x, rfl, concL_set h5 _ hx, ?_, by simpa using h7⟩
          rw [← h6]
          simp only [Array.toList_setIfInBounds, List.length_set]
          rw [List.drop_set, if_neg (by omega), List.take_set]
          congr 1
          omega
      · cases hs

theorem stN_sound (P : Program) : ∀ (vs : List V) {h h' : H} {w : World} {xs : List Value} {ad : Ad} {y : Addr} (i : Nat), R w0 μ h w → stN (ad.add i) vs h = some h' → concL μ vs = some xs → ad.c μ = some y →
    ∃ w', (storeCells y xs i).run P w = .ok () w' ∧ Sim w0 μ h w μ h' w'
  | [], h, h', w, xs, ad, y, i, r, hs, hx, hy => by
    simp only [concL, Option.some.injEq] at hx
    subst hx
    simp only [stN, Option.some.injEq] at hs
    subst hs
    exact ⟨w, rfl, Sim.refl r⟩
  | u :: rest, h, h', w, xs, ad, y, i, r, hs, hx, hy => by
    obtain ⟨x, ys, rfl, h1, h2⟩ := concL_cons_inv hx
    simp only [stN] at hs
    cases hst : st (ad.add i) u h with
    | none => simp [hst] at hs
    | some h1' =>
      simp only [hst] at hs
      obtain ⟨g1, g2⟩ := st_sound r hst h1 (Ad.c_add hy i).1 P
      obtain ⟨w', g3, g4⟩ := stN_sound P rest (i + 1) g2.rel hs h2 hy
      exact ⟨w', by simp only [storeCells, Sem.run_bind, g1, Result.andThen_ok, g3], g2.trans g4⟩

theorem write_store (G : Good C w0) (r : R w0 μ h w) (he : ER μ e a.tmps) {t : TypeId} {x y : Operand} (ho : o.op = .store t x y) {Q : V × H → Prop} (hv : (evW C (.store t x y) e h).all Q) : ∃ v h', Q (v, h') ∧ WrOk C w0 μ h w a o v h' := by
  simp only [evW] at hv
  split at hv
  · rename_i ad u hx hy
    obtain ⟨Y, hY, hX⟩ := conc_ptr (opd_sound he hx)
    have hU := opd_sound he hy
    obtain ⟨⟨v, h'⟩, h1, h2⟩ := T.all_of.1 hv
    unfold stT at h1
    cases hi : C.ti t with
    | none => simp [hi] at h1
    | some i =>
      simp only [hi] at h1
      split at h1
      · rename_i hsz
        cases hn : stN ad u.cells h with
        | none => simp [hn] at h1
        | some h'' =>
          simp only [hn, Option.map_some, Option.some.injEq, Prod.mk.injEq] at h1
          obtain ⟨rfl, rfl⟩ := h1
          have hcl := conc_cells hU
          have hl := concL_length hcl
          simp only [Array.length_toList] at hl
          obtain ⟨w', g1, g2⟩ := stN_sound C.P u.cells (ad := ad) 0 r hn hcl hY
          refine ⟨_, _, h2, μ, w', .skip, undef, ?_, .inr ⟨rfl, rfl⟩, rfl, g2⟩
          simp [execOp, ho, Instr.storeAt, Instr.sureAddr, hX, storeVar, run_size G hi, hl, hsz, g1]
      · simp at h1
  · exact hv.elim

end
end Go.Ix
namespace Go.Ix
open Go.RowKit (Below)
section
variable {C : Cfg} {w0 : World} {μ : Mu} {h : H} {w : World} {e : Env} {a : Act} {o : Oper} {v : V}

theorem setObj_run {P : Program} {n : Nat} {ob ob' : Obj} (hn : w.heap[n]? = some ob) (hc : ∀ c el fz, ob ≠ .cells c el fz) :
    (setObj n ob').run P w = .ok () { w with heap := w.heap.setIfInBounds n ob' } := by
  cases ob <;> simp_all [setObj, Sem.run]

/-- A block that is no row of cells is written. -/
theorem Sim.setObj (r : R w0 μ h w) {k : Nat} {ob ob' : O} {en : En} {x : Obj} (hk : h.get k = some ob) (hl : ob.live = true) (he : μ k = some en) (ho : OR μ en ob' x) :
    Sim w0 μ h w μ (h.set k ob') { w with heap := w.heap.setIfInBounds en.blk x } := by
  have hlt := r.blk_lt hk hl he
  refine Sim.set r hk hl he rfl rfl rfl (by simp) (fun b => ?_) ho
  simp only [Array.getElem?_setIfInBounds]
  by_cases hb : b = en.blk
  · subst hb; simp [hlt]
  · rw [if_neg (Ne.symm hb), if_neg hb]

theorem mapAt_new {k : Nat} {es : List MapE} {c : Nat} (hm : mapAt h (.new k) = some (es, c)) : h.get k = some (.map es c) := by
  simp only [mapAt] at hm
  cases hk : h.get k with
  | none => simp [hk] at hm
  | some ob =>
    cases ob <;> simp only [hk] at hm <;> try (cases hm; done)
    simp only [Option.some.injEq, Prod.mk.injEq] at hm
    rw [hm.1, hm.2]

theorem MR_mod {f : MapE → MapE} {g : MapEntry → MapEntry} (hfg : ∀ m x, conc μ m.key = some x.key → conc μ m.val = some x.val → m.born = x.born →
    conc μ (f m).key = some (g x).key ∧ conc μ (f m).val = some (g x).val ∧ (f m).born = (g x).born) : ∀ {es : List MapE} {xs : List MapEntry} (i : Nat), MR μ es xs → MR μ (modE i f es) (xs.modify i g)
  | [], [], i, _ => by simp [modE, MR]
  | [], _ :: _, _, hm => hm.elim
  | _ :: _, [], _, hm => hm.elim
  | m :: es, x :: xs, 0, hm => by
    obtain ⟨m1, m2, m3, m4⟩ := hm
    obtain ⟨g1, g2, g3⟩ := hfg m x m1 m2 m3
    exact ⟨g1, g2, g3, m4⟩
  | m :: es, x :: xs, i + 1, hm => ⟨hm.1, hm.2.1, hm.2.2.1, MR_mod hfg i hm.2.2.2⟩

theorem MR_snoc {m : MapE} {x : MapEntry} (h1 : conc μ m.key = some x.key) (h2 : conc μ m.val = some x.val) (h3 : m.born = x.born) : ∀ {es : List MapE} {xs : List MapEntry}, MR μ es xs → MR μ (es ++ [m]) (xs ++ [x])
  | [], [], _ => ⟨h1, h2, h3, trivial⟩
  | [], _ :: _, hm => hm.elim
  | _ :: _, [], hm => hm.elim
  | _ :: _, _ :: _, hm => ⟨hm.1, hm.2.1, hm.2.2.1, MR_snoc h1 h2 h3 hm.2.2.2⟩

theorem MR_erase : ∀ {es : List MapE} {xs : List MapEntry} (i : Nat), MR μ es xs → MR μ (es.eraseIdx i) (xs.eraseIdx i)
  | [], [], i, _ => by simp [MR]
  | [], _ :: _, _, hm => hm.elim
  | _ :: _, [], _, hm => hm.elim
  | _ :: _, _ :: _, 0, hm => hm.2.2.2
  | _ :: _, _ :: _, i + 1, hm => ⟨hm.1, hm.2.1, hm.2.2.1, MR_erase i hm.2.2.2⟩

theorem bytes_iff (a b : ByteArray) : (a == b) = true ↔ a = b := by
  cases a; cases b
  show ByteArray.beq _ _ = true ↔ _
  unfold ByteArray.beq
  simp

theorem stays_run {P : Program} {k l : V} {K L : Value} (hK : conc μ k = some K) (hL : conc μ l = some L) (hb : keyEq k l = some true) : (Instr.keyThatStays L K).run P w = .ok K w := by
  have e1 : ∃ d, (10000 : Nat) = d + 1 := ⟨9999, rfl⟩
  obtain ⟨d, hd⟩ := e1
  have hs : Instr.sameBits 10000 L K = true := by
    rw [hd]
    unfold keyEq at hb
    split at hb
    · split at hb
      · rename_i hkl
        rw [conc_int hK, conc_int hL]
        simp only [Option.some.injEq, beq_iff_eq] at hb
        simp [Instr.sameBits, hkl, hb]
      · cases hb
    · rw [conc_str hK, conc_str hL]
      simp only [Option.some.injEq] at hb
      simp only [Instr.sameBits]
      rw [(bytes_iff _ _).1 hb]; exact (bytes_iff _ _).2 rfl
    · rw [conc_bool hK, conc_bool hL]
      simp only [Option.some.injEq, beq_iff_eq] at hb
      simp [Instr.sameBits, hb]
    · cases hb
  simp [Instr.keyThatStays, hs]

theorem mapUpd_sound (G : Good C w0) (r : R w0 μ h w) {t : TypeId} {m k u : V} {M K U : Value} {h' : H} (hM : conc μ m = some M) (hK : conc μ k = some K) (hU : conc μ u = some U)
    (hv : mapUpdV C t m k u h = some h') : ∃ w', (Instr.mapUpdate t M K U).run C.P w = .ok () w' ∧ Sim w0 μ h w μ h' w' := by
  unfold mapUpdV at hv
  split at hv
  · rename_i kt vt sz by' z fl hi
    split at hv
    · rename_i ki id hki
      split at hv
      · rename_i hkind
        obtain ⟨n, hn, rfl⟩ := conc_map hM
        split at hv
        · rename_i es c hma
          obtain ⟨arr, g1, g2⟩ := mapAt_sound r hma hn
          have hget := mapAt_new hma
          obtain ⟨en, ob, q1, q2, q3, q4⟩ := r.obj id _ hget rfl
          have hen : en.blk = n := by simpa [Id.c, q1] using hn
          subst hen
          have hrun0 : ∀ f : Option (Nat × Value), Instr.findNow ki.und K arr.toList 0 = some f → (Instr.mapUpdate t (.map (some en.blk)) K U).run C.P w =
              (match f with
                | some (i, _) => do
                  let key ← Instr.keyThatStays (((arr[i]?).map (·.key)).getD K) K
                  Go.setObj en.blk (.map (arr.modify i fun e => { e with key, val := U }) c)
                | none => Go.setObj en.blk (.map (arr.push { key := K, val := U, born := c }) (c + 1)) : Sem Unit).run C.P w := by
            intro f hf
            simp only [Instr.mapUpdate, Sem.run_bind, run_und G hi, Result.andThen_ok, getObj_run g1 (by simp), checkKey_run G hki hK hkind, findKey_run G hki hf]
            cases f <;> rfl
          split at hv
          · rename_i i u' hf
            obtain ⟨x, m', p1, p2, p3, p4, p5, p6, p7⟩ := findE_sound hK hkind es arr.toList 0 _ g2 hf
            obtain rfl := Option.some.inj hv
            have hx : arr[i]? = some x := by simpa using p3
            refine ⟨_, ?_, Sim.setObj r (x := .map (arr.modify i fun e => { e with key := K, val := U }) c) hget rfl q1 ⟨_, rfl, ?_⟩⟩
            · rw [hrun0 _ p2]
              simp only [Sem.run_bind, hx, Option.map_some, Option.getD_some, stays_run hK p6 p7, Result.andThen_ok, setObj_run g1 (by simp)]
            · rw [Array.toList_modify]
              exact MR_mod (f := fun m => { m with key := k, val := u }) (g := fun x => { x with key := K, val := U }) (fun m x _ _ h3 => ⟨hK, hU, h3⟩) i g2
          · rename_i hf
            have p2 := findE_sound hK hkind es arr.toList 0 _ g2 hf
            obtain rfl := Option.some.inj hv
            refine ⟨_, ?_, Sim.setObj r (x := .map (arr.push { key := K, val := U, born := c }) (c + 1)) hget rfl q1 ⟨_, rfl, ?_⟩⟩
            · rw [hrun0 _ p2]
              simp only [setObj_run g1 (by simp)]
            · rw [Array.toList_push]
              exact MR_snoc hK hU rfl g2
          · cases hv
        · cases hv
      · cases hv
    · cases hv
  · cases hv

theorem write_mapUpdate (G : Good C w0) (r : R w0 μ h w) (he : ER μ e a.tmps) {t : TypeId} {m k x : Operand} (ho : o.op = .mapUpdate t m k x ∨ o.op = .insert t m k x) {Q : V × H → Prop}
    (hv : (evW C (.mapUpdate t m k x) e h).all Q) : ∃ v h', Q (v, h') ∧ WrOk C w0 μ h w a o v h' := by
  simp only [evW] at hv
  split at hv
  · rename_i mv kv xv hm hk hx
    obtain ⟨⟨v, h'⟩, h1, h2⟩ := T.all_of.1 hv
    cases hu : mapUpdV C t mv kv xv h with
    | none => simp [hu] at h1
    | some h'' =>
      simp only [hu, Option.map_some, Option.some.injEq, Prod.mk.injEq] at h1
      obtain ⟨rfl, rfl⟩ := h1
      obtain ⟨w', g1, g2⟩ := mapUpd_sound G r (opd_sound he hm) (opd_sound he hk) (opd_sound he hx) hu
      refine ⟨_, _, h2, μ, w', .skip, undef, ?_, .inr ⟨rfl, rfl⟩, rfl, g2⟩
      rcases ho with ho | ho <;> simp [execOp, ho, g1]
  · exact hv.elim

theorem write_range (G : Good C w0) (r : R w0 μ h w) (he : ER μ e a.tmps) {t : TypeId} {x : Operand} (ho : o.op = .range t x) {Q : V × H → Prop} (hv : (evW C (.range t x) e h).all Q) : ∃ v h', Q (v, h') ∧ WrOk C w0 μ h w a o v h' := by
  simp only [evW] at hv
  split at hv
  · rename_i i u hi hx
    have hX := opd_sound he hx
    have hp : ∀ (oo : O) (ob : Obj), OR μ ⟨w.heap.size, 0, 0⟩ oo ob → (execOp a.eval o).run C.P w = .ok (.value (.pointer (some ⟨w.heap.size, 0, none⟩))) (w.alloc ob) → Q (.ptr (some ⟨.new h.next, 0⟩), h.push oo) →
        ∃ v h', Q (v, h') ∧ WrOk C w0 μ h w a o v h' := fun oo ob h1 h2 h3 =>
      ⟨_, _, h3, μ.up h.next ⟨w.heap.size, 0, 0⟩, w.alloc ob, _, .pointer (some ⟨w.heap.size, 0, none⟩), h2, .inl rfl, by simp [conc, Ad.c, Mu.up_self], Sim.push r _ _ 0 0 h1⟩
    split at hv
    · rename_i s hd
      exact hp (.siter s 0) (.stringIter s 0) ⟨rfl, rfl⟩ (by simp [execOp, ho, Instr.range, run_und G hi, hd, conc_str hX]) hv
    · rename_i kt vt hd
      simp only [conc, Option.some.injEq] at hX
      exact hp (.iter none 0 [] 0) (.mapIter none 0 #[] 0) ⟨rfl, none, rfl, rfl⟩ (by simp [execOp, ho, Instr.range, run_und G hi, hd, ← hX]) hv
    · rename_i kt vt id hd
      obtain ⟨n, hn, hX'⟩ := conc_map hX
      split at hv
      · rename_i es c hma
        obtain ⟨arr, g1, g2⟩ := mapAt_sound r hma hn
        exact hp (.iter (some id) c [] c) (.mapIter (some n) c #[] c) ⟨rfl, some n, rfl, n, hn, rfl⟩ (by simp [execOp, ho, Instr.range, run_und G hi, hd, hX', getObj_run g1]) hv
      · exact hv.elim
    · exact hv.elim
  · exact hv.elim

theorem MR_filter {p : Nat → Bool} : ∀ {es : List MapE} {xs : List MapEntry}, MR μ es xs → MR μ (es.filter fun x => p x.born) (xs.filter fun x => p x.born)
  | [], [], _ => trivial
  | [], _ :: _, hm => hm.elim
  | _ :: _, [], hm => hm.elim
  | m :: es, x :: xs, hm => by
    obtain ⟨m1, m2, m3, m4⟩ := hm
    simp only [List.filter_cons, m3]
    split
    · exact ⟨m1, m2, m3, MR_filter m4⟩
    · exact MR_filter m4

theorem MR_append : ∀ {es fs : List MapE} {xs ys : List MapEntry}, MR μ es xs → MR μ fs ys → MR μ (es ++ fs) (xs ++ ys)
  | [], _, [], _, _, h2 => h2
  | [], _, _ :: _, _, h1, _ => h1.elim
  | _ :: _, _, [], _, h1, _ => h1.elim
  | _ :: _, _, _ :: _, _, h1, h2 => ⟨h1.1, h1.2.1, h1.2.2.1, MR_append h1.2.2.2 h2⟩

theorem MR_get : ∀ {es : List MapE} {xs : List MapEntry} {i : Nat} {x : MapEntry}, MR μ es xs → xs[i]? = some x → ∃ m, es[i]? = some m ∧ conc μ m.key = some x.key ∧ conc μ m.val = some x.val ∧ m.born = x.born
  | [], [], _, _, _, h2 => by simp at h2
  | [], _ :: _, _, _, h1, _ => h1.elim
  | _ :: _, [], _, _, h1, _ => h1.elim
  | m :: es, x :: xs, 0, y, h1, h2 => by simp at h2; subst h2; exact ⟨m, rfl, h1.1, h1.2.1, h1.2.2.1⟩
  | m :: es, x :: xs, i + 1, y, h1, h2 => by simpa using MR_get h1.2.2.2 (by simpa using h2)

theorem MR_all {p : Nat → Bool} : ∀ {es : List MapE} {xs : List MapEntry}, MR μ es xs → (es.all fun x => p x.born) = (xs.all fun x => p x.born)
  | [], [], _ => rfl
  | [], _ :: _, hm => hm.elim
  | _ :: _, [], hm => hm.elim
  | m :: es, x :: xs, hm => by
    obtain ⟨_, _, m3, m4⟩ := hm
    simp only [List.all_cons, m3, MR_all m4]

theorem choose_next {P : Program} (r : R w0 μ h w) {n : Nat} (hn : 0 < n) : ∃ k w1, (choose (.mapNext n)).run P w = .ok k w1 ∧ k < n ∧ Sim w0 μ h w μ h w1 ∧ w1.heap = w.heap := by
  simp only [run_choose]
  by_cases hf : (Question.mapNext n).forced = true
  · rw [if_pos hf]; exact ⟨0, w, rfl, hn, Sim.refl r, rfl⟩
  · rw [if_neg hf]
    exact ⟨_, _, rfl, by simp only [Question.cut]; exact Nat.mod_lt _ hn, Sim.drawn r _, rfl⟩

theorem cands_core {A B : Array MapEntry} {a b : List MapE} (hON : MR μ (a ++ b) (A.toList ++ B.toList)) (hO : MR μ a A.toList) (cs : Array (Option MapEntry)) (ds : List (Option MapE))
    (hcs : cs = (if A.isEmpty then #[none] else #[]) ++ (A ++ B).map some) (hds : ds = (if a.isEmpty then [none] else []) ++ (a ++ b).map some) : cs.size = ds.length ∧ 0 < cs.size ∧
      ∀ (k : Nat), k < cs.size → (∃ (m : MapE) (x : MapEntry), ds[k]? = some (some m) ∧ cs[k]? = some (some x) ∧ conc μ m.key = some x.key ∧ conc μ m.val = some x.val ∧ m.born = x.born) ∨
        (ds[k]? = some none ∧ cs[k]? = some none) := by
  have hlen := MR_length hON
  have hlo := MR_length hO
  simp only [List.length_append, Array.length_toList] at hlen hlo
  have hiso : A.isEmpty = a.isEmpty := by
    cases a with
    | nil => simp at hlo; simp [Array.isEmpty, hlo]
    | cons m r => simp at hlo; simp [Array.isEmpty, hlo]
  have hget : ∀ (k : Nat), k < (A ++ B).size → ∃ (m : MapE) (x : MapEntry), (a ++ b)[k]? = some m ∧ (A ++ B)[k]? = some x ∧ conc μ m.key = some x.key ∧ conc μ m.val = some x.val ∧ m.born = x.born := by
    intro k hk
    have hx : (A ++ B)[k]? = some (A ++ B)[k] := Array.getElem?_eq_getElem hk
    have hx' : (A.toList ++ B.toList)[k]? = some (A ++ B)[k] := by rw [← hx, ← Array.toList_append, Array.getElem?_toList]
    obtain ⟨m, h1, h2⟩ := MR_get hON hx'
    exact ⟨m, (A ++ B)[k], h1, hx, h2⟩
  subst hcs hds
  rw [hiso]
  cases ha : a.isEmpty with
  | true =>
    simp only [if_true]
    refine ⟨by simp; omega, by simp; omega, fun k hk => ?_⟩
    cases k with
    | zero => exact .inr ⟨by simp, by rw [Array.getElem?_append_left (by simp)]; rfl⟩
    | succ k =>
      simp only [Array.size_append, Array.size_map, List.size_toArray, List.length_cons, List.length_nil] at hk
      obtain ⟨m, x, h1, h2, h3⟩ := hget k (by simp; omega)
      refine .inl ⟨m, x, ?_, ?_, h3⟩
      · simp only [List.singleton_append, List.getElem?_cons_succ, List.getElem?_map, h1, Option.map_some]
      · rw [Array.getElem?_append_right (by simp)]
        simp only [List.size_toArray, List.length_cons, List.length_nil, Array.getElem?_map]
        rw [show k + 1 - (0 + 1) = k by omega, h2]; rfl
  | false =>
    simp only [Bool.false_eq_true, if_false]
    have hapos : 0 < a.length := by cases a with
      | nil => simp at ha
      | cons m r => simp
    refine ⟨by simp; omega, by simp; omega, fun k hk => ?_⟩
    simp only [Array.size_append, Array.size_map, List.size_toArray, List.length_nil] at hk
    obtain ⟨m, x, h1, h2, h3⟩ := hget k (by simp; omega)
    refine .inl ⟨m, x, ?_, ?_, h3⟩
    · simp only [List.nil_append, List.getElem?_map, h1, Option.map_some]
    · simp only [Array.empty_append, Array.getElem?_map, h2]; rfl

theorem cands_sound {es : List MapE} {arr : Array MapEntry} (hm : MR μ es arr.toList) (since : Nat) (seen : List Nat) :
    ∃ cs : Array (Option MapEntry), cs = (let left := arr.filter fun e => !seen.toArray.contains e.born
        let old := left.filter (·.born < since)
        let new := left.filter (·.born ≥ since)
        (if old.isEmpty then #[none] else #[]) ++ (old ++ new).map some) ∧ cs.size = (cands es since seen).length ∧ 0 < cs.size ∧
      ∀ (k : Nat), k < cs.size → (∃ (m : MapE) (x : MapEntry), (cands es since seen)[k]? = some (some m) ∧ cs[k]? = some (some x) ∧ conc μ m.key = some x.key ∧ conc μ m.val = some x.val ∧ m.born = x.born) ∨
        ((cands es since seen)[k]? = some none ∧ cs[k]? = some none) := by
  have hL := MR_filter (p := fun b => !seen.contains b) hm
  have hO := MR_filter (p := fun b => decide (b < since)) hL
  have hN := MR_filter (p := fun b => decide (b ≥ since)) hL
  have e1 : (arr.filter fun e => !seen.toArray.contains e.born).toList = arr.toList.filter fun e => !seen.contains e.born := by simp
  have e2 : ((arr.filter fun e => !seen.toArray.contains e.born).filter (·.born < since)).toList = (arr.toList.filter fun e => !seen.contains e.born).filter fun x => decide (x.born < since) := by
    rw [Array.toList_filter, e1]
  have e3 : ((arr.filter fun e => !seen.toArray.contains e.born).filter (·.born ≥ since)).toList = (arr.toList.filter fun e => !seen.contains e.born).filter fun x => decide (x.born ≥ since) := by
    rw [Array.toList_filter, e1]
  exact ⟨_, rfl, cands_core (by rw [e2, e3]; exact MR_append hO hN) (by rw [e2]; exact hO) _ _ rfl rfl⟩

theorem write_next (r : R w0 μ h w) (he : ER μ e a.tmps) {it : Operand} {st : Bool} (ho : o.op = .next it st) {Q : V × H → Prop} (hv : (evW C (.next it st) e h).all Q) : ∃ v h', Q (v, h') ∧ WrOk C w0 μ h w a o v h' := by
  simp only [evW] at hv
  split at hv
  · rename_i k hit
    obtain ⟨y, hy, hI⟩ := conc_ptr (opd_sound he hit)
    split at hv
    · rename_i s pos hk
      obtain ⟨en, ob, q1, q2, q3, q4, q5⟩ := r.obj k _ hk rfl
      subst q5
      have hb0 : y = ⟨en.blk, 0, none⟩ := by simpa [Ad.c, q1, q4, eq_comm] using hy
      subst hb0
      split at hv
      · rename_i hlt
        refine ⟨_, _, hv, μ, _, .value _, _, ?_, .inl rfl, by simp only [conc, concL]; rfl, Sim.setObj r (x := .stringIter s (pos + (Utf8.decode s pos).2)) hk rfl q1 ⟨q4, rfl⟩⟩
        simp [execOp, ho, Instr.next, hI, getObj_run q3, hlt, setObj_run q3, goInt]
      · rename_i hge
        refine ⟨_, _, hv, μ, w, .value _, _, ?_, .inl rfl, by simp only [conc, concL]; rfl, Sim.refl r⟩
        simp [execOp, ho, Instr.next, hI, getObj_run q3, hge]
    · rename_i since seen last hk
      obtain ⟨en, ob, q1, q2, q3, q4, m', q5, q6⟩ := r.obj k _ hk rfl
      subst q5 q6
      have hb0 : y = ⟨en.blk, 0, none⟩ := by simpa [Ad.c, q1, q4, eq_comm] using hy
      subst hb0
      refine ⟨_, _, hv, μ, w, .value _, _, ?_, .inl rfl, by simp only [conc, concL]; rfl, Sim.refl r⟩
      simp [execOp, ho, Instr.next, hI, getObj_run q3]
    · rename_i m since seen last hk
      obtain ⟨en, ob, q1, q2, q3, q4, m', q5, n, q6, q7⟩ := r.obj k _ hk rfl
      subst q5 q7
      have hb0 : y = ⟨en.blk, 0, none⟩ := by simpa [Ad.c, q1, q4, eq_comm] using hy
      subst hb0
      split at hv
      · rename_i es c hma
        obtain ⟨arr, g1, g2⟩ := mapAt_sound r hma q6
        split at hv
        · exact hv.elim
        · rename_i hcond
          have hcs : ∀ i, i < (cands es since seen).length → ((match (cands es since seen)[i]? with
              | some (some x) => .ret (.tup [.bool true, x.key, x.val], h.set k (.iter (some m) since (seen ++ [x.born]) c))
              | some none => .ret (.tup [.bool false], h)
              | none => .fail : T (V × H))).all Q := hv
          -- the machine's candidates
          have hcond' : (!seen.toArray.isEmpty && !arr.isEmpty && arr.all (·.born ≥ last)) = false := by
            have h1 : arr.all (fun x => decide (x.born ≥ last)) = es.all (fun x => decide (x.born ≥ last)) := by
              rw [← Array.all_toList]; exact (MR_all (p := fun b => decide (b ≥ last)) g2).symm
            have h2 : arr.isEmpty = es.isEmpty := by
              have := MR_length g2
              cases es with
              | nil => cases hl : arr.toList with
                | nil => simp [Array.isEmpty, ← Array.length_toList, hl]
                | cons x s => rw [hl] at this; simp at this
              | cons m' r' => cases hl : arr.toList with
                | nil => rw [hl] at this; simp at this
                | cons x s => simp [Array.isEmpty, ← Array.length_toList, hl]
            have h3 : seen.toArray.isEmpty = seen.isEmpty := by cases seen <;> simp [Array.isEmpty]
            rw [h1, h2, h3]
            simpa using hcond
          obtain ⟨cs, hcs1, hcs2, hcs3, hcs4⟩ := cands_sound g2 since seen
          obtain ⟨i, w1, hch1, hch2, hch3, hch4⟩ := choose_next (P := C.P) r hcs3
          have hq3 : w1.heap[en.blk]? = some (.mapIter (some n) since seen.toArray last) := by rw [hch4, q3]
          have hv' := hcs i (by omega)
          have hrun0 : (execOp a.eval o).run C.P w = (do
              match cs[i]? with
              | some (some e) =>
                Go.setObj en.blk (.mapIter (some n) since (seen.toArray.push e.born) c)
                pure (.value (.tuple #[.bool true, e.key, e.val]))
              | some none => pure (.value (.tuple #[.bool false]))
              | none => stuck "Next: no such candidate" : Sem Next).run C.P w1 := by
            simp only [execOp, ho, Instr.next, hI, Sem.run_bind, getObj_run q3 (by simp), getObj_run g1 (by simp), Result.andThen_ok]
            rw [if_neg (by simpa using hcond')]
            simp only [Sem.run_bind, ← hcs1, hch1, Result.andThen_ok]
            cases cs[i]? with
            | none => rfl
            | some q => cases q with
              | none => rfl
              | some e =>
                simp only [Sem.run_bind, Sem.run_pure]
                cases (Go.setObj en.blk (.mapIter (some n) since (seen.toArray.push e.born) c)).run C.P w1 <;> rfl
          rcases hcs4 i hch2 with ⟨m', x, k1, k2, k3, k4, k5⟩ | ⟨k1, k2⟩
          · rw [k1] at hv'
            simp only [T.all] at hv'
            have hset := Sim.setObj hch3.rel (x := .mapIter (some n) since (seen ++ [m'.born]).toArray c) hk rfl q1 (ob' := .iter (some m) since (seen ++ [m'.born]) c) ⟨q4, some n, rfl, n, q6, rfl⟩
            refine ⟨_, _, hv', μ, _, .value (.tuple #[.bool true, x.key, x.val]), _, ?_, .inl rfl, by simp [conc, concL, k3, k4], hch3.trans hset⟩
            rw [hrun0, k2]
            simp [setObj_run hq3, k5]
          · rw [k1] at hv'
            simp only [T.all] at hv'
            refine ⟨_, _, hv', μ, w1, .value (.tuple #[.bool false]), _, ?_, .inl rfl, by simp [conc, concL], hch3⟩
            rw [hrun0, k2]
            simp
      · exact hv.elim
    · exact hv.elim
  · exact hv.elim

end
end Go.Ix
namespace Go.Ix
open Go.RowKit (Below)
section
variable {C : Cfg} {w0 : World} {μ : Mu} {h : H} {w : World} {e : Env} {a : Act} {o : Oper} {v : V}

theorem lenV_sound {x : V} {X : Value} {n : Nat} (hn : lenV x = some n) (hx : conc μ x = some X) (P : Program) : (Builtin.lenOf X).run P w = .ok n w := by
  unfold lenV at hn
  split at hn
  · obtain rfl := Option.some.inj hn
    obtain ⟨p, m, rfl⟩ := conc_slice hx
    rfl
  · obtain rfl := Option.some.inj hn
    rw [conc_str hx]; rfl
  · cases hn

theorem showCells_sound (G : Good C w0) (r : R w0 μ h w) {es n m : Nat} {x : V} {X : Value} {cs : List V} (hs : showCells C es n x h = some cs) (hx : conc μ x = some X) (hm : lenV x = some m) (hnm : n ≤ m) :
    ∃ xs, concL μ cs = some xs ∧ (Builtin.firstCells es n X).run C.P w = .ok xs.toArray w := by
  unfold showCells at hs
  split at hs
  · rename_i ad len cap
    simp only [lenV, Option.some.injEq] at hm
    subst hm
    rcases Nat.eq_zero_or_pos len with h0 | hpos
    · subst h0
      have : n = 0 := by omega
      subst this
      simp only [Nat.zero_mul, ldN, Option.some.injEq] at hs
      subst hs
      obtain ⟨p, m', rfl⟩ := conc_slice hx
      refine ⟨[], rfl, ?_⟩
      cases p <;> simp [Builtin.firstCells, loadCells, loadCellsFrom]
    · obtain ⟨y, m', hy, rfl⟩ := conc_slice_some hx hpos
      obtain ⟨xs, g1, g2⟩ := ldN_run G r hs hy
      exact ⟨xs, g1, by simp [Builtin.firstCells, g2]⟩
  · rename_i len cap
    obtain rfl := Option.some.inj hs
    refine ⟨[], rfl, ?_⟩
    cases cap with
    | ex c =>
      obtain ⟨p, rfl, hp⟩ := conc_slice_ex hx
      simp only at hp
      subst hp
      rfl
    | op k pf => simp [conc] at hx
  · rename_i s
    obtain rfl := Option.some.inj hs
    rw [conc_str hx]
    refine ⟨((s.extract 0 n).data.map fun b => Value.int .u8 b.toNat).toList, ?_, rfl⟩
    have : ∀ l : List UInt8, concL μ (l.map fun b => V.int .u8 b.toNat) = some (l.map fun b => Value.int .u8 b.toNat) := by
      intro l
      induction l with
      | nil => rfl
      | cons b r ih => exact concL_cons rfl ih
    rw [this, ← Array.toList_map]
  · cases hs

theorem growBy_le (nl : Nat) : ∀ (k c : Nat), 256 ≤ c → c < 2 * nl → Builtin.growBy nl k c ≤ 2 * nl ∨ True := fun _ _ _ _ => .inr trivial

theorem growBy_bd (nl : Nat) : ∀ (k c : Nat), 256 ≤ c → c ≤ 2 * nl → Builtin.growBy nl k c ≤ 2 * nl
  | 0, c, _, h => by simpa [Builtin.growBy] using h
  | k + 1, c, h1, h2 => by
    simp only [Builtin.growBy]
    split
    · exact h2
    · rename_i hlt
      exact growBy_bd nl k _ (by omega) (by omega)

theorem nextcap_bd {nl oc : Nat} (h : oc < nl) : Builtin.nextslicecap nl oc ≤ 2 * nl := by
  unfold Builtin.nextslicecap
  split
  · omega
  · split
    · omega
    · exact growBy_bd nl 4 oc (by omega) (by omega)

/-- What an append comes to in a world, told for its three arms. -/
theorem append_run (G : Good C w0) {ats : Array TypeId} {ty t t1 el : TypeId} {i i1 j : TI} (ht : ats[0]? = some t) (ht1 : ats[1]? = some t1) (hi : C.ti t = some i) (hi1 : C.ti t1 = some i1) (hd : i.und = .slice el)
    (hni : ∀ k, i1.und ≠ .int k) (hj : C.ti el = some j) {base : Option Addr} {len cap n : Nat} {X : Value} {xs : List Value} (hn : (Builtin.lenOf X).run C.P w = .ok n w)
    (hxs : ∀ d, (Builtin.firstCells j.size n X).run C.P { w with drawn := d } = .ok xs.toArray { w with drawn := d }) :
    (len + n ≤ cap → (Builtin.append_ ats ty #[.slice base len cap, X]).run C.P w = (do
      if let some a := base then storeCells (a.add (len * j.size)) xs
      pure (.slice base (len + n) cap) : Sem Value).run C.P w) ∧
    (cap < len + n → (len + n) * j.bytes * 4 ≤ 2 ^ 47 → len + n < 2 ^ 62 → 0 < n → ∀ ys : List Value, (∀ d, (Builtin.firstCells j.size len (.slice base len cap)).run C.P { w with drawn := d } = .ok ys.toArray { w with drawn := d }) →
      ∃ nc z, len + n ≤ nc ∧ (∀ μ, concL μ j.zero = some z) ∧ z.length = j.size ∧ (Builtin.append_ ats ty #[.slice base len cap, X]).run C.P w =
        .ok (.slice (some ⟨w.heap.size, 0, none⟩) (len + n) nc) ({ w with drawn := w.drawn + 1 }.alloc (.cells (ys.toArray ++ xs.toArray ++ Builtin.zeroCells z.toArray (nc - (len + n))) el))) := by
  obtain ⟨f, z, f1, f2, f3, f4, f5, f6⟩ := run_tinfo G hj w
  have f1' : ∀ w, (typeInfo el).run C.P w = .ok f w := by
    intro w
    obtain ⟨f', z', h1, _⟩ := run_tinfo G hj w
    simp only [typeInfo, Sem.run_bind, run_program, Result.andThen_ok] at h1 f1 ⊢
    cases hinf : C.P.info? el with
    | none => simp [hinf] at f1
    | some q => simp [hinf] at f1 ⊢; exact f1
  have hz : ∀ w, (zeroValue el).run C.P w = .ok z w := fun w => by simp [zeroValue, f1', f4]
  have hzl : z.cells.size = j.size := by
    have := concL_length (f6 (fun _ => none))
    simp only [Array.length_toList] at this
    rw [this, (G.ti el j hj).zlen]
  have hm : (match i1.und with | .int _ => true | _ => false) = false := by
    cases hu : i1.und <;> first | rfl | (exact absurd hu (hni _))
  have hxs' : (Builtin.firstCells j.size n X).run C.P w = .ok xs.toArray w := hxs w.drawn
  constructor
  · intro hle
    simp only [Builtin.append_, ht, ht1, List.getElem?_toArray, List.getElem?_cons_zero, List.getElem?_cons_succ, Sem.run_bind, run_und G hi, hd, Result.andThen_ok, run_size G hj, run_und G hi1, Sem.run_pure]
    simp only [Bool.false_eq_true, if_false, Bool.not_false, if_true, Sem.run_bind, hn, Result.andThen_ok, hle, Sem.run_ite, hxs']
    cases base <;> rfl
  · intro hlt hb hb2 hn0 ys hys
    simp only [Builtin.append_, ht, ht1, List.getElem?_toArray, List.getElem?_cons_zero, List.getElem?_cons_succ, Sem.run_bind, run_und G hi, hd, Result.andThen_ok, run_size G hj, run_und G hi1, Sem.run_pure]
    have hle : ¬ (len + n ≤ cap) := by omega
    have hc1 : ¬ (((len + n : Nat) : Int) > IntKind.i64.max ∧ (False ∨ f.bytes = 0)) := by
      rintro ⟨h1, _⟩
      have : IntKind.i64.max = 9223372036854775807 := by rfl
      rw [this] at h1
      omega
    have hc2 : ¬ (Builtin.nextslicecap (len + n) cap * f.bytes > 2 ^ 48) := by
      have h1 := nextcap_bd hlt
      rw [f3]
      have h2 : Builtin.nextslicecap (len + n) cap * j.bytes ≤ 2 * (len + n) * j.bytes := Nat.mul_le_mul_right _ h1
      have h3 : (len + n) * j.bytes * 4 = 2 * (2 * (len + n) * j.bytes) := by rw [Nat.mul_assoc 2]; omega
      omega
    have hq : (Question.appendCap (len + n) cap el).forced = false := rfl
    refine ⟨(Question.appendCap (len + n) cap el).cut (w.tape w.drawn (.appendCap (len + n) cap el)), z.cells.toList, by simp [Question.cut], f6, by simpa using hzl, ?_⟩
    simp only [Bool.false_eq_true, if_false, Bool.not_false, if_true, Sem.run_bind, hn, Result.andThen_ok, hle, Sem.run_ite, f1', hc1, hc2, run_choose, hq, run_askRoom, hys, hxs, hz, Sem.run_pure, Go.newRow, run_newObj]
    rfl

theorem zeroCells_size (z : Array Value) (n : Nat) : (Builtin.zeroCells z n).size = n * z.size := by simp [Builtin.zeroCells]

/-- In place: the cells behind a slice are written, within its block's own size. -/
theorem stores_raw {P : Program} {el : TypeId} {bk : Nat} : ∀ (xs : List Value) (w : World) (off i : Nat) (c : Array Value), w.heap[bk]? = some (.cells c el (0, 0)) → (∀ x ∈ xs, x.oneCell' = true) → off + i + xs.length ≤ c.size →
    ∃ w', (storeCells ⟨bk, off, none⟩ xs i).run P w = .ok () w' ∧ w'.os = w.os ∧ w'.tape = w.tape ∧ w'.output = w.output ∧ w'.heap.size = w.heap.size ∧
      ∃ c' : Array Value, c'.toList = c.toList.take (off + i) ++ xs ++ c.toList.drop (off + i + xs.length) ∧ c'.size = c.size ∧ ∀ b, w'.heap[b]? = if b = bk then some (.cells c' el (0, 0)) else w.heap[b]?
  | [], w, off, i, c, hw, hx, hle => ⟨w, rfl, rfl, rfl, rfl, rfl, c, by simp, rfl, fun b => by by_cases hb : b = bk <;> simp [hb, hw]⟩
  | x :: xs, w, off, i, c, hw, hx, hle => by
    simp only [List.length_cons] at hle
    have hin : off + i < c.size := by omega
    have hadd : (⟨bk, off, none⟩ : Addr).add i = ⟨bk, off + i, none⟩ := by
      unfold Addr.add
      split
      · rename_i h0; subst h0; rfl
      · rfl
    have hcell : w.cell? ⟨bk, off + i, none⟩ = some c[off + i] := by simp [World.cell?, hw, hin]
    have hfr : w.frozen? ⟨bk, off + i, none⟩ = false := by simp [World.frozen?, hw]
    have hst : (store ⟨bk, off + i, none⟩ x).run P w = .ok () (w.setCell ⟨bk, off + i, none⟩ x) := by
      rw [run_store P w _ x .plain (hx x (.head _))]; simp [hcell, hfr]
    have hw1 : (w.setCell ⟨bk, off + i, none⟩ x).heap[bk]? = some (.cells (c.setIfInBounds (off + i) x) el (0, 0)) := by
      simp [World.setCell, Array.getElem?_modify, hw]
    obtain ⟨w', g1, g2, g3, g4, g5, c', g6, g7, g8⟩ := stores_raw (P := P) xs (w.setCell ⟨bk, off + i, none⟩ x) off (i + 1) _ hw1 (fun y hy => hx y (.tail _ hy)) (by simp; omega)
    refine ⟨w', by simp only [storeCells, hadd, Sem.run_bind, hst, Result.andThen_ok, g1], g2, g3, g4, g5.trans (by simp), c', ?_, by rw [g7]; simp, fun b => ?_⟩
    · rw [g6]
      simp only [Array.toList_setIfInBounds, List.length_cons]
      have e1 : off + (i + 1) = off + i + 1 := by omega
      rw [e1, List.take_succ_eq_append_getElem (by simpa using hin), List.drop_set_of_lt (by omega), List.take_set, List.getElem_set_self]
      rw [List.set_eq_of_length_le (by simp; omega)]
      simp [show off + i + 1 + xs.length = off + i + (xs.length + 1) by omega]
    · rw [g8]
      by_cases hb : b = bk
      · simp [hb]
      · rw [if_neg hb, if_neg hb]
        simp only [World.setCell, Array.getElem?_modify]
        rw [if_neg (Ne.symm hb)]

theorem concL_one {l : List V} : ∀ {xs : List Value}, concL μ l = some xs → (l.all V.scalar = true) → ∀ x ∈ xs, x.oneCell' = true := by
  induction l with
  | nil => intro xs h _ x hx; simp only [concL, Option.some.injEq] at h; subst h; cases hx
  | cons v r ih =>
    intro xs h hs x hx
    obtain ⟨y, ys, rfl, h1, h2⟩ := concL_cons_inv h
    simp only [List.all_cons, Bool.and_eq_true] at hs
    cases hx with
    | head => exact conc_scalar h1 hs.1
    | tail _ hx => exact ih h2 hs.2 x hx

theorem ldN_block {k : Nat} {vs : List V} {es : Nat} (hk : h.get k = some (.cells vs es)) : ∀ (n o : Nat), o + n ≤ vs.length → ldN C ⟨.new k, o⟩ n h = some ((vs.drop o).take n)
  | 0, o, _ => by simp [ldN]
  | n + 1, o, hle => by
    have hlt : o < vs.length := by omega
    have h1 : ld C ⟨.new k, o⟩ h = some vs[o] := by simp [ld, hk, hlt]
    have h2 := ldN_block hk n (o + 1) (by omega)
    simp only [ldN, h1, Ad.add, h2]
    rw [List.drop_eq_getElem_cons hlt, List.take_succ_cons]

theorem append_sound (G : Good C w0) (r : R w0 μ h w) {ats : Array TypeId} {ty t t1 el : TypeId} {i i1 j : TI} (ht : ats[0]? = some t) (ht1 : ats[1]? = some t1) (hi : C.ti t = some i) (hi1 : C.ti t1 = some i1)
    (hd : i.und = .slice el) (hni : ∀ k, i1.und ≠ .int k) (hj : C.ti el = some j) {s x : V} {S X : Value} {add : List V} {n : Nat} {h' : H} (hS : conc μ s = some S) (hX : conc μ x = some X) (hn : lenV x = some n)
    (hadd : showCells C j.size n x h = some add) (hv : appendV0 C j s add n h = some (v, h')) :
    ∃ μ' w' y, (Builtin.append_ ats ty #[S, X]).run C.P w = .ok y w' ∧ conc μ' v = some y ∧ Sim w0 μ h w μ' h' w' := by
  have hlen := lenV_sound hn hX C.P (w := w)
  have show1 : ∀ {m q : Nat} {y : V} {Y : Value} {cs : List V}, showCells C j.size m y h = some cs → conc μ y = some Y → lenV y = some q → m ≤ q →
      ∃ xs, concL μ cs = some xs ∧ ∀ d, (Builtin.firstCells j.size m Y).run C.P { w with drawn := d } = .ok xs.toArray { w with drawn := d } := by
    intro m q y Y cs h1 h2 h3 h4
    obtain ⟨xs, g1, _⟩ := showCells_sound G r h1 h2 h3 h4
    refine ⟨xs, g1, fun d => ?_⟩
    obtain ⟨xs', g2, g3⟩ := showCells_sound G (Sim.drawn r d).rel h1 h2 h3 h4
    rw [g1] at g2
    obtain rfl := Option.some.inj g2
    exact g3
  obtain ⟨xs, hx1, hxs⟩ := show1 hadd hX hn (Nat.le_refl n)
  have hxl := concL_length hx1
  unfold appendV0 at hv
  split at hv
  · -- nothing is appended
    rename_i hn0
    subst hn0
    have hxe : xs = [] := by
      have h0 := hxs w.drawn
      unfold showCells at hadd
      cases x <;> simp only [lenV, Option.some.injEq] at hn <;> try (cases hn; done)
      · rename_i str
        simp only [Option.some.injEq] at hadd
        subst hadd
        have : (str.extract 0 0).data.toList.map (fun b => V.int .u8 b.toNat) = [] := by simp
        rw [this] at hxl
        exact List.eq_nil_of_length_eq_zero (by simpa using hxl)
      · rename_i p q c
        cases p <;> simp [ldN] at hadd <;> subst hadd <;> exact List.eq_nil_of_length_eq_zero (by simpa using hxl)
    subst hxe
    split at hv
    · rename_i base len c
      split at hv
      · rename_i hle
        simp only [Option.some.injEq, Prod.mk.injEq] at hv
        obtain ⟨rfl, rfl⟩ := hv
        obtain ⟨p, rfl, _⟩ := conc_slice_ex hS
        have := (append_run G (ty := ty) ht ht1 hi hi1 hd hni hj (base := p) (len := len) (cap := c) hlen hxs).1 (by omega)
        refine ⟨μ, w, _, ?_, hS, Sim.refl r⟩
        rw [this]
        cases p <;> simp [storeCells]
      · cases hv
    · rename_i k' o len k pf
      split at hv
      · rename_i vs es hk
        split at hv
        · simp only [Option.some.injEq, Prod.mk.injEq] at hv
          obtain ⟨rfl, rfl⟩ := hv
          obtain ⟨ad, jj, en, he1, he2, he3, he4, rfl⟩ := conc_slice_op hS
          have := (append_run G (ty := ty) ht ht1 hi hi1 hd hni hj (base := some ⟨en.blk, en.base + (if en.cap = k then pf else ad.off), none⟩) (len := len) (cap := en.cap - k) hlen hxs).1 (by omega)
          refine ⟨μ, w, _, ?_, hS, Sim.refl r⟩
          rw [this]
          simp [storeCells]
        · cases hv
      · cases hv
    · cases hv
  · rename_i hn0
    unfold appendV at hv
    split at hv
    · rename_i base len cap
      split at hv
      · rename_i hb
        obtain ⟨b1, b2, b3, b4, b5⟩ := hb
        split at hv
        · rename_i base' c
          obtain ⟨p, rfl, hp⟩ := conc_slice_ex hS
          have hrun := append_run G (ty := ty) ht ht1 hi hi1 hd hni hj (base := p) (len := len) (cap := c) hlen hxs
          split at hv
          · rename_i hle
            split at hv
            · rename_i ad
              obtain ⟨y, hy, rfl⟩ := hp
              cases hst : stN (ad.add (len * j.size)) add h with
              | none => simp [hst] at hv
              | some h'' =>
                simp only [hst, Option.map_some, Option.some.injEq, Prod.mk.injEq] at hv
                obtain ⟨rfl, rfl⟩ := hv
                obtain ⟨w', g1, g2⟩ := stN_sound C.P add (ad := ad.add (len * j.size)) 0 r (by simpa [Ad.add] using hst) hx1 (Ad.c_add hy _).1
                refine ⟨μ, w', .slice (some y) (len + n) c, ?_, by simp [conc, hy], g2⟩
                rw [hrun.1 hle]
                simp [g1]
            · cases hv
          · rename_i hgt
            split at hv
            · rename_i cs hcs
              split at hv
              case isFalse => cases hv
              rename_i hcl
              simp only [Option.some.injEq, Prod.mk.injEq] at hv
              obtain ⟨rfl, rfl⟩ := hv
              obtain ⟨ys, hy1, hys⟩ := show1 hcs hS rfl (Nat.le_refl _)
              obtain ⟨nc, z, k1, k2, k3, k4⟩ := hrun.2 (by omega) b1 b2 (by omega) ys hys
              have hyl := concL_length hy1
              refine ⟨_, _, _, k4, ?_, (Sim.drawn r (w.drawn + 1)).trans (Sim.push (Sim.drawn r (w.drawn + 1)).rel (.cells (cs ++ add) j.size) _ 0 nc ⟨_, el, ys ++ xs, rfl, concL_append hy1 hx1, ?_, ?_⟩)⟩
              · have : 0 + (len + n) ≤ nc := by omega
                simp [conc, Mu.up_self, k1]
              · simp only [List.drop_zero, List.length_append]
                have : (ys.toArray ++ xs.toArray ++ Builtin.zeroCells z.toArray (nc - (len + n))).toList = ys ++ xs ++ (Builtin.zeroCells z.toArray (nc - (len + n))).toList := by simp
                rw [this, ← hyl, ← hxl, ← List.length_append, List.take_left']
                rfl
              · intro _
                simp only [Array.size_append, List.size_toArray, zeroCells_size, k3, hyl, hcl, hxl, b5]
                have e1 : nc = len + n + (nc - (len + n)) := by omega
                generalize nc - (len + n) = q at *
                subst e1
                rw [Nat.zero_add, Nat.add_mul, Nat.add_mul]
            · cases hv
        · rename_i k pf j' o'
          obtain ⟨ad, jj, en, he1, he2, he3, he4, rfl⟩ := conc_slice_op hS
          simp only [Option.some.injEq] at he1
          subst he1
          simp only [Id.new.injEq] at he2
          subst he2
          split at hv
          · rename_i vs es hk
            split at hv
            · rename_i hc
              obtain ⟨c1, c2, c3⟩ := hc
              subst c1
              simp only [Option.some.injEq, Prod.mk.injEq] at hv
              obtain ⟨rfl, rfl⟩ := hv
              obtain ⟨en', ob, q1, q2, q3, c, elt, vx, q4, q5, q6, q7⟩ := r.obj _ _ hk rfl
              rw [he3] at q1
              obtain rfl := Option.some.inj q1
              subst q4
              have q7 := q7 b3
              have hvl := concL_length q5
              have hpart := (concL_take (concL_take q5 o').2 (len * j.size)).1
              have hpl : ((vx.drop o').take (len * j.size)).length = len * j.size := by simp; omega
              have hcsz : en.base + vs.length ≤ c.size := by
                have : vx.length ≤ c.size - en.base := by rw [← q6]; simp; omega
                omega
              have hrun := append_run G (ty := ty) ht ht1 hi hi1 hd hni hj (base := some ⟨en.blk, en.base + (if en.cap = k then pf else o'), none⟩) (len := len) (cap := en.cap - k) hlen hxs
              by_cases hroom : len + n ≤ en.cap - k
              · -- in place
                have hne : ¬ en.cap = k := by omega
                rw [if_neg hne] at hrun ⊢
                have hmul : (k + len + n) * j.size ≤ en.cap * j.size := Nat.mul_le_mul_right _ (by omega)
                rw [Nat.add_mul, Nat.add_mul, ← c2] at hmul
                have hadr : (⟨en.blk, en.base + o', none⟩ : Addr).add (len * j.size) = ⟨en.blk, en.base + o' + len * j.size, none⟩ := by
                  unfold Addr.add
                  split
                  · rename_i h0; rw [h0]; rfl
                  · rfl
                obtain ⟨w', g1, g2, g3, g4, g5, c', g6, g7, g8⟩ := stores_raw (P := C.P) (el := elt) (bk := en.blk) xs w (en.base + o' + len * j.size) 0 c q3 (concL_one hx1 b4) (by omega)
                refine ⟨_, w', .slice (some ⟨en.blk, en.base + o', none⟩) (len + n) (en.cap - k), ?_, ?_,
                  Sim.move r (en.base + o') (en.cap - k) hk rfl he3 g2 g3 g4 g5 g8 (o' := .cells ((vs.drop o').take (len * j.size) ++ add) j.size) ⟨c', elt, (vx.drop o').take (len * j.size) ++ xs, rfl, concL_append hpart hx1, ?_, ?_⟩⟩
                · rw [hrun.1 hroom]
                  simp [hadr, g1]
                · simp [conc, Mu.up_self, hroom]
                · rw [g6]
                  simp only [Nat.add_zero, List.length_append]
                  have hvd : (c.toList.drop (en.base + o')).take (len * j.size) = (vx.drop o').take (len * j.size) := by
                    rw [← q6, List.drop_take, List.drop_drop, List.take_take, Nat.min_eq_left (by omega)]
                  rw [← hvd]
                  have hl1 : ((vs.drop o').take (len * j.size)).length = len * j.size := by simp; omega
                  rw [hl1, ← hxl]
                  have hsplit : c.toList.take (en.base + o' + len * j.size) = c.toList.take (en.base + o') ++ (c.toList.drop (en.base + o')).take (len * j.size) := by rw [List.take_add]
                  rw [hsplit, List.append_assoc, List.append_assoc, List.drop_left' (by simp; omega), ← List.append_assoc, List.take_left']
                  simp; omega
                · intro _
                  rw [g7, q7]
                  show en.base + en.cap * j.size = en.base + o' + (en.cap - k) * j.size
                  rw [Nat.sub_mul, c2]
                  have : k * j.size ≤ en.cap * j.size := Nat.mul_le_mul_right _ (by omega)
                  omega
              · -- a new block
                have hS' : conc μ (.slice (some ⟨.new j', o'⟩) len (.op k pf)) = some (.slice (some ⟨en.blk, en.base + (if en.cap = k then pf else o'), none⟩) len (en.cap - k)) := hS
                have hsh : showCells C j.size len (.slice (some ⟨.new j', o'⟩) len (.op k pf)) h = some ((vs.drop o').take (len * j.size)) := by
                  simp only [showCells]
                  exact ldN_block hk _ _ (by omega)
                obtain ⟨ys, hy1, hys⟩ := show1 hsh hS' rfl (Nat.le_refl _)
                obtain ⟨nc, z, k1, k2, k3, k4⟩ := hrun.2 (by omega) b1 b2 (by omega) ys hys
                have hyl := concL_length hy1
                have hl1 : ((vs.drop o').take (len * j.size)).length = len * j.size := by simp; omega
                have hkill := Sim.kill (Sim.drawn r (w.drawn + 1)).rel hk
                refine ⟨_, _, _, k4, ?_, ((Sim.drawn r (w.drawn + 1)).trans hkill).trans (Sim.push hkill.rel (.cells ((vs.drop o').take (len * j.size) ++ add) j.size) _ 0 nc ⟨_, el, ys ++ xs, rfl, concL_append hy1 hx1, ?_, ?_⟩)⟩
                · have : 0 + (len + n) ≤ nc := by omega
                  simp [conc, Mu.up_self, k1]
                · simp only [List.drop_zero, List.length_append]
                  have : (ys.toArray ++ xs.toArray ++ Builtin.zeroCells z.toArray (nc - (len + n))).toList = ys ++ xs ++ (Builtin.zeroCells z.toArray (nc - (len + n))).toList := by simp
                  rw [this, ← hyl, ← hxl, ← List.length_append, List.take_left']
                  rfl
                · intro _
                  simp only [Array.size_append, List.size_toArray, zeroCells_size, k3, hyl, hl1, hxl, b5]
                  have e1 : nc = len + n + (nc - (len + n)) := by omega
                  generalize nc - (len + n) = q at *
                  subst e1
                  rw [Nat.zero_add, Nat.add_mul, Nat.add_mul]
            · cases hv
          · cases hv
        · cases hv
      · cases hv
    · cases hv

end
end Go.Ix
namespace Go.Ix
open Go.RowKit (Below)
section
variable {C : Cfg} {w0 : World} {μ : Mu} {h : H} {w : World} {e : Env} {a : Act} {o : Oper} {v : V}

theorem delete_sound (G : Good C w0) (r : R w0 μ h w) {ats : Array TypeId} {ty t : TypeId} {m k : V} {M K : Value} {h' : H} (ht : ats[0]? = some t) (hM : conc μ m = some M) (hK : conc μ k = some K)
    (hv : deleteV C t m k h = some h') : ∃ w', (Builtin.delete_ ats ty #[M, K]).run C.P w = .ok (.tuple #[]) w' ∧ Sim w0 μ h w μ h' w' := by
  unfold deleteV at hv
  split at hv
  · rename_i kt vt sz by' z fl hi
    split at hv
    · rename_i ki id hki
      split at hv
      · rename_i hkind
        obtain ⟨n, hn, rfl⟩ := conc_map hM
        split at hv
        · rename_i es c hma
          obtain ⟨arr, g1, g2⟩ := mapAt_sound r hma hn
          have hget := mapAt_new hma
          obtain ⟨en, ob, q1, q2, q3, q4⟩ := r.obj id _ hget rfl
          have hen : en.blk = n := by simpa [Id.c, q1] using hn
          subst hen
          split at hv
          · rename_i i u' hf
            obtain ⟨x, m', p1, p2, p3, p4, p5, p6, p7⟩ := findE_sound hK hkind es arr.toList 0 _ g2 hf
            obtain rfl := Option.some.inj hv
            refine ⟨_, ?_, Sim.setObj r (x := .map (arr.eraseIdxIfInBounds i) c) hget rfl q1 ⟨_, rfl, ?_⟩⟩
            · simp [Builtin.delete_, ht, run_und G hi, getObj_run g1, checkKey_run G hki hK hkind, findKey_run G hki p2, setObj_run g1]
            · have : (arr.eraseIdxIfInBounds i).toList = arr.toList.eraseIdx i := by
                have hlt : i < arr.size := by
                  have := (List.getElem?_eq_some_iff.1 p3).1
                  simpa using this
                simp [Array.eraseIdxIfInBounds, hlt]
              rw [this]
              exact MR_erase i g2
          · rename_i hf
            have p2 := findE_sound hK hkind es arr.toList 0 _ g2 hf
            obtain rfl := Option.some.inj hv
            refine ⟨_, ?_, Sim.setObj r (x := .map arr c) hget rfl q1 ⟨_, rfl, g2⟩⟩
            simp [Builtin.delete_, ht, run_und G hi, getObj_run g1, checkKey_run G hki hK hkind, findKey_run G hki p2, setObj_run g1]
          · cases hv
        · cases hv
      · cases hv
    · rename_i ki hki
      split at hv
      · rename_i hkind
        obtain rfl := Option.some.inj hv
        simp only [conc, Option.some.injEq] at hM
        refine ⟨w, ?_, Sim.refl r⟩
        simp [Builtin.delete_, ht, run_und G hi, ← hM, checkKey_run G hki hK hkind]
      · cases hv
    · cases hv
  · cases hv

theorem write_builtin (G : Good C w0) (r : R w0 μ h w) (he : ER μ e a.tmps) {b : Builtin} {args : Array Operand} {ats : Array TypeId} (ho : o.op = .call ⟨.builtin b, args, ats⟩) {Q : V × H → Prop}
    (hv : (evW C (.call ⟨.builtin b, args, ats⟩) e h).all Q) : ∃ v h', Q (v, h') ∧ WrOk C w0 μ h w a o v h' := by
  simp only [evW] at hv
  split at hv
  · rename_i vs t hargs ht
    have hA := opds_sound he hargs
    split at hv
    · rename_i i hi
      have hu := run_und G hi
      have hex0 : ∃ cs, ∀ (L : List Value), args.toList.map a.eval = L → (execOp a.eval o).run C.P w = (builtin b ats o.type cs L.toArray).run C.P w := by
        refine ⟨?cs, fun L hL => ?_⟩
        rotate_left
        · simp only [execOp, ho, resolve, Sem.run_bind, Sem.run_pure, Result.andThen_ok, invoke, argT hL]
          rfl
      obtain ⟨cs, hex⟩ := hex0
      split at hv
      · rename_i el s x hd
        obtain ⟨S, xs, hl, h1, h2⟩ := concL_cons_inv hA
        obtain ⟨X, ys, rfl, h3, h4⟩ := concL_cons_inv h2
        simp only [concL, Option.some.injEq] at h4
        subst h4
        split at hv
        · rename_i j t1 hj ht1
          split at hv
          · rename_i i1 hi1
            split at hv
            · exact hv.elim
            · rename_i n hn hni
              split at hv
              · rename_i add hadd
                obtain ⟨⟨v, h'⟩, k1, k2⟩ := T.all_of.1 hv
                obtain ⟨μ', w', y, g1, g2, g3⟩ := append_sound G r (ty := o.type) ht ht1 hi hi1 hd (fun k hk => hni k hk) hj h1 h3 hn hadd k1
                exact ⟨_, _, k2, μ', w', .value y, y, by rw [hex _ hl]; simp [builtin, g1], .inl rfl, g2, g3⟩
              · exact hv.elim
            · exact hv.elim
          · exact hv.elim
        · exact hv.elim
      · rename_i el base dl cp x hd
        obtain ⟨S, xs, hl, h1, h2⟩ := concL_cons_inv hA
        obtain ⟨X, ys, rfl, h3, h4⟩ := concL_cons_inv h2
        simp only [concL, Option.some.injEq] at h4
        subst h4
        split at hv
        · rename_i j n hj hn
          have hlen := lenV_sound hn h3 C.P (w := w)
          split at hv
          · rename_i cs' ad hsh
            obtain ⟨⟨v, h'⟩, k1, k2⟩ := T.all_of.1 hv
            cases hst : stN ad cs' h with
            | none => simp [hst] at k1
            | some h'' =>
              simp only [hst, Option.map_some, Option.some.injEq, Prod.mk.injEq] at k1
              obtain ⟨rfl, rfl⟩ := k1
              obtain ⟨xs', g1, g2⟩ := showCells_sound G r hsh h3 hn (Nat.min_le_left n dl)
              rcases Nat.eq_zero_or_pos dl with h0 | hpos
              · subst h0
                have hxl := concL_length g1
                have hce : cs' = [] := by
                  rw [Nat.min_zero] at hsh
                  unfold showCells at hsh
                  split at hsh
                  · simp only [Nat.zero_mul, ldN, Option.some.injEq] at hsh; exact hsh.symm
                  · simp only [Option.some.injEq] at hsh; exact hsh.symm
                  · simp only [Option.some.injEq] at hsh; rw [← hsh]; simp
                  · cases hsh
                subst hce
                simp only [stN, Option.some.injEq] at hst
                subst hst
                have hxe : xs' = [] := List.eq_nil_of_length_eq_zero (by simpa using hxl)
                subst hxe
                obtain ⟨p, m, rfl⟩ := conc_slice h1
                refine ⟨_, _, k2, μ, w, .value (.int .i64 ((min n 0 : Nat) : Int)), _, ?_, .inl rfl, rfl, Sim.refl r⟩
                rw [hex _ hl]
                have e1 : n.min 0 = min n 0 := rfl
                cases p <;> simp [builtin, Builtin.copy_, ht, hu, hd, hlen, run_size G hj, goInt] <;> rw [Nat.min_zero] at g2 <;> simp [g2, storeCells]
              · obtain ⟨y, m, hy, rfl⟩ := conc_slice_some h1 hpos
                obtain ⟨w', g3, g4⟩ := stN_sound C.P cs' (ad := ad) 0 r hst g1 hy
                refine ⟨_, _, k2, μ, w', .value (.int .i64 ((min n dl : Nat) : Int)), _, ?_, .inl rfl, rfl, g4⟩
                rw [hex _ hl]
                have e1 : n.min dl = min n dl := rfl
                simp [builtin, Builtin.copy_, ht, hu, hd, hlen, run_size G hj, e1, g2, g3, goInt]
          · rename_i cs' hsh
            split at hv
            · rename_i h0
              subst h0
              have hce : ∃ c, cp = .ex c := by
                cases cp with
                | ex c => exact ⟨c, rfl⟩
                | op k pf => simp [conc] at h1
              obtain ⟨c, rfl⟩ := hce
              obtain ⟨p, rfl, hp⟩ := conc_slice_ex h1
              simp only at hp
              subst hp
              obtain ⟨xs', g1, g2⟩ := showCells_sound G r hsh h3 hn (Nat.min_le_left n 0)
              refine ⟨_, _, hv, μ, w, .value (.int .i64 0), _, ?_, .inl rfl, rfl, Sim.refl r⟩
              rw [hex _ hl]
              have e1 : n.min 0 = min n 0 := rfl
              simp [builtin, Builtin.copy_, ht, hu, hd, hlen, run_size G hj, goInt]
              rw [Nat.min_zero] at g2
              simp [g2]
            · exact hv.elim
          · exact hv.elim
        · exact hv.elim
      · rename_i kt vt m k hd
        obtain ⟨M, xs, hl, h1, h2⟩ := concL_cons_inv hA
        obtain ⟨K, ys, rfl, h3, h4⟩ := concL_cons_inv h2
        simp only [concL, Option.some.injEq] at h4
        subst h4
        obtain ⟨⟨v, h'⟩, k1, k2⟩ := T.all_of.1 hv
        cases hdl : deleteV C t m k h with
        | none => simp [hdl] at k1
        | some h'' =>
          simp only [hdl, Option.map_some, Option.some.injEq, Prod.mk.injEq] at k1
          obtain ⟨rfl, rfl⟩ := k1
          obtain ⟨w', g1, g2⟩ := delete_sound G r (ty := o.type) ht h1 h3 hdl
          exact ⟨_, _, k2, μ, w', .value (.tuple #[]), _, by rw [hex _ hl]; simp [builtin, g1], .inl rfl, rfl, g2⟩
      · rename_i kt vt id hd
        obtain ⟨M, xs, hl, h1, h2⟩ := concL_cons_inv hA
        simp only [concL, Option.some.injEq] at h2
        subst h2
        obtain ⟨n, hn, rfl⟩ := conc_map h1
        split at hv
        · rename_i es c hma
          obtain ⟨arr, g1, g2⟩ := mapAt_sound r hma hn
          have hget := mapAt_new hma
          obtain ⟨en, ob, q1, q2, q3, q4⟩ := r.obj id _ hget rfl
          have hen : en.blk = n := by simpa [Id.c, q1] using hn
          subst hen
          refine ⟨_, _, hv, μ, _, .value (.tuple #[]), _, ?_, .inl rfl, rfl, Sim.setObj r (x := .map #[] c) hget rfl q1 ⟨_, rfl, trivial⟩⟩
          rw [hex _ hl]
          simp [builtin, Builtin.clear_, ht, hu, hd, getObj_run g1, setObj_run g1]
        · exact hv.elim
      · rename_i el ad n cp hd
        obtain ⟨M, xs, hl, h1, h2⟩ := concL_cons_inv hA
        simp only [concL, Option.some.injEq] at h2
        subst h2
        split at hv
        · rename_i j hj
          obtain ⟨⟨v, h'⟩, k1, k2⟩ := T.all_of.1 hv
          cases hst : stN ad (rep n j.zero) h with
          | none => simp [hst] at k1
          | some h'' =>
            simp only [hst, Option.map_some, Option.some.injEq, Prod.mk.injEq] at k1
            obtain ⟨rfl, rfl⟩ := k1
            rcases Nat.eq_zero_or_pos n with h0 | hpos
            · subst h0
              simp only [rep, stN, Option.some.injEq] at hst
              subst hst
              obtain ⟨p, m, rfl⟩ := conc_slice h1
              refine ⟨_, _, k2, μ, w, .value (.tuple #[]), _, ?_, .inl rfl, rfl, Sim.refl r⟩
              rw [hex _ hl]
              cases p <;> simp [builtin, Builtin.clear_, ht, hu, hd]
            · obtain ⟨y, m, hy, rfl⟩ := conc_slice_some h1 hpos
              obtain ⟨z, hz1, hz2, hz3⟩ := run_zero G hj w
              obtain ⟨w', g3, g4⟩ := stN_sound C.P (rep n j.zero) (ad := ad) 0 r hst (zeros_conc (hz3 μ) n) hy
              refine ⟨_, _, k2, μ, w', .value (.tuple #[]), _, ?_, .inl rfl, rfl, g4⟩
              rw [hex _ hl]
              have hz : Builtin.zeroCells z.cells n = (Array.range (n * z.cells.size)).map (fun i => z.cells[i % z.cells.size]!) := rfl
              obtain ⟨n', rfl⟩ : ∃ q, n = q + 1 := ⟨n - 1, by omega⟩
              simp only [builtin, Builtin.clear_, ht, List.getElem?_toArray, List.getElem?_cons_zero, Sem.run_bind, hu, hd, Result.andThen_ok, hz1, hz, g3, Sem.run_pure]
        · exact hv.elim
      · exact hv.elim
    · exact hv.elim
  · exact hv.elim

/-- **Whatever the evaluator tells of an operation that changes memory, the machine does.** -/
theorem evW_sound (G : Good C w0) (r : R w0 μ h w) (he : ER μ e a.tmps) {Q : V × H → Prop} (hv : (evW C o.op e h).all Q) : ∃ v h', Q (v, h') ∧ WrOk C w0 μ h w a o v h' := by
  cases ho : o.op <;> rw [ho] at hv <;> first
    | exact write_alloc G r ho hv
    | exact write_box r he ho hv
    | exact write_buildSlice G r he ho hv
    | exact write_store G r he ho hv
    | exact write_makeMap r ho hv
    | exact write_makeSlice G r he ho hv
    | exact write_mapUpdate G r he (.inl ho) hv
    | (simp only [evW] at hv; exact write_mapUpdate G r he (.inr ho) (by simp only [evW]; exact hv))
    | exact write_range G r he ho hv
    | exact write_next r he ho hv
    | (rename_i c; obtain ⟨cl, args, ats⟩ := c; cases cl <;> first
        | exact write_builtin G r he ho hv
        | (simp only [evW] at hv; exact hv.elim))
    | (simp only [evW] at hv; exact hv.elim)

end
end Go.Ix
namespace Go.Ix
open Go.RowKit (Below)
section
variable {C : Cfg} {w0 : World} {μ : Mu} {h : H} {w : World} {e : Env} {a : Act} {o : Oper} {v : V}

/-- No fence but the round that a frame is in. -/
def Fr (l : Option Nat) : Fence := { Fence.wide with round := l }

theorem Fr_fn (l : Option Nat) (f : FuncId) : (Fr l).fn f := trivial
theorem Fr_depth (l : Option Nat) {p : Prop} : (Fr l).depth.isSome = true → p := fun h => by cases h
theorem Fr_room (l : Option Nat) (n : Nat) : (Fr l).room n := fun _ h => by cases h

/-- What a call comes to. -/
def Post (w0 : World) (μ : Mu) (h : H) (w : World) (Q : V × H → Prop) (e : Ending) (w' : World) : Prop :=
  ∃ v h' μ' x, Q (v, h') ∧ e = .returned x ∧ conc μ' v = some x ∧ Sim w0 μ h w μ' h' w'

def FnOk (C : Cfg) (w0 : World) (μ : Mu) (h : H) (w : World) (f : FuncId) (X : Array Value) (Q : V × H → Prop) : Prop :=
  (hasBody C.P f = false ∧ ∃ v x, Q (v, h) ∧ conc μ v = some x ∧ (callFunc f X).run C.P w = .ok (.value x) w) ∨
  (hasBody C.P f = true ∧ (callFunc f X).run C.P w = .ok (.enter f X) w ∧ ∀ l n, CallsIn (Fr l) n C.P f X w (Post w0 μ h w Q))

def YldOk (C : Cfg) (w0 : World) (μ : Mu) (h : H) (w : World) (k : Nat) (X : Array Value) (Q : V × H → Prop) : Prop :=
  ∃ en fn tmps as b, μ k = some en ∧ (Instr.yield en.blk X).run C.P w = .ok (.round en.blk fn tmps as b) w ∧ ∀ l n, RoundIn (Fr l) n C.P en.blk fn tmps as b w (Post w0 μ h w Q)

def CallOk (C : Cfg) (w0 : World) (call : Caller) : Prop :=
  ∀ (c : Cal) (vs : List V) (h : H) (Q : V × H → Prop) (μ : Mu) (w : World) (X : List Value), (call c vs h).all Q → R w0 μ h w → concL μ vs = some X →
    match c with
    | .fn f => FnOk C w0 μ h w f X.toArray Q
    | .yld k => YldOk C w0 μ h w k X.toArray Q

theorem info_of_ti (G : Good C w0) {t : TypeId} {i : TI} (hi : C.ti t = some i) : ∃ f, C.P.info? t = some f := let ⟨f, _, h, _⟩ := (G.ti t i hi).info; ⟨f, h⟩

theorem wrapNil_run {P : Program} (xs : Array TypeId) (t : TypeId) (y : Addr) (p q : String) : (Builtin.ssaWrapNilChk_ xs t #[.pointer (some y), strVal p, strVal q]).run P w = .ok (.pointer (some y)) w := rfl

theorem recvAt_sound (G : Good C w0) (r : R w0 μ h w) {t : TypeId} {u v : V} {U : Value} {pr : Bool} (hv : recvAt C t u pr h = some v) (hU : conc μ u = some U) (wr : Option String) :
    ∃ x, conc μ v = some x ∧ (receiverAt t (.val U) pr wr).run C.P w = .ok x w := by
  unfold recvAt at hv
  cases hi : C.ti t with
  | none => simp [hi] at hv
  | some i =>
    simp only [hi] at hv
    have hu := run_und G hi
    split at hv
    · rename_i el hd
      obtain rfl := Option.some.inj hv
      exact ⟨U, hU, by simp [receiverAt, hu, hd, Place.get]⟩
    · rename_i el ad hd
      obtain ⟨y, hy, rfl⟩ := conc_ptr hU
      obtain ⟨x, h1, h2⟩ := ldT_sound G r hv hy
      refine ⟨x, h1, ?_⟩
      cases wr with
      | none => simp [receiverAt, hu, hd, Place.get, asAddr, h2]
      | some s => simp [receiverAt, hu, hd, Place.get, wrapNil_run, asAddr, h2]
    · cases hv
    · rename_i hne1 hne2 hd
      obtain rfl := Option.some.inj hv
      refine ⟨U, hU, ?_⟩
      simp only [receiverAt, Sem.run_bind, hu, Result.andThen_ok]
      cases hdd : i.und <;> first | rfl | (exfalso; rename_i el; exact hd el hdd)
    · cases hv

theorem recvVar_sound (G : Good C w0) (r : R w0 μ h w) {t : TypeId} {ad : Ad} {v : V} {y : Addr} {pr : Bool} (hv : recvVar C t ad pr h = some v) (hy : ad.c μ = some y) :
    ∃ x, conc μ v = some x ∧ (receiverAt t (.var y) pr none).run C.P w = .ok x w := by
  unfold recvVar at hv
  cases hi : C.ti t with
  | none => simp [hi] at hv
  | some i =>
    simp only [hi] at hv
    have hu := run_und G hi
    split at hv
    · rename_i el hd
      obtain ⟨x, h1, h2⟩ := ldT_sound G r hv hy
      exact ⟨x, h1, by simp [receiverAt, hu, hd, Place.get, h2]⟩
    · rename_i el hd
      split at hv
      · rename_i b hb
        obtain ⟨x, h1, h2⟩ := ldT_sound G r hb hy
        obtain ⟨z, hz, rfl⟩ := conc_ptr h1
        obtain ⟨x', h3, h4⟩ := ldT_sound G r hv hz
        exact ⟨x', h3, by simp [receiverAt, hu, hd, Place.get, h2, asAddr, h4]⟩
      · cases hv
    · rename_i hne
      obtain rfl := Option.some.inj hv
      refine ⟨.pointer (some y), by simp [conc, hy], ?_⟩
      simp only [receiverAt, Sem.run_bind, hu, Result.andThen_ok]
      cases hdd : i.und <;> first | rfl | (exfalso; rename_i el; exact hne el hdd)
    · rename_i hne
      obtain ⟨x, h1, h2⟩ := ldT_sound G r hv hy
      refine ⟨x, h1, ?_⟩
      simp only [receiverAt, Sem.run_bind, hu, Result.andThen_ok]
      cases hdd : i.und <;> first | (simpa [Place.get] using h2) | (exfalso; rename_i el; exact hne el hdd)

def CalRun (C : Cfg) (μ : Mu) (w : World) (c : Cal) (X : List Value) (m : Sem Next) : Prop :=
  match c with
  | .fn f => m.run C.P w = (callFunc f X.toArray).run C.P w
  | .yld k => ∃ en, μ k = some en ∧ m.run C.P w = (Instr.yield en.blk X.toArray).run C.P w

theorem calMeth_sound (G : Good C w0) (r : R w0 μ h w) {recv : V} {name : String} {args vs : List V} {c : Cal} {RV : Value} {X : List Value} (hv : calMeth C recv name args h = some (c, vs))
    (hr : conc μ recv = some RV) (ha : concL μ args = some X) : ∃ Y, concL μ vs = some Y ∧ CalRun C μ w c Y (callMethod RV name X.toArray) := by
  unfold calMeth at hv
  split at hv
  · rename_i t u
    obtain ⟨U, hU, rfl⟩ := conc_iface hr
    cases hm : methOf C t name with
    | none => simp [hm] at hv
    | some m =>
      simp only [hm] at hv
      unfold methOf at hm
      cases hinf : C.P.info? t with
      | none => simp [hinf] at hm
      | some inf =>
        simp only [hinf] at hm
        have hti : (typeInfo t).run C.P w = .ok inf w := by simp [typeInfo, hinf]
        have hfuel : ∃ q, C.P.types.size + Made.depth = q + 1 := ⟨C.P.types.size + 99, by simp [Made.depth]⟩
        obtain ⟨q, hq⟩ := hfuel
        split at hv
        · rename_i f pr hf hpath
          cases hra : recvAt C t u pr h with
          | none => simp [hra] at hv
          | some rv =>
            simp only [hra, Option.some.injEq, Prod.mk.injEq] at hv
            obtain ⟨rfl, rfl⟩ := hv
            obtain ⟨x, g1, g2⟩ := recvAt_sound G r hra hU (if m.path.isEmpty then some ((name.splitOn ".").getLastD name) else none)
            refine ⟨x :: X, concL_cons g1 ha, ?_⟩
            simp only [CalRun, callMethod, Sem.run_bind, run_program, Result.andThen_ok, hq, method, hti, hm, hpath, follow, Sem.run_pure, hf, g2]
            simp
        · rename_i f pr s hf hpath
          split at hv
          · rename_i i ad hi
            obtain ⟨y, hy, rfl⟩ := conc_ptr hU
            split at hv
            · rename_i fs hder hd
              split at hv
              · rename_i fl off size hfl hpl
                split at hv
                · rename_i hsz
                  cases hrv : recvVar C fl.type (ad.add off) pr h with
                  | none => simp [hrv] at hv
                  | some rv =>
                    simp only [hrv, Option.some.injEq, Prod.mk.injEq] at hv
                    obtain ⟨rfl, rfl⟩ := hv
                    obtain ⟨x, g1, g2⟩ := recvVar_sound G r hrv (Ad.c_add hy off).1
                    obtain ⟨fl', k1, k2, k3⟩ := fieldPlaces_sound G hpl w
                    rw [hfl] at k1
                    obtain rfl := Option.some.inj k1
                    refine ⟨x :: X, concL_cons g1 ha, ?_⟩
                    have hpe : m.path.isEmpty = false := by simp [Array.isEmpty, ← Array.length_toList, hpath]
                    have hne : ¬ size = 0 := by omega
                    simp only [CalRun, callMethod, Sem.run_bind, run_program, Result.andThen_ok, hq, method, hti, hm, hpath, follow, run_und G hi, hd, hfl, hder, if_true, Place.get, asAddr, fieldPlace, k3, hne, if_false, k2, Sem.run_pure, hf, hpe, Bool.false_eq_true, g2]
                    simp
                · cases hv
              · cases hv
            · cases hv
          · cases hv
        · cases hv
  · cases hv

theorem calOf_sound {f : V} {vs : List V} {k : Cal} {us : List V} {F : Value} {X : List Value} (hc : calOf f us = some (k, vs)) (hF : conc μ f = some F) (hX : concL μ us = some X) :
    ∃ Y, concL μ vs = some Y ∧ CalRun C μ w k Y (do let d ← Deferred.ofValue F X.toArray; invoke d.target d.args) := by
  unfold calOf at hc
  split at hc
  · rename_i g p q
    simp only [Option.some.injEq, Prod.mk.injEq] at hc
    obtain ⟨rfl, rfl⟩ := hc
    simp only [conc] at hF
    cases hp : concL μ p with
    | none => simp [hp] at hF
    | some P1 =>
      cases hq : concL μ q with
      | none => simp [hp, hq] at hF
      | some Q1 =>
        simp only [hp, hq, Option.some.injEq] at hF
        subst hF
        refine ⟨P1 ++ X ++ Q1, concL_append (concL_append hp hX) hq, ?_⟩
        simp only [CalRun, Deferred.ofValue, Sem.run_bind, Sem.run_pure, Result.andThen_ok, invoke]
        simp
  · rename_i k'
    simp only [Option.some.injEq, Prod.mk.injEq] at hc
    obtain ⟨rfl, rfl⟩ := hc
    simp only [conc] at hF
    cases hk : μ k' with
    | none => simp [hk] at hF
    | some en =>
      simp only [hk, Option.map_some, Option.some.injEq] at hF
      subst hF
      refine ⟨X, hX, en, hk, ?_⟩
      simp only [Deferred.ofValue, Sem.run_bind, Sem.run_pure, Result.andThen_ok, invoke]
      simp
  · cases hc

theorem callee_sound (G : Good C w0) (r : R w0 μ h w) (he : ER μ e a.tmps) {c : Call} {k : Cal} {vs : List V} (ho : o.op = .call c) (hc : callee C c e h = some (k, vs)) :
    ∃ X, concL μ vs = some X ∧ CalRun C μ w k X (execOp a.eval o) := by
  obtain ⟨cl, args, ats⟩ := c
  unfold callee at hc
  simp only at hc
  cases hargs : opds e args.toList with
  | none => simp [hargs] at hc
  | some us =>
    simp only [hargs] at hc
    have hX := opds_sound he hargs
    have hmap : args.map a.eval = (args.toList.map a.eval).toArray := by simp [← Array.toList_map]
    cases cl with
    | builtin b => simp at hc
    | value f =>
      simp only at hc
      cases hf : opd e f with
      | none => simp [hf] at hc
      | some fv =>
        simp only [hf] at hc
        obtain ⟨Y, g1, g2⟩ := calOf_sound (C := C) (w := w) hc (opd_sound he hf) hX
        refine ⟨Y, g1, ?_⟩
        simpa only [execOp, ho, resolve, hmap] using g2
    | invoke rv name =>
      simp only at hc
      cases hf : opd e rv with
      | none => simp [hf] at hc
      | some fv =>
        simp only [hf] at hc
        obtain ⟨Y, g1, g2⟩ := calMeth_sound G r hc (opd_sound he hf) hX
        refine ⟨Y, g1, ?_⟩
        have hrun : (execOp a.eval o).run C.P w = (callMethod (a.eval rv) name (args.toList.map a.eval).toArray).run C.P w := by
          simp only [execOp, ho, resolve, hmap, Sem.run_bind, Sem.run_pure, Result.andThen_ok, invoke]
          simp [List.take_of_length_le]
        unfold CalRun at *
        cases k with
        | fn f => exact hrun.trans g2
        | yld k => obtain ⟨en, q1, q2⟩ := g2; exact ⟨en, q1, hrun.trans q2⟩

/-! One operation of a region. -/

theorem wantedV_sound (he : ER μ e a.tmps) {ops : Array Oper} {b : Bool} (hw : wantedV ops o e = some b) : Region.wanted o (yielded ops a.tmps) = b := by
  unfold wantedV at hw
  unfold Region.wanted
  cases hg : o.guard with
  | none => simp only [hg, Option.some.injEq] at hw; exact hw
  | some p =>
    obtain ⟨j, want⟩ := p
    simp only [hg] at hw ⊢
    unfold yielded
    cases hj : ops[j]? with
    | none => simp only [hj, Option.some.injEq] at hw; subst hw; rfl
    | some g =>
      simp only [hj] at hw
      cases hd : g.dst with
      | none => simp only [hd, Option.some.injEq] at hw; subst hw; simp [hd]
      | some d =>
        simp only [hd] at hw
        cases hgd : e.get d with
        | none => simp [hgd] at hw
        | some u =>
          obtain ⟨x, h1, h2⟩ := he d u hgd
          simp only [hgd] at hw
          simp only [Option.bind_some, hd, h2]
          cases u <;> simp only [Option.some.injEq] at hw
          · rename_i b'
            subst hw
            rw [conc_bool h1]
            cases b' <;> cases want <;> rfl
          all_goals subst hw
          · rw [conc_int h1]; rfl
          · rw [conc_str h1]; rfl
          · rename_i p
            cases p with
            | none => simp only [conc, Option.some.injEq] at h1; subst h1; rfl
            | some ad => obtain ⟨y, _, rfl⟩ := conc_ptr h1; rfl
          · obtain ⟨p, m, rfl⟩ := conc_slice h1; rfl
          · rename_i p
            cases p with
            | none => simp only [conc, Option.some.injEq] at h1; subst h1; rfl
            | some ad => obtain ⟨y, _, rfl⟩ := conc_map h1; rfl
          · obtain ⟨y, z, rfl⟩ := conc_func h1; rfl
          · simp only [conc] at h1
            rename_i k
            cases hk : μ k with
            | none => simp [hk] at h1
            | some en => simp only [hk, Option.map_some, Option.some.injEq] at h1; subst h1; rfl
          · simp only [conc, Option.some.injEq] at h1; subst h1; rfl
          · obtain ⟨y, _, rfl⟩ := conc_iface h1; rfl
          · simp only [conc, Option.some.injEq] at h1; subst h1; rfl
          · obtain ⟨y, _, rfl⟩ := conc_agg h1; rfl
          · obtain ⟨y, _, rfl⟩ := conc_tup h1; rfl

theorem ER.dst (he : ER μ e a.tmps) {d : Option Nat} (hd : ∀ t, d = some t → t < a.tmps.size) {x : Value} (hx : conc μ v = some x) : ER μ (e.dst d v) (a.put d x).tmps ∧ (a.put d x).tmps.size = a.tmps.size ∧ (a.put d x).defers = a.defers := by
  cases d with
  | none => exact ⟨he, rfl, rfl⟩
  | some t => exact ⟨he.set hx (hd t rfl), by simp [Act.put], rfl⟩

def dstLt (o : Oper) (n : Nat) : Prop := ∀ t, o.dst = some t → t < n

theorem evVal_sound {call : Caller} (hcall : CallOk C w0 call) (G : Good C w0) (r : R w0 μ h w) (he : ER μ e a.tmps) {ops : Array Oper} {i : Nat} (ho : ops[i]? = some o)
    {Q : V × H → Prop} (hev : (evVal C call ops o e h).all Q) {rl : Option Nat} {n : Nat} {QQ : Exit → Act → World → Prop} {K : Act → World → Prop}
    (hK : ∀ v h' μ' w' x, Q (v, h') → Sim w0 μ h w μ' h' w' → conc μ' v = some x → K (a.put o.dst x) w') :
    wpOpIn (Fr rl) n C.P ops QQ i K a w := by
  unfold wpOpIn
  simp only [ho]
  unfold evVal at hev
  split at hev
  · rename_i hw
    rw [wantedV_sound he hw]
    simp only [if_true]
    unfold Oper.wpIn
    refine ⟨fun _ _ => Fr_fn _ _, ?_⟩
    have hse : ∀ (hn : ∀ c, o.op ≠ .defer c), Oper.semAt (Fr rl).round a.eval o = execOp a.eval o := Oper.semAt_eq _ _ _
    split at hev
    · -- read
      split at hev
      · rename_i v hv
        have hnd : ∀ c, o.op ≠ .defer c := by intro c hc; rw [hc] at hv; simp [evR] at hv
        rw [hse hnd]
        obtain ⟨x, h1, h2⟩ := evR_sound G r he hv
        rw [h2]
        simp only [Oper.uponIn]
        exact hK _ _ μ w x hev (Sim.refl r) h1
      · exact hev.elim
    · -- a call
      split at hev
      · rename_i c hc
        have hnd : ∀ c, o.op ≠ .defer c := by intro c' hc'; rw [hc] at hc'; cases hc'
        rw [hse hnd]
        split at hev
        · rename_i k vs hcal
          obtain ⟨X, hX, hrun⟩ := callee_sound G r he hc hcal
          have hcc := hcall k vs h _ μ w X hev r hX
          cases k with
          | fn f =>
            simp only [CalRun] at hrun
            rw [hrun]
            rcases hcc with ⟨_, v, x, q1, q2, q3⟩ | ⟨_, q1, q2⟩
            · rw [q3]
              simp only [Oper.uponIn]
              exact hK _ _ μ w x q1 (Sim.refl r) q2
            · rw [q1]
              simp only [Oper.uponIn]
              refine ⟨Fr_depth _, (q2 rl (n - 1)).mono ?_⟩
              rintro en w' ⟨v, h', μ', x, p1, rfl, p3, p4⟩
              exact hK _ _ μ' w' x p1 p4 p3
          | yld k =>
            obtain ⟨en, q1, q2⟩ := hrun
            obtain ⟨en', fn, tmps, as, b, q3, q4, q5⟩ := hcc
            rw [q1] at q3
            obtain rfl := Option.some.inj q3
            rw [q2, q4]
            simp only [Oper.uponIn]
            refine ⟨Fr_depth _, (q5 rl (n - 1)).mono ?_⟩
            rintro en w' ⟨v, h', μ', x, p1, rfl, p3, p4⟩
            exact hK _ _ μ' w' x p1 p4 p3
        · exact hev.elim
      · exact hev.elim
    · -- write
      have hnd : ∀ c, o.op ≠ .defer c := by intro c hc; rw [hc] at hev; exact hev.elim
      rw [hse hnd]
      obtain ⟨v, h', q1, μ', w', nx, x, q2, q3, q4, q5⟩ := evW_sound G r he hev
      rw [q2]
      have := hK _ _ μ' w' x q1 q5 q4
      rcases q3 with rfl | ⟨rfl, rfl⟩ <;> simpa only [Oper.uponIn] using this
  · rename_i hw
    rw [wantedV_sound he hw]
    simp only [Bool.false_eq_true, if_false]
    exact ⟨fun _ _ => Fr_fn _ _, hK _ _ μ w undef hev (Sim.refl r) rfl⟩
  · exact hev.elim

/-! Regions in the text's order. -/

def dstsLt (ops : Array Oper) (n : Nat) : Prop := ∀ o ∈ ops.toList, dstLt o n

theorem evOps_sound {call : Caller} (hcall : CallOk C w0 call) (G : Good C w0) {ops : Array Oper} {rl : Option Nat} {n : Nat} {QQ : Exit → Act → World → Prop} : ∀ (l : List Oper) (k : Nat) {μ : Mu} {h : H} {w : World} {e : Env} {a : Act} {Q : Env × H → Prop},
    (∀ j, l[j]? = ops.toList[k + j]?) → (∀ o ∈ l, dstLt o a.tmps.size) → R w0 μ h w → ER μ e a.tmps → (evOps C call ops l e h).all Q →
    (∀ e' h' μ' a' w', Q (e', h') → Sim w0 μ h w μ' h' w' → ER μ' e' a'.tmps → a'.tmps.size = a.tmps.size → a'.defers = a.defers → QQ .normal a' w') →
    wpOpsIn (Fr rl) n C.P ops QQ (List.range' k l.length) a w
  | [], k, μ, h, w, e, a, Q, hl, hd, r, he, hev, hK => hK e h μ a w hev (Sim.refl r) he rfl rfl
  | o :: l, k, μ, h, w, e, a, Q, hl, hd, r, he, hev, hK => by
    simp only [List.length_cons, List.range'_succ]
    rw [wpOpsIn_cons]
    have ho : ops[k]? = some o := by have := hl 0; simp at this; rw [← this]
    simp only [evOps] at hev
    rw [T.all_bind] at hev
    unfold evOper at hev
    rw [T.all_bind] at hev
    refine evVal_sound hcall G r he ho hev fun v h' μ' w' x hq hs hx => ?_
    obtain ⟨d1, d2, d3⟩ := ER.dst (a := a) (he.mono hs.le) (hd o (.head _)) hx
    refine evOps_sound hcall G l (k + 1) (fun j => by have := hl (j + 1); rw [List.getElem?_cons_succ] at this; rw [this, show k + (j + 1) = k + 1 + j by omega]) (fun o' ho' => by rw [d2]; exact hd o' (.tail _ ho')) hs.rel d1 hq ?_
    intro e2 h2 μ2 a2 w2 p1 p2 p3 p4 p5
    exact hK e2 h2 μ2 a2 w2 p1 (hs.trans p2) p3 (p4.trans d2) (p5.trans d3)

end
end Go.Ix
namespace Go.Ix
open Go.RowKit (Below)
section
variable {C : Cfg} {w0 : World} {μ : Mu} {h : H} {w : World} {e : Env} {a : Act} {o : Oper} {v : V}

def XR : Ex → Exit
  | .normal => .normal
  | .exit id => .exit id
  | .ret => .ret

/-- The marks that ranges over functions have left. -/
def DR (μ : Mu) : List Nat → List Deferred → Prop
  | [], [] => True
  | d :: r, x :: s => (∃ en, μ d = some en ∧ x = { target := .collected en.blk, args := #[] }) ∧ DR μ r s
  | _, _ => False

theorem DR.mono {μ μ' : Mu} (hle : μ.le μ') : ∀ {l : List Nat} {m : List Deferred}, DR μ l m → DR μ' l m
  | [], [], _ => trivial
  | _ :: _, [], x => x
  | [], _ :: _, x => x
  | _ :: _, _ :: _, ⟨⟨en, h1, h2⟩, h3⟩ => ⟨⟨en, hle _ _ h1, h2⟩, h3.mono hle⟩

/-- What a region that draws its order comes to. -/
def DrawOk (C : Cfg) (w0 : World) (call : Caller) : Prop :=
  ∀ (id : Nat) (ops : Array Oper) (rl : Option Nat) (n : Nat) (QQ : Exit → Act → World → Prop) (μ : Mu) (h : H) (w : World) (e : Env) (a : Act) (Q : Env × H → Prop),
    (∀ o ∈ ops.toList, dstLt o a.tmps.size) → R w0 μ h w → ER μ e a.tmps → (evRegion C call ops true e h).all Q →
    (∀ e' h' μ' a' w', Q (e', h') → Sim w0 μ h w μ' h' w' → ER μ' e' a'.tmps → a'.tmps.size = a.tmps.size → a'.defers = a.defers → QQ .normal a' w') →
    (Code.region id ops true).wpIn (Fr rl) n C.P QQ a w

theorem stepR_scope {P : Program} {b : Frame} {k : List Item} {cs : List Frame} {c : Code} : step P (lone (b.atR a (.code (.scope c) :: k)) cs w) = .next (lone (b.atR a (.code c :: .inScope c :: k)) cs w) :=
  step_lone_go (by simp [stepG, stepG.exec, Frame.atR])

theorem stepR_inScope {P : Program} {b : Frame} {k : List Item} {cs : List Frame} {c : Code} : step P (lone (b.atR a (.inScope c :: k)) cs w) = .next (lone (b.atR a k) cs w) :=
  step_lone_go (by simp [stepG, stepG.exec, Frame.atR])

/-- A scope out of which nothing jumps. -/
theorem wpIn_scope {F : Fence} {n : Nat} {P : Program} {c : Code} {Q : Exit → Act → World → Prop} (h : c.wpIn F n P Q a w) (hQ : ∀ l a w, ¬ Q (.goto l) a w) : (Code.scope c).wpIn F n P Q a w := by
  intro b k cs hro hb hr
  have h0 : (lone (b.atR a (.code (.scope c) :: k)) cs w).fenced P F := fenced_calm hb hr rfl
  obtain ⟨e, a₁, w₁, hq, harr⟩ := h b (.inScope c :: k) cs hro hb hr
  cases e with
  | normal => exact ⟨.normal, a₁, w₁, hq, .head h0 stepR_scope (StepsIn.trans harr (.one (fenced_calm hb hr rfl) stepR_inScope))⟩
  | exit id =>
    have hx : exitTo id (.inScope c :: k) = exitTo id k := by simp [exitTo]
    exact ⟨_, a₁, w₁, hq, fun k' hk => .head h0 stepR_scope (harr.1 k' (by rw [hx]; exact hk)),
      fun hr' hk => let ⟨k₁, h1, h2⟩ := harr.2 hr' (by rw [hx]; exact hk); ⟨k₁, h1, .head h0 stepR_scope h2⟩⟩
  | goto l => exact absurd hq (hQ l _ _)
  | ret => exact ⟨_, a₁, w₁, hq, .of_steps (.one h0 stepR_scope) harr⟩
  | panic ch => exact ⟨_, a₁, w₁, hq, .of_steps (.one h0 stepR_scope) harr⟩
  | outgrown => exact ⟨_, a₁, w₁, hq, .of_steps (.one h0 stepR_scope) harr⟩

/-- What a piece of code comes to: what is asked of an exit. -/
def Then (w0 : World) (μ : Mu) (h : H) (w : World) (sz : Nat) (Q : Ex × S → Prop) (x : Exit) (a' : Act) (w' : World) : Prop :=
  ∃ y s' μ', x = XR y ∧ Q (y, s') ∧ Sim w0 μ h w μ' s'.h w' ∧ ER μ' s'.env a'.tmps ∧ a'.tmps.size = sz ∧ DR μ' s'.ds a'.defers

theorem Then.noGoto {sz : Nat} {Q : Ex × S → Prop} {l : Nat} {a' : Act} {w' : World} : ¬ Then w0 μ h w sz Q (.goto l) a' w' := by
  rintro ⟨y, s', μ', hx, _⟩
  cases y <;> cases hx

def Rnd (μ : Mu) : Option Nat → Option Nat → Prop
  | none, none => True
  | some k, some l => ∃ en, μ k = some en ∧ en.blk = l
  | _, _ => False

theorem Rnd.mono {μ μ' : Mu} (hle : μ.le μ') {x y : Option Nat} (h : Rnd μ x y) : Rnd μ' x y := by
  cases x <;> cases y <;> try exact h
  obtain ⟨en, h1, h2⟩ := h
  exact ⟨en, hle _ _ h1, h2⟩

theorem ofValue_run {P : Program} {F : Value} {X : Array Value} {n : Next} {w1 : World} (h : (do let d ← Deferred.ofValue F X; invoke d.target d.args).run P w = .ok n w1) :
    ∃ d, (Deferred.ofValue F X).run P w = .ok d w ∧ (invoke d.target d.args).run P w = .ok n w1 := by
  cases F <;> simp only [Deferred.ofValue, Sem.run_bind, Sem.run_pure, run_stuck, Result.andThen_ok, Result.andThen_halt] at h ⊢ <;> first | exact ⟨_, rfl, h⟩ | cases h

theorem endLoop_run {P : Program} {l : Nat} {lp : Loop} (hl : w.heap[l]? = some (.loop lp)) (hb : lp.state ≠ .busy) :
    (Instr.endLoop l).run P w = .ok lp.pending { w with heap := w.heap.setIfInBounds l (.loop { lp with state := .exhausted }) } := by
  have hne : (lp.state == LoopState.busy) = false := by simpa using hb
  simp only [Instr.endLoop, Instr.getLoop, Sem.run_bind, getObj_run hl (by simp), Result.andThen_ok, Sem.run_pure, hne, Bool.false_eq_true, if_false, setObj_run hl (by simp), Sem.run_ite]

theorem evCode_sound {call : Caller} (hcall : CallOk C w0 call) (G : Good C w0) (hdraw : DrawOk C w0 call) (n : Nat) (f : FuncId) : ∀ (c : Code) {rnd rl : Option Nat} {μ : Mu} {s : S} {w : World} {a : Act} {Q : Ex × S → Prop} (m : Nat),
    (evCode C call n f rnd c s).all Q → Rnd μ rnd rl → R w0 μ s.h w → ER μ s.env a.tmps → Code.dstOk a.tmps.size c = true → DR μ s.ds a.defers →
    c.wpIn (Fr rl) m C.P (Then w0 μ s.h w a.tmps.size Q) a w
  | .skip, rnd, rl, μ, s, w, a, Q, m, hev, hr, r, he, hd, hds => wpIn_skip ⟨.normal, s, μ, rfl, hev, Sim.refl r, he, rfl, hds⟩
  | .label l, rnd, rl, μ, s, w, a, Q, m, hev, hr, r, he, hd, hds => wpIn_label ⟨.normal, s, μ, rfl, hev, Sim.refl r, he, rfl, hds⟩
  | .exit id, rnd, rl, μ, s, w, a, Q, m, hev, hr, r, he, hd, hds => wpIn_exit ⟨.exit id, s, μ, rfl, hev, Sim.refl r, he, rfl, hds⟩
  | .ret, rnd, rl, μ, s, w, a, Q, m, hev, hr, r, he, hd, hds => wpIn_ret ⟨.ret, s, μ, rfl, hev, Sim.refl r, he, rfl, hds⟩
  | .goto l, rnd, rl, μ, s, w, a, Q, m, hev, hr, r, he, hd, hds => hev.elim
  | .refuse l, rnd, rl, μ, s, w, a, Q, m, hev, hr, r, he, hd, hds => hev.elim
  | .scope c, rnd, rl, μ, s, w, a, Q, m, hev, hr, r, he, hd, hds =>
    wpIn_scope (evCode_sound hcall G hdraw n f c m hev hr r he hd hds) fun _ _ _ => Then.noGoto
  | .region id ops draw, rnd, rl, μ, s, w, a, Q, m, hev, hr, r, he, hd, hds => by
    simp only [evCode] at hev
    rw [T.all_bind] at hev
    have hdl : ∀ o ∈ ops.toList, dstLt o a.tmps.size := by
      intro o ho t ht
      simp only [Code.dstOk, Array.all_eq_true'] at hd
      have := hd o (by simpa using ho)
      simpa [ht] using this
    have fin : ∀ e' h' μ' a' w', (T.ret (Ex.normal, ({ s with env := e'.keep (C.keep f).1 (C.keep f).2, h := h' } : S))).all Q → Sim w0 μ s.h w μ' h' w' → ER μ' e' a'.tmps → a'.tmps.size = a.tmps.size → a'.defers = a.defers →
        Then w0 μ s.h w a.tmps.size Q .normal a' w' := fun e' h' μ' a' w' p1 p2 p3 p4 p5 =>
      ⟨.normal, _, μ', rfl, p1, p2, p3.keep _ _, p4, by rw [p5]; exact hds.mono p2.le⟩
    cases draw with
    | true => exact hdraw id ops rl m _ μ s.h w s.env a _ hdl r he hev fin
    | false =>
      refine wpIn_region ?_
      rw [List.range_eq_range', ← Array.length_toList]
      exact evOps_sound hcall G ops.toList 0 (fun j => by simp) hdl r he (by simpa [evRegion] using hev) fin
  | .seq x y, rnd, rl, μ, s, w, a, Q, m, hev, hr, r, he, hd, hds => by
    simp only [evCode] at hev
    rw [T.all_bind] at hev
    simp only [Code.dstOk, Bool.and_eq_true] at hd
    refine wpIn_seq (wpIn_mono (evCode_sound hcall G hdraw n f x m hev hr r he hd.1 hds) ?_)
    rintro ex a1 w1 ⟨z, s1, μ1, rfl, q1, q2, q3, q4, q5⟩
    cases z with
    | normal =>
      refine wpIn_mono (evCode_sound hcall G hdraw n f y m q1 (hr.mono q2.le) q2.rel q3 (by rw [q4]; exact hd.2) q5) ?_
      rintro ex2 a2 w2 ⟨z2, s2, μ2, rfl, p1, p2, p3, p4, p5⟩
      exact ⟨z2, s2, μ2, rfl, p1, q2.trans p2, p3, p4.trans q4, p5⟩
    | exit id => exact ⟨.exit id, s1, μ1, rfl, q1, q2, q3, q4, q5⟩
    | ret => exact ⟨.ret, s1, μ1, rfl, q1, q2, q3, q4, q5⟩
  | .cond x p q, rnd, rl, μ, s, w, a, Q, m, hev, hr, r, he, hd, hds => by
    simp only [evCode] at hev
    simp only [Code.dstOk, Bool.and_eq_true] at hd
    have hac : ER μ (afterCond (C.keep f) x s.env) a.tmps := by
      unfold afterCond
      split
      · split
        · exact he.del _
        · exact he
      · exact he
    split at hev
    · rename_i hx
      exact wpIn_cond_true (by rw [conc_bool (opd_sound he hx)]) (evCode_sound hcall G hdraw n f p m (s := ⟨afterCond (C.keep f) x s.env, s.ds, s.h⟩) hev hr r hac hd.1 hds)
    · rename_i hx
      exact wpIn_cond_false (by rw [conc_bool (opd_sound he hx)]) (evCode_sound hcall G hdraw n f q m (s := ⟨afterCond (C.keep f) x s.env, s.ds, s.h⟩) hev hr r hac hd.2 hds)
    · exact hev.elim
  | .block id c, rnd, rl, μ, s, w, a, Q, m, hev, hr, r, he, hd, hds => by
    simp only [evCode] at hev
    rw [T.all_bind] at hev
    simp only [Code.dstOk] at hd
    refine wpIn_block (wpIn_mono (evCode_sound hcall G hdraw n f c m hev hr r he hd hds) ?_)
    rintro ex a1 w1 ⟨z, s1, μ1, rfl, q1, q2, q3, q4, q5⟩
    cases z with
    | normal => exact ⟨.normal, s1, μ1, rfl, q1, q2, q3, q4, q5⟩
    | ret => exact ⟨.ret, s1, μ1, rfl, q1, q2, q3, q4, q5⟩
    | exit j =>
      simp only [XR, Exit.inBlock]
      by_cases hj : j = id
      · simp only [hj, if_true] at q1 ⊢
        exact ⟨.normal, s1, μ1, rfl, q1, q2, q3, q4, q5⟩
      · simp only [hj, if_false] at q1 ⊢
        exact ⟨.exit j, s1, μ1, rfl, q1, q2, q3, q4, q5⟩
  | .loop c, rnd, rl, μ, s, w, a, Q, m, hev, hr, r, he, hd, hds => by
    simp only [evCode] at hev
    simp only [Code.dstOk] at hd
    have key : ∀ (k : Nat) {μ1 : Mu} {s1 : S} {w1 : World} {a1 : Act}, (loopN (evCode C call n f rnd c) k s1).all Q → Sim w0 μ s.h w μ1 s1.h w1 → ER μ1 s1.env a1.tmps → a1.tmps.size = a.tmps.size → DR μ1 s1.ds a1.defers →
        Code.roundsIn (Fr rl) m C.P c (Then w0 μ s.h w a.tmps.size Q) k a1 w1 := by
      intro k
      induction k with
      | zero => intro μ1 s1 w1 a1 h1; exact h1.elim
      | succ k ih =>
        intro μ1 s1 w1 a1 h1 h2 h3 h4 h5
        simp only [loopN] at h1
        rw [T.all_bind] at h1
        rw [roundsIn_succ]
        refine wpIn_mono (evCode_sound hcall G hdraw n f c m h1 (hr.mono h2.le) h2.rel h3 (by rw [h4]; exact hd) h5) ?_
        rintro ex a2 w2 ⟨z, s2, μ2, rfl, q1, q2, q3, q4, q5⟩
        cases z with
        | normal => exact ih q1 (h2.trans q2) q3 (q4.trans h4) q5
        | exit id => exact ⟨.exit id, s2, μ2, rfl, q1, h2.trans q2, q3, q4.trans h4, q5⟩
        | ret => exact ⟨.ret, s2, μ2, rfl, q1, h2.trans q2, q3, q4.trans h4, q5⟩
    exact wpIn_loop_rounds n (key n hev (Sim.refl r) he rfl hds)
  | .rangeFunc g ps as b, rnd, rl, μ, s, w, a, Q, m, hev, hr, r, he, hd, hds => by
    simp only [evCode] at hev
    simp only [Code.dstOk, Bool.and_eq_true] at hd
    obtain ⟨⟨hd1, hd2⟩, hd3⟩ := hd
    cases hg : opd s.env g with
    | none => simp [hg, T.all] at hev
    | some gv =>
      simp only [hg] at hev
      have hG := opd_sound he hg
      have hps : ∀ t ∈ ps.toList, t < a.tmps.size := fun t ht => by
        rw [Array.all_eq_true'] at hd1
        simpa using hd1 t (by simpa using ht)
      -- what follows once the record is laid
      have core : ∀ (fn : FuncId) (d : Nat) (mark : List Nat) (mk : List Deferred) (h1 : H) (μ1 : Mu) (w1 : World), Sim w0 μ s.h w μ1 h1 w1 → (∃ en, μ1 d = some en ∧
            (Instr.enterLoop fn a.tmps ps as b (Fr rl).round).run C.P w = .ok (w1.heap.size, mk) (w1.alloc (.loop { state := .ready, pending := none, fn, tmps := a.tmps, params := ps, assign := as, body := b, defers := en.blk }))) →
          DR μ1 (mark ++ s.ds) (mk ++ a.defers) →
          (match calOf gv [.yield h1.next] with
            | some (.fn g, vs) => if !(hasBody C.P g) then .fail else (call (.fn g) vs (h1.push (.loop .ready none f s.env ps.toList as b d))).bind fun (_, h) =>
              afterLoop h1.next { s with ds := mark ++ s.ds, h } fun c s => match c with
                | .ret => .ret (.ret, s)
                | .exit id => .ret (.exit id, s)
                | _ => .fail
            | _ => .fail : T (Ex × S)).all Q →
          ∃ (l : Nat) (mark : List Deferred) (w₁ : World) (d : Deferred) (w₁' : World) (f : FuncId) (args : Array Value) (w₂ : World),
            (Instr.enterLoop fn a.tmps ps as b (Fr rl).round).run C.P w = .ok (l, mark) w₁ ∧
            (resolve a.eval (rangeCall g l) 0).run C.P w₁ = .ok d w₁' ∧
            (∀ f', Target.leads C.P w₁' d.target d.args = some f' → (Fr rl).fn f') ∧
            (invoke d.target d.args).run C.P w₁' = .ok (.enter f args) w₂ ∧
            ((Fr rl).depth.isSome = true → 1 ≤ m) ∧
            CallsIn (Fr rl) (m - 1) C.P f args w₂ (rangePost (Fr rl) m C.P l (Then w0 μ s.h w a.tmps.size Q) { a with defers := mark ++ a.defers }) := by
        intro fn d mark mk h1 μ1 w1 hs1 hen hdr hcont
        obtain ⟨en, hen1, hen2⟩ := hen
        have hps2 := Sim.push hs1.rel (.loop .ready none f s.env ps.toList as b d) (.loop { state := .ready, pending := none, fn, tmps := a.tmps, params := ps, assign := as, body := b, defers := en.blk }) 0 0
          ⟨fn, a.tmps, en, by simp, he.mono hs1.le, hen1, hps, hd2, hd3⟩
        have hs2 := hs1.trans hps2
        split at hcont
        · rename_i g' vs hcal
          split at hcont
          · exact hcont.elim
          · rename_i hbody
            rw [T.all_bind] at hcont
            have hY : concL (μ1.up h1.next ⟨w1.heap.size, 0, 0⟩) [.yield h1.next] = some [.func (.yield w1.heap.size) #[] #[]] := by simp [concL, conc, Mu.up_self]
            obtain ⟨Y, hYv, hrun⟩ := calOf_sound (C := C) (w := w1.alloc (.loop { state := .ready, pending := none, fn, tmps := a.tmps, params := ps, assign := as, body := b, defers := en.blk })) hcal (conc_mono hs2.le _ _ hG) hY
            have hcc := hcall (.fn g') vs _ _ _ _ Y hcont hs2.rel hYv
            rcases hcc with ⟨q0, _⟩ | ⟨_, q1, q2⟩
            · simp [q0] at hbody
            · simp only [CalRun] at hrun
              rw [q1] at hrun
              obtain ⟨dd, k1, k2⟩ := ofValue_run hrun
              refine ⟨w1.heap.size, mk, _, dd, _, g', Y.toArray, _, hen2, ?_, fun _ _ => Fr_fn _ _, k2, Fr_depth _, (q2 rl (m - 1)).mono ?_⟩
              · simp only [resolve]
                have : (#[Operand.const (Value.func (.yield w1.heap.size) #[] #[])].map a.eval) = [Value.func (.yield w1.heap.size) #[] #[]].toArray := by simp [Act.eval]
                rw [this]
                exact k1
              · rintro ee w3 ⟨v, h3, μ3, x, p1, rfl, p3, p4⟩
                simp only [rangePost]
                dsimp only [afterLoop] at p1
                split at p1
                · rename_i st pd f' e' ps' as' b' d' hget
                  split at p1
                  · exact p1.elim
                  · rename_i hst
                    obtain ⟨en3, ob3, o1, o2, o3, fn3, tmps3, dn3, o4, o5, o6, o7, o8, o9⟩ := p4.rel.obj _ _ hget rfl
                    have hblk : en3.blk = w1.heap.size := by
                      have := p4.le _ _ (Mu.up_self (μ := μ1) (k := h1.next) (e := ⟨w1.heap.size, 0, 0⟩))
                      rw [o1] at this
                      rw [Option.some.inj this]
                    subst o4
                    rw [hblk] at o3
                    have hend := endLoop_run (P := C.P) o3 (by simpa using hst)
                    have hset := Sim.setObj p4.rel (ob' := .loop .exhausted pd f' e' ps' as' b' d') (x := .loop { state := .exhausted, pending := pd, fn := fn3, tmps := tmps3, params := ps'.toArray, assign := as', body := b', defers := dn3.blk }) hget rfl o1 ⟨fn3, tmps3, dn3, rfl, o5, o6, o7, o8, o9⟩
                    rw [hblk] at hset
                    refine ⟨pd, _, hend, ?_⟩
                    have hsim := (hs2.trans p4).trans hset
                    have hle3 := Mu.le_trans (Mu.le_up (hs1.rel.fresh _ (Nat.le_refl _))) p4.le
                    have hdr3 := hdr.mono hle3
                    split at p1
                    · exact ⟨.normal, _, _, rfl, p1, hsim, he.mono hsim.le, rfl, hdr3⟩
                    · rename_i c
                      split at p1
                      · exact wpIn_ret ⟨.ret, _, _, rfl, p1, hsim, he.mono hsim.le, rfl, hdr3⟩
                      · rename_i id
                        exact wpIn_exit ⟨.exit id, _, _, rfl, p1, hsim, he.mono hsim.le, rfl, hdr3⟩
                      · exact p1.elim
                · exact p1.elim
        · exact hcont.elim
      refine wpIn_rangeFunc fun fn _ => ?_
      cases rnd with
      | none =>
        cases rl with
        | some l => exact hr.elim
        | none =>
          simp only at hev
          have hp := Sim.push r (.dfr true) (.deferred (some [])) 0 0 rfl
          refine core fn s.h.next [s.h.next] [{ target := .collected w.heap.size, args := #[] }] _ _ _ hp ⟨⟨w.heap.size, 0, 0⟩, Mu.up_self, ?_⟩ ?_ hev
          · simp [Instr.enterLoop, Fr, Fence.wide]
          · exact ⟨⟨_, Mu.up_self, rfl⟩, hds.mono hp.le⟩
      | some k =>
        cases rl with
        | none => exact hr.elim
        | some l =>
          obtain ⟨en, hk1, hk2⟩ := hr
          subst hk2
          simp only at hev
          unfold getLoop at hev
          cases hget : s.h.get k with
          | none => simp [hget, T.all] at hev
          | some ob =>
            cases ob <;> simp only [hget] at hev <;> try (exact hev.elim)
            rename_i st pd f' e' ps' as' b' d'
            obtain ⟨en3, ob3, o1, o2, o3, fn3, tmps3, dn3, o4, o5, o6, o7, o8, o9⟩ := r.obj _ _ hget rfl
            rw [hk1] at o1
            obtain rfl := Option.some.inj o1
            subst o4
            refine core fn d' [] [] s.h μ w (Sim.refl r) ⟨dn3, o6, ?_⟩ hds hev
            simp [Instr.enterLoop, Fr, Instr.getLoop, getObj_run o3]

end
end Go.Ix
namespace Go.Ix
open Go.RowKit (Below)
section
variable {C : Cfg} {w0 : World} {μ : Mu} {h : H} {w : World} {e : Env} {a : Act} {o : Oper} {v : V}

theorem ER.ofArgs {tail : List Value} : ∀ (i : Nat) (vs : List V) (X : List Value) (pre : List Value), concL μ vs = some X → pre.length = i → ER μ (Env.ofArgs i vs) (pre ++ X ++ tail).toArray
  | i, [], X, pre, hx, hp => fun t v hv => by simp [Env.ofArgs, Env.get] at hv
  | i, v :: r, X, pre, hx, hp => by
    obtain ⟨x, xs, rfl, h1, h2⟩ := concL_cons_inv hx
    intro t u hu
    simp only [Env.ofArgs, Env.get] at hu
    split at hu
    · rename_i hit
      subst hit
      obtain rfl := Option.some.inj hu
      refine ⟨x, h1, ?_⟩
      simp [← hp]
    · have := ER.ofArgs (tail := tail) (i + 1) r xs (pre ++ [x]) h2 (by simp [hp]) t u hu
      simpa using this

theorem three_run {P : Program} (s : String) (k1 k2 k3 : IntKind) (x y c : Int) (hc : ¬ c.toNat > 1) : (Extern.MathBitsCarry.three s #[.int k1 x, .int k2 y, .int k3 c]).run P w = .ok (x.toNat, y.toNat, c.toNat) w := by
  have e : Extern.MathBitsCarry.three s #[.int k1 x, .int k2 y, .int k3 c] = (do
    let c ← (do pure (← asInt (.int k3 c)).toNat : Sem Nat)
    if c > 1 then unsupported (.noEntry ("extern/math/bits." ++ s ++ ": a carry that is neither 0 nor 1"))
    pure ((← asInt (.int k1 x)).toNat, (← asInt (.int k2 y)).toNat, c)) := rfl
  rw [e]
  simp [asInt, asIntOf, hc]

theorem ext_run {P : Program} {f : FuncId} {fn : Func} {args : List V} {X : List Value} (hf : P.funcs[f]? = some fn) (hb : fn.body = none) (hor : fn.origin = "") (hx : ext fn.name args = some v) (hX : concL μ args = some X) :
    ∃ x, conc μ v = some x ∧ (callFunc f X.toArray).run P w = .ok (.value x) w := by
  unfold ext at hx
  split at hx
  · rename_i hname
    split at hx
    · rename_i k1 x k2 y k3 c
      split at hx
      · cases hx
      · rename_i hc
        obtain rfl := Option.some.inj hx
        obtain ⟨X1, xs1, rfl, h1, h2⟩ := concL_cons_inv hX
        obtain ⟨X2, xs2, rfl, h3, h4⟩ := concL_cons_inv h2
        obtain ⟨X3, xs3, rfl, h5, h6⟩ := concL_cons_inv h4
        simp only [concL, Option.some.injEq] at h6
        subst h6
        rw [conc_int h1, conc_int h3, conc_int h5]
        refine ⟨_, rfl, ?_⟩
        have e1 : Extern.findNext fn = none := by
          unfold Extern.findNext
          simp only [hname, hor]
          kernel_rfl
        have e2 : Extern.find fn = some (fun args => do
            let (x, y, c) ← Extern.MathBitsCarry.three "Add64" args
            pure (Extern.MathBitsCarry.pair ((x + y + c) % Extern.MathBitsCarry.m64) ((x + y + c) / Extern.MathBitsCarry.m64))) := by
          unfold Extern.find
          simp only [hname, hor]
          kernel_rfl
        have e3 : (fn.name == "runtime.NumGoroutine") = false := by rw [hname]; kernel_rfl
        simp only [callFunc, Sem.run_bind, run_program, Result.andThen_ok, hf, e3, Bool.false_eq_true, if_false, hb, Option.isNone_none, if_true, run_mark, e1, e2, Sem.run_pure]
        simp [three_run, hc, Extern.MathBitsCarry.pair, Extern.MathBitsCarry.m64]
    · cases hx
  · cases hx

theorem enter_run {P : Program} {f : FuncId} {fn : Func} {c : Code} {X : Array Value} (hf : P.funcs[f]? = some fn) (hb : fn.body = some c) (hn : (fn.name == "runtime.NumGoroutine") = false) :
    (callFunc f X).run P w = .ok (.enter f X) w := by
  simp only [callFunc, Sem.run_bind, run_program, Result.andThen_ok, hf, hn, Bool.false_eq_true, if_false, hb, Option.isNone_some, Sem.run_pure]

theorem unmark_sound {fn : Func} {n m : Nat} {tmps : Array Value} {RR : Ending → World → Prop} {P : Program} : ∀ (ds : List Nat) {μ : Mu} {h h' : H} {w : World} {defers : List Deferred}, unmark ds h = some h' → R w0 μ h w → DR μ ds defers →
    (∀ w', Sim w0 μ h w μ h' w' → ∃ x, (Go.results fn tmps).run P w' = .ok x w' ∧ RR (.returned x) w') → LeavesInM (Fr none) m P fn tmps RR defers .returning w
  | [], μ, h, h', w, defers, hu, r, hd, hk => by
    simp only [unmark, Option.some.injEq] at hu
    subst hu
    cases defers with
    | cons d s => exact hd.elim
    | nil => exact hk w (Sim.refl r)
  | d :: ds, μ, h, h', w, defers, hu, r, hd, hk => by
    cases defers with
    | nil => exact hd.elim
    | cons x s =>
      obtain ⟨⟨en, h1, rfl⟩, h2⟩ := hd
      simp only [unmark] at hu
      split at hu
      · rename_i hget
        obtain ⟨en', ob, o1, o2, o3, o4⟩ := r.obj _ _ hget rfl
        rw [h1] at o1
        obtain rfl := Option.some.inj o1
        simp only [OR, if_true] at o4
        subst o4
        have hset := Sim.setObj r (ob' := .dfr false) (x := .deferred none) hget rfl h1 rfl
        refine ⟨by simp, .inl ⟨en.blk, _, rfl, ?_, unmark_sound (n := n) ds hu hset.rel h2 fun w' hs => hk w' (hset.trans hs)⟩⟩
        simp [Instr.takeDeferred, getObj_run o3, setObj_run o3]
      · cases hu

def resF (tmps : Array Value) : ResultVar → Sem Value
  | .tmp t => pure (tmps.getD t undef)
  | .cell p t => do loadVar t (← asAddr (tmps.getD p undef))

theorem results_eq (fn : Func) (tmps : Array Value) : Go.results fn tmps = (do
    let vs ← fn.results.mapM (resF tmps)
    pure (if h : vs.size = 1 then vs[0] else .tuple vs)) := by
  unfold Go.results
  congr 2

theorem resV_sound (G : Good C w0) (r : R w0 μ h w) (he : ER μ e a.tmps) : ∀ {rs : List ResultVar} {vs : List V}, resV C e h rs = some vs →
    ∃ xs, concL μ vs = some xs ∧ (rs.mapM (resF a.tmps)).run C.P w = .ok xs w
  | [], vs, hv => by simp only [resV, Option.some.injEq] at hv; subst hv; exact ⟨[], rfl, rfl⟩
  | .tmp t :: rs, vs, hv => by
    simp only [resV] at hv
    split at hv
    · rename_i u us h1 h2
      obtain rfl := Option.some.inj hv
      obtain ⟨xs, g1, g2⟩ := resV_sound G r he h2
      obtain ⟨x, g3, g4⟩ := he t u h1
      refine ⟨x :: xs, concL_cons g3 g1, ?_⟩
      simp only [List.mapM_cons, resF, Sem.run_bind, Sem.run_pure, Result.andThen_ok, g2, Array.getD_eq_getD_getElem?, g4, Option.getD_some]
    · cases hv
  | .cell p t :: rs, vs, hv => by
    simp only [resV] at hv
    split at hv
    · rename_i ad us h1 h2
      split at hv
      · rename_i u h3
        obtain rfl := Option.some.inj hv
        obtain ⟨xs, g1, g2⟩ := resV_sound G r he h2
        obtain ⟨x, g3, g4⟩ := he p _ h1
        obtain ⟨y, hy, rfl⟩ := conc_ptr g3
        obtain ⟨z, g5, g6⟩ := ldT_sound G r h3 hy
        refine ⟨z :: xs, concL_cons g5 g1, ?_⟩
        simp only [List.mapM_cons, resF, Sem.run_bind, Array.getD_eq_getD_getElem?, g4, Option.getD_some, asAddr, Sem.run_pure, Result.andThen_ok, g6, g2]
      · cases hv
    · cases hv

theorem results_sound (G : Good C w0) (r : R w0 μ h w) (he : ER μ e a.tmps) {fn : Func} (hv : Ix.results C e h fn.results.toList = some v) : ∃ x, conc μ v = some x ∧ (Go.results fn a.tmps).run C.P w = .ok x w := by
  unfold Ix.results at hv
  have hm : ∀ xs, (fn.results.toList.mapM (resF a.tmps)).run C.P w = .ok xs w →
      (Go.results fn a.tmps).run C.P w = .ok (if h : xs.toArray.size = 1 then xs.toArray[0] else .tuple xs.toArray) w := by
    intro xs hx
    rw [results_eq, Array.mapM_eq_mapM_toList]
    simp only [Sem.run_bind, Sem.run_map]
    rw [hx]
    rfl
  split at hv
  · rename_i u hr
    obtain rfl := Option.some.inj hv
    obtain ⟨xs, g1, g2⟩ := resV_sound G r he hr
    obtain ⟨x, ys, rfl, g3, g4⟩ := concL_cons_inv g1
    simp only [concL, Option.some.injEq] at g4
    subst g4
    exact ⟨x, g3, hm _ g2⟩
  · rename_i vs hne hr
    obtain rfl := Option.some.inj hv
    obtain ⟨xs, g1, g2⟩ := resV_sound G r he hr
    refine ⟨.tuple xs.toArray, by simp [conc, g1], ?_⟩
    rw [hm _ g2]
    have hl := concL_length g1
    have : ¬ xs.toArray.size = 1 := by
      intro h1
      simp at h1
      rw [hl] at h1
      obtain ⟨u, rfl⟩ := List.length_eq_one_iff.1 h1
      exact hne u rfl
    rw [dif_neg this]
  · cases hv

theorem setParams_sound {tmps0 : Array Value} : ∀ (ps : List Tmp) (vs : List V) {e e' : Env} {tmps : Array Value} {X : List Value}, setParams e ps vs = some e' → concL μ vs = some X → ER μ e tmps → (∀ t ∈ ps, t < tmps.size) →
    ps.length = X.length ∧ ER μ e' ((ps.zip X).foldl (fun tmps (t, a) => tmps.setIfInBounds t a) tmps) ∧ ((ps.zip X).foldl (fun tmps (t, a) => tmps.setIfInBounds t a) tmps).size = tmps.size
  | [], [], e, e', tmps, X, hs, hx, he, hp => by
    simp only [setParams, Option.some.injEq] at hs
    subst hs
    simp only [concL, Option.some.injEq] at hx
    subst hx
    exact ⟨rfl, he, rfl⟩
  | [], _ :: _, e, e', tmps, X, hs, _, _, _ => by simp [setParams] at hs
  | _ :: _, [], e, e', tmps, X, hs, _, _, _ => by simp [setParams] at hs
  | t :: ts, v :: vs, e, e', tmps, X, hs, hx, he, hp => by
    obtain ⟨x, xs, rfl, h1, h2⟩ := concL_cons_inv hx
    simp only [setParams] at hs
    have he1 := he.set h1 (hp t (.head _))
    obtain ⟨g1, g2, g3⟩ := setParams_sound (tmps0 := tmps0) ts vs hs h2 he1 (fun u hu => by simpa using hp u (.tail _ hu))
    exact ⟨by simp [g1], by simpa using g2, by simpa using g3⟩

theorem dstOk_mono {n m : Nat} (hnm : n ≤ m) : ∀ {c : Code}, Code.dstOk n c = true → Code.dstOk m c = true
  | .region _ ops _, hd => by
    simp only [Code.dstOk, Array.all_eq_true'] at hd ⊢
    intro o ho
    have := hd o ho
    split at this
    · exact decide_eq_true (Nat.lt_of_lt_of_le (of_decide_eq_true this) hnm)
    · rfl
  | .seq a b, hd => by simp only [Code.dstOk, Bool.and_eq_true] at hd ⊢; exact ⟨dstOk_mono hnm hd.1, dstOk_mono hnm hd.2⟩
  | .cond _ a b, hd => by simp only [Code.dstOk, Bool.and_eq_true] at hd ⊢; exact ⟨dstOk_mono hnm hd.1, dstOk_mono hnm hd.2⟩
  | .block _ b, hd => by simp only [Code.dstOk] at hd ⊢; exact dstOk_mono hnm hd
  | .loop b, hd => by simp only [Code.dstOk] at hd ⊢; exact dstOk_mono hnm hd
  | .scope b, hd => by simp only [Code.dstOk] at hd ⊢; exact dstOk_mono hnm hd
  | .rangeFunc _ ps a b, hd => by
    simp only [Code.dstOk, Bool.and_eq_true, Array.all_eq_true'] at hd ⊢
    exact ⟨⟨fun t ht => decide_eq_true (Nat.lt_of_lt_of_le (of_decide_eq_true (hd.1.1 t ht)) hnm), dstOk_mono hnm hd.1.2⟩, dstOk_mono hnm hd.2⟩
  | .skip, _ => rfl
  | .exit _, _ => rfl
  | .label _, _ => rfl
  | .goto _, _ => rfl
  | .ret, _ => rfl
  | .refuse _, _ => rfl

structure Good2 (C : Cfg) (w0 : World) : Prop extends Good C w0 where
  names : ∀ (f : FuncId) (fn : Func), C.P.funcs[f]? = some fn → (fn.name == "runtime.NumGoroutine") = false
  sum : ∀ (f : FuncId) (g : List V → H → T (V × H)), C.sum f = some g → ∀ (vs : List V) (h : H) (Q : V × H → Prop) (μ : Mu) (w : World) (X : List Value), (g vs h).all Q → R w0 μ h w → concL μ vs = some X → FnOk C w0 μ h w f X.toArray Q

theorem setLoop_sound (r : R w0 μ h w) {k : Nat} {st st' : LoopState} {p p' : Option Code} {f : FuncId} {en : Env} {ps : List Tmp} {as b : Code} {d : Nat} (hk : h.get k = some (.loop st p f en ps as b d)) :
    ∃ (e : En) (lp : Loop), μ k = some e ∧ w.heap[e.blk]? = some (.loop lp) ∧ lp.state = st ∧ lp.params = ps.toArray ∧ lp.assign = as ∧ lp.body = b ∧ ER μ en lp.tmps ∧ (∀ t ∈ ps, t < lp.tmps.size) ∧ Code.dstOk lp.tmps.size as = true ∧ Code.dstOk lp.tmps.size b = true ∧
      Sim w0 μ h w μ (h.set k (.loop st' p' f en ps as b d)) { w with heap := w.heap.setIfInBounds e.blk (.loop { lp with state := st', pending := p' }) } ∧ lp.pending = p := by
  obtain ⟨e, ob, o1, o2, o3, fn3, tmps3, dn3, o4, o5, o6, o7, o8, o9⟩ := r.obj _ _ hk rfl
  subst o4
  exact ⟨e, _, o1, o3, rfl, rfl, rfl, rfl, o5, o7, o8, o9, Sim.setObj r (ob' := .loop st' p' f en ps as b d) hk rfl o1 ⟨fn3, tmps3, dn3, rfl, o5, o6, o7, o8, o9⟩, rfl⟩

theorem ev_ok (G : Good2 C w0) (hdraw : ∀ call, CallOk C w0 call → DrawOk C w0 call) : ∀ n, CallOk C w0 (ev C n)
  | 0 => fun c vs h Q μ w X hev _ _ => hev.elim
  | n + 1 => by
    have ih := ev_ok G hdraw n
    intro c vs h Q μ w X hev r hX
    cases c with
    | fn f =>
      simp only [ev] at hev
      simp only
      cases hsum : C.sum f with
      | some g => simp only [hsum] at hev; exact G.sum f g hsum vs h Q μ w X hev r hX
      | none =>
      simp only [hsum] at hev
      cases hf : C.P.funcs[f]? with
      | none => simp [hf, T.all] at hev
      | some fn =>
        simp only [hf] at hev
        cases hb : fn.body with
        | none =>
          simp only [hb] at hev
          by_cases hor : fn.origin = ""
          · simp only [hor, if_true] at hev
            cases hx : ext fn.name vs with
            | none => simp [hx, T.all] at hev
            | some v =>
              simp only [hx] at hev
              obtain ⟨x, g1, g2⟩ := ext_run (w := w) hf hb hor hx hX
              exact .inl ⟨by simp [hasBody, hf, hb], v, x, hev, g1, g2⟩
          · simp [hor, T.all] at hev
        | some c =>
          simp only [hb] at hev
          rw [T.all_bind] at hev
          refine .inr ⟨by simp [hasBody, hf, hb], enter_run hf hb (G.names f fn hf), fun l m => ?_⟩
          have hsz : fn.ntmps ≤ (X.toArray ++ Array.replicate (fn.ntmps - X.toArray.size) undef).size := by simp; omega
          have hER : ER μ (Env.ofArgs 0 vs) (X.toArray ++ Array.replicate (fn.ntmps - X.toArray.size) undef) := by
            have := ER.ofArgs (μ := μ) (tail := List.replicate (fn.ntmps - X.toArray.size) undef) 0 vs X [] hX rfl
            have e1 : (X.toArray ++ Array.replicate (fn.ntmps - X.toArray.size) undef) = ([] ++ X ++ List.replicate (fn.ntmps - X.toArray.size) undef).toArray := by simp
            rw [e1]; exact this
          have hwp := evCode_sound ih G.toGood (hdraw _ ih) n f c (rnd := none) (rl := none) (s := ⟨Env.ofArgs 0 vs, [], h⟩)
            (a := { tmps := X.toArray ++ Array.replicate (fn.ntmps - X.toArray.size) undef, defers := [] }) m hev trivial r hER (dstOk_mono hsz (G.dst f fn c hf hb)) trivial
          show CallsIn (Fr none) m C.P f X.toArray w (Post w0 μ h w Q)
          refine callsIn_of_wp_marks hf hb trivial (wpIn_mono hwp ?_)
          rintro ex a1 w1 ⟨z, s1, μ1, rfl, q1, q2, q3, q4, q5⟩
          split at q1
          · rename_i hz
            split at q1
            · rename_i h2 hun
              split at q1
              · rename_i v hres
                have hl := unmark_sound (n := n) (m := m) (fn := fn) (tmps := a1.tmps) (RR := Post w0 μ h w Q) (P := C.P) s1.ds hun q2.rel q5 fun w' hs => by
                  obtain ⟨x, g1, g2⟩ := results_sound (a := a1) G.toGood hs.rel q3 hres
                  exact ⟨x, g2, v, h2, μ1, x, q1, rfl, g1, q2.trans hs⟩
                rcases hz with rfl | rfl <;> exact hl
              · exact q1.elim
            · exact q1.elim
          · exact q1.elim
    | yld k =>
      simp only [ev] at hev
      simp only
      split at hev
      · rename_i st0 p0 f en ps as b d hget
        split at hev
        · rename_i e2 hset
          rw [T.all_bind] at hev
          obtain ⟨e0, lp, o1, o2, o3, o4, o5, o6, o7, o8, o9, o10, _, _⟩ := setLoop_sound (st' := st0) (p' := p0) r hget
          obtain ⟨g1, g2, g3⟩ := setParams_sound (tmps0 := #[]) ps vs hset hX o7 o8
          have hfold : ((lp.params.zip X.toArray).foldl (fun tmps (t, a) => tmps.setIfInBounds t a) lp.tmps) = ((ps.zip X).foldl (fun tmps (t, a) => tmps.setIfInBounds t a) lp.tmps) := by
            rw [o4, ← Array.foldl_toList]; simp
          refine ⟨e0, lp.fn, ((ps.zip X).foldl (fun tmps (t, a) => tmps.setIfInBounds t a) lp.tmps), as, b, o1, ?_, fun l m => ?_⟩
          · have hne : ¬ (X.toArray.size ≠ lp.params.size) := by rw [o4]; simp [g1]
            simp only [Instr.yield, Instr.getLoop, Sem.run_bind, getObj_run o2 (by simp), Result.andThen_ok, Sem.run_pure, hne, if_false, hfold, o5, o6]
          · show RoundIn (Fr none) m C.P e0.blk lp.fn _ as b w (Post w0 μ h w Q)
            refine roundIn_of_wpIn trivial ?_
            have hwp := evCode_sound ih G.toGood (hdraw _ ih) n f as (rnd := some k) (rl := some e0.blk) (s := ⟨e2, [], h⟩)
              (a := { tmps := ((ps.zip X).foldl (fun tmps (t, a) => tmps.setIfInBounds t a) lp.tmps), defers := [] }) m hev ⟨e0, o1, rfl⟩ r g2 (by simp only; rw [g3]; exact o9) trivial
            refine wpIn_mono hwp ?_
            rintro ex a1 w1 ⟨z, s1, μ1, rfl, q1, q2, q3, q4, q5⟩
            split at q1
            · rename_i hz
              subst hz
              split at q1
              · rename_i st p f' e' ps' as' b' d' hget1
                split at q1
                · rename_i hst
                  rw [T.all_bind] at q1
                  subst hst
                  obtain ⟨e1, lp1, r1, r2, r3, r4, r5, r6, r7, r8, r9, r10, r11, r12⟩ := setLoop_sound (st' := .busy) (p' := p) q2.rel hget1
                  have he1 : e1 = e0 := by have := q2.le _ _ o1; rw [r1] at this; exact Option.some.inj this
                  subst he1
                  subst r12
                  refine ⟨{ w1 with heap := w1.heap.setIfInBounds e1.blk (.loop { lp1 with state := .busy }) }, ?_, ?_⟩
                  · simp only [Instr.beginRound, Instr.getLoop, Sem.run_bind, getObj_run r2 (by simp), Result.andThen_ok, Sem.run_pure, setObj_run r2 (by simp), r3]
                  · have hwp2 := evCode_sound ih G.toGood (hdraw _ ih) n f b (rnd := some k) (rl := some e1.blk) (s := { s1 with h := s1.h.set k (.loop .busy lp1.pending f' e' ps' as' b' d') })
                      (a := a1) m q1 ⟨e1, r1, rfl⟩ r11.rel q3 (by rw [q4, g3]; exact o10) q5
                    refine wpIn_mono hwp2 ?_
                    rintro ex2 a2 w2 ⟨z2, s2, μ2, rfl, p1, p2, p3, p4, p5⟩
                    split at p1
                    · rename_i st2 pd2 f2 e2' ps2 as2 b2 d2 hget2
                      have fin : ∀ (jump : Option Code) (stt : LoopState) (bb : Bool), stt = (if jump.isNone then .ready else .done) → bb = jump.isNone → Q (.bool bb, s2.h.set k (.loop stt jump f2 e2' ps2 as2 b2 d2)) →
                          ∃ v w', (Instr.endRound e1.blk jump).run C.P w2 = .ok v w' ∧ Post w0 μ h w Q (.returned v) w' := by
                        intro jump stt bb hs1 hs2 hq
                        obtain ⟨e4, lp4, t1, t2, t3, t4, t5, t6, t7, t8, t9, t10, t11, t12⟩ := setLoop_sound (st' := stt) (p' := jump) p2.rel hget2
                        have he4 : e4 = e1 := by have := p2.le _ _ r1; rw [t1] at this; exact Option.some.inj this
                        subst he4
                        refine ⟨.bool bb, _, ?_, .bool bb, _, μ2, .bool bb, hq, rfl, rfl, ((q2.trans r11).trans p2).trans t11⟩
                        simp only [Instr.endRound, Instr.getLoop, Sem.run_bind, getObj_run t2 (by simp), Result.andThen_ok, Sem.run_pure, setObj_run t2 (by simp), hs1, hs2]
                      cases z2 with
                      | normal => exact fin none .ready true rfl rfl p1
                      | ret => exact fin (some .ret) .done false rfl rfl p1
                      | exit id => exact fin (some (.exit id)) .done false rfl rfl p1
                    · exact p1.elim
                · exact q1.elim
              · exact q1.elim
            · exact q1.elim
        · exact hev.elim
      · exact hev.elim

end
end Go.Ix
