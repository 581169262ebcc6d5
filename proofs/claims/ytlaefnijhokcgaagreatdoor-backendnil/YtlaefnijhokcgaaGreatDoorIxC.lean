/- Ix: an operation looks at its own operands alone; some look at no memory. · Ix: what a plan that is looked through has. · Ix: a region that draws its order comes, in whatever order, to what its plan comes to. · Ix: a region that draws its order: the whole. · Ix: the types of a program, read off its own table. · Ix: contracts of functions, held against the machine. · Ix: rules for code. · Ix: whole numbers of 64 bits without a sign: what the operations are on natural numbers. · Ix: a function that answers true, called from outside; what an argument that reads as data is. -/
import Derived.Test.YtlaefnijhokcgaaGreatDoorIxA
import Derived.Test.YtlaefnijhokcgaaGreatDoorIxB
import Derived.Below
import Derived.ChangeSame
import Derived.ChangeArms
import Derived.Carry
import Derived.JoinedOf
set_option linter.unusedSimpArgs false
set_option linter.unusedVariables false
set_option linter.unusedSectionVars false
namespace Go.Ix
section
variable {C : Cfg} {e e' : Env} {h h' : H}

theorem opds_congr : ∀ (l : List Operand), (∀ x ∈ l, opd e x = opd e' x) → opds e l = opds e' l
  | [], _ => rfl
  | x :: r, hx => by simp only [opds, hx x (.head _), opds_congr r fun y hy => hx y (.tail _ hy)]

theorem parts_congr : ∀ (l : List (Nat × Operand)), (∀ x ∈ l.map (·.2), opd e x = opd e' x) → parts e l = parts e' l
  | [], _ => rfl
  | (i, x) :: r, hx => by simp only [parts, hx x (.head _), parts_congr r fun y hy => hx y (.tail _ hy)]

theorem bnd_congr (o : Option Operand) (hx : ∀ x ∈ o.toArray, opd e x = opd e' x) : bnd e o = bnd e' o := by
  cases o with
  | none => rfl
  | some x => simp only [bnd, hx x (by simp)]

theorem evR_congr (o : Op) (hx : ∀ x ∈ o.operands, opd e x = opd e' x) : evR C o e h = evR C o e' h := by
  cases o with
  | build t ps => simp only [evR, parts_congr (e := e) (e' := e') ps.toList (by simpa [Op.operands] using hx)]
  | makeFunc f a b =>
    have h1 := opds_congr (e := e) (e' := e') a.toList fun x hx' => hx x (by simp only [Op.operands, Array.mem_append]; exact .inl (by simpa using hx'))
    have h2 := opds_congr (e := e) (e' := e') b.toList fun x hx' => hx x (by simp only [Op.operands, Array.mem_append]; exact .inr (by simpa using hx'))
    cases f <;> simp only [evR, h1, h2]
  | slice t x lo hi mx =>
    simp only [Op.operands, Array.mem_append] at hx
    have h1 := hx x (.inl (.inl (.inl (by simp))))
    have h2 := bnd_congr (e := e) (e' := e') lo fun y hy => hx y (.inl (.inl (.inr hy)))
    have h3 := bnd_congr (e := e) (e' := e') hi fun y hy => hx y (.inl (.inr hy))
    have h4 := bnd_congr (e := e) (e' := e') mx fun y hy => hx y (.inr hy)
    simp only [evR, h1, h2, h3, h4]
  | call c =>
    obtain ⟨cl, args, ats⟩ := c
    have h1 := opds_congr (e := e) (e' := e') args.toList fun x hx' => hx x (by simp only [Op.operands, Call.operands, Array.mem_append]; exact .inr (by simpa using hx'))
    cases cl <;> simp only [evR, h1]
  | _ => first
    | rfl
    | (simp only [Op.operands, List.mem_toArray, List.mem_cons, List.not_mem_nil, or_false, forall_eq_or_imp, forall_eq] at hx
       simp only [evR, hx])

theorem evW_congr (o : Op) (hx : ∀ x ∈ o.operands, opd e x = opd e' x) : evW C o e h = evW C o e' h := by
  cases o with
  | buildSlice t n ps => simp only [evW, parts_congr (e := e) (e' := e') ps.toList (by simpa [Op.operands] using hx)]
  | makeMap t r => cases r <;> rfl
  | call c =>
    obtain ⟨cl, args, ats⟩ := c
    have h1 := opds_congr (e := e) (e' := e') args.toList fun x hx' => hx x (by simp only [Op.operands, Call.operands, Array.mem_append]; exact .inr (by simpa using hx'))
    cases cl <;> simp only [evW, h1]
  | _ => first
    | rfl
    | (simp only [Op.operands, List.mem_toArray, List.mem_cons, List.not_mem_nil, or_false, forall_eq_or_imp, forall_eq] at hx
       simp only [evW, hx])

theorem callee_congr (c : Call) (hx : ∀ x ∈ c.operands, opd e x = opd e' x) : callee C c e h = callee C c e' h := by
  obtain ⟨cl, args, ats⟩ := c
  have h1 := opds_congr (e := e) (e' := e') args.toList fun x hx' => hx x (by simp only [Call.operands, Array.mem_append]; exact .inr (by simpa using hx'))
  cases cl with
  | value f => simp only [callee, h1, hx f (by simp [Call.operands])]
  | invoke f n => simp only [callee, h1, hx f (by simp [Call.operands])]
  | builtin b => simp only [callee, h1]

theorem opd_congr {ops : Array Oper} {o : Oper} (hx : ∀ t ∈ o.looksAt ops, e.get t = e'.get t) : ∀ x ∈ o.op.operands, opd e x = opd e' x := by
  intro x hxo
  cases x with
  | tmp t => exact hx t (List.mem_append_left _ (List.mem_filterMap.2 ⟨.tmp t, by simpa using hxo, rfl⟩))
  | const v => rfl
  | global g => rfl
  | func f => rfl

theorem wantedV_congr {ops : Array Oper} {o : Oper} (hx : ∀ t ∈ o.looksAt ops, e.get t = e'.get t) : wantedV ops o e = wantedV ops o e' := by
  unfold wantedV
  cases hg : o.guard with
  | none => rfl
  | some p =>
    obtain ⟨j, want⟩ := p
    simp only
    cases hj : ops[j]? with
    | none => rfl
    | some g =>
      simp only
      cases hd : g.dst with
      | none => rfl
      | some d =>
        have : e.get d = e'.get d := hx d (List.mem_append_right _ (by simp [hg, hj, hd]))
        simp only [this]

theorem evVal_congr {call : Caller} {ops : Array Oper} {o : Oper} (hx : ∀ t ∈ o.looksAt ops, e.get t = e'.get t) : evVal C call ops o e h = evVal C call ops o e' h := by
  have ho := opd_congr hx
  unfold evVal
  rw [wantedV_congr hx, evR_congr o.op ho, evW_congr o.op ho]
  split
  · split
    · rfl
    · split
      · rename_i c hc
        rw [callee_congr c (by intro x hx'; exact ho x (by rw [hc]; exact hx'))]
      · rfl
    · rfl
  · rfl
  · rfl

theorem isPure_read {o : Op} (hp : isPure o = true) : kindOf o = .read := by
  cases o <;> first | rfl | simp [isPure] at hp

theorem evR_pure {o : Op} (hp : isPure o = true) : evR C o e h = evR C o e h' := by
  cases o with
  | binOp op t x y u => cases op <;> first | rfl | simp [isPure] at hp
  | makeFunc f a b => cases f <;> rfl
  | _ => first | rfl | simp [isPure] at hp

end
end Go.Ix
namespace Go.Ix
section
variable {C : Cfg} {ops : Array Oper} {B : Array Nat} {segs : List Seg}

def ordL (segs : List Seg) : List Nat := segs.flatMap Seg.ord
def flL (segs : List Seg) : List Nat := segs.flatMap (·.fls)
def xsL (segs : List Seg) : List Nat := segs.flatMap (·.x.toList)
def evL (segs : List Seg) : List Nat := segs.flatMap (·.evs)

structure Plan (C : Cfg) (ops : Array Oper) (B : Array Nat) (segs : List Seg) : Prop where
  ne : segs ≠ []
  clo : ∀ i o, ops[i]? = some o → ∀ j, j < ops.size → bef B j i = true → ∃ x ∈ o.after, Region.binds .any x = true ∧ (x.on = j ∨ bef B j x.on = true)
  dir : ∀ i o, ops[i]? = some o → ∀ x ∈ o.after, Region.binds .any x = true → x.on < ops.size ∧ bef B x.on i = true
  nodup : (ordL segs).Nodup
  lt : ∀ i ∈ ordL segs, i < ops.size
  mem : ∀ i, i < ops.size → i ∈ ordL segs
  ord : ∀ D i r, ordL segs = D ++ i :: r → ∀ j, j < ops.size → bef B j i = true → j ∈ D ∨ (j ∈ flL segs ∧ ∀ t, dstAt ops j = some t → t ∉ readsAt ops i)
  chain : chainOk B none segs = true
  cov : covOk ops B [] [] segs = true
  fl : ∀ i ∈ flL segs, flOk C ops i = true
  wr : ∀ i t, dstAt ops i = some t → ∀ j, j < ops.size → (j ≠ i → dstAt ops j ≠ some t) ∧ (t ∈ readsAt ops j → j ≠ i ∧ (bef B i j = true ∨ (bef B j i = true ∧ pureAt ops j = true)))
  kevs : ∀ i ∈ evL segs, kdAt ops i = .read
  kx : ∀ i ∈ xsL segs, kdAt ops i ≠ .read

theorem noDup_nodup : ∀ {l : List Nat}, noDup l = true → l.Nodup
  | [], _ => List.nodup_nil
  | a :: r, h => by
    simp only [noDup, Bool.and_eq_true, Bool.not_eq_true', List.contains_eq_mem, decide_eq_false_iff_not] at h
    exact List.nodup_cons.2 ⟨h.1, noDup_nodup h.2⟩

theorem ordOk_spec {fl : List Nat} : ∀ {l : List Nat} {D0 : List Nat}, ordOk ops B fl D0 l = true → ∀ D i r, l = D ++ i :: r → ∀ j, j < ops.size → bef B j i = true →
    j ∈ D0 ++ D ∨ (j ∈ fl ∧ ∀ t, dstAt ops j = some t → t ∉ readsAt ops i)
  | [], D0, h, D, i, r, hl => by simp at hl
  | a :: l, D0, h, D, i, r, hl => by
    simp only [ordOk, Bool.and_eq_true, List.all_eq_true, List.mem_range] at h
    cases D with
    | nil =>
      simp only [List.nil_append, List.cons.injEq] at hl
      obtain ⟨rfl, rfl⟩ := hl
      intro j hj hb
      have := h.1 j hj
      simp only [hb, Bool.not_true, Bool.false_or, Bool.or_eq_true, List.contains_eq_mem, decide_eq_true_eq, Bool.and_eq_true] at this
      rcases this with h1 | ⟨h1, h2⟩
      · exact .inl (by simpa using h1)
      · refine .inr ⟨h1, fun t ht => ?_⟩
        rw [ht] at h2
        simpa using h2
    | cons b D =>
      simp only [List.cons_append, List.cons.injEq] at hl
      obtain ⟨rfl, rfl⟩ := hl
      have := ordOk_spec h.2 D i r rfl
      simpa using this

theorem planOk_spec (h : planOk C ops segs = true) : Plan C ops (ahead ops) segs := by
  simp only [planOk, Bool.and_eq_true] at h
  obtain ⟨⟨⟨⟨⟨⟨⟨⟨⟨⟨h0, h1⟩, h2⟩, h3⟩, h4⟩, h5⟩, h6⟩, h7⟩, h8⟩, h9⟩, h10⟩ := h
  have hb := fun i (o : Oper) (ho : ops[i]? = some o) => by
    have hi : i < ops.size := (Array.getElem?_eq_some_iff.1 ho).1
    simp only [befOk, List.all_eq_true, List.mem_range] at h1
    have := h1 i hi
    simp only [ho, Bool.and_eq_true, Array.all_eq_true', List.all_eq_true, List.mem_range] at this
    exact this
  refine ⟨by intro h; rw [h] at h0; simp at h0, ?_, ?_, noDup_nodup h2, ?_, ?_, ?_, h6, h7, ?_, ?_, ?_, ?_⟩
  · intro i o ho j hj hbf
    have := (hb i o ho).2 j hj
    simp only [hbf, Bool.not_true, Bool.false_or, Array.any_eq_true', Bool.and_eq_true, Bool.or_eq_true, beq_iff_eq] at this
    obtain ⟨x, hx, h1, h2⟩ := this
    exact ⟨x, hx, h1, h2⟩
  · intro i o ho x hx hbd
    have := (hb i o ho).1 x hx
    simpa [hbd] using this
  · intro i hi
    exact of_decide_eq_true (List.all_eq_true.1 h3 i hi)
  · intro i hi
    simp only [List.all_eq_true, List.mem_range] at h4
    have := h4 i hi
    rw [List.contains_eq_mem, decide_eq_true_eq] at this
    exact this
  · intro D i r hl j hj hb
    have := ordOk_spec h5 D i r hl j hj hb
    rw [List.nil_append] at this
    exact this
  · intro i hi
    exact List.all_eq_true.1 h8 i hi
  · intro i t hd j hj
    simp only [wrOk, List.all_eq_true, List.mem_range] at h9
    have hi : i < ops.size := by
      unfold dstAt at hd
      split at hd
      · rename_i ho; exact (Array.getElem?_eq_some_iff.1 ho).1
      · cases hd
    have := h9 i hi
    rw [hd] at this
    simp only [List.all_eq_true, List.mem_range] at this
    have := this j hj
    simp only [Bool.and_eq_true, Bool.or_eq_true, beq_iff_eq, bne_iff_ne, Bool.not_eq_true', List.contains_eq_mem, decide_eq_false_iff_not] at this
    refine ⟨fun hne => ?_, fun ht => ?_⟩
    · rcases this.1 with h | h
      · exact absurd h.symm hne
      · exact h
    · rcases this.2 with h | h
      · exact absurd ht h
      · exact ⟨fun he => h.1 he.symm, h.2⟩
  · intro i hi
    simp only [evL, List.mem_flatMap] at hi
    obtain ⟨s, hs, hi⟩ := hi
    simp only [List.all_eq_true, Bool.and_eq_true] at h10
    have := (h10 s hs).1 i hi
    simpa using this
  · intro i hi
    simp only [xsL, List.mem_flatMap, Option.mem_toList] at hi
    obtain ⟨s, hs, hi⟩ := hi
    simp only [List.all_eq_true, Bool.and_eq_true] at h10
    have := (h10 s hs).2
    rw [hi] at this
    simpa using this

/-- What comes up behind a segment's own waits for that segment's, or a later, operation of the chain. -/
theorem chainOk_late {y : Nat} : ∀ {l : List Seg}, chainOk B (some y) l = true → ∀ s ∈ l, (∀ i ∈ s.evs, ∃ z ∈ y :: xsL l, bef B z i = true) ∧ (∀ i, s.x = some i → ∃ z ∈ y :: xsL l, bef B z i = true)
  | [], _, s, hs => by cases hs
  | a :: l, h, s, hs => by
    simp only [chainOk, Bool.and_eq_true, List.all_eq_true] at h
    obtain ⟨⟨⟨⟨h1, h2⟩, h3⟩, h4⟩, h5⟩ := h
    rcases List.mem_cons.1 hs with rfl | hs
    · refine ⟨fun i hi => ⟨y, .head _, h1 i hi⟩, fun i hi => ⟨y, .head _, ?_⟩⟩
      rw [hi] at h2
      exact h2
    · cases hx : a.x with
      | none =>
        rw [hx] at h3
        cases l with
        | nil => cases hs
        | cons b l => simp at h3
      | some x =>
        rw [hx] at h5
        have := chainOk_late h5 s hs
        have hin : ∀ z, z ∈ x :: xsL l → z ∈ y :: xsL (a :: l) := by
          intro z hz
          simp only [xsL, List.flatMap_cons, hx, Option.toList_some, List.singleton_append]
          exact .tail _ hz
        exact ⟨fun i hi => let ⟨z, h1, h2⟩ := this.1 i hi; ⟨z, hin z h1, h2⟩, fun i hi => let ⟨z, h1, h2⟩ := this.2 i hi; ⟨z, hin z h1, h2⟩⟩

theorem chainOk_split : ∀ {done : List Seg} {p : Option Nat} {s : Seg} {rest : List Seg}, chainOk B p (done ++ s :: rest) = true →
    (∀ t ∈ done, t.x.isSome = true) ∧ (s.x = none ↔ rest = []) ∧ (∀ t ∈ done ++ [s], ∀ x, t.x = some x → ∀ i ∈ t.fls, bef B i x = true) ∧
    (∀ y, s.x = some y → chainOk B (some y) rest = true)
  | [], p, s, rest, h => by
    simp only [List.nil_append, chainOk, Bool.and_eq_true] at h
    obtain ⟨⟨⟨h1, h2⟩, h3⟩, h4⟩ := h
    refine ⟨by simp, ?_, ?_, fun y hy => hy ▸ h4⟩
    · cases hx : s.x <;> cases rest <;> simp [hx] at h2 ⊢
    · intro t ht x hx
      simp only [List.nil_append, List.mem_singleton] at ht
      subst ht
      rw [hx] at h3
      simpa using h3
  | d :: done, p, s, rest, h => by
    simp only [List.cons_append, chainOk, Bool.and_eq_true] at h
    obtain ⟨⟨⟨h1, h2⟩, h3⟩, h4⟩ := h
    have ih := chainOk_split h4
    refine ⟨?_, ih.2.1, ?_, ih.2.2.2⟩
    · intro t ht
      rcases List.mem_cons.1 ht with rfl | ht
      · cases hx : t.x <;> simp [hx] at h2 ⊢
      · exact ih.1 t ht
    · intro t ht x hx
      simp only [List.cons_append, List.mem_cons] at ht
      rcases ht with rfl | ht
      · rw [hx] at h3
        simpa using h3
      · exact ih.2.2.1 t ht x hx

theorem covOk_split : ∀ {done : List Seg} {lv xd : List Nat} {s : Seg} {rest : List Seg}, covOk ops B lv xd (done ++ s :: rest) = true →
    ∀ i, (i ∈ lv ∨ i ∈ evL done ∧ pureAt ops i = false) → i ∈ s.chks ∨ ∃ x ∈ xd ++ xsL done, bef B i x = true
  | [], lv, xd, s, rest, h, i, hi => by
    simp only [List.nil_append, covOk, Bool.and_eq_true, List.all_eq_true, Bool.or_eq_true, List.any_eq_true, List.contains_eq_mem, decide_eq_true_eq] at h
    rcases hi with hi | hi
    · rcases h.1 i hi with h | ⟨x, h1, h2⟩
      · exact .inl h
      · exact .inr ⟨x, List.mem_append_left _ h1, h2⟩
    · simp [evL] at hi
  | d :: done, lv, xd, s, rest, h, i, hi => by
    simp only [List.cons_append, covOk, Bool.and_eq_true] at h
    have ih := covOk_split h.2 i (by
      rcases hi with hi | ⟨hi, hp⟩
      · exact .inl (List.mem_append_left _ hi)
      · simp only [evL, List.flatMap_cons, List.mem_append] at hi
        rcases hi with hi | hi
        · exact .inl (List.mem_append_right _ (List.mem_filter.2 ⟨hi, by simp [hp]⟩))
        · exact .inr ⟨hi, hp⟩)
    simpa [xsL, List.append_assoc] using ih
end
end Go.Ix
namespace Go.Ix
open Go.RowKit (Below)

def rst (ts : List Nat) (f : Nat → Option V) : Env := ts.filterMap fun t => (f t).map (t, ·)

theorem rst_get (f : Nat → Option V) (t : Nat) : ∀ (ts : List Nat), (rst ts f).get t = if t ∈ ts then f t else none
  | [] => by simp [rst, Env.get]
  | s :: ts => by
    have ih := rst_get f t ts
    unfold rst at ih ⊢
    by_cases hst : s = t
    · subst hst
      cases hf : f s with
      | none =>
        simp only [List.filterMap_cons, hf, Option.map_none, ih, List.mem_cons, true_or, if_true]
        split <;> rfl
      | some v => simp [hf, Env.get]
    · have hts : ¬ t = s := fun h => hst h.symm
      cases hf : f s with
      | none => simp [hf, ih, hts]
      | some v => simp [hf, ih, hts, Env.get, hst]

theorem get_dst (e : Env) (d : Option Nat) (v : V) (t : Nat) : (e.dst d v).get t = if d = some t then some v else e.get t := by
  cases d with
  | none => simp [Env.dst]
  | some s =>
    simp only [Env.dst, Env.get_set, Option.some.injEq]
    by_cases h : t = s
    · simp [h]
    · rw [if_neg h, if_neg fun h' => h h'.symm]

theorem put_get {a : Act} {d : Option Nat} {x : Value} (hd : ∀ t, d = some t → t < a.tmps.size) (t : Nat) : (a.put d x).tmps[t]? = if d = some t then some x else a.tmps[t]? := by
  cases d with
  | none => simp [Act.put]
  | some s =>
    simp only [Act.put, Option.some.injEq]
    by_cases h : s = t
    · subst h
      simp [hd s rfl]
    · simp [h]

theorem Sim.pend {w0 : World} {μ : Mu} {h : H} {w : World} (r : R w0 μ h w) (ob : Obj) : Sim w0 μ h w μ h (w.alloc ob) := by
  have hold : ∀ b, b < w.heap.size → (w.alloc ob).heap[b]? = w.heap[b]? := fun b hb => by
    show (w.heap.push ob)[b]? = _
    rw [Array.getElem?_push, if_neg (by omega)]
  have hsz : w0.heap.size ≤ w.heap.size := r.below.size
  refine ⟨Mu.le_refl μ, ⟨⟨r.below.os, r.below.tape, r.below.output, by rw [World.size_alloc]; omega, fun b hb => (hold b (by omega)).trans (r.below.block b hb)⟩, r.fresh, r.hfresh, ?_, r.inj⟩, by rw [World.size_alloc]; omega, fun b hb _ => hold b hb, fun k o e hk ho he => .inr ⟨k, o, e, hk, ho, he, rfl⟩⟩
  intro k o hk hl
  obtain ⟨e, ob', h1, h2, h3, h4⟩ := r.obj k o hk hl
  exact ⟨e, ob', h1, h2, (hold _ (r.blk_lt hk hl h1)).trans h3, h4⟩

/-- A block that lay there unseen is taken in. -/
theorem Sim.flush {w0 ws : World} {μs μ : Mu} {hs h : H} {w : World} (s : Sim w0 μs hs ws μ h w) {b : Nat} {o : O} {ob : Obj} (hb : w.heap[b]? = some ob) (hge : ws.heap.size ≤ b) (hws : w0.heap.size ≤ ws.heap.size)
    (him : ∀ k o e, h.get k = some o → o.live = true → μ k = some e → e.blk ≠ b) (ho : OR μ ⟨b, 0, 0⟩ o ob) : Sim w0 μs hs ws (μ.up h.next ⟨b, 0, 0⟩) (h.push o) w := by
  have r := s.rel
  have hle : μ.le (μ.up h.next ⟨b, 0, 0⟩) := Mu.le_up (r.fresh _ (Nat.le_refl _))
  have hg : w0.heap.size ≤ b := Nat.le_trans hws hge
  refine ⟨Mu.le_trans s.le hle, ⟨r.below, ?_, ?_, ?_, ?_⟩, s.size, s.frame, ?_⟩
  · intro k hk
    simp only [H.next_push] at hk
    unfold Mu.up
    rw [if_neg (by omega)]
    exact r.fresh k (by omega)
  · intro k hk
    simp only [H.next_push] at hk
    rw [H.get_push, if_neg (by omega)]
    exact r.hfresh k (by omega)
  · intro k o' hk hl
    rw [H.get_push] at hk
    split at hk
    · rename_i hkn
      subst hkn
      obtain rfl := Option.some.inj hk
      exact ⟨_, ob, Mu.up_self, hg, hb, ho.mono hle⟩
    · obtain ⟨e, ob', h1, h2, h3, h4⟩ := r.obj k o' hk hl
      exact ⟨e, ob', hle k e h1, h2, h3, h4.mono hle⟩
  · intro k k' o1 o2 e e' hk hl hk' hl' he he' hbb
    rw [H.get_push] at hk hk'
    unfold Mu.up at he he'
    split at hk <;> split at hk'
    · omega
    · rename_i h1 h2
      rw [if_pos h1] at he
      rw [if_neg h2] at he'
      obtain rfl := Option.some.inj he
      exact absurd hbb.symm (him k' o2 e' hk' hl' he')
    · rename_i h1 h2
      rw [if_neg h1] at he
      rw [if_pos h2] at he'
      obtain rfl := Option.some.inj he'
      exact absurd hbb (him k o1 e hk hl he)
    · rename_i h1 h2
      rw [if_neg h1] at he
      rw [if_neg h2] at he'
      exact r.inj k k' o1 o2 e e' hk hl hk' hl' he he' hbb
  · intro k o' e hk hl he
    rw [H.get_push] at hk
    unfold Mu.up at he
    split at hk
    · rename_i h1
      rw [if_pos h1] at he
      obtain rfl := Option.some.inj he
      exact .inl hge
    · rename_i h1
      rw [if_neg h1] at he
      exact s.src k o' e hk hl he

def lst (listed : Array Bool) (i : Nat) : Prop := listed.getD i false = true

theorem lst_set {listed : Array Bool} {i k : Nat} (hi : i < listed.size) : lst (listed.setIfInBounds i true) k ↔ k = i ∨ lst listed k := by
  unfold lst
  simp only [Array.getD_eq_getD_getElem?, Array.getElem?_setIfInBounds]
  by_cases h : i = k
  · subst h; simp [hi]
  · have h' : ¬ k = i := fun h2 => h h2.symm
    simp [h, h']

section
variable {C : Cfg} {call : Caller} {ops : Array Oper} {B : Array Nat} {segs : List Seg} {w0 ws : World} {μs μ μ' : Mu} {hs h h' : H} {w w' : World} {e0 e : Env} {a : Act} {sz : Nat} {dfs : List Deferred}
  {A : Nat → Prop} {D r : List Nat} {listed : Array Bool} {β : Nat → Nat} {i j : Nat} {v : V} {x : Value} {o : Oper}

theorem dstAt_lt {t : Nat} (h : dstAt ops i = some t) : i < ops.size := by
  unfold dstAt at h
  split at h
  · rename_i ho; exact (Array.getElem?_eq_some_iff.1 ho).1
  · cases h

theorem Plan.uniq (P : Plan C ops B segs) {t : Nat} (h1 : dstAt ops i = some t) (h2 : dstAt ops j = some t) : i = j := by
  by_cases hij : j = i
  · exact hij.symm
  · exact absurd h2 ((P.wr i t h1 j (dstAt_lt h2)).1 hij)

theorem Plan.next_notin (P : Plan C ops B segs) (ho : ordL segs = D ++ j :: r) : j ∉ D := by
  have := P.nodup
  rw [ho, List.nodup_append] at this
  exact fun hj => this.2.2 j hj j (.head _) rfl

theorem Plan.ahead_in (P : Plan C ops B segs) (ho : ordL segs = D ++ r) (hi : i ∈ D) {k : Nat} (hk : k < ops.size) (hb : bef B k i = true) : k ∈ D ∨ (k ∈ flL segs ∧ ∀ t, dstAt ops k = some t → t ∉ readsAt ops i) := by
  obtain ⟨D1, D2, rfl⟩ := List.append_of_mem hi
  rcases P.ord D1 i (D2 ++ r) (by rw [ho]; simp) k hk hb with h | h
  · exact .inl (List.mem_append_left _ h)
  · exact .inr h

theorem Plan.lt_of_mem (P : Plan C ops B segs) (ho : ordL segs = D ++ r) (hi : i ∈ D) : i < ops.size := P.lt i (by rw [ho]; exact List.mem_append_left _ hi)

theorem flOk_alloc (h : flOk C ops i = true) : ∃ o t inf, ops[i]? = some o ∧ o.guard = none ∧ (∀ x ∈ o.after, Region.binds .any x = false) ∧ o.op = .alloc t ∧ C.ti t = some inf ∧ inf.zero.all V.scalar = true := by
  unfold flOk at h
  split at h
  · rename_i o ho
    simp only [Bool.and_eq_true, Option.isNone_iff_eq_none, Array.all_eq_true', Bool.not_eq_true'] at h
    obtain ⟨⟨h1, h2⟩, h3⟩ := h
    split at h3
    · rename_i t ht
      split at h3
      · rename_i inf hinf
        exact ⟨o, t, inf, ho, h1, h2, ht, hinf, h3⟩
      · cases h3
    · cases h3
  · cases h

theorem Plan.fl_kd (P : Plan C ops B segs) (hi : i ∈ flL segs) : kdAt ops i = .alloc := by
  obtain ⟨o, t, inf, h1, _, _, h2, _⟩ := flOk_alloc (P.fl i hi)
  simp [kdAt, h1, h2, kindOf]

theorem kdAt_eq (ho : ops[i]? = some o) : kdAt ops i = kindOf o.op := by simp [kdAt, ho]
theorem dstAt_eq (ho : ops[i]? = some o) : dstAt ops i = o.dst := by simp [dstAt, ho]
theorem readsAt_eq (ho : ops[i]? = some o) : readsAt ops i = o.looksAt ops := by simp [readsAt, ho]
theorem pureAt_eq (ho : ops[i]? = some o) : pureAt ops i = isPure o.op := by simp [pureAt, ho]

/-- What operation i sees in temporary t. -/
def vw (ops : Array Oper) (B : Array Nat) (e0 e : Env) (i t : Nat) : Option V :=
  if (List.range ops.size).any (fun j => dstAt ops j == some t && bef B i j && !bef B j i) then e0.get t else e.get t

theorem vw_early {t : Nat} (hd : dstAt ops j = some t) (h1 : bef B i j = true) (h2 : bef B j i = false) : vw ops B e0 e i t = e0.get t := by
  unfold vw
  rw [if_pos]
  simp only [List.any_eq_true, List.mem_range, Bool.and_eq_true, beq_iff_eq, Bool.not_eq_true']
  exact ⟨j, dstAt_lt hd, ⟨hd, h1⟩, h2⟩

theorem Plan.vw_late (_P : Plan C ops B segs) {t : Nat} (hd : ∀ j, dstAt ops j = some t → bef B j i = true) : vw ops B e0 e i t = e.get t := by
  unfold vw
  rw [if_neg]
  simp only [List.any_eq_true, List.mem_range, Bool.and_eq_true, beq_iff_eq, Bool.not_eq_true']
  rintro ⟨j, _, ⟨h1, _⟩, h3⟩
  rw [hd j h1] at h3
  cases h3

/-- Operation i, evaluated now as it was evaluated, leaves what stands in the ideal's temporary. -/
def Fact (C : Cfg) (call : Caller) (ops : Array Oper) (B : Array Nat) (e0 e : Env) (h : H) (i : Nat) : Prop :=
  ∃ o ei v, ops[i]? = some o ∧ (∀ t ∈ readsAt ops i, ei.get t = vw ops B e0 e i t) ∧ evVal C call ops o ei h = .ret (v, h) ∧ ∀ d, dstAt ops i = some d → e.get d = some v

theorem Fact.grow (P : Plan C ops B segs) (ho : ordL segs = D ++ j :: r) (hi : i ∈ D) (F : Fact C call ops B e0 e h i) (v : V) : Fact C call ops B e0 (e.dst (dstAt ops j) v) h i := by
  obtain ⟨o, ei, u, h1, h2, h3, h4⟩ := F
  have hj := P.next_notin ho
  refine ⟨o, ei, u, h1, fun t ht => ?_, h3, fun d hd => ?_⟩
  · rw [h2 t ht]
    unfold vw
    by_cases hw : dstAt ops j = some t
    · obtain ⟨h5, h6⟩ := (P.wr j t hw i (P.lt_of_mem ho hi)).2 ht
      have hnb : bef B j i = false := by
        cases hb : bef B j i with
        | false => rfl
        | true =>
          rcases P.ahead_in ho hi (dstAt_lt hw) hb with h | h
          · exact absurd h hj
          · exact absurd ht (h.2 t hw)
      rcases h6 with h6 | ⟨h6, _⟩
      · rw [hnb] at h6; cases h6
      · have h7 := vw_early (e0 := e0) (e := e) hw h6 hnb
        have h8 := vw_early (e0 := e0) (e := e.dst (dstAt ops j) v) hw h6 hnb
        unfold vw at h7 h8
        rw [h7, h8]
    · rw [get_dst, if_neg hw]
  · rw [get_dst, if_neg]
    · exact h4 d hd
    · intro hjd
      exact hj (P.uniq hd hjd ▸ hi)

theorem evVal_pure {o : Oper} (hp : isPure o.op = true) (hv : evVal C call ops o e h = .ret (v, h)) : evVal C call ops o e h' = .ret (v, h') := by
  unfold evVal at hv ⊢
  rw [isPure_read hp] at hv ⊢
  simp only at hv ⊢
  rw [evR_pure (h' := h') hp] at hv
  split at hv
  · split at hv
    · obtain ⟨rfl, _⟩ : _ = v ∧ h = h := by simpa using hv
      rfl
    · cases hv
  · obtain ⟨rfl, _⟩ : _ = v ∧ h = h := by simpa using hv
    rfl
  · cases hv

theorem Fact.pure (F : Fact C call ops B e0 e h i) (hp : pureAt ops i = true) (h' : H) : Fact C call ops B e0 e h' i := by
  obtain ⟨o, ei, u, h1, h2, h3, h4⟩ := F
  rw [pureAt_eq h1] at hp
  exact ⟨o, ei, u, h1, h2, evVal_pure hp h3, h4⟩

structure St (C : Cfg) (call : Caller) (ops : Array Oper) (B : Array Nat) (segs : List Seg) (w0 : World) (e0 : Env) (μs : Mu) (hs : H) (ws : World) (sz : Nat) (dfs : List Deferred)
    (A : Nat → Prop) (D : List Nat) (listed : Array Bool) (e : Env) (h : H) (β : Nat → Nat) (μ : Mu) (a : Act) (w : World) : Prop where
  lsz : listed.size = ops.size
  closed : ∀ i, lst listed i → ∀ j, j < ops.size → bef B j i = true → lst listed j
  sub : ∀ i, lst listed i → i ∈ D ∨ i ∈ flL segs
  env : ∀ t, (∀ j ∈ D, dstAt ops j ≠ some t) → e.get t = e0.get t
  facts : ∀ i ∈ D, kdAt ops i = .read → A i → ¬ lst listed i → Fact C call ops B e0 e h i
  tw : ∀ i ∈ D, lst listed i → ∀ t v, dstAt ops i = some t → e.get t = some v → ∃ x, conc μ v = some x ∧ a.tmps[t]? = some x
  tu : ∀ t v, (∀ i, lst listed i → dstAt ops i ≠ some t) → e0.get t = some v → ∃ x, conc μ v = some x ∧ a.tmps[t]? = some x
  pend : ∀ i ∈ flL segs, lst listed i → i ∉ D → ∃ o t inf X, ops[i]? = some o ∧ o.op = .alloc t ∧ C.ti t = some inf ∧ (∀ μ, concL μ inf.zero = some X) ∧ (∀ d, o.dst = some d → a.tmps[d]? = some (.pointer (some ⟨β i, 0, none⟩))) ∧
    w.heap[β i]? = some (.cells X.toArray t) ∧ ws.heap.size ≤ β i ∧ ∀ k ob en, h.get k = some ob → ob.live = true → μ k = some en → en.blk ≠ β i
  pinj : ∀ i ∈ flL segs, ∀ j ∈ flL segs, lst listed i → lst listed j → i ∉ D → j ∉ D → β i = β j → i = j
  sim : Sim w0 μs hs ws μ h w
  size : a.tmps.size = sz
  defs : a.defers = dfs

theorem St.weaken {A' : Nat → Prop} (s : St C call ops B segs w0 e0 μs hs ws sz dfs A D listed e h β μ a w) (hA : ∀ i, A' i → A i) : St C call ops B segs w0 e0 μs hs ws sz dfs A' D listed e h β μ a w :=
  { s with facts := fun i hi hk ha hl => s.facts i hi hk (hA i ha) hl }

/-- A read of the plan's. -/
theorem St.read (P : Plan C ops B segs) (s : St C call ops B segs w0 e0 μs hs ws sz dfs A D listed e h β μ a w) (ho : ordL segs = D ++ j :: r) (hk : kdAt ops j = .read) (hoj : ops[j]? = some o)
    (hv : evVal C call ops o e h = .ret (v, h)) : St C call ops B segs w0 e0 μs hs ws sz dfs (fun i => A i ∨ i = j) (D ++ [j]) listed (e.dst o.dst v) h β μ a w := by
  have hj := P.next_notin ho
  have hjf : j ∉ flL segs := fun hf => by have := P.fl_kd hf; rw [hk] at this; cases this
  have hjl : ¬ lst listed j := fun hl => (s.sub j hl).elim hj hjf
  have hdj := dstAt_eq hoj
  rw [← hdj]
  refine ⟨s.lsz, s.closed, fun i hi => (s.sub i hi).imp (List.mem_append_left _) id, ?_, ?_, ?_, s.tu, ?_, ?_, s.sim, s.size, s.defs⟩
  · intro t ht
    rw [get_dst, if_neg (ht j (by simp))]
    exact s.env t fun i hi => ht i (List.mem_append_left _ hi)
  · intro i hi hki ha hl
    rcases List.mem_append.1 hi with hiD | hi
    · rcases ha with ha | ha
      · exact (s.facts i hiD hki ha hl).grow P ho hiD v
      · exact absurd (ha ▸ hiD) hj
    · simp only [List.mem_singleton] at hi
      subst hi
      refine ⟨o, e, v, hoj, fun t ht => ?_, hv, fun d hd => by rw [get_dst, if_pos hd]⟩
      unfold vw
      split
      · rename_i hany
        simp only [List.any_eq_true, List.mem_range, Bool.and_eq_true, beq_iff_eq, Bool.not_eq_true'] at hany
        obtain ⟨j', hj', ⟨h1, h2⟩, h3⟩ := hany
        refine s.env t fun k hk' hkd => ?_
        obtain rfl := P.uniq hkd h1
        rcases P.ahead_in (i := k) ho hk' (P.lt i (by rw [ho]; simp)) h2 with h | h
        · exact hj h
        · exact hjf h.1
      · rw [get_dst, if_neg]
        intro hd
        exact ((P.wr i t hd i (P.lt i (by rw [ho]; simp))).2 ht).1 rfl
  · intro i hi hl t u hd hu
    rcases List.mem_append.1 hi with hi | hi
    · rw [get_dst, if_neg] at hu
      · exact s.tw i hi hl t u hd hu
      · intro hd'
        exact hj (P.uniq hd hd' ▸ hi)
    · simp only [List.mem_singleton] at hi
      subst hi
      exact absurd hl hjl
  · intro i hi hl hd
    exact s.pend i hi hl fun h => hd (List.mem_append_left _ h)
  · intro i hi k hk' hl hl' hd hd'
    exact s.pinj i hi k hk' hl hl' (fun h => hd (List.mem_append_left _ h)) (fun h => hd' (List.mem_append_left _ h))

/-- A floating block of the plan's: it lies there. -/
theorem St.flush (P : Plan C ops B segs) (s : St C call ops B segs w0 e0 μs hs ws sz dfs A D listed e h β μ a w) (hws : w0.heap.size ≤ ws.heap.size) (hA : ∀ i, pureAt ops i = true → A i) (ho : ordL segs = D ++ j :: r) (hf : j ∈ flL segs) (hl : lst listed j)
    {Q : V × H → Prop} (hoj : ops[j]? = some o) (hv : (evVal C call ops o e h).all Q) :
    ∃ v h' μ', Q (v, h') ∧ St C call ops B segs w0 e0 μs hs ws sz dfs (fun i => pureAt ops i = true) (D ++ [j]) listed (e.dst o.dst v) h' β μ' a w := by
  have hj := P.next_notin ho
  obtain ⟨o', t, inf, X, p1, p2, p3, p4, p5, p6, p7, p8⟩ := s.pend j hf hl hj
  rw [hoj] at p1
  obtain rfl := Option.some.inj p1
  obtain ⟨o', t', inf', q1, q2, q3, q4, q5, q6⟩ := flOk_alloc (P.fl j hf)
  rw [hoj] at q1
  obtain rfl := Option.some.inj q1
  rw [p2] at q4
  obtain rfl : t = t' := by simpa using q4
  rw [p3] at q5
  obtain rfl := Option.some.inj q5
  have hev : evVal C call ops o e h = .ret (.ptr (some ⟨.new h.next, 0⟩), h.push (.cells inf.zero 0)) := by
    simp only [evVal, wantedV, q2, p2, kindOf, evW, p3, newRow, q6, if_true, Option.map_some, T.of]
  rw [hev] at hv
  have hdj := dstAt_eq hoj
  rw [← hdj]
  have hl' := concL_length (p4 μ)
  have hsim : Sim w0 μs hs ws (μ.up h.next ⟨β j, 0, 0⟩) (h.push (.cells inf.zero 0)) w :=
    s.sim.flush p6 p7 hws p8 ⟨X.toArray, t, X, rfl, p4 μ, by simp [← hl', List.take_of_length_le], by simp⟩
  have hle : μ.le (μ.up h.next ⟨β j, 0, 0⟩) := Mu.le_up (s.sim.rel.fresh _ (Nat.le_refl _))
  refine ⟨_, _, _, hv, s.lsz, s.closed, fun i hi => (s.sub i hi).imp (List.mem_append_left _) id, ?_, ?_, ?_, ?_, ?_, ?_, hsim, s.size, s.defs⟩
  · intro t ht
    rw [get_dst, if_neg (ht j (by simp))]
    exact s.env t fun i hi => ht i (List.mem_append_left _ hi)
  · intro i hi hki ha hnl
    rcases List.mem_append.1 hi with hi | hi
    · exact ((s.facts i hi hki (hA i ha) hnl).grow P ho hi _).pure ha _
    · simp only [List.mem_singleton] at hi
      subst hi
      exact absurd hl hnl
  · intro i hi hli t u hd hu
    rcases List.mem_append.1 hi with hi | hi
    · rw [get_dst, if_neg] at hu
      · obtain ⟨x, h1, h2⟩ := s.tw i hi hli t u hd hu
        exact ⟨x, conc_mono hle _ _ h1, h2⟩
      · intro hd'
        exact hj (P.uniq hd hd' ▸ hi)
    · simp only [List.mem_singleton] at hi
      subst hi
      rw [get_dst, if_pos hd] at hu
      obtain rfl := Option.some.inj hu
      exact ⟨_, by simp [conc, Ad.c, Mu.up_self], p5 t (hdj ▸ hd)⟩
  · intro t u ht hu
    obtain ⟨x, h1, h2⟩ := s.tu t u ht hu
    exact ⟨x, conc_mono hle _ _ h1, h2⟩
  · intro i hi hli hd
    have hiD : i ∉ D := fun h => hd (List.mem_append_left _ h)
    obtain ⟨o', t', inf', X', r1, r2, r3, r4, r5, r6, r7, r8⟩ := s.pend i hi hli hiD
    refine ⟨o', t', inf', X', r1, r2, r3, r4, r5, r6, r7, fun k ob en hk hlv hen => ?_⟩
    rw [H.get_push] at hk
    unfold Mu.up at hen
    split at hk
    · rename_i hkn
      rw [if_pos hkn] at hen
      obtain rfl := Option.some.inj hen
      intro hb
      exact hd (by rw [← s.pinj j hf i hi hl hli hj hiD hb]; simp)
    · rename_i hkn
      rw [if_neg hkn] at hen
      exact r8 k ob en hk hlv hen
  · intro i hi k hk' hli hlk hd hd'
    exact s.pinj i hi k hk' hli hlk (fun h => hd (List.mem_append_left _ h)) (fun h => hd' (List.mem_append_left _ h))

/-- Memory moves on. -/
theorem St.move {A' : Nat → Prop} (s : St C call ops B segs w0 e0 μs hs ws sz dfs A D listed e h β μ a w) (m : Sim w0 μ h w μ' h' w') (hA : ∀ i, A' i → A i ∧ (pureAt ops i = true ∨ h' = h)) :
    St C call ops B segs w0 e0 μs hs ws sz dfs A' D listed e h' β μ' a w' := by
  refine ⟨s.lsz, s.closed, s.sub, s.env, ?_, ?_, ?_, ?_, s.pinj, s.sim.trans m, s.size, s.defs⟩
  · intro i hi hk ha hl
    obtain ⟨h1, h2⟩ := hA i ha
    have F := s.facts i hi hk h1 hl
    rcases h2 with h2 | rfl
    · exact F.pure h2 _
    · exact F
  · intro i hi hl t v hd hv
    obtain ⟨x, h1, h2⟩ := s.tw i hi hl t v hd hv
    exact ⟨x, conc_mono m.le _ _ h1, h2⟩
  · intro t v ht hv
    obtain ⟨x, h1, h2⟩ := s.tu t v ht hv
    exact ⟨x, conc_mono m.le _ _ h1, h2⟩
  · intro i hi hl hd
    obtain ⟨o', t', inf', X', r1, r2, r3, r4, r5, r6, r7, r8⟩ := s.pend i hi hl hd
    have hlt : β i < w.heap.size := (Array.getElem?_eq_some_iff.1 r6).1
    refine ⟨o', t', inf', X', r1, r2, r3, r4, r5, (m.frame _ hlt r8).trans r6, r7, fun k ob en hk hlv hen hb => ?_⟩
    rcases m.src k ob en hk hlv hen with h | ⟨j, oj, ej, g1, g2, g3, g4⟩
    · omega
    · exact r8 j oj ej g1 g2 g3 (g4.trans hb)

/-- The machine has done a read that the plan has done. -/
theorem St.put (P : Plan C ops B segs) (s : St C call ops B segs w0 e0 μs hs ws sz dfs A D listed e h β μ a w) (hdl : ∀ t, dstAt ops i = some t → t < a.tmps.size) (hil : i < ops.size)
    (hpre : ∀ j, j < ops.size → bef B j i = true → lst listed j) (hi : i ∈ D) (hx : conc μ v = some x) (hv : ∀ d, dstAt ops i = some d → e.get d = some v) :
    St C call ops B segs w0 e0 μs hs ws sz dfs A D (listed.setIfInBounds i true) e h β μ (a.put (dstAt ops i) x) w := by
  have hset : ∀ k, lst (listed.setIfInBounds i true) k ↔ k = i ∨ lst listed k := fun k => lst_set (by rw [s.lsz]; exact hil)
  refine ⟨by simpa using s.lsz, ?_, ?_, s.env, ?_, ?_, ?_, ?_, ?_, s.sim, ?_, ?_⟩
  · intro k hk j hj hb
    rcases (hset k).1 hk with rfl | hk
    · exact (hset j).2 (.inr (hpre j hj hb))
    · exact (hset j).2 (.inr (s.closed k hk j hj hb))
  · intro k hk
    rcases (hset k).1 hk with rfl | hk
    · exact .inl hi
    · exact s.sub k hk
  · intro k hk hkd ha hl
    exact s.facts k hk hkd ha fun h => hl ((hset k).2 (.inr h))
  · intro k hk hl t u hd hu
    rw [put_get hdl]
    by_cases hki : k = i
    · subst hki
      rw [hv t hd] at hu
      obtain rfl := Option.some.inj hu
      exact ⟨x, hx, by rw [if_pos hd]⟩
    · rw [if_neg fun hd' => hki (P.uniq hd hd')]
      exact s.tw k hk (((hset k).1 hl).resolve_left hki) t u hd hu
  · intro t u ht hu
    rw [put_get hdl, if_neg (ht i ((hset i).2 (.inl rfl)))]
    exact s.tu t u (fun k hk => ht k ((hset k).2 (.inr hk))) hu
  · intro k hk hl hd
    have hki : k ≠ i := fun h => hd (h ▸ hi)
    obtain ⟨o', t', inf', X', r1, r2, r3, r4, r5, r6, r7, r8⟩ := s.pend k hk (((hset k).1 hl).resolve_left hki) hd
    refine ⟨o', t', inf', X', r1, r2, r3, r4, fun d hdd => ?_, r6, r7, r8⟩
    rw [put_get hdl, if_neg fun hd' => hki (P.uniq (by rw [dstAt_eq r1]; exact hdd) hd')]
    exact r5 d hdd
  · intro k hk k' hk' hl hl' hd hd'
    exact s.pinj k hk k' hk' (((hset k).1 hl).resolve_left fun h => hd (h ▸ hi)) (((hset k').1 hl').resolve_left fun h => hd' (h ▸ hi)) hd hd'
  · cases hd : dstAt ops i <;> simp [Act.put, s.size]
  · cases hd : dstAt ops i <;> simp [Act.put, s.defs]

/-- The machine has made a floating block ahead of the plan. -/
theorem St.early (P : Plan C ops B segs) (s : St C call ops B segs w0 e0 μs hs ws sz dfs A D listed e h β μ a w) (hoi : ops[i]? = some o) (hdl : ∀ t, o.dst = some t → t < a.tmps.size)
    (hpre : ∀ j, j < ops.size → bef B j i = true → lst listed j) (hi : i ∉ D) (hf : i ∈ flL segs) {t : TypeId} {inf : TI} {X : List Value} (h1 : o.op = .alloc t) (h2 : C.ti t = some inf) (h3 : ∀ μ, concL μ inf.zero = some X) :
    St C call ops B segs w0 e0 μs hs ws sz dfs A D (listed.setIfInBounds i true) e h (fun k => if k = i then w.heap.size else β k) μ (a.put o.dst (.pointer (some ⟨w.heap.size, 0, none⟩))) (w.alloc (.cells X.toArray t)) := by
  have hil : i < ops.size := (Array.getElem?_eq_some_iff.1 hoi).1
  have hdi := dstAt_eq hoi
  have hset : ∀ k, lst (listed.setIfInBounds i true) k ↔ k = i ∨ lst listed k := fun k => lst_set (by rw [s.lsz]; exact hil)
  have hold : ∀ b, b < w.heap.size → (w.alloc (.cells X.toArray t)).heap[b]? = w.heap[b]? := fun b hb => by
    show (w.heap.push _)[b]? = _
    rw [Array.getElem?_push, if_neg (by omega)]
  have hnew : (w.alloc (.cells X.toArray t)).heap[w.heap.size]? = some (.cells X.toArray t) := by show (w.heap.push _)[w.heap.size]? = _; simp
  refine ⟨by simpa using s.lsz, ?_, ?_, s.env, ?_, ?_, ?_, ?_, ?_, s.sim.trans (Sim.pend s.sim.rel _), ?_, ?_⟩
  · intro k hk j hj hb
    rcases (hset k).1 hk with rfl | hk
    · exact (hset j).2 (.inr (hpre j hj hb))
    · exact (hset j).2 (.inr (s.closed k hk j hj hb))
  · intro k hk
    rcases (hset k).1 hk with rfl | hk
    · exact .inr hf
    · exact s.sub k hk
  · intro k hk hkd ha hl
    exact s.facts k hk hkd ha fun h => hl ((hset k).2 (.inr h))
  · intro k hk hl u v hd hv
    have hki : k ≠ i := fun h => hi (h ▸ hk)
    rw [put_get hdl, if_neg fun hd' => hki (P.uniq hd (hdi.trans hd'))]
    exact s.tw k hk (((hset k).1 hl).resolve_left hki) u v hd hv
  · intro u v ht hv
    rw [put_get hdl, if_neg (hdi ▸ ht i ((hset i).2 (.inl rfl)))]
    exact s.tu u v (fun k hk => ht k ((hset k).2 (.inr hk))) hv
  · intro k hk hl hd
    by_cases hki : k = i
    · subst hki
      simp only [if_true]
      refine ⟨o, t, inf, X, hoi, h1, h2, h3, fun d hdd => by rw [put_get hdl, if_pos hdd], hnew, s.sim.size, fun k' ob en hk' hlv hen hb => ?_⟩
      have := s.sim.rel.blk_lt hk' hlv hen
      omega
    · simp only [hki, if_false]
      obtain ⟨o', t', inf', X', r1, r2, r3, r4, r5, r6, r7, r8⟩ := s.pend k hk (((hset k).1 hl).resolve_left hki) hd
      refine ⟨o', t', inf', X', r1, r2, r3, r4, fun d hdd => ?_, (hold _ (Array.getElem?_eq_some_iff.1 r6).1).trans r6, r7, r8⟩
      rw [put_get hdl, if_neg fun hd' => hki (P.uniq (by rw [dstAt_eq r1]; exact hdd) (hdi.trans hd'))]
      exact r5 d hdd
  · have hb : ∀ k ∈ flL segs, lst listed k → k ∉ D → β k < w.heap.size := fun k hk hl hd => by
      obtain ⟨o', t', inf', X', r1, r2, r3, r4, r5, r6, r7, r8⟩ := s.pend k hk hl hd
      exact (Array.getElem?_eq_some_iff.1 r6).1
    intro k hk k' hk' hl hl' hd hd' hbb
    by_cases hki : k = i <;> by_cases hki' : k' = i
    · rw [hki, hki']
    · have := hb k' hk' (((hset k').1 hl').resolve_left hki') hd'
      simp only [hki, hki', if_true, if_false] at hbb
      omega
    · have := hb k hk (((hset k).1 hl).resolve_left hki) hd
      simp only [hki, hki', if_true, if_false] at hbb
      omega
    · simp only [hki, hki', if_false] at hbb
      exact s.pinj k hk k' hk' (((hset k).1 hl).resolve_left hki) (((hset k').1 hl').resolve_left hki') hd hd' hbb
  · cases hd : o.dst <;> simp [Act.put, s.size]
  · cases hd : o.dst <;> simp [Act.put, s.defs]

/-- An operation of the chain has come up, memory moved on. -/
theorem St.chain (P : Plan C ops B segs) (s : St C call ops B segs w0 e0 μs hs ws sz dfs A D listed e h β μ a w) (ho : ordL segs = D ++ j :: r) (hoj : ops[j]? = some o) (hdl : ∀ t, o.dst = some t → t < a.tmps.size)
    (hpre : ∀ i, i < ops.size → bef B i j = true → lst listed i) (hf : j ∉ flL segs) (hx : conc μ v = some x) :
    St C call ops B segs w0 e0 μs hs ws sz dfs A (D ++ [j]) (listed.setIfInBounds j true) (e.dst o.dst v) h β μ (a.put o.dst x) w := by
  have hjl : j < ops.size := (Array.getElem?_eq_some_iff.1 hoj).1
  have hdj := dstAt_eq hoj
  have hj := P.next_notin ho
  rw [← hdj] at hdl ⊢
  have hset : ∀ k, lst (listed.setIfInBounds j true) k ↔ k = j ∨ lst listed k := fun k => lst_set (by rw [s.lsz]; exact hjl)
  refine ⟨by simpa using s.lsz, ?_, ?_, ?_, ?_, ?_, ?_, ?_, ?_, s.sim, ?_, ?_⟩
  · intro k hk i hi hb
    rcases (hset k).1 hk with rfl | hk
    · exact (hset i).2 (.inr (hpre i hi hb))
    · exact (hset i).2 (.inr (s.closed k hk i hi hb))
  · intro k hk
    rcases (hset k).1 hk with rfl | hk
    · exact .inl (by simp)
    · exact (s.sub k hk).imp (List.mem_append_left _) id
  · intro t ht
    rw [get_dst, if_neg (ht j (by simp))]
    exact s.env t fun i hi => ht i (List.mem_append_left _ hi)
  · intro k hk hkd ha hl
    rcases List.mem_append.1 hk with hk | hk
    · exact (s.facts k hk hkd ha fun h => hl ((hset k).2 (.inr h))).grow P ho hk v
    · simp only [List.mem_singleton] at hk
      exact absurd ((hset k).2 (.inl hk)) hl
  · intro k hk hl t u hd hu
    rw [put_get hdl]
    rw [get_dst] at hu
    rcases List.mem_append.1 hk with hk | hk
    · have hkj : k ≠ j := fun h => hj (h ▸ hk)
      have hne : ¬ dstAt ops j = some t := fun hd' => hkj (P.uniq hd hd')
      rw [if_neg hne] at hu ⊢
      exact s.tw k hk (((hset k).1 hl).resolve_left hkj) t u hd hu
    · simp only [List.mem_singleton] at hk
      subst hk
      rw [if_pos hd] at hu ⊢
      obtain rfl := Option.some.inj hu
      exact ⟨x, hx, rfl⟩
  · intro t u ht hu
    rw [put_get hdl, if_neg (ht j ((hset j).2 (.inl rfl)))]
    exact s.tu t u (fun k hk => ht k ((hset k).2 (.inr hk))) hu
  · intro k hk hl hd
    have hkj : k ≠ j := fun h => hf (h ▸ hk)
    obtain ⟨o', t', inf', X', r1, r2, r3, r4, r5, r6, r7, r8⟩ := s.pend k hk (((hset k).1 hl).resolve_left hkj) fun h => hd (List.mem_append_left _ h)
    refine ⟨o', t', inf', X', r1, r2, r3, r4, fun d hdd => ?_, r6, r7, r8⟩
    rw [put_get hdl, if_neg fun hd' => hkj (P.uniq (by rw [dstAt_eq r1]; exact hdd) hd')]
    exact r5 d hdd
  · intro k hk k' hk' hl hl' hd hd'
    exact s.pinj k hk k' hk' (((hset k).1 hl).resolve_left fun h => hf (h ▸ hk)) (((hset k').1 hl').resolve_left fun h => hf (h ▸ hk')) (fun h => hd (List.mem_append_left _ h)) (fun h => hd' (List.mem_append_left _ h))
  · cases hd : dstAt ops j <;> simp [Act.put, s.size]
  · cases hd : dstAt ops j <;> simp [Act.put, s.defs]

/-! What the machine sees. -/

theorem St.viewD (P : Plan C ops B segs) (s : St C call ops B segs w0 e0 μs hs ws sz dfs A D listed e h β μ a w) (ho : ordL segs = D ++ r) (hil : ¬ lst listed i) (hi : i ∈ D)
    (hpre : ∀ j, j < ops.size → bef B j i = true → lst listed j) : ER μ (rst (readsAt ops i) (vw ops B e0 e i)) a.tmps := by
  intro t u hu
  rw [rst_get] at hu
  split at hu
  · rename_i ht
    by_cases hw : ∃ j, dstAt ops j = some t
    · obtain ⟨j, hj⟩ := hw
      obtain ⟨h1, h2⟩ := (P.wr j t hj i (P.lt_of_mem ho hi)).2 ht
      by_cases hb : bef B j i = true
      · have hlj := hpre j (dstAt_lt hj) hb
        have hjD : j ∈ D := by
          rcases P.ahead_in ho hi (dstAt_lt hj) hb with h | h
          · exact h
          · exact absurd ht (h.2 t hj)
        rw [P.vw_late fun k hk => by rw [P.uniq hk hj]; exact hb] at hu
        obtain ⟨x, g1, g2⟩ := s.tw j hjD hlj t u hj hu
        exact ⟨x, g1, g2⟩
      · have hb' : bef B j i = false := by simpa using hb
        rcases h2 with h2 | ⟨h2, _⟩
        · exact absurd h2 hb
        · rw [vw_early hj h2 hb'] at hu
          obtain ⟨x, g1, g2⟩ := s.tu t u (fun k hk hkd => hil (s.closed k hk i (P.lt_of_mem ho hi) (by rw [P.uniq hkd hj]; exact h2))) hu
          exact ⟨x, g1, g2⟩
    · have hno : ∀ j, dstAt ops j ≠ some t := fun j hj => hw ⟨j, hj⟩
      rw [P.vw_late fun k hk => absurd hk (hno k), s.env t fun j _ => hno j] at hu
      obtain ⟨x, g1, g2⟩ := s.tu t u (fun k _ => hno k) hu
      exact ⟨x, g1, g2⟩
  · cases hu

theorem St.viewX (P : Plan C ops B segs) (s : St C call ops B segs w0 e0 μs hs ws sz dfs A D listed e h β μ a w) (ho : ordL segs = D ++ j :: r) (hp : pureAt ops j = false)
    (hpre : ∀ i, i < ops.size → bef B i j = true → lst listed i) : ER μ (rst (readsAt ops j) e.get) a.tmps := by
  intro t u hu
  rw [rst_get] at hu
  split at hu
  · rename_i ht
    by_cases hw : ∃ i, dstAt ops i = some t
    · obtain ⟨i, hi⟩ := hw
      obtain ⟨h1, h2⟩ := (P.wr i t hi j (P.lt j (by rw [ho]; simp))).2 ht
      rcases h2 with h2 | ⟨_, h2⟩
      · have hiD : i ∈ D := by
          rcases P.ord D j r ho i (dstAt_lt hi) h2 with h | h
          · exact h
          · exact absurd ht (h.2 t hi)
        obtain ⟨x, g1, g2⟩ := s.tw i hiD (hpre i (dstAt_lt hi) h2) t u hi hu
        exact ⟨x, g1, g2⟩
      · rw [hp] at h2; cases h2
    · have hno : ∀ j, dstAt ops j ≠ some t := fun j hj => hw ⟨j, hj⟩
      rw [s.env t fun j _ => hno j] at hu
      obtain ⟨x, g1, g2⟩ := s.tu t u (fun k _ => hno k) hu
      exact ⟨x, g1, g2⟩
  · cases hu

end
end Go.Ix
namespace Go.Ix
open Go.RowKit (Below)
section
variable {C : Cfg} {call : Caller} {ops : Array Oper} {B : Array Nat} {segs : List Seg} {w0 ws : World} {μs μ μ' : Mu} {hs h h' : H} {w w' : World} {e0 e : Env} {a : Act} {sz : Nat} {dfs : List Deferred}
  {A : Nat → Prop} {D r : List Nat} {listed : Array Bool} {β : Nat → Nat} {i j : Nat} {v : V} {x : Value} {o : Oper}

theorem evVal_read (hk : kindOf o.op = .read) {Q : V × H → Prop} (hv : (evVal C call ops o e h).all Q) : ∃ v, evVal C call ops o e h = .ret (v, h) ∧ Q (v, h) := by
  unfold evVal at hv ⊢
  rw [hk] at hv ⊢
  simp only at hv ⊢
  split at hv
  · split at hv
    · exact ⟨_, rfl, hv⟩
    · exact hv.elim
  · exact ⟨_, rfl, hv⟩
  · exact hv.elim

theorem chk_spec : ∀ {l : List Nat}, chk C ops e h l = true → ∀ i ∈ l, kdAt ops i = .read → ∃ o v, ops[i]? = some o ∧ evVal C call ops o e h = .ret (v, h) ∧ ∀ d, dstAt ops i = some d → e.get d = some v
  | [], _, i, hi, _ => by cases hi
  | k :: l, hc, i, hi, hk => by
    simp only [chk, Bool.and_eq_true] at hc
    rcases List.mem_cons.1 hi with rfl | hi
    · have hc := hc.1
      split at hc
      · rename_i o ho
        have hko := kdAt_eq ho
        rw [hk] at hko
        refine ⟨o, ?_⟩
        rw [dstAt_eq ho]
        split at hc
        · rename_i hw
          split at hc
          · rename_i d hd
            split at hc
            · rename_i v u hv hu
              obtain rfl := V.beq_eq _ _ hc
              refine ⟨v, ho, ?_, fun d' hd' => ?_⟩
              · simp only [evVal, hw, ← hko, hv]
              · rw [hd] at hd'
                obtain rfl := Option.some.inj hd'
                exact hu
            · cases hc
          · cases hc
        · rename_i hw
          refine ⟨.tup [], ho, by simp only [evVal, hw], fun d' hd' => ?_⟩
          rw [hd'] at hc
          simp only at hc
          split at hc
          · assumption
          · cases hc
        · cases hc
      · cases hc
    · exact chk_spec hc.2 i hi hk

theorem evIdx_append {Q : Env × H → Prop} : ∀ (l m : List Nat) (e : Env) (h : H), (evIdx C call ops (l ++ m) e h).all Q → (evIdx C call ops l e h).all fun p => (evIdx C call ops m p.1 p.2).all Q
  | [], m, e, h, hq => hq
  | k :: l, m, e, h, hq => by
    simp only [List.cons_append, evIdx] at hq ⊢
    split at hq
    · rw [T.all_bind] at hq ⊢
      exact T.all_mono (fun p hp => evIdx_append l m p.1 p.2 hp) _ hq
    · exact hq.elim

theorem St.reads (P : Plan C ops B segs) {Q : Env × H → Prop} : ∀ (l : List Nat) {A : Nat → Prop} {D r : List Nat} {e : Env}, St C call ops B segs w0 e0 μs hs ws sz dfs A D listed e h β μ a w → ordL segs = D ++ (l ++ r) → (∀ i ∈ l, kdAt ops i = .read) →
    (evIdx C call ops l e h).all Q → ∃ e', Q (e', h) ∧ St C call ops B segs w0 e0 μs hs ws sz dfs (fun i => A i ∨ i ∈ l) (D ++ l) listed e' h β μ a w
  | [], A, D, r, e, s, ho, hk, hev => ⟨e, hev, by simpa using s⟩
  | k :: l, A, D, r, e, s, ho, hk, hev => by
    simp only [evIdx] at hev
    split at hev
    · rename_i o hok
      unfold evOper at hev
      rw [T.all_bind, T.all_bind] at hev
      have hkk := hk k (.head _)
      rw [kdAt_eq hok] at hkk
      obtain ⟨v, g1, g2⟩ := evVal_read hkk hev
      have s1 := s.read P (by rw [ho]; rfl) (hk k (.head _)) hok g1
      obtain ⟨e', q1, q2⟩ := St.reads P l (r := r) s1 (by rw [ho]; simp) (fun i hi => hk i (.tail _ hi)) g2
      refine ⟨e', q1, ?_⟩
      rw [List.append_assoc] at q2
      exact q2.weaken fun i hi => by
        rcases hi with hi | hi
        · exact .inl (.inl hi)
        · rcases List.mem_cons.1 hi with rfl | hi
          · exact .inl (.inr rfl)
          · exact .inr hi
    · exact hev.elim

theorem St.flushes (P : Plan C ops B segs) (hws : w0.heap.size ≤ ws.heap.size) {Q : Env × H → Prop} : ∀ (l : List Nat) {A : Nat → Prop} {D r : List Nat} {e : Env} {h : H} {μ : Mu}, St C call ops B segs w0 e0 μs hs ws sz dfs A D listed e h β μ a w → (∀ i, pureAt ops i = true → A i) →
    ordL segs = D ++ (l ++ r) → (∀ i ∈ l, i ∈ flL segs ∧ lst listed i) → (evIdx C call ops l e h).all Q →
    ∃ e' h' μ', Q (e', h') ∧ St C call ops B segs w0 e0 μs hs ws sz dfs (fun i => pureAt ops i = true) (D ++ l) listed e' h' β μ' a w
  | [], A, D, r, e, h, μ, s, hA, ho, hk, hev => ⟨e, h, μ, hev, by simpa using s.weaken hA⟩
  | k :: l, A, D, r, e, h, μ, s, hA, ho, hk, hev => by
    simp only [evIdx] at hev
    split at hev
    · rename_i o hok
      unfold evOper at hev
      rw [T.all_bind, T.all_bind] at hev
      obtain ⟨hf, hl⟩ := hk k (.head _)
      obtain ⟨v, h1, μ1, q1, s1⟩ := s.flush P hws hA (by rw [ho]; rfl) hf hl hok hev
      obtain ⟨e', h', μ', q2, q3⟩ := St.flushes P hws l (r := r) s1 (fun _ h => h) (by rw [ho]; simp) (fun i hi => hk i (.tail _ hi)) q1
      refine ⟨e', h', μ', q2, ?_⟩
      rw [List.append_assoc] at q3
      exact q3
    · exact hev.elim

theorem ordL_append (l m : List Seg) : ordL (l ++ m) = ordL l ++ ordL m := by simp [ordL]
theorem xsL_append (l m : List Seg) : xsL (l ++ m) = xsL l ++ xsL m := by simp [xsL]

theorem mem_ordL {l : List Seg} : i ∈ ordL l ↔ i ∈ evL l ∨ i ∈ flL l ∨ i ∈ xsL l := by
  simp only [ordL, evL, flL, xsL, Seg.ord, List.mem_flatMap, List.mem_append]
  constructor
  · rintro ⟨s, hs, h | h | h⟩
    · exact .inl ⟨s, hs, h⟩
    · exact .inr (.inl ⟨s, hs, h⟩)
    · exact .inr (.inr ⟨s, hs, h⟩)
  · rintro (⟨s, hs, h⟩ | ⟨s, hs, h⟩ | ⟨s, hs, h⟩)
    · exact ⟨s, hs, .inl h⟩
    · exact ⟨s, hs, .inr (.inl h)⟩
    · exact ⟨s, hs, .inr (.inr h)⟩

theorem xsL_sub_ordL : ∀ (l : List Seg), List.Sublist (xsL l) (ordL l)
  | [] => List.Sublist.refl _
  | s :: l => by
    have ih := xsL_sub_ordL l
    simp only [xsL, ordL, List.flatMap_cons, Seg.ord]
    refine List.Sublist.append ?_ ih
    exact (List.sublist_append_right _ _).trans (List.sublist_append_right _ _)

theorem Plan.xs_nodup (P : Plan C ops B segs) : (xsL segs).Nodup := P.nodup.sublist (xsL_sub_ordL segs)

/-- A segment is entered. -/
theorem St.enter (P : Plan C ops B segs) {done rest : List Seg} {s : Seg} (hsegs : segs = done ++ s :: rest) (st : St C call ops B segs w0 e0 μs hs ws sz dfs (fun i => pureAt ops i = true) (ordL done) listed e h β μ a w)
    (hch : ∀ x ∈ xsL segs, lst listed x ↔ x ∈ xsL done) {Q : Env × H → Prop} (hev : (evSegs C call ops (s :: rest) e h).all Q) :
    ∃ e', St C call ops B segs w0 e0 μs hs ws sz dfs (fun _ => True) (ordL done ++ s.evs) listed e' h β μ a w ∧ (evIdx C call ops (s.fls ++ s.x.toList) e' h).all fun p => (evSegs C call ops rest p.1 p.2).all Q := by
  simp only [evSegs] at hev
  rw [T.all_bind] at hev
  have hord : ordL segs = ordL done ++ (s.evs ++ ((s.fls ++ s.x.toList) ++ ordL rest)) := by
    rw [hsegs, ordL_append]
    simp [ordL, Seg.ord]
  obtain ⟨e', q1, s1⟩ := st.reads P s.evs hord (fun i hi => P.kevs i (by rw [hsegs]; simp only [evL, List.mem_flatMap]; exact ⟨s, by simp, hi⟩)) hev
  refine ⟨e', ?_, ?_⟩
  · simp only at q1
    split at q1
    · rename_i hc
      refine { s1 with facts := fun i hi hk _ hl => ?_ }
      by_cases ha : pureAt ops i = true ∨ i ∈ s.evs
      · exact s1.facts i hi hk ha hl
      · have hnp : pureAt ops i = false := by
          cases hp : pureAt ops i with
          | false => rfl
          | true => exact absurd (.inl hp) ha
        have hid : i ∈ evL done := by
          rcases List.mem_append.1 hi with hi | hi
          · rcases mem_ordL.1 hi with h | h | h
            · exact h
            · have := P.fl_kd (i := i) (by rw [hsegs]; simp only [flL, List.flatMap_append, List.mem_append]; exact .inl h)
              rw [hk] at this; cases this
            · exact absurd hk (P.kx i (by rw [hsegs, xsL_append]; exact List.mem_append_left _ h))
          · exact absurd (.inr hi) ha
        have hcv := P.cov
        rw [hsegs] at hcv
        rcases covOk_split hcv i (.inr ⟨hid, hnp⟩) with hck | ⟨x, hx, hb⟩
        · obtain ⟨o, v, g1, g2, g3⟩ := chk_spec (call := call) hc i hck hk
          refine ⟨o, e', v, g1, fun t ht => ?_, g2, g3⟩
          refine (P.vw_late fun j hj => ?_).symm
          obtain ⟨_, h2 | ⟨h2, _⟩⟩ := (P.wr j t hj i (by have := (Array.getElem?_eq_some_iff.1 g1).1; exact this)).2 ht
          · exact h2
          · rename_i h3
            rw [hnp] at h3; cases h3
        · simp only [List.nil_append] at hx
          have hlx := (hch x (by rw [hsegs, xsL_append]; exact List.mem_append_left _ hx)).2 hx
          have hil : i < ops.size := P.lt i (by rw [hsegs, ordL_append]; exact List.mem_append_left _ (mem_ordL.2 (.inl hid)))
          exact absurd (s1.closed x hlx i hil hb) hl
    · exact q1.elim
  · simp only at q1
    split at q1
    · rw [T.all_bind] at q1
      exact q1
    · exact q1.elim

theorem wpOpIn_alloc (G : Good C w0) {t : TypeId} {inf : TI} (hoi : ops[i]? = some o) (hg : o.guard = none) (hop : o.op = .alloc t) (hi : C.ti t = some inf) {rl : Option Nat} {n : Nat} {QQ : Exit → Act → World → Prop} {K : Act → World → Prop}
    (hK : ∀ X, (∀ μ, concL μ inf.zero = some X) → K (a.put o.dst (.pointer (some ⟨w.heap.size, 0, none⟩))) (w.alloc (.cells X.toArray t))) : wpOpIn (Fr rl) n C.P ops QQ i K a w := by
  unfold wpOpIn
  simp only [hoi]
  have hw : Region.wanted o (yielded ops a.tmps) = true := by simp [Region.wanted, hg]
  rw [hw]
  simp only [if_true]
  unfold Oper.wpIn
  refine ⟨fun _ _ => Fr_fn _ _, ?_⟩
  have hse : Oper.semAt (Fr rl).round a.eval o = execOp a.eval o := Oper.semAt_eq _ _ _ (by intro c hc; rw [hop] at hc; cases hc)
  rw [hse]
  obtain ⟨z, hz1, hz2, hz3⟩ := run_zero G hi w
  have hrun : (execOp a.eval o).run C.P w = .ok (.value (.pointer (some ⟨w.heap.size, 0, none⟩))) (w.alloc (.cells z.cells t)) := by
    simp [execOp, hop, Instr.alloc, hz1, newVar, Go.newRow]
  rw [hrun]
  simp only [Oper.uponIn]
  have := hK z.cells.toList hz3
  simpa using this

theorem countP_set_lt {listed : Array Bool} (hi : listed[i]? = some false) {n : Nat} (hn : listed.toList.countP (!·) ≤ n + 1) : (listed.setIfInBounds i true).toList.countP (!·) ≤ n := by
  have hlt : i < listed.toList.length := by have := (Array.getElem?_eq_some_iff.1 hi).1; simpa using this
  have hg : listed.toList[i] = false := by have := (Array.getElem?_eq_some_iff.1 hi).2; simpa using this
  have := List.countP_set (p := (!·)) (l := listed.toList) (i := i) (a := true) hlt
  simp only [hg, Bool.not_false, if_true, Bool.not_true, Bool.false_eq_true, if_false] at this
  rw [Array.toList_setIfInBounds, this]
  omega

theorem draw_main (P : Plan C ops B segs) (G : Good C w0) (hcall : CallOk C w0 call) (hws : w0.heap.size ≤ ws.heap.size) (hdl : ∀ o ∈ ops.toList, dstLt o sz) {rl : Option Nat} {n : Nat} {QQ : Exit → Act → World → Prop} {Q : Env × H → Prop}
    (hQQ : ∀ e' h' μ' a' w', Q (e', h') → Sim w0 μs hs ws μ' h' w' → ER μ' e' a'.tmps → a'.tmps.size = sz → a'.defers = dfs → QQ .normal a' w') :
    ∀ (fuel : Nat) {done rest : List Seg} {s : Seg} {listed : Array Bool} {e : Env} {h : H} {β : Nat → Nat} {μ : Mu} {a : Act} {w : World}, segs = done ++ s :: rest →
      St C call ops B segs w0 e0 μs hs ws sz dfs (fun _ => True) (ordL done ++ s.evs) listed e h β μ a w → (∀ x ∈ xsL segs, lst listed x ↔ x ∈ xsL done) →
      ((evIdx C call ops (s.fls ++ s.x.toList) e h).all fun p => (evSegs C call ops rest p.1 p.2).all Q) → listed.toList.countP (!·) ≤ fuel → wpAnyIn (Fr rl) n C.P .any ops QQ fuel listed a w := by
  have dstlt : ∀ {a : Act} {i : Nat} {o : Oper}, a.tmps.size = sz → ops[i]? = some o → ∀ t, o.dst = some t → t < a.tmps.size := fun hs ho t ht => by
    rw [hs]
    exact hdl _ (by have := Array.mem_of_getElem? ho; simpa using this) t ht
  -- all is done
  have fin : ∀ {done rest : List Seg} {s : Seg} {listed : Array Bool} {e : Env} {h : H} {β : Nat → Nat} {μ : Mu} {a : Act} {w : World}, segs = done ++ s :: rest →
      St C call ops B segs w0 e0 μs hs ws sz dfs (fun _ => True) (ordL done ++ s.evs) listed e h β μ a w → (∀ x ∈ xsL segs, lst listed x ↔ x ∈ xsL done) →
      ((evIdx C call ops (s.fls ++ s.x.toList) e h).all fun p => (evSegs C call ops rest p.1 p.2).all Q) → (∀ i, i < ops.size → lst listed i) → QQ .normal a w := by
    intro done rest s listed e h β μ a w hsegs st hch hev hall
    have hxn := P.xs_nodup
    rw [hsegs, xsL_append] at hxn
    have hc := P.chain
    rw [hsegs] at hc
    have hsx : s.x = none := by
      cases hx : s.x with
      | none => rfl
      | some y =>
        have hy : y ∈ xsL (s :: rest) := by simp [xsL, hx]
        have hys : y ∈ xsL segs := by rw [hsegs, xsL_append]; exact List.mem_append_right _ hy
        have := (hch y hys).1 (hall y (P.lt y ((xsL_sub_ordL segs).subset hys)))
        exact absurd rfl ((List.nodup_append.1 hxn).2.2 y this y hy)
    obtain rfl := (chainOk_split hc).2.1.1 hsx
    have hord : ordL segs = (ordL done ++ s.evs) ++ (s.fls ++ []) := by
      rw [hsegs, ordL_append]
      simp [ordL, Seg.ord, hsx]
    rw [hsx] at hev
    simp only [Option.toList_none, List.append_nil] at hev
    obtain ⟨e', h', μ', q1, s1⟩ := st.flushes P hws s.fls (fun _ _ => trivial) hord (fun i hi => by
      have : i ∈ flL segs := by rw [hsegs]; simp only [flL, List.mem_flatMap]; exact ⟨s, by simp, hi⟩
      exact ⟨this, hall i (P.lt i (mem_ordL.2 (.inr (.inl this))))⟩) hev
    refine hQQ e' h' μ' a w q1 s1.sim ?_ s1.size s1.defs
    intro t v hv
    by_cases hw : ∃ i, dstAt ops i = some t
    · obtain ⟨i, hi⟩ := hw
      have := P.mem i (dstAt_lt hi)
      rw [hord, List.append_nil] at this
      obtain ⟨x, g1, g2⟩ := s1.tw i this (hall i (dstAt_lt hi)) t v hi hv
      exact ⟨x, g1, g2⟩
    · have hno : ∀ i, dstAt ops i ≠ some t := fun i hi => hw ⟨i, hi⟩
      rw [s1.env t fun i _ => hno i] at hv
      obtain ⟨x, g1, g2⟩ := s1.tu t v (fun i _ => hno i) hv
      exact ⟨x, g1, g2⟩
  intro fuel
  induction fuel with
  | zero =>
    intro done rest s listed e h β μ a w hsegs st hch hev hcn
    have hall : ∀ i, i < ops.size → lst listed i := by
      intro i hi
      have h0 := List.countP_eq_zero.1 (Nat.le_zero.1 hcn)
      have hi' : i < listed.size := by rw [st.lsz]; exact hi
      have := h0 listed[i] (by simp)
      unfold lst
      simpa [Array.getD_eq_getD_getElem?, hi'] using this
    refine ⟨?_, fin hsegs st hch hev hall⟩
    refine List.eq_nil_iff_forall_not_mem.2 fun i hi => ?_
    obtain ⟨h1, o, ho, _⟩ := mem_ready.1 hi
    have hil : i < ops.size := (Array.getElem?_eq_some_iff.1 ho).1
    have h2 := hall i hil
    unfold lst at h2
    have hi' : i < listed.size := by rw [st.lsz]; exact hil
    simp only [Array.getD_eq_getD_getElem?, Array.getElem?_eq_getElem hi', Option.getD_some] at h1 h2
    rw [h1] at h2; cases h2
  | succ fuel ih =>
    intro done rest s listed e h β μ a w hsegs st hch hev hcn
    have hunl : ∀ i, i < ops.size → ¬ lst listed i → listed[i]? = some false ∧ listed.getD i true = false := by
      intro i hi hl
      have hi' : i < listed.size := by rw [st.lsz]; exact hi
      unfold lst at hl
      simp only [Array.getD_eq_getD_getElem?, Array.getElem?_eq_getElem hi', Option.getD_some] at hl ⊢
      simpa using hl
    refine ⟨fun hr => fin hsegs st hch hev ?_, fun i hi => ?_⟩
    · -- nothing is ready: all is done
      have hfl : ∀ i ∈ flL segs, lst listed i := by
        intro i hi
        by_cases hl : lst listed i
        · exact hl
        · exfalso
          obtain ⟨o, t, inf, g1, g2, g3, _⟩ := flOk_alloc (P.fl i hi)
          have hil : i < ops.size := (Array.getElem?_eq_some_iff.1 g1).1
          have : i ∈ Region.ready .any ops listed := mem_ready.2 ⟨(hunl i hil hl).2, o, g1, fun x hx hb => by rw [g3 x hx] at hb; cases hb⟩
          rw [hr] at this; cases this
      have key : ∀ (l pre : List Nat), ordL segs = pre ++ l → (∀ i ∈ pre, lst listed i) → ∀ i ∈ l, lst listed i := by
        intro l
        induction l with
        | nil => intro pre _ _ i hi; cases hi
        | cons k l ihl =>
          intro pre ho hp
          have hk : lst listed k := by
            by_cases hl : lst listed k
            · exact hl
            · exfalso
              have hkl : k < ops.size := P.lt k (by rw [ho]; simp)
              have : k ∈ Region.ready .any ops listed := mem_ready.2 ⟨(hunl k hkl hl).2, ops[k], by simp [hkl], fun x hx hb => by
                obtain ⟨d1, d2⟩ := P.dir k ops[k] (by simp [hkl]) x hx hb
                rcases P.ord pre k l ho x.on d1 d2 with h | h
                · exact hp _ h
                · exact hfl _ h.1⟩
              rw [hr] at this; cases this
          intro i hi
          rcases List.mem_cons.1 hi with rfl | hi
          · exact hk
          · exact ihl (pre ++ [k]) (by rw [ho]; simp) (fun j hj => by
              rcases List.mem_append.1 hj with hj | hj
              · exact hp j hj
              · simp only [List.mem_singleton] at hj; exact hj ▸ hk) i hi
      intro i hi
      exact key _ [] rfl (by simp) i (P.mem i hi)
    · -- one that is ready
      obtain ⟨h1, o, ho, hrdy⟩ := mem_ready.1 hi
      have hil : i < ops.size := (Array.getElem?_eq_some_iff.1 ho).1
      have hi' : i < listed.size := by rw [st.lsz]; exact hil
      have hlf : listed[i]? = some false := by
        simp only [Array.getD_eq_getD_getElem?, Array.getElem?_eq_getElem hi', Option.getD_some] at h1
        rw [Array.getElem?_eq_getElem hi', h1]
      have hnl : ¬ lst listed i := by
        unfold lst
        simp [Array.getD_eq_getD_getElem?, hlf]
      have hpre : ∀ j, j < ops.size → bef B j i = true → lst listed j := by
        intro j hj hb
        obtain ⟨x, hx, hbd, hor⟩ := P.clo i o ho j hj hb
        have hon := hrdy x hx hbd
        rcases hor with rfl | hor
        · exact hon
        · exact st.closed x.on hon j hj hor
      have hcn' := countP_set_lt hlf hcn
      have hord : ordL segs = (ordL done ++ s.evs) ++ ((s.fls ++ s.x.toList) ++ ordL rest) := by
        rw [hsegs, ordL_append]
        simp [ordL, Seg.ord]
      have hxn := P.xs_nodup
      rw [hsegs, xsL_append] at hxn
      have hc := P.chain
      rw [hsegs] at hc
      obtain ⟨c1, c2, c3, c4⟩ := chainOk_split hc
      have late : (∀ t ∈ rest, i ∈ t.evs ∨ t.x = some i → False) := by
        intro t ht hit
        cases hx : s.x with
        | none => rw [c2.1 hx] at ht; cases ht
        | some y =>
          obtain ⟨l1, l2⟩ := chainOk_late (c4 y hx) t ht
          have : ∃ z ∈ y :: xsL rest, bef B z i = true := hit.elim (l1 i) (l2 i)
          obtain ⟨z, hz, hb⟩ := this
          have hz' : z ∈ xsL (s :: rest) := by simpa [xsL, hx] using hz
          have hzs : z ∈ xsL segs := by rw [hsegs, xsL_append]; exact List.mem_append_right _ hz'
          have := (hch z hzs).1 (hpre z (P.lt z ((xsL_sub_ordL segs).subset hzs)) hb)
          exact absurd rfl ((List.nodup_append.1 hxn).2.2 z this z hz')
      have hmem := P.mem i hil
      rcases mem_ordL.1 hmem with hm | hm | hm
      · -- a read of the plan's
        have hk := P.kevs i hm
        have hiD : i ∈ ordL done ++ s.evs := by
          simp only [evL, List.mem_flatMap] at hm
          obtain ⟨t, ht, hit⟩ := hm
          rw [hsegs] at ht
          rcases List.mem_append.1 ht with ht | ht
          · exact List.mem_append_left _ (mem_ordL.2 (.inl (List.mem_flatMap.2 ⟨t, ht, hit⟩)))
          · rcases List.mem_cons.1 ht with rfl | ht
            · exact List.mem_append_right _ hit
            · exact (late t ht (.inl hit)).elim
        obtain ⟨o', ei, v, g1, g2, g3, g4⟩ := st.facts i hiD hk trivial hnl
        rw [ho] at g1
        obtain rfl := Option.some.inj g1
        have her := st.viewD P hord hnl hiD hpre
        have hcg : evVal C call ops o (rst (readsAt ops i) (vw ops B e0 e i)) h = .ret (v, h) := by
          rw [← g3]
          exact evVal_congr fun t ht => by rw [rst_get, if_pos (by rw [readsAt_eq ho]; exact ht), g2 t (by rw [readsAt_eq ho]; exact ht)]
        refine evVal_sound hcall G st.sim.rel her ho (Q := fun p => p = (v, h)) (by rw [hcg]; rfl) fun v' h' μ' w' x hq m hx => ?_
        obtain ⟨rfl, rfl⟩ := Prod.mk.inj hq
        have s1 := st.move (A' := fun _ => True) m fun _ _ => ⟨trivial, .inr rfl⟩
        have s2 := s1.put P (fun t ht => dstlt st.size ho t (by rw [← dstAt_eq ho]; exact ht)) hil hpre hiD hx g4
        rw [dstAt_eq ho] at s2
        refine ih hsegs s2 (fun y hy => ?_) hev hcn'
        rw [lst_set hi']
        refine ⟨fun hyl => ?_, fun hyl => .inr ((hch y hy).2 hyl)⟩
        rcases hyl with rfl | hyl
        · exact absurd hk (P.kx y hy)
        · exact (hch y hy).1 hyl
      · -- a floating block
        have hk := P.fl_kd hm
        obtain ⟨o', t, inf, g1, g2, g3, g4, g5, g6⟩ := flOk_alloc (P.fl i hm)
        rw [ho] at g1
        obtain rfl := Option.some.inj g1
        by_cases hix : i ∈ xsL segs
        · -- not so: each comes up once
          exfalso
          have hnd := P.nodup
          simp only [xsL, flL, List.mem_flatMap, Option.mem_toList] at hix hm
          obtain ⟨t1, ht1, hx1⟩ := hix
          obtain ⟨t2, ht2, hf2⟩ := hm
          have key : ∀ (l : List Seg), (ordL l).Nodup → t1 ∈ l → t2 ∈ l → False := by
            intro l
            induction l with
            | nil => intro _ h; cases h
            | cons b l ihl =>
              intro hn p1 p2
              simp only [ordL, List.flatMap_cons] at hn
              obtain ⟨n1, n2, n3⟩ := List.nodup_append.1 hn
              rcases List.mem_cons.1 p1 with e1 | m1 <;> rcases List.mem_cons.1 p2 with e2 | m2
              · subst e1
                subst e2
                simp only [Seg.ord] at n1
                have := (List.nodup_append.1 (List.nodup_append.1 n1).2.1).2.2 i hf2 i (by simpa using hx1)
                exact this rfl
              · subst e1
                exact n3 i (by simp [Seg.ord, hx1]) i (List.mem_flatMap.2 ⟨t2, m2, by simp [Seg.ord, hf2]⟩) rfl
              · subst e2
                exact n3 i (by simp [Seg.ord, hf2]) i (List.mem_flatMap.2 ⟨t1, m1, by simp [Seg.ord, hx1]⟩) rfl
              · exact ihl n2 m1 m2
          exact key segs hnd ht1 ht2
        · have hiD : i ∉ ordL done ++ s.evs := by
            intro hD
            rcases List.mem_append.1 hD with hD | hD
            · rcases mem_ordL.1 hD with h | h | h
              · have := P.kevs i (by rw [hsegs]; simp only [evL, List.flatMap_append, List.mem_append]; exact .inl h)
                rw [hk] at this; cases this
              · simp only [flL, List.mem_flatMap] at h
                obtain ⟨t', ht', hit⟩ := h
                obtain ⟨y, hy⟩ := Option.isSome_iff_exists.1 (c1 t' ht')
                have hb := c3 t' (List.mem_append_left _ ht') y hy i hit
                have hyd : y ∈ xsL done := List.mem_flatMap.2 ⟨t', ht', by simp [hy]⟩
                have hly := (hch y (by rw [hsegs, xsL_append]; exact List.mem_append_left _ hyd)).2 hyd
                exact hnl (st.closed y hly i hil hb)
              · exact hix (by rw [hsegs, xsL_append]; exact List.mem_append_left _ h)
            · have := P.kevs i (by rw [hsegs]; simp only [evL, List.mem_flatMap]; exact ⟨s, by simp, hD⟩)
              rw [hk] at this; cases this
          refine wpOpIn_alloc G ho g2 g4 g5 fun X hX => ?_
          have s1 := st.early P ho (dstlt st.size ho) hpre hiD hm g4 g5 hX
          refine ih hsegs s1 (fun y hy => ?_) hev hcn'
          rw [lst_set hi']
          refine ⟨fun hyl => ?_, fun hyl => .inr ((hch y hy).2 hyl)⟩
          rcases hyl with rfl | hyl
          · exact absurd hy hix
          · exact (hch y hy).1 hyl
      · -- the chain's next
        have hkx := P.kx i hm
        have hnd : i ∉ xsL done := fun h => hnl ((hch i hm).2 h)
        have hsx : s.x = some i := by
          have h := hm
          rw [hsegs, xsL_append] at h
          rcases List.mem_append.1 h with h | h
          · exact absurd h hnd
          · simp only [xsL, List.mem_flatMap, Option.mem_toList] at h
            obtain ⟨t, ht, hit⟩ := h
            rcases List.mem_cons.1 ht with rfl | ht
            · exact hit
            · exact (late t ht (.inr hit)).elim
        have hif : i ∉ flL segs := by
          intro hf
          have hnd := P.nodup
          simp only [flL, List.mem_flatMap] at hf
          obtain ⟨t2, ht2, hf2⟩ := hf
          have hs1 : s ∈ segs := by rw [hsegs]; simp
          have key : ∀ (l : List Seg), (ordL l).Nodup → s ∈ l → t2 ∈ l → False := by
            intro l
            induction l with
            | nil => intro _ h; cases h
            | cons b l ihl =>
              intro hn p1 p2
              simp only [ordL, List.flatMap_cons] at hn
              obtain ⟨n1, n2, n3⟩ := List.nodup_append.1 hn
              rcases List.mem_cons.1 p1 with e1 | m1 <;> rcases List.mem_cons.1 p2 with e2 | m2
              · subst e1
                subst e2
                simp only [Seg.ord] at n1
                have := (List.nodup_append.1 (List.nodup_append.1 n1).2.1).2.2 i hf2 i (by simpa using hsx)
                exact this rfl
              · subst e1
                exact n3 i (by simp [Seg.ord, hsx]) i (List.mem_flatMap.2 ⟨t2, m2, by simp [Seg.ord, hf2]⟩) rfl
              · subst e2
                exact n3 i (by simp [Seg.ord, hf2]) i (List.mem_flatMap.2 ⟨s, m1, by simp [Seg.ord, hsx]⟩) rfl
              · exact ihl n2 m1 m2
          exact key segs hnd hs1 ht2
        have hpu : pureAt ops i = false := by
          cases hp : pureAt ops i with
          | false => rfl
          | true =>
            rw [pureAt_eq ho] at hp
            rw [kdAt_eq ho] at hkx
            exact absurd (isPure_read hp) hkx
        rw [hsx] at hev hord
        simp only [Option.toList_some] at hev hord
        have hev1 := evIdx_append _ _ _ _ hev
        obtain ⟨e1, h1', μ1, q1, s1⟩ := st.flushes P hws s.fls (r := [i] ++ ordL rest) (fun _ _ => trivial) (by rw [hord]; simp) (fun k hk => by
          have : k ∈ flL segs := by rw [hsegs]; simp only [flL, List.mem_flatMap]; exact ⟨s, by simp, hk⟩
          exact ⟨this, hpre k (P.lt k (mem_ordL.2 (.inr (.inl this)))) (c3 s (by simp) i hsx k hk)⟩) hev1
        have hord1 : ordL segs = (ordL done ++ s.evs ++ s.fls) ++ i :: ordL rest := by rw [hord]; simp
        have her := s1.viewX P hord1 hpu hpre
        simp only [evIdx, ho] at q1
        unfold evOper at q1
        rw [T.all_bind, T.all_bind] at q1
        have hcg : evVal C call ops o (rst (readsAt ops i) e1.get) h1' = evVal C call ops o e1 h1' :=
          evVal_congr fun t ht => by rw [rst_get, if_pos (by rw [readsAt_eq ho]; exact ht)]
        rw [← hcg] at q1
        refine evVal_sound hcall G s1.sim.rel her ho q1 fun v' h' μ' w' x hq m hx => ?_
        have s2 := s1.move (A' := fun k => pureAt ops k = true) m fun k hk => ⟨hk, .inl hk⟩
        have s3 := s2.chain P hord1 ho (dstlt s1.size ho) hpre hif hx
        have hdone : ordL done ++ s.evs ++ s.fls ++ [i] = ordL (done ++ [s]) := by
          rw [ordL_append]
          simp [ordL, Seg.ord, hsx]
        rw [hdone] at s3
        simp only [T.all] at hq
        cases rest with
        | nil => have := c2.2 rfl; rw [hsx] at this; cases this
        | cons s' rest =>
          have hsegs' : segs = (done ++ [s]) ++ s' :: rest := by rw [hsegs]; simp
          have hch' : ∀ y ∈ xsL segs, lst (listed.setIfInBounds i true) y ↔ y ∈ xsL (done ++ [s]) := by
            intro y hy
            rw [lst_set hi', xsL_append]
            simp only [List.mem_append, xsL, List.flatMap_cons, List.flatMap_nil, List.append_nil, hsx, Option.toList_some, List.mem_singleton]
            have := hch y hy
            simp only [xsL] at this
            rw [this]
            exact Or.comm
          obtain ⟨e2, s4, q4⟩ := s3.enter P hsegs' hch' hq
          exact ih hsegs' s4 hch' q4 hcn'

theorem drawOk (G : Good C w0) {call : Caller} (hcall : CallOk C w0 call) : DrawOk C w0 call := by
  intro id ops rl n QQ μ h w e a Q hdl r he hev hQQ
  unfold evRegion at hev
  simp only [if_true] at hev
  split at hev
  · rename_i hp
    have P := planOk_spec hp
    refine wpIn_region_any G.mixed ?_
    have hd := Sim.drawn r (w.drawn + 1)
    cases hsegs : mkPlan ops with
    | nil => exact absurd hsegs P.ne
    | cons s rest =>
      have hsegs' : mkPlan ops = [] ++ s :: rest := by rw [hsegs]; rfl
      have hno : ∀ i, ¬ lst (Array.replicate ops.size false) i := by
        intro i hi
        unfold lst at hi
        by_cases hil : i < ops.size <;> simp [Array.getD_eq_getD_getElem?, hil] at hi
      have st : St C call ops (ahead ops) (mkPlan ops) w0 e μ h w a.tmps.size a.defers (fun i => pureAt ops i = true) (ordL []) (Array.replicate ops.size false) e h (fun _ => 0) μ a { w with drawn := w.drawn + 1 } := by
        refine ⟨by simp, fun i hi => absurd hi (hno i), fun i hi => absurd hi (hno i), fun _ _ => rfl, fun i hi => by simp [ordL] at hi, fun i hi => by simp [ordL] at hi, fun t v _ hv => ?_, fun i _ hi => absurd hi (hno i), fun i _ j _ hi => absurd hi (hno i), hd, rfl, rfl⟩
        obtain ⟨x, g1, g2⟩ := he t v hv
        exact ⟨x, g1, g2⟩
      rw [hsegs] at hev
      have hch : ∀ x ∈ xsL (mkPlan ops), lst (Array.replicate ops.size false) x ↔ x ∈ xsL [] := fun x _ => ⟨fun hl => absurd hl (hno x), fun hl => by simp [xsL] at hl⟩
      obtain ⟨e', s1, q1⟩ := st.enter P hsegs' hch hev
      refine draw_main P G hcall r.below.size hdl hQQ ops.size hsegs' s1 hch q1 ?_
      refine Nat.le_trans List.countP_le_length ?_
      simp
  · exact hev.elim
end
end Go.Ix
namespace Go.Ix
section
variable {P : Program}

def flatFs (sz : TypeId → Option (List Bool)) : List Field → Nat → Option (List Bool)
  | [], _ => some []
  | f :: r, off => if f.name = "_" ∨ f.offset ≠ off then none else match sz f.type with
    | some ks => match flatFs sz r (off + ks.length) with
      | some ls => some (ks ++ ls)
      | none => none
    | none => none

/-- Structs of whole numbers and bools, nested or not: what each cell is (true: a bool). -/
def flatKs (P : Program) : Nat → TypeId → Option (List Bool)
  | 0, _ => none
  | d + 1, t => match P.info? t, P.underlying t with
    | some i, some u => match u with
      | .bool => if i.size = 1 then some [true] else none
      | .int _ => if i.size = 1 then some [false] else none
      | .struct fs => if P.stoodInHeld t then none else match flatFs (flatKs P d) fs.toList 0 with
        | some ks => if i.size = ks.length then some ks else none
        | none => none
      | _ => none
    | _, _ => none

def fitsK : List Bool → List V → Bool
  | [], [] => true
  | true :: r, .bool _ :: s => fitsK r s
  | false :: r, .int _ _ :: s => fitsK r s
  | _, _ => false

theorem fitsK_fits : ∀ {ks : List Bool} {zs xs : List V}, fitsK ks zs = true → fits zs xs = true → fitsK ks xs = true
  | [], [], [], _, _ => rfl
  | true :: r, .bool _ :: s, .bool _ :: t, h, g => by simp only [fitsK, fits] at h g ⊢; exact fitsK_fits h g
  | false :: r, .int _ _ :: s, .int _ _ :: t, h, g => by simp only [fitsK, fits] at h g ⊢; exact fitsK_fits h g
  | [], [], _ :: _, _, g => by simp [fits] at g
  | [], _ :: _, _, h, _ => by simp [fitsK] at h
  | _ :: _, [], _, h, _ => by simp [fitsK] at h
  | true :: r, z :: s, x :: t, h, g => by
    cases z <;> first | (simp [fitsK] at h; done) | skip
    cases x <;> first | (simp [fits] at g; done) | skip
    simp only [fitsK, fits] at h g ⊢; exact fitsK_fits h g
  | false :: r, z :: s, x :: t, h, g => by
    cases z <;> first | (simp [fitsK] at h; done) | skip
    cases x <;> first | (simp [fits] at g; done) | skip
    simp only [fitsK, fits] at h g ⊢; exact fitsK_fits h g
  | _ :: _, z :: s, [], _, g => by cases z <;> simp [fits] at g

theorem fitsK_append : ∀ {k1 k2 : List Bool} {xs : List V}, fitsK (k1 ++ k2) xs = true → fitsK k1 (xs.take k1.length) = true ∧ fitsK k2 (xs.drop k1.length) = true
  | [], k2, xs, h => ⟨by simp [fitsK], by simpa using h⟩
  | b :: k1, k2, [], h => by cases b <;> simp [fitsK] at h
  | true :: k1, k2, x :: xs, h => by
    simp only [List.cons_append] at h
    cases x <;> first | (simp [fitsK] at h; done) | skip
    simp only [fitsK] at h
    have := fitsK_append h
    simpa [fitsK] using this
  | false :: k1, k2, x :: xs, h => by
    simp only [List.cons_append] at h
    cases x <;> first | (simp [fitsK] at h; done) | skip
    simp only [fitsK] at h
    have := fitsK_append h
    simpa [fitsK] using this

theorem fitsK_length : ∀ {ks : List Bool} {xs : List V}, fitsK ks xs = true → ks.length = xs.length
  | [], [], _ => rfl
  | [], _ :: _, h => by simp [fitsK] at h
  | b :: ks, [], h => by cases b <;> simp [fitsK] at h
  | true :: ks, x :: xs, h => by
    cases x <;> first | (simp [fitsK] at h; done) | skip
    simp only [fitsK] at h
    simp [fitsK_length h]
  | false :: ks, x :: xs, h => by
    cases x <;> first | (simp [fitsK] at h; done) | skip
    simp only [fitsK] at h
    simp [fitsK_length h]

theorem flatEq_bool {p q : Bool} {r s : List V} : flatEq (.bool p :: r) (.bool q :: s) = if p == q then flatEq r s else if r.length = s.length && r.all V.flatV && s.all V.flatV then some false else none := rfl
theorem flatEq_int {k l : IntKind} {p q : Int} {r s : List V} : flatEq (.int k p :: r) (.int l q :: s) = if k = l then if p == q then flatEq r s else if r.length = s.length && r.all V.flatV && s.all V.flatV then some false else none else none := rfl

theorem flatEq_cons {x y : V} {r s : List V} {b : Bool} (h : flatEq (x :: r) (y :: s) = some b) :
    (∃ p q, x = .bool p ∧ y = .bool q ∧ ((p = q ∧ flatEq r s = some b) ∨ (p ≠ q ∧ r.length = s.length ∧ r.all V.flatV = true ∧ s.all V.flatV = true ∧ b = false))) ∨
    (∃ k p q, x = .int k p ∧ y = .int k q ∧ ((p = q ∧ flatEq r s = some b) ∨ (p ≠ q ∧ r.length = s.length ∧ r.all V.flatV = true ∧ s.all V.flatV = true ∧ b = false))) := by
  cases x <;> first | (simp [flatEq] at h; done) | skip
  all_goals cases y <;> first | (simp [flatEq] at h; done) | skip
  · rename_i p q
    rw [flatEq_bool] at h
    refine .inl ⟨p, q, rfl, rfl, ?_⟩
    split at h
    · rename_i he; exact .inl ⟨by simpa using he, h⟩
    · rename_i he
      split at h
      · rename_i hc
        simp only [Bool.and_eq_true, decide_eq_true_eq] at hc
        exact .inr ⟨by simpa using he, hc.1.1, hc.1.2, hc.2, by simpa using h.symm⟩
      · cases h
  · rename_i k p l q
    rw [flatEq_int] at h
    split at h
    · rename_i hk
      subst hk
      refine .inr ⟨k, p, q, rfl, rfl, ?_⟩
      split at h
      · rename_i he; exact .inl ⟨by simpa using he, h⟩
      · rename_i he
        split at h
        · rename_i hc
          simp only [Bool.and_eq_true, decide_eq_true_eq] at hc
          exact .inr ⟨by simpa using he, hc.1.1, hc.1.2, hc.2, by simpa using h.symm⟩
        · cases h
    · cases h

theorem flatEq_length : ∀ {xs ys : List V} {b : Bool}, flatEq xs ys = some b → xs.length = ys.length
  | [], [], b, _ => rfl
  | x :: r, y :: s, b, h => by
    rcases flatEq_cons h with ⟨p, q, _, _, ⟨_, h⟩ | ⟨_, h, _⟩⟩ | ⟨k, p, q, _, _, ⟨_, h⟩ | ⟨_, h, _⟩⟩
    · simp [flatEq_length h]
    · simp [h]
    · simp [flatEq_length h]
    · simp [h]
  | [], _ :: _, b, h => by simp [flatEq] at h
  | x :: _, [], b, h => by cases x <;> simp [flatEq] at h

theorem flatEq_split : ∀ {x1 y1 x2 y2 : List V} {b : Bool}, flatEq (x1 ++ x2) (y1 ++ y2) = some b → x1.length = y1.length →
    ∃ b1, flatEq x1 y1 = some b1 ∧ (b1 = true → flatEq x2 y2 = some b) ∧ (b1 = false → b = false)
  | [], [], x2, y2, b, h, _ => ⟨true, rfl, fun _ => h, fun h => by cases h⟩
  | [], _ :: _, x2, y2, b, h, hl => by simp at hl
  | _ :: _, [], x2, y2, b, h, hl => by simp at hl
  | x :: r, y :: s, x2, y2, b, h, hl => by
    have hl' : r.length = s.length := by simpa using hl
    simp only [List.cons_append] at h
    rcases flatEq_cons h with ⟨p, q, rfl, rfl, ⟨rfl, h4⟩ | ⟨hne, h1, h2, h3, rfl⟩⟩ | ⟨k, p, q, rfl, rfl, ⟨rfl, h4⟩ | ⟨hne, h1, h2, h3, rfl⟩⟩
    · obtain ⟨b1, g⟩ := flatEq_split h4 hl'
      exact ⟨b1, by rw [flatEq_bool]; simpa using g.1, g.2⟩
    · rw [List.all_append, Bool.and_eq_true] at h2 h3
      exact ⟨false, by rw [flatEq_bool]; simp [hne, hl', h2.1, h3.1], fun h => (by cases h), fun _ => rfl⟩
    · obtain ⟨b1, g⟩ := flatEq_split h4 hl'
      exact ⟨b1, by rw [flatEq_int]; simpa using g.1, g.2⟩
    · rw [List.all_append, Bool.and_eq_true] at h2 h3
      exact ⟨false, by rw [flatEq_int]; simp [hne, hl', h2.1, h3.1], fun h => (by cases h), fun _ => rfl⟩

/-- What '==' of two flat values is. -/
def FlatEq (P : Program) (D : Nat) (t : TypeId) (ks : List Bool) : Prop :=
  ∀ (w : World) (μ : Mu) (xs ys : List V) (X Y : List Value) (b : Bool), fitsK ks xs = true → flatEq xs ys = some b → concL μ xs = some X → concL μ ys = some Y →
    ∃ v v', (∀ (A : Array Value) (off : Nat), (A.toList.drop off).take ks.length = X → (part t A off).run P w = .ok v w) ∧ (∀ (A : Array Value) (off : Nat), (A.toList.drop off).take ks.length = Y → (part t A off).run P w = .ok v' w) ∧
      (Op.equalIn D t v v').run P w = .ok b w ∧ ((∃ fs, P.underlying t = some (.struct fs)) → v = .agg X.toArray ∧ v' = .agg Y.toArray)

def eqBody (D : Nat) (A B : Array Value) (f : Field) : Sem (ForInStep (Option Bool × Unit)) :=
  if f.name ≠ "_" then do
    if !(← Op.equalIn D f.type (← part f.type A f.offset) (← part f.type B f.offset)) then pure (.done (some false, ()))
    else pure (.yield (none, ()))
  else pure (.yield (none, ()))

theorem forIn_flat {D : Nat} {w : World} {μ : Mu} {A B : Array Value} {sz : TypeId → Option (List Bool)} (hsz : ∀ t ks, sz t = some ks → FlatEq P D t ks) :
    ∀ (fs : List Field) (off : Nat) (ks : List Bool) (xs ys : List V) (X Y : List Value) (b : Bool), flatFs sz fs off = some ks → fitsK ks xs = true → flatEq xs ys = some b → concL μ xs = some X → concL μ ys = some Y →
      A.toList.drop off = X → B.toList.drop off = Y →
      (forIn fs ((none, ()) : Option Bool × Unit) (fun f _ => eqBody D A B f)).run P w = .ok (if b then (none, ()) else (some false, ())) w
  | [], off, ks, xs, ys, X, Y, b, hf, hk, he, hx, hy, hA, hB => by
    simp only [flatFs, Option.some.injEq] at hf
    subst hf
    have : xs = [] := List.length_eq_zero_iff.1 (fitsK_length hk).symm
    subst this
    have hl := flatEq_length he
    have : ys = [] := List.length_eq_zero_iff.1 (by simpa using hl.symm)
    subst this
    simp only [flatEq, Option.some.injEq] at he
    subst he
    simp
  | f :: r, off, ks, xs, ys, X, Y, b, hf, hk, he, hx, hy, hA, hB => by
    simp only [flatFs] at hf
    split at hf
    · cases hf
    · rename_i hc
      have hc1 : f.name ≠ "_" := fun h => hc (.inl h)
      have hc2 : f.offset = off := by
        by_cases h : f.offset = off
        · exact h
        · exact absurd (.inr h) hc
      split at hf
      · rename_i k1 hm
        split at hf
        · rename_i k2 hr
          obtain rfl := Option.some.inj hf
          have hl := flatEq_length he
          obtain ⟨f1, f2⟩ := fitsK_append hk
          have hxs : xs = xs.take k1.length ++ xs.drop k1.length := (List.take_append_drop _ xs).symm
          have hys : ys = ys.take k1.length ++ ys.drop k1.length := (List.take_append_drop _ ys).symm
          rw [hxs, hys] at he
          obtain ⟨b1, g1, g2, g3⟩ := flatEq_split he (by rw [List.length_take, List.length_take, hl])
          obtain ⟨hx1, hx2⟩ := concL_take hx k1.length
          obtain ⟨hy1, hy2⟩ := concL_take hy k1.length
          obtain ⟨v, v', p0, q0, k3, _⟩ := hsz _ _ hm w μ _ _ _ _ b1 f1 g1 hx1 hy1
          have p1 := p0 A off (by rw [hA])
          have p2 := q0 B off (by rw [hB])
          have hbody : (eqBody D A B f).run P w = .ok (if b1 then .yield (none, ()) else .done (some false, ())) w := by
            simp only [eqBody, Sem.run_bind, hc1, ne_eq, not_false_iff, if_true, hc2, p1, p2, k3, Result.andThen_ok, Sem.run_ite, Sem.run_pure]
            cases b1 <;> rfl
          rw [List.forIn_cons, Sem.run_bind, hbody]
          simp only [Result.andThen_ok]
          cases b1 with
          | false =>
            obtain rfl := g3 rfl
            simp
          | true =>
            have ih := forIn_flat (A := A) (B := B) (w := w) hsz r (off + k1.length) k2 (xs.drop k1.length) (ys.drop k1.length) (X.drop k1.length) (Y.drop k1.length) b hr f2 (g2 rfl) hx2 hy2
              (by simp [← hA, List.drop_drop]) (by simp [← hB, List.drop_drop])
            simpa using ih
        · cases hf
      · cases hf

theorem flatKs_spec : ∀ (d : Nat) (t : TypeId) (ks : List Bool), flatKs P d t = some ks → (∃ i, P.info? t = some i ∧ i.size = ks.length) ∧ (∀ D, d ≤ D → FlatEq P D t ks) ∧ ∀ D, d ≤ D → P.eqGuardType D t = false
  | 0, t, ks, h => by simp [flatKs] at h
  | d + 1, t, ks, h => by
    simp only [flatKs] at h
    split at h
    · rename_i i u hi hu
      have hru : ∀ w, (underlying t).run P w = .ok u w := fun w => by simp [underlying, hu]
      have hrs : ∀ w, (sizeOf t).run P w = .ok i.size w := fun w => by simp [sizeOf, typeInfo, hi]
      have scalar : ∀ (k : Bool) (hag : ∀ w, (isAgg t).run P w = .ok false w) (hns : ∀ fs, P.underlying t ≠ some (.struct fs)) (hb : ∀ (D : Nat) (w : World) (x y : Value) (b : Bool), ((k = true ∧ ∃ p q, x = .bool p ∧ y = .bool q ∧ b = (p == q)) ∨ (k = false ∧ ∃ l m n, x = .int l m ∧ y = .int l n ∧ b = (m == n))) → (Op.equalIn (D + 1) t x y).run P w = .ok b w),
          ∀ D, d + 1 ≤ D → FlatEq P D t [k] := by
        intro k hag hns hb D hD w μ xs ys X Y b hf he hx hy
        have hl := (fitsK_length hf).symm
        obtain ⟨x, rfl⟩ := List.length_eq_one_iff.1 hl
        obtain ⟨y, rfl⟩ := List.length_eq_one_iff.1 ((flatEq_length he).symm.trans hl)
        obtain ⟨x', X', rfl, hx1, hx2⟩ := concL_cons_inv hx
        obtain ⟨y', Y', rfl, hy1, hy2⟩ := concL_cons_inv hy
        simp only [concL, Option.some.injEq] at hx2 hy2
        subst hx2; subst hy2
        obtain ⟨D', rfl⟩ : ∃ D', D = D' + 1 := ⟨D - 1, by omega⟩
        have hp : ∀ (z : Value) (A : Array Value) (off : Nat), (A.toList.drop off).take 1 = [z] → (part t A off).run P w = .ok z w := by
          intro z A off hA
          have : A[off]? = some z := by
            have h1 := congrArg (·[0]?) hA
            simpa [List.getElem?_take, List.getElem?_drop] using h1
          simp [part, hag, this]
        refine ⟨x', y', hp x', hp y', hb D' w x' y' b ?_, fun ⟨fs, hfs⟩ => absurd hfs (hns fs)⟩
        rcases flatEq_cons he with ⟨p, q, rfl, rfl, h⟩ | ⟨l, m, n, rfl, rfl, h⟩
        · have hbb : b = (p == q) := by
            rcases h with ⟨rfl, h⟩ | ⟨hne, _, _, _, rfl⟩
            · simp only [flatEq, Option.some.injEq] at h; simp [← h]
            · simpa using hne
          cases k with
          | false => simp [fitsK] at hf
          | true =>
            simp only [conc, Option.some.injEq] at hx1 hy1
            exact .inl ⟨rfl, p, q, hx1.symm, hy1.symm, hbb⟩
        · have hbb : b = (m == n) := by
            rcases h with ⟨rfl, h⟩ | ⟨hne, _, _, _, rfl⟩
            · simp only [flatEq, Option.some.injEq] at h; simp [← h]
            · simpa using hne
          cases k with
          | true => simp [fitsK] at hf
          | false =>
            simp only [conc, Option.some.injEq] at hx1 hy1
            exact .inr ⟨rfl, l, m, n, hx1.symm, hy1.symm, hbb⟩
      split at h
      · split at h
        · rename_i hsz
          obtain rfl := Option.some.inj h
          refine ⟨⟨i, hi, hsz⟩, scalar true (fun w => by simp [isAgg, hru]) (fun fs h => by rw [hu] at h; cases h) ?_, fun D hD => ?_⟩
          · rintro D w x y b (⟨_, p, q, rfl, rfl, rfl⟩ | ⟨h, _⟩)
            · simp [Op.equalIn, hru]
            · cases h
          · obtain ⟨D', rfl⟩ : ∃ D', D = D' + 1 := ⟨D - 1, by omega⟩
            simp [Program.eqGuardType, hu]
        · cases h
      · split at h
        · rename_i hsz
          obtain rfl := Option.some.inj h
          refine ⟨⟨i, hi, hsz⟩, scalar false (fun w => by simp [isAgg, hru]) (fun fs h => by rw [hu] at h; cases h) ?_, fun D hD => ?_⟩
          · rintro D w x y b (⟨h, _⟩ | ⟨_, l, m, n, rfl, rfl, rfl⟩)
            · cases h
            · simp [Op.equalIn, hru]
          · obtain ⟨D', rfl⟩ : ∃ D', D = D' + 1 := ⟨D - 1, by omega⟩
            simp [Program.eqGuardType, hu]
        · cases h
      · rename_i fs
        split at h
        · cases h
        · rename_i hst
          split at h
          · rename_i m hm
            split at h
            · rename_i hsz
              obtain rfl := Option.some.inj h
              refine ⟨⟨i, hi, hsz⟩, fun D hD w μ xs ys X Y b hl he hx hy => ?_, fun D hD => ?_⟩
              · obtain ⟨D', rfl⟩ : ∃ D', D = D' + 1 := ⟨D - 1, by omega⟩
                have hp : ∀ (Z : List Value) (A : Array Value) (off : Nat), (A.toList.drop off).take m.length = Z → (part t A off).run P w = .ok (.agg Z.toArray) w := by
                  intro Z A off hA
                  have hag : (isAgg t).run P w = .ok true w := by simp [isAgg, hru]
                  simp only [part, Sem.run_bind, hag, Result.andThen_ok, if_true, hrs, Sem.run_pure]
                  congr 2
                  apply Array.ext'
                  simp only [Array.toList_extract, List.extract_eq_take_drop, ← hA, hsz]
                  rw [Nat.add_sub_cancel_left]
                refine ⟨_, _, hp X, hp Y, ?_, fun _ => ⟨rfl, rfl⟩⟩
                have hloop := forIn_flat (A := X.toArray) (B := Y.toArray) (D := D') (w := w) (P := P) (sz := flatKs P d) (fun t n h => (flatKs_spec d t n h).2.1 D' (by omega)) fs.toList 0 m xs ys X Y b hm hl he hx hy (by simp) (by simp)
                rw [Op.equalIn.eq_def]
                simp only [Sem.run_bind, hru, Result.andThen_ok, run_program, hst, Bool.false_eq_true, if_false]
                rw [← Array.forIn_toList]
                unfold eqBody at hloop
                rw [hloop]
                cases b <;> rfl
              · obtain ⟨D', rfl⟩ : ∃ D', D = D' + 1 := ⟨D - 1, by omega⟩
                have key : ∀ (l : List Field) (o : Nat) (k : List Bool), flatFs (flatKs P d) l o = some k → ∀ f ∈ l, ∃ n, flatKs P d f.type = some n := by
                  intro l
                  induction l with
                  | nil => intro o k _ f hf; cases hf
                  | cons a l ih =>
                    intro o k h f hf
                    simp only [flatFs] at h
                    split at h
                    · cases h
                    · split at h
                      · rename_i n hn
                        split at h
                        · rename_i k2 hk2
                          rcases List.mem_cons.1 hf with rfl | hf
                          · exact ⟨n, hn⟩
                          · exact ih _ _ hk2 f hf
                        · cases h
                      · cases h
                simp only [Program.eqGuardType, hu]
                rw [← Bool.not_eq_true, Array.any_eq_true']
                rintro ⟨f, hf, hb⟩
                obtain ⟨n, hn⟩ := key _ _ _ hm f (by simpa using hf)
                simp only [Bool.and_eq_true] at hb
                rw [(flatKs_spec d f.type n hn).2.2 D' (by omega)] at hb
                cases hb.2
            · cases h
          · cases h
      · cases h
    · cases h
end
end Go.Ix
namespace Go.Ix

/-- A struct that '==' may be asked of cell by cell. -/
def flatOf (P : Program) (t : TypeId) (u : TypeDesc) (zs : List V) : Bool := match u with
  | .struct _ => decide (8 ≤ P.depth) && match flatKs P 8 t with
    | some ks => fitsK ks zs
    | none => false
  | _ => false

/-- A type of a program, as the evaluator takes it. -/
def tiOf (P : Program) (t : TypeId) : Option TI :=
  match P.info? t, P.underlying t with
  | some f, some u => match f.zero with
    | some z => match rd z with
      | some zv => if zv.cells.length = f.size ∧ V.beq (zeroV { und := u, size := f.size, bytes := f.bytes, zero := zv.cells, flat := false }) zv = true then
          some { und := u, size := f.size, bytes := f.bytes, zero := zv.cells, flat := flatOf P t u zv.cells } else none
      | none => none
    | none => none
  | _, _ => none

theorem tiOf_ok {P : Program} {t : TypeId} {i : TI} (h : tiOf P t = some i) : TIok P t i := by
  unfold tiOf at h
  split at h
  · rename_i f u hf hu
    split at h
    · rename_i z hz
      split at h
      · rename_i zv hzv
        split at h
        · rename_i hc
          obtain ⟨h1, h2⟩ := hc
          have hb := V.beq_eq _ _ h2
          have hb' : zeroV { und := u, size := f.size, bytes := f.bytes, zero := zv.cells, flat := flatOf P t u zv.cells } = zv := hb
          have hconc : ∀ μ, conc μ zv = some z := fun μ => conc_rd μ z zv hzv
          obtain rfl := Option.some.inj h
          refine ⟨hu, ⟨f, z, hf, rfl, rfl, hz, fun μ => by rw [hb']; exact hconc μ, fun μ => conc_cells (hconc μ)⟩, h1, ?_⟩
          intro hfl
          simp only [flatOf] at hfl
          split at hfl
          · rename_i fs
            simp only [Bool.and_eq_true, decide_eq_true_eq] at hfl
            obtain ⟨hd, hk⟩ := hfl
            split at hk
            · rename_i ks hks
              obtain ⟨⟨f', q1, q2⟩, q3, q4⟩ := flatKs_spec 8 t ks hks
              refine ⟨q4 _ hd, fun w xs ys X Y μ b he hl hfit hx hy => ?_⟩
              have hfk := fitsK_fits hk hfit
              obtain ⟨v, v', _, _, g1, g2⟩ := q3 Op.maxDepth (by decide) w μ xs ys X Y b hfk he hx hy
              obtain ⟨rfl, rfl⟩ := g2 ⟨fs, hu⟩
              exact g1
            · cases hk
          · cases hfl
        · cases h
      · cases h
    · cases h
  · cases h
end Go.Ix
namespace Go.Ix
open Go.RowKit (Below)
section
variable {C : Cfg} {w0 : World} {μ μ' : Mu} {h h' : H} {w w' : World} {e : Env} {f : FuncId} {vs : List V} {Q Q' : V × H → Prop}

/-- A function, called with these values in this memory, ends so. -/
def OkF (C : Cfg) (w0 : World) (f : FuncId) (vs : List V) (h : H) (Q : V × H → Prop) : Prop :=
  ∀ (μ : Mu) (w : World) (X : List Value), R w0 μ h w → concL μ vs = some X → FnOk C w0 μ h w f X.toArray Q

theorem Post.mono {en : Ending} (hq : ∀ p, Q p → Q' p) (hp : Post w0 μ h w Q en w') : Post w0 μ h w Q' en w' := by
  obtain ⟨v, h', μ', x, q1, q2, q3, q4⟩ := hp
  exact ⟨v, h', μ', x, hq _ q1, q2, q3, q4⟩

theorem OkF.mono (o : OkF C w0 f vs h Q) (hq : ∀ p, Q p → Q' p) : OkF C w0 f vs h Q' := by
  intro μ w X r hX
  rcases o μ w X r hX with ⟨a, v, x, b, c, d⟩ | ⟨a, b, c⟩
  · exact .inl ⟨a, v, x, hq _ b, c, d⟩
  · exact .inr ⟨a, b, fun l n => (c l n).mono fun en w' hp => hp.mono hq⟩

theorem OkF.of_ev (G : Good2 C w0) (n : Nat) (hev : (ev C n (.fn f) vs h).all Q) : OkF C w0 f vs h Q := fun μ w X r hX =>
  ev_ok G (fun _ hc => drawOk G.toGood hc) n (.fn f) vs h Q μ w X hev r hX

/-- A block of the evaluator's that is there. -/
def H.has (h : H) (k : Nat) : Bool := match h.get k with
  | some o => o.live
  | none => false

mutual
/-- Whatever blocks are named are there. -/
def V.on (h : H) : V → Bool
  | .ptr (some ⟨.new k, _⟩) => h.has k
  | .slice (some ⟨.new k, _⟩) _ _ => h.has k
  | .map (some (.new k)) => h.has k
  | .yield k => h.has k
  | .func _ a b => V.onL h a && V.onL h b
  | .iface _ v => V.on h v
  | .agg cs => V.onL h cs
  | .tup cs => V.onL h cs
  | _ => true
def V.onL (h : H) : List V → Bool
  | [] => true
  | v :: r => V.on h v && V.onL h r
end

theorem has_mu (r : R w0 μ h w) (hle : μ.le μ') {k : Nat} (hk : h.has k = true) : μ' k = μ k := by
  unfold H.has at hk
  split at hk
  · rename_i o ho
    obtain ⟨e, ob, h1, _⟩ := r.obj k o ho hk
    rw [h1, hle k e h1]
  · cases hk

mutual
theorem conc_on (r : R w0 μ h w) (hle : μ.le μ') : ∀ (v : V), V.on h v = true → conc μ' v = conc μ v
  | .bool _, _ => by simp only [conc]
  | .int _ _, _ => by simp only [conc]
  | .str _, _ => by simp only [conc]
  | .ptr none, _ => by simp only [conc]
  | .ptr (some ⟨.old _, _⟩), _ => by simp only [conc, Ad.c]
  | .ptr (some ⟨.new k, _⟩), hv => by
    simp only [V.on] at hv
    simp only [conc, Ad.c, has_mu r hle hv]
  | .slice none _ (.ex _), _ => by simp only [conc]
  | .slice none _ (.op _ _), _ => by simp only [conc]
  | .slice (some ⟨.old _, _⟩) _ (.ex _), _ => by simp only [conc, Ad.c]
  | .slice (some ⟨.old _, _⟩) _ (.op _ _), _ => by simp only [conc]
  | .slice (some ⟨.new k, _⟩) _ (.ex _), hv => by
    simp only [V.on] at hv
    simp only [conc, Ad.c, has_mu r hle hv]
  | .slice (some ⟨.new k, _⟩) _ (.op _ _), hv => by
    simp only [V.on] at hv
    simp only [conc, has_mu r hle hv]
  | .map none, _ => by simp only [conc]
  | .map (some (.old _)), _ => by simp only [conc, Id.c]
  | .map (some (.new k)), hv => by
    simp only [V.on] at hv
    simp only [conc, Id.c, has_mu r hle hv]
  | .func fn a b, hv => by
    simp only [V.on, Bool.and_eq_true] at hv
    simp only [conc, concL_on r hle a hv.1, concL_on r hle b hv.2]
  | .yield k, hv => by
    simp only [V.on] at hv
    simp only [conc, has_mu r hle hv]
  | .nilFunc, _ => by simp only [conc]
  | .iface _ v, hv => by
    simp only [V.on] at hv
    simp only [conc, conc_on r hle v hv]
  | .nilIface, _ => by simp only [conc]
  | .agg cs, hv => by
    simp only [V.on] at hv
    simp only [conc, concL_on r hle cs hv]
  | .tup cs, hv => by
    simp only [V.on] at hv
    simp only [conc, concL_on r hle cs hv]
theorem concL_on (r : R w0 μ h w) (hle : μ.le μ') : ∀ (l : List V), V.onL h l = true → concL μ' l = concL μ l
  | [], _ => by simp only [concL]
  | v :: l, hl => by
    simp only [V.onL, Bool.and_eq_true] at hl
    simp only [concL, conc_on r hle v hl.1, concL_on r hle l hl.2]
end

theorem concL_eq_of (hle : μ.le μ') {l : List V} {xs ys : List Value} (h1 : concL μ l = some xs) (h2 : concL μ' l = some ys) : xs = ys :=
  Option.some.inj ((concL_mono hle _ _ h1).symm.trans h2)

theorem MR.down (hle : μ.le μ') : ∀ {l : List MapE} {a b : List MapEntry}, MR μ l a → MR μ' l b → MR μ l b
  | [], [], [], _, _ => trivial
  | [], _ :: _, _, h, _ => h.elim
  | [], [], _ :: _, _, h => h.elim
  | _ :: _, [], _, h, _ => h.elim
  | _ :: _, _ :: _, [], _, h => h.elim
  | e :: l, x :: a, y :: b, ⟨h1, h2, h3, h4⟩, ⟨g1, g2, g3, g4⟩ => by
    have k1 : x.key = y.key := Option.some.inj ((conc_mono hle _ _ h1).symm.trans g1)
    have k2 : x.val = y.val := Option.some.inj ((conc_mono hle _ _ h2).symm.trans g2)
    exact ⟨k1 ▸ h1, k2 ▸ h2, g3, MR.down hle h4 g4⟩

theorem ER.down (hle : μ.le μ') {t1 t2 : Array Value} (h1 : ER μ e t1) (h2 : ER μ' e t2) : ER μ e t2 := by
  intro t v hv
  obtain ⟨x, p1, _⟩ := h1 t v hv
  obtain ⟨y, q1, q2⟩ := h2 t v hv
  have : x = y := Option.some.inj ((conc_mono hle _ _ p1).symm.trans q1)
  exact ⟨x, p1, this ▸ q2⟩

theorem OR.down (hle : μ.le μ') {en : En} {o : O} {a b : Obj} (h1 : OR μ en o a) (h2 : OR μ' en o b) : OR μ en o b := by
  cases o with
  | cells vs es =>
    obtain ⟨c, el, xs, p1, p2, p3, p4⟩ := h1
    obtain ⟨c', el', xs', q1, q2, q3, q4⟩ := h2
    obtain rfl := concL_eq_of hle p2 q2
    exact ⟨c', el', xs, q1, p2, q3, q4⟩
  | map es ck =>
    obtain ⟨arr, p1, p2⟩ := h1
    obtain ⟨arr', q1, q2⟩ := h2
    exact ⟨arr', q1, MR.down hle p2 q2⟩
  | iter m since seen stepped =>
    obtain ⟨h0, m', p1, p2⟩ := h1
    obtain ⟨h0', m'', q1, q2⟩ := h2
    refine ⟨h0, m'', q1, ?_⟩
    cases m with
    | none => exact q2
    | some i =>
      obtain ⟨r1, s1, s2⟩ := p2
      obtain ⟨r2, t1, t2⟩ := q2
      have : r1 = r2 := Option.some.inj ((Id.c_mono hle s1).symm.trans t1)
      exact ⟨r1, s1, this ▸ t2⟩
  | siter s p => exact h2
  | loop st p f env ps a' b' d =>
    obtain ⟨fn, tmps, dn, p1, p2, p3, p4⟩ := h1
    obtain ⟨fn', tmps', dn', q1, q2, q3, q4⟩ := h2
    have : dn = dn' := Option.some.inj ((hle _ _ p3).symm.trans q3)
    exact ⟨fn', tmps', dn', q1, p2.down hle q2, this ▸ p3, q4⟩
  | dfr op => exact h2
  | dead => trivial

/-- What lay there lies there still. -/
def H.Ext (h h' : H) : Prop := h.next ≤ h'.next ∧ ∀ k, k < h.next → h'.get k = h.get k

theorem H.Ext.refl (h : H) : h.Ext h := ⟨Nat.le_refl _, fun _ _ => rfl⟩
theorem H.Ext.trans {a b c : H} (h : a.Ext b) (g : b.Ext c) : a.Ext c := ⟨Nat.le_trans h.1 g.1, fun k hk => (g.2 k (Nat.lt_of_lt_of_le hk h.1)).trans (h.2 k hk)⟩
theorem H.Ext.push (g : h.Ext h') (o : O) : h.Ext (h'.push o) := by
  refine ⟨by have := g.1; rw [H.next_push]; omega, fun k hk => ?_⟩
  rw [H.get_push, if_neg (by have := g.1; omega)]
  exact g.2 k hk
theorem H.Ext.set (g : h.Ext h') {k : Nat} (hk : h.next ≤ k) (o : O) : h.Ext (h'.set k o) := by
  refine ⟨g.1, fun j hj => ?_⟩
  rw [H.get_set, if_neg (by omega)]
  exact g.2 j hj

theorem Sim.forget (s : Sim w0 μ h w μ' h' w') (r : R w0 μ h w) (x : h.Ext h') : Sim w0 μ h w μ h w' := by
  have hlt : ∀ k o, h.get k = some o → k < h.next := by
    intro k o hk
    by_cases hl : k < h.next
    · exact hl
    · rw [r.hfresh k (by omega)] at hk; cases hk
  refine ⟨Mu.le_refl μ, ⟨s.rel.below, r.fresh, r.hfresh, ?_, r.inj⟩, s.size, s.frame, fun k o e hk ho he => .inr ⟨k, o, e, hk, ho, he, rfl⟩⟩
  intro k o hk hl
  obtain ⟨e, ob, p1, p2, p3, p4⟩ := r.obj k o hk hl
  obtain ⟨e', ob', q1, q2, q3, q4⟩ := s.rel.obj k o ((x.2 k (hlt k o hk)).trans hk) hl
  have : e = e' := Option.some.inj ((s.le k e p1).symm.trans q1)
  subst this
  exact ⟨e, ob', p1, p2, q3, p4.down s.le q4⟩

/-- What a function has left behind itself is forgotten. -/
theorem OkF.forget (o : OkF C w0 f vs h fun p => h.Ext p.2 ∧ V.on h p.1 = true ∧ Q (p.1, h)) : OkF C w0 f vs h Q := by
  intro μ w X r hX
  rcases o μ w X r hX with ⟨a, v, x, ⟨_, _, b⟩, c, d⟩ | ⟨a, b, c⟩
  · exact .inl ⟨a, v, x, b, c, d⟩
  · refine .inr ⟨a, b, fun l n => (c l n).mono fun en w' hp => ?_⟩
    obtain ⟨v, h', μ', x, ⟨q1, q2, q3⟩, q4, q5, q6⟩ := hp
    exact ⟨v, h, μ, x, q3, q4, (conc_on r q6.le v q2).symm.trans q5, q6.forget r q1⟩

/-- A closed run, in whatever memory. -/
theorem OkF.closed {Q : V → Prop} (G : ∀ w1, Below w0.heap.size w0 w1 → Good2 C w1) (n : Nat) (hvs : V.onL H.empty vs = true) (hev : (ev C n (.fn f) vs H.empty).all fun p => V.on H.empty p.1 = true ∧ Q p.1) :
    OkF C w0 f vs h fun p => p.2 = h ∧ Q p.1 := by
  intro μ w X r hX
  have hr : R w (fun _ => none) H.empty w := ⟨⟨rfl, rfl, rfl, Nat.le_refl _, fun _ _ => rfl⟩, fun _ _ => rfl, fun k _ => H.get_empty k, fun k o hk => by simp at hk, fun k k' o o' e e' hk => by simp at hk⟩
  have hle : Mu.le (fun _ => none) μ := fun k e hk => by cases hk
  have hX0 : concL (fun _ => none) vs = some X := (concL_on hr hle vs hvs).symm.trans hX
  have key : ∀ {v : V} {h1 : H} {μ1 : Mu} {w1 : World} {x : Value}, V.on H.empty v = true → conc μ1 v = some x → Sim w (fun _ => none) H.empty w μ1 h1 w1 → conc μ v = some x ∧ Sim w0 μ h w μ h w1 := by
    intro v h1 μ1 w1 x hv hx hs
    refine ⟨(conc_on hr hle v hv).trans ((conc_on hr hs.le v hv).symm.trans hx), ?_⟩
    have hb := hs.rel.below
    refine ⟨Mu.le_refl μ, ⟨⟨hb.os.trans r.below.os, hb.tape.trans r.below.tape, hb.output.trans r.below.output, Nat.le_trans r.below.size hb.size, fun b hbb => (hb.block b (Nat.lt_of_lt_of_le hbb r.below.size)).trans (r.below.block b hbb)⟩, r.fresh, r.hfresh, ?_, r.inj⟩, hb.size, fun b hbb _ => hb.block b hbb, fun k o e hk ho he => .inr ⟨k, o, e, hk, ho, he, rfl⟩⟩
    intro k o hk hl
    obtain ⟨e, ob, p1, p2, p3, p4⟩ := r.obj k o hk hl
    exact ⟨e, ob, p1, p2, (hb.block _ (Array.getElem?_eq_some_iff.1 p3).1).trans p3, p4⟩
  rcases OkF.of_ev (G w r.below) n hev _ w X hr hX0 with ⟨a, v, x, ⟨b1, b2⟩, c, d⟩ | ⟨a, b, c⟩
  · have hxc : conc μ v = some x := (conc_on hr hle v b1).trans c
    exact .inl ⟨a, v, x, ⟨rfl, b2⟩, hxc, d⟩
  · refine .inr ⟨a, b, fun l n => (c l n).mono fun en w' hp => ?_⟩
    obtain ⟨v, h', μ', x, ⟨q1, q2⟩, q4, q5, q6⟩ := hp
    obtain ⟨k1, k2⟩ := key q1 q5 q6
    exact ⟨v, h, μ, x, ⟨rfl, q2⟩, q4, k1, k2⟩
end
end Go.Ix
namespace Go.Ix
theorem OkF.congrP {C C' : Cfg} {w0 : World} {f : FuncId} {vs : List V} {h : H} {Q : V × H → Prop} (hP : C.P = C'.P) (o : OkF C w0 f vs h Q) : OkF C' w0 f vs h Q := by
  intro μ w X r hX
  have := o μ w X r hX
  unfold FnOk at this ⊢
  rw [hP] at this
  exact this

/-- A closed run of a function as a contract under another table of the same program. -/
theorem OkF.run {C C' : Cfg} {w0 : World} {f : FuncId} {vs : List V} {h : H} (hP : C.P = C'.P) (G : ∀ w, Good2 C w) (n : Nat) (v : V) (hv : V.on H.empty v = true) (hvs : V.onL H.empty vs = true) (q : V × H → Bool) (hq : ∀ p, q p = true → p.1 = v)
    (hev : (ev C n (.fn f) vs H.empty).all fun p => q p = true) : OkF C' w0 f vs h fun p => p = (v, h) := by
  refine OkF.congrP hP ((OkF.closed (Q := fun u => u = v) (fun w _ => G w) n hvs (T.all_mono (fun p hp => ?_) _ hev)).mono ?_)
  · rw [hq p hp]; exact ⟨hv, rfl⟩
  · rintro ⟨u, h'⟩ ⟨h1, h2⟩
    simp only at h1 h2
    rw [h1, h2]
end Go.Ix
namespace Go.Ix
open Go.RowKit (Below)
section
variable {C : Cfg} {w0 : World} {f : FuncId} {rnd : Option Nat} {s : S} {Q Q' : Ex × S → Prop}

/-- A piece of code of function f, from these temporaries and this memory, comes to this. -/
def OkC (C : Cfg) (w0 : World) (rnd : Option Nat) (c : Code) (s : S) (Q : Ex × S → Prop) : Prop :=
  ∀ (rl : Option Nat) (μ : Mu) (w : World) (a : Act) (m : Nat), Rnd μ rnd rl → R w0 μ s.h w → ER μ s.env a.tmps → Code.dstOk a.tmps.size c = true → DR μ s.ds a.defers →
    c.wpIn (Fr rl) m C.P (Then w0 μ s.h w a.tmps.size Q) a w

theorem Then.mono {μ : Mu} {h : H} {w : World} {sz : Nat} {x : Exit} {a' : Act} {w' : World} (hq : ∀ p, Q p → Q' p) (t : Then w0 μ h w sz Q x a' w') : Then w0 μ h w sz Q' x a' w' := by
  obtain ⟨y, s', μ', h1, h2, h3⟩ := t
  exact ⟨y, s', μ', h1, hq _ h2, h3⟩

theorem OkC.mono {c : Code} (o : OkC C w0 rnd c s Q) (hq : ∀ p, Q p → Q' p) : OkC C w0 rnd c s Q' := fun rl μ w a m h1 h2 h3 h4 h5 =>
  wpIn_mono (o rl μ w a m h1 h2 h3 h4 h5) fun _ _ _ t => t.mono hq

theorem OkC.skip (h : Q (.normal, s)) : OkC C w0 rnd .skip s Q := fun _ μ _ _ _ _ r he _ hds => wpIn_skip ⟨.normal, s, μ, rfl, h, Sim.refl r, he, rfl, hds⟩
theorem OkC.label {l : Nat} (h : Q (.normal, s)) : OkC C w0 rnd (.label l) s Q := fun _ μ _ _ _ _ r he _ hds => wpIn_label ⟨.normal, s, μ, rfl, h, Sim.refl r, he, rfl, hds⟩
theorem OkC.exit {id : Nat} (h : Q (.exit id, s)) : OkC C w0 rnd (.exit id) s Q := fun _ μ _ _ _ _ r he _ hds => wpIn_exit ⟨.exit id, s, μ, rfl, h, Sim.refl r, he, rfl, hds⟩
theorem OkC.ret (h : Q (.ret, s)) : OkC C w0 rnd .ret s Q := fun _ μ _ _ _ _ r he _ hds => wpIn_ret ⟨.ret, s, μ, rfl, h, Sim.refl r, he, rfl, hds⟩
theorem OkC.scope {c : Code} (o : OkC C w0 rnd c s Q) : OkC C w0 rnd (.scope c) s Q := fun rl μ w a m h1 h2 h3 h4 h5 =>
  wpIn_scope (o rl μ w a m h1 h2 h3 h4 h5) fun _ _ _ => Then.noGoto

theorem OkC.seq {x y : Code} (o : OkC C w0 rnd x s fun p => match p.1 with
    | .normal => OkC C w0 rnd y p.2 Q
    | e => Q (e, p.2)) : OkC C w0 rnd (.seq x y) s Q := by
  intro rl μ w a m hr r he hd hds
  simp only [Code.dstOk, Bool.and_eq_true] at hd
  refine wpIn_seq (wpIn_mono (o rl μ w a m hr r he hd.1 hds) ?_)
  rintro ex a1 w1 ⟨z, s1, μ1, rfl, q1, q2, q3, q4, q5⟩
  cases z with
  | normal =>
    refine wpIn_mono (q1 rl μ1 w1 a1 m (hr.mono q2.le) q2.rel q3 (by rw [q4]; exact hd.2) q5) ?_
    rintro ex2 a2 w2 ⟨z2, s2, μ2, rfl, p1, p2, p3, p4, p5⟩
    exact ⟨z2, s2, μ2, rfl, p1, q2.trans p2, p3, p4.trans q4, p5⟩
  | exit id => exact ⟨.exit id, s1, μ1, rfl, q1, q2, q3, q4, q5⟩
  | ret => exact ⟨.ret, s1, μ1, rfl, q1, q2, q3, q4, q5⟩

theorem OkC.cond {x : Operand} {p q : Code} {b : Bool} (hx : opd s.env x = some (.bool b)) (hp : b = true → OkC C w0 rnd p s Q) (hq : b = false → OkC C w0 rnd q s Q) : OkC C w0 rnd (.cond x p q) s Q := by
  intro rl μ w a m hr r he hd hds
  simp only [Code.dstOk, Bool.and_eq_true] at hd
  cases b with
  | true => exact wpIn_cond_true (by rw [conc_bool (opd_sound he hx)]) (hp rfl rl μ w a m hr r he hd.1 hds)
  | false => exact wpIn_cond_false (by rw [conc_bool (opd_sound he hx)]) (hq rfl rl μ w a m hr r he hd.2 hds)

theorem OkC.block {id : Nat} {c : Code} (o : OkC C w0 rnd c s fun p => match p.1 with
    | .exit j => if j = id then Q (.normal, p.2) else Q (.exit j, p.2)
    | e => Q (e, p.2)) : OkC C w0 rnd (.block id c) s Q := by
  intro rl μ w a m hr r he hd hds
  simp only [Code.dstOk] at hd
  refine wpIn_block (wpIn_mono (o rl μ w a m hr r he hd hds) ?_)
  rintro ex a1 w1 ⟨z, s1, μ1, rfl, q1, q2, q3, q4, q5⟩
  cases z with
  | normal => exact ⟨.normal, s1, μ1, rfl, q1, q2, q3, q4, q5⟩
  | ret => exact ⟨.ret, s1, μ1, rfl, q1, q2, q3, q4, q5⟩
  | exit j =>
    simp only [XR, Exit.inBlock]
    by_cases hj : j = id
    · simp only [hj, if_true] at q1 ⊢
      exact ⟨.normal, s1, μ1, rfl, q1, q2, q3, q4, q5⟩
    · simp only [hj, if_false] at q1 ⊢
      exact ⟨.exit j, s1, μ1, rfl, q1, q2, q3, q4, q5⟩

theorem OkC.loop {c : Code} (I : S → Prop) (M : S → Nat) (h0 : I s) (round : ∀ s', I s' → OkC C w0 rnd c s' fun p => match p.1 with
    | .normal => I p.2 ∧ M p.2 < M s'
    | e => Q (e, p.2)) : OkC C w0 rnd (.loop c) s Q := by
  intro rl μ w a m hr r he hd hds
  simp only [Code.dstOk] at hd
  have key : ∀ (k : Nat) {μ1 : Mu} {s1 : S} {w1 : World} {a1 : Act}, I s1 → M s1 < k → Sim w0 μ s.h w μ1 s1.h w1 → ER μ1 s1.env a1.tmps → a1.tmps.size = a.tmps.size → DR μ1 s1.ds a1.defers →
      Code.roundsIn (Fr rl) m C.P c (Then w0 μ s.h w a.tmps.size Q) k a1 w1 := by
    intro k
    induction k with
    | zero => intro μ1 s1 w1 a1 _ h1; omega
    | succ k ih =>
      intro μ1 s1 w1 a1 hI hM h2 h3 h4 h5
      rw [roundsIn_succ]
      refine wpIn_mono (round s1 hI rl μ1 w1 a1 m (hr.mono h2.le) h2.rel h3 (by rw [h4]; exact hd) h5) ?_
      rintro ex a2 w2 ⟨z, s2, μ2, rfl, q1, q2, q3, q4, q5⟩
      cases z with
      | normal => exact ih q1.1 (by have := q1.2; omega) (h2.trans q2) q3 (q4.trans h4) q5
      | exit id => exact ⟨.exit id, s2, μ2, rfl, q1, h2.trans q2, q3, q4.trans h4, q5⟩
      | ret => exact ⟨.ret, s2, μ2, rfl, q1, h2.trans q2, q3, q4.trans h4, q5⟩
  exact wpIn_loop_rounds (M s + 1) (key _ h0 (by omega) (Sim.refl r) he rfl hds)

/-- Callers: a table of contracts. -/
def callT (tab : FuncId → Option (List V → H → T (V × H))) : Caller := fun c vs h => match c with
  | .fn f => match tab f with
    | some g => g vs h
    | none => .fail
  | .yld _ => .fail

/-- A summary of a function. -/
def Sum (C : Cfg) (w0 : World) (f : FuncId) (g : List V → H → T (V × H)) : Prop := ∀ (vs : List V) (h : H) (Q : V × H → Prop), (g vs h).all Q → OkF C w0 f vs h Q

def TabOk (C : Cfg) (w0 : World) (tab : FuncId → Option (List V → H → T (V × H))) : Prop := ∀ f g, tab f = some g → Sum C w0 f g

theorem callT_ok {tab : FuncId → Option (List V → H → T (V × H))} (ht : TabOk C w0 tab) : CallOk C w0 (callT tab) := by
  intro c vs h Q μ w X hev r hX
  cases c with
  | fn f =>
    simp only [callT] at hev
    simp only
    cases hf : tab f with
    | none => simp [hf, T.all] at hev
    | some g =>
      simp only [hf] at hev
      exact ht f g hf vs h Q hev μ w X r hX
  | yld k => exact hev.elim

/-- A region. All temporaries stay. -/
theorem OkC.region {id : Nat} {ops : Array Oper} {draw : Bool} (G : Good C w0) {call : Caller} (hcall : CallOk C w0 call) (hev : (evRegion C call ops draw s.env s.h).all fun p => Q (.normal, ⟨p.1, s.ds, p.2⟩)) :
    OkC C w0 rnd (.region id ops draw) s Q := by
  intro rl μ w a m hr r he hd hds
  have hdl : ∀ o ∈ ops.toList, dstLt o a.tmps.size := by
    intro o ho t ht
    simp only [Code.dstOk, Array.all_eq_true'] at hd
    have := hd o (by simpa using ho)
    simpa [ht] using this
  have fin : ∀ e' h' μ' a' w', Q (.normal, ⟨e', s.ds, h'⟩) → Sim w0 μ s.h w μ' h' w' → ER μ' e' a'.tmps → a'.tmps.size = a.tmps.size → a'.defers = a.defers →
      Then w0 μ s.h w a.tmps.size Q .normal a' w' := fun e' h' μ' a' w' p1 p2 p3 p4 p5 =>
    ⟨.normal, _, μ', rfl, p1, p2, p3, p4, by rw [p5]; exact hds.mono p2.le⟩
  cases draw with
  | true => exact drawOk G hcall id ops rl m _ μ s.h w s.env a _ hdl r he hev fin
  | false =>
    refine wpIn_region ?_
    rw [List.range_eq_range', ← Array.length_toList]
    exact evOps_sound hcall G ops.toList 0 (fun j => by simp) hdl r he (by simpa [evRegion] using hev) fin

/-- Temporaries are forgotten. -/
theorem OkC.env {c : Code} {e : Env} (hsub : ∀ t v, e.get t = some v → s.env.get t = some v) (o : OkC C w0 rnd c { s with env := e } Q) : OkC C w0 rnd c s Q := fun rl μ w a m hr r he hd hds =>
  o rl μ w a m hr r (fun t v hv => he t v (hsub t v hv)) hd hds

/-- A function out of its body. -/
theorem OkF.body {vs : List V} {h : H} {Q : V × H → Prop} (G : Good2 C w0) {fn : Func} {c : Code} (hf : C.P.funcs[f]? = some fn) (hb : fn.body = some c)
    (o : OkC C w0 none c ⟨Env.ofArgs 0 vs, [], h⟩ fun p => (p.1 = .normal ∨ p.1 = .ret) ∧ ∃ h' v, unmark p.2.ds p.2.h = some h' ∧ results C p.2.env h' fn.results.toList = some v ∧ Q (v, h')) : OkF C w0 f vs h Q := by
  intro μ w X r hX
  refine .inr ⟨by simp [hasBody, hf, hb], enter_run hf hb (G.names f fn hf), fun l m => ?_⟩
  have hsz : fn.ntmps ≤ (X.toArray ++ Array.replicate (fn.ntmps - X.toArray.size) undef).size := by simp; omega
  have hER : ER μ (Env.ofArgs 0 vs) (X.toArray ++ Array.replicate (fn.ntmps - X.toArray.size) undef) := by
    have := ER.ofArgs (μ := μ) (tail := List.replicate (fn.ntmps - X.toArray.size) undef) 0 vs X [] hX rfl
    have e1 : (X.toArray ++ Array.replicate (fn.ntmps - X.toArray.size) undef) = ([] ++ X ++ List.replicate (fn.ntmps - X.toArray.size) undef).toArray := by simp
    rw [e1]; exact this
  have hwp := o none μ w { tmps := X.toArray ++ Array.replicate (fn.ntmps - X.toArray.size) undef, defers := [] } m trivial r hER (dstOk_mono hsz (G.dst f fn c hf hb)) trivial
  show CallsIn (Fr none) m C.P f X.toArray w (Post w0 μ h w Q)
  refine callsIn_of_wp_marks hf hb trivial (wpIn_mono hwp ?_)
  rintro ex a1 w1 ⟨z, s1, μ1, rfl, ⟨hz, h2, v, hun, hres, hq⟩, q2, q3, q4, q5⟩
  have hl := unmark_sound (n := m) (m := m) (fn := fn) (tmps := a1.tmps) (RR := Post w0 μ h w Q) (P := C.P) s1.ds hun q2.rel q5 fun w' hs => by
    obtain ⟨x, g1, g2⟩ := results_sound (a := a1) G.toGood hs.rel q3 hres
    exact ⟨x, g2, v, h2, μ1, x, hq, rfl, g1, q2.trans hs⟩
  have hz' : z = .normal ∨ z = .ret := hz
  rcases hz' with rfl | rfl <;> exact hl
end
end Go.Ix
namespace Go.Ix
section
variable {C : Cfg} {w0 : World} {f : FuncId} {rnd : Option Nat} {Q : Ex × S → Prop} {e e' e'' : Env} {ds : List Nat} {h h' : H}

theorem T.all_ret {α : Type} {t : T α} {x : α} {Q : α → Prop} (h : t = .ret x) (hq : Q x) : t.all Q := by rw [h]; exact hq

theorem Env.keep_sub {lo : Nat} {xs : List Nat} (t : Nat) (v : V) (h : (e.keep lo xs).get t = some v) : e.get t = some v := by
  rw [Env.get_keep] at h
  split at h
  · exact h
  · cases h

/-- A region whose outcome is known, and then. -/
theorem OkC.seqR {id : Nat} {ops : Array Oper} {draw : Bool} {y : Code} {p : Env × H} (lo : Nat) (xs : List Nat) (G : Good C w0) {call : Caller} (hcall : CallOk C w0 call) (ht : evRegion C call ops draw e h = .ret p) (hk : p.1.keep lo xs = e'')
    (o : OkC C w0 rnd y ⟨e'', ds, p.2⟩ Q) : OkC C w0 rnd (.seq (.region id ops draw) y) ⟨e, ds, h⟩ Q := by
  refine OkC.seq (OkC.region G hcall (T.all_ret ht ?_))
  subst hk
  exact OkC.env (fun t v hv => Env.keep_sub t v hv) o

theorem flatEq2 {k l : IntKind} {a b c d : Int} : flatEq [.int k a, .int l b] [.int k c, .int l d] = some (a == c && b == d) := by
  simp only [flatEq, if_true, List.length_nil, List.length_cons, List.all_nil, List.all_cons, V.flatV, Bool.and_true, decide_true]
  cases h1 : (a == c) <;> cases h2 : (b == d) <;> simp
end
end Go.Ix
namespace Go.Ix
theorem evRegion_draw {C : Cfg} {call : Caller} {ops : Array Oper} {e : Env} {h : H} {segs : List Seg} (hp : mkPlan ops = segs) (hok : planOk C ops segs = true) : evRegion C call ops true e h = evSegs C call ops segs e h := by
  subst hp
  simp only [evRegion, if_true, hok]
end Go.Ix
namespace Go.Ix
section
variable {C : Cfg} {w0 : World} {rnd : Option Nat} {Q : Ex × S → Prop} {e e' : Env} {ds : List Nat} {h : H}
/-- A region that ends a piece of code. -/
theorem OkC.reg {id : Nat} {ops : Array Oper} {draw : Bool} {p : Env × H} (lo : Nat) (xs : List Nat) (G : Good C w0) {call : Caller} (hcall : CallOk C w0 call) (ht : evRegion C call ops draw e h = .ret p) (hk : p.1.keep lo xs = e')
    (o : Q (.normal, ⟨e', ds, p.2⟩)) : OkC C w0 rnd (.region id ops draw) ⟨e, ds, h⟩ Q := by
  intro rl μ w a m hr r he hd hds
  have := (OkC.region (Q := fun q => q = (.normal, ⟨p.1, ds, p.2⟩)) (id := id) (rnd := rnd) (s := ⟨e, ds, h⟩) G hcall (T.all_ret ht rfl)) rl μ w a m hr r he hd hds
  refine wpIn_mono this ?_
  rintro ex a' w' ⟨y, s', μ', h1, h2, h3, h4, h5, h6⟩
  obtain ⟨rfl, rfl⟩ := Prod.mk.inj h2
  subst hk
  exact ⟨.normal, _, μ', h1, o, h3, h4.keep lo xs, h5, h6⟩
end
end Go.Ix
namespace Go.Ix
section
variable {C : Cfg} {w0 : World} {rnd : Option Nat} {Q : Ex × S → Prop} {e e' : Env} {ds : List Nat} {h : H}
theorem OkC.skipK (lo : Nat) (xs : List Nat) (hk : e.keep lo xs = e') (o : Q (.normal, ⟨e', ds, h⟩)) : OkC C w0 rnd .skip ⟨e, ds, h⟩ Q := by
  subst hk
  exact OkC.env (s := ⟨e, ds, h⟩) (fun t v hv => Env.keep_sub t v hv) (OkC.skip o)
theorem OkC.exitK {id : Nat} (lo : Nat) (xs : List Nat) (hk : e.keep lo xs = e') (o : Q (.exit id, ⟨e', ds, h⟩)) : OkC C w0 rnd (.exit id) ⟨e, ds, h⟩ Q := by
  subst hk
  exact OkC.env (s := ⟨e, ds, h⟩) (fun t v hv => Env.keep_sub t v hv) (OkC.exit o)
end
end Go.Ix
namespace Go.Ix
variable {C : Cfg} {t : TypeId}

theorem wrapU (n : Int) : IntKind.u64.wrap n = n % 18446744073709551616 := by
  simp [IntKind.wrap, IntKind.bits, IntKind.signed]

theorem wrapUn (n : Nat) : IntKind.u64.wrap (n : Int) = ((n % 18446744073709551616 : Nat) : Int) := by
  rw [wrapU]; omega

/-- A whole number of 64 bits without a sign. -/
def V.u (n : Nat) : V := .int .u64 (n : Int)

theorem V.u_scalar (n : Nat) : V.scalar (V.u n) = true := rfl
theorem V.u_cells (n : Nat) : V.cells (V.u n) = [V.u n] := rfl
theorem V.u_on (n : Nat) (h : H) : V.on h (V.u n) = true := rfl
theorem rd_u (n : Nat) : rd (.int .u64 (n : Int)) = some (V.u n) := rfl

theorem u_mul (m n : Nat) : binV C .mul t (V.u m) (V.u n) = some (V.u (m * n % 18446744073709551616)) := by
  simp only [binV, intOp, if_true, V.u]
  rw [← wrapUn]; simp

theorem u_add (m n : Nat) : binV C .add t (V.u m) (V.u n) = some (V.u ((m + n) % 18446744073709551616)) := by
  simp only [binV, intOp, if_true, V.u]
  rw [← wrapUn]; simp

theorem u_and32 (m : Nat) : binV C .and t (V.u m) (.int .u64 4294967295) = some (V.u (m % 4294967296)) := by
  simp only [binV, intOp, if_true, V.u]
  have h1 : (BitVec.ofInt IntKind.u64.bits (m : Int)).toNat = m % 18446744073709551616 := by
    rw [BitVec.toNat_ofInt]
    show ((m : Int) % 18446744073709551616).toNat = _
    omega
  have h2 : (BitVec.ofInt IntKind.u64.bits 4294967295).toNat = 4294967295 := by decide
  have h3 : (m % 18446744073709551616) &&& 4294967295 = m % 4294967296 := by
    have : (4294967295 : Nat) = 2 ^ 32 - 1 := rfl
    rw [this, Nat.and_two_pow_sub_one_eq_mod]
    omega
  rw [BitVec.toNat_and, h1, h2, h3, wrapUn]
  have : m % 4294967296 % 18446744073709551616 = m % 4294967296 := by omega
  rw [this]

theorem u_shr32 {k : IntKind} (m : Nat) : binV C .shr t (V.u m) (.int k 32) = some (V.u (m / 4294967296)) := by
  simp only [binV, shOp, V.u]
  have h1 : (2 : Int) ^ min (32 : Int).toNat IntKind.u64.bits = 4294967296 := by decide
  rw [if_neg (by decide), h1]
  rw [show Int.fdiv (m : Int) 4294967296 = ((m / 4294967296 : Nat) : Int) from by rw [Int.fdiv_eq_ediv_of_nonneg _ (by decide)]; omega]

theorem u_shr1 {k : IntKind} (m : Nat) : binV C .shr t (V.u m) (.int k 1) = some (V.u (m / 2)) := by
  simp only [binV, shOp, V.u]
  have h1 : (2 : Int) ^ min (1 : Int).toNat IntKind.u64.bits = 2 := by decide
  rw [if_neg (by decide), h1]
  rw [show Int.fdiv (m : Int) 2 = ((m / 2 : Nat) : Int) from by rw [Int.fdiv_eq_ediv_of_nonneg _ (by decide)]; omega]

theorem u_eql (m n : Nat) : binV C .eql t (V.u m) (V.u n) = some (.bool (decide (m = n))) := by
  simp only [binV, intOp, if_true, V.u]
  by_cases h : m = n <;> simp [h]
  omega

theorem u_lss (m n : Nat) : binV C .lss t (V.u m) (V.u n) = some (.bool (decide (m < n))) := by
  simp only [binV, intOp, if_true, V.u]
  congr 2
  exact decide_eq_decide.2 (by omega)

theorem u_leq (m n : Nat) : binV C .leq t (V.u m) (V.u n) = some (.bool (decide (m ≤ n))) := by
  simp only [binV, intOp, if_true, V.u]
  congr 2
  exact decide_eq_decide.2 (by omega)

theorem u_gtr0 (m : Nat) : binV C .gtr t (V.u m) (.int .u64 0) = some (.bool (decide (0 < m))) := by
  simp only [binV, intOp, if_true, V.u]
  congr 2
  exact decide_eq_decide.2 (by omega)

theorem u_eql1 (m : Nat) : binV C .eql t (V.u m) (.int .u64 1) = some (.bool (decide (m = 1))) := by
  simp only [binV, intOp, if_true, V.u]
  by_cases h : m = 1 <;> simp [h]
  omega

theorem flatEq_u2 {a b c d : Nat} : flatEq [V.u a, V.u b] [V.u c, V.u d] = some (decide (a = c) && decide (b = d)) := by
  rw [V.u, V.u, V.u, V.u, flatEq2]
  have h : ∀ x y : Nat, ((x : Int) == (y : Int)) = decide (x = y) := by
    intro x y
    by_cases h : x = y <;> simp [h]
    omega
  rw [h, h]

theorem fits_u2 {a b : Nat} : fits [.int .u64 0, .int .u64 0] [V.u a, V.u b] = true := rfl

theorem mul64 (m n : Nat) (hm : m < 18446744073709551616) (hn : n < 18446744073709551616) :
    let x0 := m % 4294967296
    let x1 := m / 4294967296
    let y0 := n % 4294967296
    let y1 := n / 4294967296
    let w0 := x0 * y0
    let u := x1 * y0 + w0 / 4294967296
    let w1 := u % 4294967296 + x0 * y1
    x1 * y1 + u / 4294967296 + w1 / 4294967296 = m * n / 18446744073709551616 ∧ u < 18446744073709551616 ∧ w1 < 18446744073709551616 ∧ x1 * y1 + u / 4294967296 + w1 / 4294967296 < 18446744073709551616 ∧ w0 < 18446744073709551616 ∧
      x1 * y0 < 18446744073709551616 ∧ x0 * y1 < 18446744073709551616 ∧ x1 * y1 < 18446744073709551616 ∧ x1 * y1 + u / 4294967296 < 18446744073709551616 := by
  intro x0 x1 y0 y1 w0 u w1
  have hx0 : x0 ≤ 4294967295 := by omega
  have hx1 : x1 ≤ 4294967295 := by omega
  have hy0 : y0 ≤ 4294967295 := by omega
  have hy1 : y1 ≤ 4294967295 := by omega
  have p00 := Nat.mul_le_mul hx0 hy0
  have p01 := Nat.mul_le_mul hx0 hy1
  have p10 := Nat.mul_le_mul hx1 hy0
  have p11 := Nat.mul_le_mul hx1 hy1
  have em : m = 4294967296 * x1 + x0 := by omega
  have en : n = 4294967296 * y1 + y0 := by omega
  have e : m * n = 18446744073709551616 * (x1 * y1) + 4294967296 * (x1 * y0) + 4294967296 * (x0 * y1) + x0 * y0 := by
    rw [em, en, Nat.add_mul, Nat.mul_add, Nat.mul_add]
    have a1 : 4294967296 * x1 * (4294967296 * y1) = 18446744073709551616 * (x1 * y1) := by
      rw [Nat.mul_mul_mul_comm]
    have a2 : 4294967296 * x1 * y0 = 4294967296 * (x1 * y0) := Nat.mul_assoc ..
    have a3 : x0 * (4294967296 * y1) = 4294967296 * (x0 * y1) := Nat.mul_left_comm ..
    rw [a1, a2, a3]
    omega
  have hu : u = x1 * y0 + w0 / 4294967296 := rfl
  have hw1 : w1 = u % 4294967296 + x0 * y1 := rfl
  clear_value w1 u
  clear_value x0 x1 y0 y1
  generalize x1 * y1 = q11 at *
  generalize x1 * y0 = q10 at *
  generalize x0 * y1 = q01 at *
  have hw0 : w0 = x0 * y0 := rfl
  rw [← hw0] at p00 e
  generalize m * n = mn at *
  clear_value w0
  refine ⟨?_, ?_, ?_, ?_, ?_, ?_, ?_, ?_, ?_⟩ <;> omega
end Go.Ix
namespace Go.Ix
theorem eqBin {C : Cfg} {t : TypeId} {x y : List V} : binV C .eql t (.agg x) (.agg y) = (eqV C t (.agg x) (.agg y)).map .bool := rfl
end Go.Ix
namespace Go.Ix
/-- Which values lie in one cell. -/
theorem V.sc : (∀ b, V.scalar (.bool b) = true) ∧ (∀ k n, V.scalar (.int k n) = true) ∧ (∀ s, V.scalar (.str s) = true) ∧ (∀ a, V.scalar (.ptr a) = true) ∧ (∀ a n c, V.scalar (.slice a n c) = true) ∧ (∀ r, V.scalar (.map r) = true) ∧
    (∀ f a b, V.scalar (.func f a b) = true) ∧ (∀ k, V.scalar (.yield k) = true) ∧ V.scalar .nilFunc = true ∧ (∀ t v, V.scalar (.iface t v) = true) ∧ V.scalar .nilIface = true ∧ (∀ cs, V.scalar (.agg cs) = false) ∧ (∀ cs, V.scalar (.tup cs) = false) ∧ (∀ n, V.scalar (V.u n) = true) :=
  ⟨fun _ => rfl, fun _ _ => rfl, fun _ => rfl, fun _ => rfl, fun _ _ _ => rfl, fun _ => rfl, fun _ _ _ => rfl, fun _ => rfl, rfl, fun _ _ => rfl, rfl, fun _ => rfl, fun _ => rfl, fun _ => rfl⟩
theorem V.cl : (∀ b, V.cells (.bool b) = [.bool b]) ∧ (∀ k n, V.cells (.int k n) = [.int k n]) ∧ (∀ s, V.cells (.str s) = [.str s]) ∧ (∀ a, V.cells (.ptr a) = [.ptr a]) ∧ (∀ a n c, V.cells (.slice a n c) = [.slice a n c]) ∧ (∀ r, V.cells (.map r) = [.map r]) ∧
    (∀ f a b, V.cells (.func f a b) = [.func f a b]) ∧ (∀ k, V.cells (.yield k) = [.yield k]) ∧ V.cells .nilFunc = [.nilFunc] ∧ (∀ t v, V.cells (.iface t v) = [.iface t v]) ∧ V.cells .nilIface = [.nilIface] ∧ (∀ cs, V.cells (.agg cs) = cs) ∧ (∀ n, V.cells (V.u n) = [V.u n]) :=
  ⟨fun _ => rfl, fun _ _ => rfl, fun _ => rfl, fun _ => rfl, fun _ _ _ => rfl, fun _ => rfl, fun _ _ _ => rfl, fun _ => rfl, rfl, fun _ _ => rfl, rfl, fun _ => rfl, fun _ => rfl⟩
end Go.Ix
namespace Go.Ix
def unU : V → Option Nat
  | .int .u64 (.ofNat n) => some n
  | _ => none
theorem unU_eq {v : V} {n : Nat} (h : unU v = some n) : v = V.u n := by
  unfold unU at h
  split at h
  · obtain rfl := Option.some.inj h; rfl
  · cases h
theorem unU_u (n : Nat) : unU (V.u n) = some n := rfl
end Go.Ix
namespace Go.Ix
variable {C : Cfg} {t : TypeId}
theorem u_or (m n : Nat) (hm : m < 18446744073709551616) (hn : n < 18446744073709551616) : binV C .or t (V.u m) (V.u n) = some (V.u (m ||| n)) := by
  simp only [binV, intOp, if_true, V.u]
  have h1 : ∀ m : Nat, m < 18446744073709551616 → (BitVec.ofInt IntKind.u64.bits (m : Int)).toNat = m := by
    intro m hm
    rw [BitVec.toNat_ofInt]
    show ((m : Int) % 18446744073709551616).toNat = _
    omega
  rw [BitVec.toNat_or, h1 m hm, h1 n hn, wrapUn]
  have : m ||| n < 2 ^ 64 := Nat.or_lt_two_pow hm hn
  rw [Nat.mod_eq_of_lt this]

theorem i_leq {k : IntKind} (a b : Int) : binV C .leq t (.int k a) (.int k b) = some (.bool (decide (a ≤ b))) := by
  simp only [binV, intOp, if_true]
theorem i_lss {k : IntKind} (a b : Int) : binV C .lss t (.int k a) (.int k b) = some (.bool (decide (a < b))) := by
  simp only [binV, intOp, if_true]
theorem i_gtr {k : IntKind} (a b : Int) : binV C .gtr t (.int k a) (.int k b) = some (.bool (decide (b < a))) := by
  simp only [binV, intOp, if_true]
end Go.Ix
namespace Go.Ix
theorem H.nx (h : H) (k l : Nat) : h.next + k + l = h.next + (k + l) := Nat.add_assoc ..
end Go.Ix
namespace Go.Ix
theorem i_add {C : Cfg} {t : TypeId} {k : IntKind} (a b : Int) : binV C .add t (.int k a) (.int k b) = some (.int k (k.wrap (a + b))) := by
  simp only [binV, intOp, if_true]
end Go.Ix
namespace Go.Ix
open Go.RowKit

theorem R_empty (w : World) : R w (fun _ => none) H.empty w :=
  ⟨⟨rfl, rfl, rfl, Nat.le_refl _, fun _ _ => rfl⟩, fun _ _ => rfl, fun k _ => H.get_empty k, fun k o hk => by simp at hk, fun k k' o o' e e' hk => by simp at hk⟩

/-- A contract from nothing, as a walk. -/
theorem OkF.calls {C : Cfg} {w : World} {f : FuncId} {vs : List V} {X : List Value} {b : Bool} (hb : hasBody C.P f = true) (o : OkF C w f vs H.empty fun p => p.1 = .bool b) (hX : concL (fun _ => none) vs = some X) :
    Calls C.P f X.toArray w fun e w' => e = .returned (.bool b) ∧ Below w.heap.size w w' := by
  rcases o (fun _ => none) w X (R_empty w) hX with ⟨a, _⟩ | ⟨_, _, c⟩
  · rw [hb] at a; cases a
  · refine callsIn_wide.1 ((show CallsIn Fence.wide 0 C.P f X.toArray w _ from c none 0).mono ?_)
    rintro e w' ⟨v, h', μ', x, q1, q2, q3, q4⟩
    simp only at q1
    subst q1
    simp only [conc, Option.some.injEq] at q3
    subst q3
    exact ⟨q2, q4.rel.below⟩

section
open Go.WideShapes Go.ChangeShapes
variable {H : Type} {enc : TypeId × Value → H} {P : Program}
theorem post_of_below {f : Func} {s : ChangeSpec} {apart fresh handsOn again : Bool} {W W' : World} {args : Array Value} {v : Value} {ds gs : List (DataW H)} {before pa pv : List MemPlace}
    (hW : DataW.Whole enc P f.params.toList s.vars apart W args.toList ds gs before)
    (hres : ∀ (b : Nat) (sp : Nat → Bool) (hd : Bool), DataW.TrodAll enc P W' b sp hd f.resultTypes.toList (v.resultList f.resultTypes.size) (s.fn H (ds ++ gs)).results [])
    (hargs : ∀ sp : Nat → Bool, (∀ p ∈ before, sp p.block = true) → DataW.TrodAll enc P W' 0 sp true f.params.toList args.toList (s.fn H (ds ++ gs)).args pa)
    (hvars : ∀ sp : Nat → Bool, (∀ p ∈ before, sp p.block = true) → DataW.TrodVars enc P W' sp s.vars (s.fn H (ds ++ gs)).vars pv)
    (hps : before = pa ++ pv) (hb : Below W.heap.size W W')
    (hok : ∀ (j : Nat) (t : TypeId) (r : Value), f.resultTypes[j]? = some t → (v.resultList f.resultTypes.size)[j]? = some r → Value.okWide P W' .any 0 t r) :
    s.post enc P f apart fresh handsOn again W args v W' := by
  have hlt : ∀ p ∈ before, p.block < W.heap.size := fun p hp => hW.lt p hp
  have hold : ∀ p ∈ before, (fun b => decide (b < W.heap.size)) p.block = true := fun p hp => by simpa using hlt p hp
  refine ⟨ds, gs, before, [], pa, pv, hW, hres _ _ _, hargs _ hold, hvars _ hold, World.keptBut_mono (fun p hp => ⟨hp, ?_⟩) (hb.frame (· ∈ before)), fun _ => ?_⟩
  · rw [hps, List.mem_append] at hp
    exact Or.inr hp
  · obtain ⟨_, _, _, _, _, hz, hn⟩ := hW
    refine ⟨hok, _, _, ([] ++ pa) ++ pv, ⟨[] ++ pa, pv, trodAll_append (hargs _ (fun _ _ => rfl)) (hres _ _ _), hvars _ (fun _ _ => rfl), rfl, ?_, ?_⟩, ?_⟩
    · intro b off hp
      have hin : MemPlace.cell b off ∈ before := by rw [hps]; simpa using hp
      rw [hb.frozen (hlt _ hin)]
      exact hz b off hin
    · intro ha
      have := hn ha
      rw [hps] at this
      simpa using this
    · intro p hp _
      rw [hps]
      simpa using hp
end
section
variable {P : Program} {w : World} {r : Reach} {b : Nat} {t : TypeId} {v : Value}
theorem cell_int {k : IntKind} (hu : P.underlying t = some (.int k)) (h : Cell.okWide P w r b t v) : ∃ n, v = .int k n ∧ k.has n := by
  unfold Cell.okWide at h
  rw [hu] at h
  unfold Cell.ok at h
  rw [hu] at h
  cases v <;> simp at h
  obtain ⟨rfl, h⟩ := h
  exact ⟨_, rfl, h⟩

/-- A slice that lay there at the start. -/
theorem cell_slice {e : TypeId} (hu : P.underlying t = some (.slice e)) (h : Cell.okWide P w r b t v) : ∃ s n c, ∀ μ, conc μ (.slice s n (.ex c)) = some v := by
  unfold Cell.okWide at h
  rw [hu] at h
  unfold Cell.ok at h
  rw [hu] at h
  cases v <;> simp at h
  rename_i a n c
  cases a with
  | none =>
    split at h
    all_goals first | exact h.elim | skip
    all_goals simp_all
    exact ⟨none, 0, 0, fun μ => rfl⟩
  | some a =>
    obtain ⟨ab, ao, as⟩ := a
    have hs : as = none := by
      simp at h
      exact h.2.2.2.1
    subst hs
    exact ⟨some ⟨.old ab, ao⟩, n, c, fun μ => rfl⟩
end
theorem list7 {α : Type} : ∀ {l : List α}, l.length = 7 → ∃ a b c d e f g, l = [a, b, c, d, e, f, g]
  | [a, b, c, d, e, f, g], _ => ⟨a, b, c, d, e, f, g, rfl⟩
theorem joined_of {P : Program} {f : FuncId} {fn : Func} {s : ChangeSpec} {c : OpenClaim}
    (h0 : (c.wf (OpenSpec.ofChange s)) = true)
    (h1 : (laidOutB P) = true)
    (h2 : (mapsRowed P) = true)
    (h3 : (fn.params.all (P.readableRec ·)) = true)
    (h4 : (namedTie P c.named s.vars) = true)
    (h5 : (c.stops == []) = true)
    (h6 : (P.stops == []) = true)
    (h7 : (c.knobs == []) = true)
    (h8 : (P.stopKnobs == []) = true)
    (h9 : (c.inPlace == P.inPlace f) = true)
    (h10 : (c.unfollowed == P.unfollowed f) = true)
    (h11 : (c.recurses == P.recurses f) = true)
    (h12 : (c.named == P.varsNamed f) = true)
    (h13 : (c.maps == (fn.params.toList ++ s.plain.varTypes P).any (P.mapsRec ·)) = true)
    (h14 : (c.ifaces == (fn.params.toList ++ s.plain.varTypes P).any (P.ifacesRec ·)) = true)
    (h15 : (c.mapsOut == P.mapsAmong fn.resultTypes.toList) = true)
    (h16 : (c.loops == (fn.params.toList ++ s.plain.varTypes P).any (P.loopsFrom ·)) = true)
    (h17 : (c.wideKeys == (fn.params.toList ++ s.plain.varTypes P ++ fn.resultTypes.toList).any (P.wideKeysFrom ·)) = true)
    (h18 : (s.vars.all (P.varReadable ·)) = true)
    (h19 : (fn.resultTypes.all (fun t => P.readableRec t && decide (t < P.types.size))) = true)
    (h20 : (c.ifacesOut == fn.resultTypes.toList.any (P.ifacesRec ·)) = true)
    (h21 : (c.loopsOut == fn.resultTypes.toList.any (P.loopsFrom ·)) = true)
    (h22 : (c.plainKeys == P.plainKeys) = true)
    (h23 : (c.shortTexts.isNone) = true)
    (h24 : (P.stopsHeard) = true)
    (h25 : (P.mayEnter) = true)
    (h26 : (c.lifted == P.liftsFinal) = true)
    (h27 : (P.make == some c.make) = true)
    (h28 : (c.kinds == (if c.domain.isEmpty then [] else fn.params.toList.map fun t => match P.underlying t with | some (.int k) => some k | _ => none)) = true)
    (h29 : (c.pinned == c.pinnedBy) = true)
    (h30 : (c.veiled == (fn.params.toList ++ s.plain.varTypes P ++ fn.resultTypes.toList).any (P.veiledRec ·)) = true)
    (h31 : (c.veiledFits P fn.params.toList (fn.params.toList ++ s.plain.varTypes P ++ fn.resultTypes.toList)) = true)
    : joinedFacts P f fn s c = true := by
  unfold joinedFacts
  simp only [Bool.and_eq_true]
  exact ⟨⟨⟨⟨⟨⟨⟨⟨⟨⟨⟨⟨⟨⟨⟨⟨⟨⟨⟨⟨⟨⟨⟨⟨⟨⟨⟨⟨⟨⟨⟨h0, h1⟩, h2⟩, h3⟩, h4⟩, h5⟩, h6⟩, h7⟩, h8⟩, h9⟩, h10⟩, h11⟩, h12⟩, h13⟩, h14⟩, h15⟩, h16⟩, h17⟩, h18⟩, h19⟩, h20⟩, h21⟩, h22⟩, h23⟩, h24⟩, h25⟩, h26⟩, h27⟩, h28⟩, h29⟩, h30⟩, h31⟩
end Go.Ix
