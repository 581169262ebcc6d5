/- Ix: an evaluator of the lowered code over memory of its own (blocks of its own numbers, appends that always give a new block, no tape).
  Here: its values, its memory, its operations. Nothing is proved here about the machine; IxSound does that. · Ix: the evaluator: operations, regions, code, calls. · Ix: what the evaluator's values and memory stand for in a world of the machine. · Ix: memory of the evaluator and a world of the machine: the relation, and what keeps it. · Ix: the operations that leave memory alone: what the evaluator tells of them is what the machine does. · Ix: each operation that leaves memory alone. · Ix: build, slices, comparisons, maps that are read, builtins that read. · Ix: slices, comparisons, maps that are read, builtins that read. · Ix: maps that are read, builtins that read; every reading operation. -/
import Derived.RangeFuncLeaves
import Derived.OrdersIn
import Derived.LoopNIn
import Derived.Laws.Sem
import Derived.Laws.Cells
import Derived.Laws.World
import Derived.Below
import Derived.Laws.Entries
import Derived.ChangeKeysEq
set_option linter.unusedSimpArgs false
set_option linter.unusedVariables false
set_option linter.unusedSectionVars false
namespace Go.Ix

/-- A block: one that lay there at the start, or the k-th new one. -/
inductive Id where
  | old (b : Nat)
  | new (k : Nat)
  deriving DecidableEq, Inhabited

structure Ad where
  blk : Id
  off : Nat
  deriving DecidableEq, Inhabited

def Ad.add (a : Ad) (n : Nat) : Ad := ⟨a.blk, a.off + n⟩

/-- A slice's capacity: a number; or: up to its block's end, less k elements (pf: where it lies if nothing is left). -/
inductive Cap where
  | ex (n : Nat)
  | op (k pf : Nat)
  deriving DecidableEq, Inhabited

inductive V where
  | bool (b : Bool)
  | int (k : IntKind) (n : Int)
  | str (s : ByteArray)
  | ptr (a : Option Ad)
  | slice (a : Option Ad) (len : Nat) (cap : Cap)
  | map (r : Option Id)
  | func (fn : Fn) (first captured : List V)
  | yield (k : Nat)
  | nilFunc
  | iface (t : TypeId) (v : V)
  | nilIface
  | agg (cs : List V)
  | tup (vs : List V)
  deriving Inhabited

mutual
def V.beq : V → V → Bool
  | .bool a, .bool b => decide (a = b)
  | .int k a, .int l b => decide (k = l) && decide (a = b)
  | .str a, .str b => decide (a = b)
  | .ptr a, .ptr b => decide (a = b)
  | .slice a n c, .slice b m d => decide (a = b) && decide (n = m) && decide (c = d)
  | .map a, .map b => decide (a = b)
  | .func f a b, .func g c d => decide (f = g) && V.beqL a c && V.beqL b d
  | .yield a, .yield b => decide (a = b)
  | .nilFunc, .nilFunc => true
  | .iface t v, .iface u w => decide (t = u) && V.beq v w
  | .nilIface, .nilIface => true
  | .agg a, .agg b => V.beqL a b
  | .tup a, .tup b => V.beqL a b
  | _, _ => false
def V.beqL : List V → List V → Bool
  | [], [] => true
  | a :: r, b :: s => V.beq a b && V.beqL r s
  | _, _ => false
end

def V.cells : V → List V
  | .agg cs => cs
  | v => [v]

def V.scalar : V → Bool
  | .agg _ => false
  | .tup _ => false
  | _ => true

mutual
/-- A value of the machine, read (none: a kind that is not served). -/
def rd : Value → Option V
  | .bool b => some (.bool b)
  | .int k n => some (.int k n)
  | .string s => some (.str s)
  | .pointer none => some (.ptr none)
  | .pointer (some ⟨b, o, none⟩) => some (.ptr (some ⟨.old b, o⟩))
  | .slice none n c => some (.slice none n (.ex c))
  | .slice (some ⟨b, o, none⟩) n c => some (.slice (some ⟨.old b, o⟩) n (.ex c))
  | .map none => some (.map none)
  | .map (some r) => some (.map (some (.old r)))
  | .func (.func f) a b => match rdA a, rdA b with
    | some a, some b => some (.func (.func f) a b)
    | _, _ => none
  | .nilFunc => some .nilFunc
  | .iface t v => match rd v with
    | some v => some (.iface t v)
    | none => none
  | .nilIface => some .nilIface
  | .agg cs => match rdA cs with
    | some cs => some (.agg cs)
    | none => none
  | .tuple cs => match rdA cs with
    | some cs => some (.tup cs)
    | none => none
  | _ => none
def rdA : Array Value → Option (List V)
  | ⟨l⟩ => rdL l
def rdL : List Value → Option (List V)
  | [] => some []
  | v :: r => match rd v, rdL r with
    | some v, some r => some (v :: r)
    | _, _ => none
end

/-! ### Temporaries -/

abbrev Env := List (Nat × V)

def Env.get : Env → Nat → Option V
  | [], _ => none
  | (s, v) :: r, t => if s = t then some v else Env.get r t

def Env.del : Env → Nat → Env
  | [], _ => []
  | (s, v) :: r, t => if s = t then Env.del r t else (s, v) :: Env.del r t

/-- Kept in the order of the temporaries. -/
def Env.set : Env → Nat → V → Env
  | [], t, v => [(t, v)]
  | (s, u) :: r, t, v => if t < s then (t, v) :: (s, u) :: r else if s = t then (t, v) :: r else (s, u) :: Env.set r t v

def Env.put (e : Env) : Option Nat → Option V → Env
  | none, _ => e
  | some t, some v => e.set t v
  | some t, none => e.del t

/-- Only the temporaries below a bound, and some others, are kept. -/
def Env.keep (lo : Nat) (xs : List Nat) : Env → Env
  | [] => []
  | (s, v) :: r => if s < lo || xs.contains s then (s, v) :: Env.keep lo xs r else Env.keep lo xs r

def Env.ofArgs : Nat → List V → Env
  | _, [] => []
  | i, v :: r => (i, v) :: Env.ofArgs (i + 1) r

/-! ### Memory -/

structure MapE where
  key : V
  val : V
  born : Nat
  deriving Inhabited

inductive O where
  | cells (vs : List V) (esz : Nat)
  | map (es : List MapE) (clock : Nat)
  | iter (m : Option Id) (since : Nat) (seen : List Nat) (stepped : Nat)
  | siter (s : ByteArray) (pos : Nat)
  | loop (state : LoopState) (pending : Option Code) (fn : FuncId) (env : Env) (params : List Tmp) (assign body : Code) (defers : Nat)
  | dfr (open_ : Bool)
  | dead
  deriving Inhabited

def alGet : List (Nat × O) → Nat → Option O
  | [], _ => none
  | (k, o) :: r, j => if k = j then some o else alGet r j

def alSet : List (Nat × O) → Nat → O → List (Nat × O)
  | [], j, x => [(j, x)]
  | (k, o) :: r, j, x => if k = j then (j, x) :: r else (k, o) :: alSet r j x

/-- A tree of short lists, by a number's lowest digits. -/
inductive Tr where
  | leaf (l : List (Nat × O))
  | node (a b : Tr)

def Tr.empty : Nat → Tr
  | 0 => .leaf []
  | d + 1 => .node (Tr.empty d) (Tr.empty d)

def Tr.get : Tr → Nat → Option O
  | .leaf l, k => alGet l k
  | .node a b, k => if k % 2 = 0 then a.get (k / 2) else b.get (k / 2)

def Tr.set : Tr → Nat → O → Tr
  | .leaf l, k, o => .leaf (alSet l k o)
  | .node a b, k, o => if k % 2 = 0 then .node (a.set (k / 2) o) b else .node a (b.set (k / 2) o)

structure H where
  next : Nat
  tr : Tr

def H.get (h : H) (k : Nat) : Option O := h.tr.get k
def H.set (h : H) (k : Nat) (o : O) : H := { h with tr := h.tr.set k o }
def H.push (h : H) (o : O) : H := { next := h.next + 1, tr := h.tr.set h.next o }
def H.empty : H := ⟨0, Tr.empty 8⟩

theorem alGet_set (l : List (Nat × O)) (j k : Nat) (x : O) : alGet (alSet l j x) k = if k = j then some x else alGet l k := by
  induction l with
  | nil => simp [alSet, alGet, eq_comm]
  | cons p r ih =>
    obtain ⟨i, o⟩ := p
    simp only [alSet]
    by_cases h : i = j
    · subst h; by_cases h' : k = i <;> simp [alGet, h', eq_comm]
    · simp only [h, if_false, alGet, ih]
      by_cases h' : k = j
      · subst h'; simp [h]
      · by_cases h'' : i = k <;> simp [h', h'']

theorem Tr.get_set (t : Tr) : ∀ (j k : Nat) (x : O), (t.set j x).get k = if k = j then some x else t.get k := by
  induction t with
  | leaf l => exact fun j k x => alGet_set l j k x
  | node a b iha ihb =>
    intro j k x
    by_cases hj : j % 2 = 0 <;> by_cases hk : k % 2 = 0 <;> simp only [Tr.get, Tr.set, hj, hk, if_true, if_false]
    · rw [iha]
      by_cases h : k = j
      · subst h; simp
      · rw [if_neg (by omega), if_neg h]
    · rw [if_neg (by rintro rfl; exact hk hj)]
    · rw [if_neg (by rintro rfl; exact hj hk)]
    · rw [ihb]
      by_cases h : k = j
      · subst h; simp
      · rw [if_neg (by omega), if_neg h]

theorem Tr.get_empty : ∀ (d k : Nat), (Tr.empty d).get k = none
  | 0, _ => rfl
  | d + 1, k => by simp only [Tr.get, Tr.empty]; split <;> exact Tr.get_empty d _

theorem H.get_set (h : H) (j k : Nat) (x : O) : (h.set j x).get k = if k = j then some x else h.get k := Tr.get_set h.tr j k x
theorem H.get_push (h : H) (k : Nat) (x : O) : (h.push x).get k = if k = h.next then some x else h.get k := Tr.get_set h.tr h.next k x
@[simp] theorem H.get_empty (k : Nat) : H.empty.get k = none := Tr.get_empty 8 k
@[simp] theorem H.next_set (h : H) (j : Nat) (x : O) : (h.set j x).next = h.next := rfl
@[simp] theorem H.next_push (h : H) (x : O) : (h.push x).next = h.next + 1 := rfl

/-! ### Results: one, none, one for each answer of a question, or whatever meets a condition -/

inductive T (α : Type) where
  | ret (a : α)
  | fail
  | ask (n : Nat) (k : Nat → T α)
  | spec (pre : Prop) (post : V × H → Prop) (k : V × H → T α)

def T.bind {α β : Type} : T α → (α → T β) → T β
  | .ret a, f => f a
  | .fail, _ => .fail
  | .ask n k, f => .ask n fun i => (k i).bind f
  | .spec p q k, f => .spec p q fun x => (k x).bind f

def T.all {α : Type} : T α → (α → Prop) → Prop
  | .ret a, Q => Q a
  | .fail, _ => False
  | .ask n k, Q => ∀ i, i < n → (k i).all Q
  | .spec p q k, Q => p ∧ ∀ x, q x → (k x).all Q

def T.of {α : Type} : Option α → T α
  | some a => .ret a
  | none => .fail

/-! ### The program, as the evaluator sees it -/

structure TI where
  und : TypeDesc
  size : Nat
  bytes : Nat
  zero : List V
  flat : Bool
  deriving Inhabited

structure Cfg where
  P : Program
  ti : TypeId → Option TI
  /-- the memory that lay there at the start -/
  old : Nat → Nat → Option V
  /-- which temporaries are kept behind a region -/
  keep : FuncId → Nat × List Nat
  /-- functions of which a summary is known -/
  sum : FuncId → Option (List V → H → T (V × H)) := fun _ => none

variable (C : Cfg)

def opd (e : Env) : Operand → Option V
  | .tmp t => e.get t
  | .const v => rd v
  | .global g => some (.ptr (some ⟨.old g, 0⟩))
  | .func f => some (.func (.func f) [] [])

def opds (e : Env) : List Operand → Option (List V)
  | [] => some []
  | x :: r => match opd e x, opds e r with
    | some v, some vs => some (v :: vs)
    | _, _ => none

def isAggD : TypeDesc → Bool
  | .struct _ => true
  | .array _ _ => true
  | _ => false

def ld (a : Ad) (h : H) : Option V :=
  match a.blk with
  | .old b => C.old b a.off
  | .new k => match h.get k with
    | some (.cells vs _) => vs[a.off]?
    | _ => none

def ldN (a : Ad) : Nat → H → Option (List V)
  | 0, _ => some []
  | n + 1, h => match ld C a h, ldN (a.add 1) n h with
    | some v, some r => some (v :: r)
    | _, _ => none

def ldT (t : TypeId) (a : Ad) (h : H) : Option V :=
  match C.ti t with
  | some i => if isAggD i.und then (ldN C a i.size h).map .agg else ld C a h
  | none => none

def st (a : Ad) (v : V) (h : H) : Option H :=
  match a.blk with
  | .old _ => none
  | .new k => match h.get k with
    | some (.cells vs s) => if v.scalar && decide (a.off < vs.length) then some (h.set k (.cells (vs.set a.off v) s)) else none
    | _ => none

def stN (a : Ad) : List V → H → Option H
  | [], h => some h
  | v :: r, h => match st a v h with
    | some h => stN (a.add 1) r h
    | none => none

def stT (t : TypeId) (a : Ad) (v : V) (h : H) : Option H :=
  match C.ti t with
  | some i => if v.cells.length = i.size then stN a v.cells h else none
  | none => none

/-- A new row of cells; its place. -/
def newRow (cs : List V) (h : H) : Option (Ad × H) :=
  if cs.all V.scalar then some (⟨.new h.next, 0⟩, h.push (.cells cs 0)) else none

def rep (n : Nat) (cs : List V) : List V := match n with
  | 0 => []
  | n + 1 => cs ++ rep n cs

/-! ### Operations on values -/

def intOp (op : BinOp) (k : IntKind) (a b : Int) : Option V :=
  match op with
  | .add => some (.int k (k.wrap (a + b)))
  | .sub => some (.int k (k.wrap (a - b)))
  | .mul => some (.int k (k.wrap (a * b)))
  | .quo => if b = 0 then none else some (.int k (k.wrap (a.tdiv b)))
  | .rem => if b = 0 then none else some (.int k (a.tmod b))
  | .and => some (.int k (k.wrap (BitVec.ofInt k.bits a &&& BitVec.ofInt k.bits b).toNat))
  | .or => some (.int k (k.wrap (BitVec.ofInt k.bits a ||| BitVec.ofInt k.bits b).toNat))
  | .xor => some (.int k (k.wrap (BitVec.ofInt k.bits a ^^^ BitVec.ofInt k.bits b).toNat))
  | .andNot => some (.int k (k.wrap (BitVec.ofInt k.bits a &&& ~~~BitVec.ofInt k.bits b).toNat))
  | .eql => some (.bool (a == b))
  | .neq => some (.bool (a != b))
  | .lss => some (.bool (decide (a < b)))
  | .leq => some (.bool (decide (a ≤ b)))
  | .gtr => some (.bool (decide (a > b)))
  | .geq => some (.bool (decide (a ≥ b)))
  | _ => none

def shOp (op : BinOp) (k : IntKind) (a b : Int) : Option V :=
  if b < 0 then none else
  match op with
  | .shl => some (.int k (k.wrap (a * 2 ^ min b.toNat k.bits)))
  | .shr => some (.int k (a.fdiv (2 ^ min b.toNat k.bits)))
  | _ => none

def strOp (op : BinOp) (x y : ByteArray) : Option V :=
  match op with
  | .add => if ((x.size + y.size : Nat) : Int) > IntKind.i64.max then none else some (.str (x ++ y))
  | .eql => some (.bool (x.toList == y.toList))
  | .neq => some (.bool (!(x.toList == y.toList)))
  | .lss => some (.bool (Op.bytesLess x.toList y.toList))
  | .leq => some (.bool (Op.bytesLess x.toList y.toList || x.toList == y.toList))
  | .gtr => some (.bool (!(Op.bytesLess x.toList y.toList || x.toList == y.toList)))
  | .geq => some (.bool (!Op.bytesLess x.toList y.toList))
  | _ => none

def O.live : O → Bool
  | .dead => false
  | _ => true

/-- Values that hold no address: what '==' of a struct may be asked of. -/
def V.flatV : V → Bool
  | .bool _ => true
  | .int _ _ => true
  | _ => false

def fits : List V → List V → Bool
  | [], [] => true
  | .bool _ :: r, .bool _ :: s => fits r s
  | .int _ _ :: r, .int _ _ :: s => fits r s
  | _, _ => false

def flatEq : List V → List V → Option Bool
  | [], [] => some true
  | .bool a :: r, .bool b :: s => if a == b then flatEq r s else if r.length = s.length && r.all V.flatV && s.all V.flatV then some false else none
  | .int k a :: r, .int l b :: s =>
    if k = l then if a == b then flatEq r s else if r.length = s.length && r.all V.flatV && s.all V.flatV then some false else none else none
  | _, _ => none

/-- '==' where it is not one of whole numbers or texts. -/
def eqV (t : TypeId) (x y : V) : Option Bool :=
  match C.ti t with
  | none => none
  | some i =>
    match i.und, x, y with
    | .bool, .bool a, .bool b => some (a == b)
    | .pointer _, .ptr none, .ptr b => some b.isNone
    | .pointer _, .ptr (some _), .ptr none => some false
    | .pointer e, .ptr (some a), .ptr (some b) =>
      match C.ti e with
      | some j => if j.size ≠ 0 ∧ a.blk = b.blk then some (decide (a.off = b.off)) else none
      | none => none
    | .interface _, .nilIface, .iface _ _ => some false
    | .interface _, .iface _ _, .nilIface => some false
    | .struct _, .agg xs, .agg ys => if i.flat = true ∧ xs.length = i.size ∧ fits i.zero xs = true then flatEq xs ys else none
    | .slice _, .slice none _ _, .slice b _ _ => some b.isNone
    | .slice _, .slice (some _) _ _, .slice none _ _ => some false
    | .map _ _, .map none, .map b => some b.isNone
    | .map _ _, .map (some _), .map none => some false
    | .func _ _ _, .nilFunc, .nilFunc => some true
    | .func _ _ _, .nilFunc, .func _ _ _ => some false
    | .func _ _ _, .func _ _ _, .nilFunc => some false
    | _, _, _ => none

def binV (op : BinOp) (t : TypeId) (x y : V) : Option V :=
  match op, x, y with
  | .shl, .int k a, .int _ b => shOp .shl k a b
  | .shr, .int k a, .int _ b => shOp .shr k a b
  | op, .int k a, .int l b => if k = l then intOp op k a b else none
  | op, .str a, .str b => strOp op a b
  | .eql, x, y => (eqV C t x y).map .bool
  | .neq, x, y => (eqV C t x y).map fun b => .bool !b
  | _, _, _ => none

def unV (op : UnOp) (x : V) : Option V :=
  match op, x with
  | .neg, .int k n => some (.int k (k.wrap (0 - n)))
  | .not, .bool b => some (.bool !b)
  | _, _ => none

/-! ### Slices -/

/-- x[lo:hi:mx]; es: the cells of an element. -/
def sliceV (es : Nat) (a : Option Ad) (len : Nat) (cap : Cap) (lo : Nat) (hi : Option Nat) (mx : Option Nat) : Option V :=
  match cap with
  | .ex c =>
    let m := mx.getD c
    let h := hi.getD len
    if m ≤ c ∧ h ≤ m ∧ lo ≤ h ∧ (mx.isSome = true → hi.isSome = true) then
      some (.slice (if m = lo then a else a.map (·.add (lo * es))) (h - lo) (.ex (m - lo)))
    else none
  | .op k pf =>
    match mx with
    | some m => match hi with
      | some h =>
        if m ≤ len ∧ h ≤ m ∧ lo ≤ h ∧ 0 < len then
          some (.slice (if m = lo then a else a.map (·.add (lo * es))) (h - lo) (.ex (m - lo)))
        else none
      | none => none
    | none =>
      let h := hi.getD len
      if h ≤ len ∧ lo ≤ h then
        if lo = 0 then some (.slice a h (.op k pf))
        else match a with
          | some b => some (.slice (some (b.add (lo * es))) (h - lo) (.op (k + lo) b.off))
          | none => none
      else none

def natOf : V → Option Nat
  | .int _ n => if 0 ≤ n then some n.toNat else none
  | _ => none

def bnd (e : Env) : Option Operand → Option (Option Nat)
  | none => some none
  | some x => match opd e x with
    | some v => (natOf v).map some
    | none => none

/-- The cells that a slice or a text shows. -/
def showCells (es n : Nat) (x : V) (h : H) : Option (List V) :=
  match x with
  | .slice (some a) _ _ => ldN C a (n * es) h
  | .slice none _ _ => some []
  | .str s => some ((s.extract 0 n).data.toList.map fun b => .int .u8 b.toNat)
  | _ => none

def lenV : V → Option Nat
  | .slice _ n _ => some n
  | .str s => some s.size
  | _ => none

/-- append of n elements, n not 0: in place only where that is sure (a capacity that is known); else a new block, and the old one is dead if it might have been grown in place. -/
def appendV (i : TI) (s : V) (add : List V) (n : Nat) (h : H) : Option (V × H) :=
  match s with
  | .slice base len cap =>
    if (len + n) * i.bytes * 4 ≤ 2 ^ 47 ∧ len + n < 2 ^ 62 ∧ 0 < i.size ∧ add.all V.scalar ∧ add.length = n * i.size then
      match cap, base with
      | .ex c, base =>
        if len + n ≤ c then
          match base with
          | some a => (stN (a.add (len * i.size)) add h).map fun h => (.slice base (len + n) cap, h)
          | none => none
        else match showCells C i.size len s h with
          | some cs => if cs.length = len * i.size then some (.slice (some ⟨.new h.next, 0⟩) (len + n) (.op 0 0), h.push (.cells (cs ++ add) i.size)) else none
          | none => none
      | .op k _, some ⟨.new j, o⟩ =>
        match h.get j with
        | some (.cells vs es) =>
          if es = i.size ∧ o = k * es ∧ o + len * es ≤ vs.length then
            some (.slice (some ⟨.new h.next, 0⟩) (len + n) (.op 0 0), (h.set j .dead).push (.cells ((vs.drop o).take (len * es) ++ add) es))
          else none
        | _ => none
      | _, _ => none
    else none
  | _ => none

/-- append: of nothing, it is the slice that it was. -/
def appendV0 (i : TI) (s : V) (add : List V) (n : Nat) (h : H) : Option (V × H) :=
  if n = 0 then match s with
    | .slice _ len (.ex c) => if len ≤ c then some (s, h) else none
    | .slice (some ⟨.new j, _⟩) len (.op k _) => match h.get j with
      | some (.cells vs es) => if (k + len) * es ≤ vs.length ∧ 0 < es then some (s, h) else none
      | _ => none
    | _ => none
  else appendV C i s add n h

/-! ### Maps -/

def keyEq : V → V → Option Bool
  | .int k a, .int l b => if k = l then some (a == b) else none
  | .str a, .str b => some (a == b)
  | .bool a, .bool b => some (a == b)
  | _, _ => none

def findE (k : V) : List MapE → Nat → Option (Option (Nat × V))
  | [], _ => some none
  | e :: r, i => match keyEq k e.key with
    | some true => some (some (i, e.val))
    | some false => findE k r (i + 1)
    | none => none

def keyKind : TypeDesc → V → Bool
  | .int _, .int _ _ => true
  | .string, .str _ => true
  | .bool, .bool _ => true
  | _, _ => false

def mapAt (h : H) : Id → Option (List MapE × Nat)
  | .new k => match h.get k with
    | some (.map es c) => some (es, c)
    | _ => none
  | .old _ => none

def modE (i : Nat) (f : MapE → MapE) (es : List MapE) : List MapE := match es, i with
  | [], _ => []
  | e :: r, 0 => f e :: r
  | e :: r, i + 1 => e :: modE i f r

def zeroV (i : TI) : V := if isAggD i.und then .agg i.zero else match i.zero with
  | [v] => v
  | _ => .agg i.zero

def mapEs (m : V) (h : H) : Option (List MapE) :=
  match m with
  | .map none => some []
  | .map (some r) => (mapAt h r).map (·.1)
  | _ => none

/-- m[k], ok -/
def lookupV (t : TypeId) (m k : V) (ok : Bool) (h : H) : Option V :=
  match C.ti t with
  | some { und := .map kt vt, .. } =>
    match C.ti kt, C.ti vt with
    | some ki, some vi =>
      if keyKind ki.und k then
        match mapEs m h with
        | some es => match findE k es 0 with
          | some (some (_, v)) => some (if ok then .tup [v, .bool true] else v)
          | some none => some (if ok then .tup [zeroV vi, .bool false] else zeroV vi)
          | none => none
        | none => none
      else none
    | _, _ => none
  | _ => none

def mapUpdV (t : TypeId) (m k v : V) (h : H) : Option H :=
  match C.ti t with
  | some { und := .map kt _, .. } =>
    match C.ti kt, m with
    | some ki, .map (some (.new r)) =>
      if keyKind ki.und k then
        match mapAt h (.new r) with
        | some (es, c) => match findE k es 0 with
          | some (some (i, _)) => some (h.set r (.map (modE i (fun e => { e with key := k, val := v }) es) c))
          | some none => some (h.set r (.map (es ++ [{ key := k, val := v, born := c }]) (c + 1)))
          | none => none
        | none => none
      else none
    | _, _ => none
  | _ => none

def deleteV (t : TypeId) (m k : V) (h : H) : Option H :=
  match C.ti t with
  | some { und := .map kt _, .. } =>
    match C.ti kt, m with
    | some ki, .map (some (.new r)) =>
      if keyKind ki.und k then
        match mapAt h (.new r) with
        | some (es, c) => match findE k es 0 with
          | some (some (i, _)) => some (h.set r (.map (es.eraseIdx i) c))
          | some none => some (h.set r (.map es c))
          | none => none
        | none => none
      else none
    | some ki, .map none => if keyKind ki.und k then some h else none
    | _, _ => none
  | _ => none

/-- What a step of a range over a map may come to: an entry, or the end. -/
def cands (es : List MapE) (since : Nat) (seen : List Nat) : List (Option MapE) :=
  let left := es.filter fun e => !seen.contains e.born
  let old := left.filter fun e => decide (e.born < since)
  let new := left.filter fun e => decide (e.born ≥ since)
  (if old.isEmpty then [none] else []) ++ (old ++ new).map some

/-! ### Operations -/

def min2V (x y : V) : Option V := match x, y with
  | .int k a, .int l b => if k = l then some (.int k (if b < a then b else a)) else none
  | _, _ => none

def max2V (x y : V) : Option V := match x, y with
  | .int k a, .int l b => if k = l then some (.int k (if b > a then b else a)) else none
  | _, _ => none

def foldV (f : V → V → Option V) : V → List V → Option V
  | x, [] => some x
  | x, y :: r => match f x y with
    | some z => foldV f z r
    | none => none

end Go.Ix
namespace Go.Ix
variable (C : Cfg)

def parts (e : Env) : List (Nat × Operand) → Option (List (Nat × V))
  | [] => some []
  | (i, x) :: r => match opd e x, parts e r with
    | some v, some vs => some ((i, v) :: vs)
    | _, _ => none

/-- Parts laid over cells. -/
def fillC (place : Nat → Option (Nat × Nat)) (cells : List V) : List (Nat × V) → Option (List V)
  | [] => some cells
  | (i, v) :: r => match place i with
    | some (off, size) =>
      if v.cells.length = size ∧ off + size ≤ cells.length then fillC place (cells.take off ++ v.cells ++ cells.drop (off + size)) r else none
    | none => none

def fieldPlaces (fs : Array Field) (i : Nat) : Option (Nat × Nat) :=
  match fs[i]? with
  | some f => match C.ti f.type with
    | some j => some (f.offset, j.size)
    | none => none
  | none => none

def placesL : List Field → Option (List (Nat × Nat))
  | [] => some []
  | f :: r => match C.ti f.type, placesL r with
    | some j, some l => some ((f.offset, j.size) :: l)
    | _, _ => none

def partV (t : TypeId) (cs : List V) (off : Nat) : Option V :=
  match C.ti t with
  | some i => if isAggD i.und then (if off + i.size ≤ cs.length then some (.agg ((cs.drop off).take i.size)) else none) else cs[off]?
  | none => none

/-- What hangs on no memory. -/
def isPure : Op → Bool
  | .move _ | .assign _ | .pick .. | .build .. | .nilCheck _ | .unOp .. | .makeInterface .. | .makeFunc .. | .slice .. | .fieldAddr .. | .field .. | .indexAddr .. | .extract .. | .typeAssert .. => true
  | .binOp .eql .. | .binOp .neq .. => false
  | .binOp .. => true
  | _ => false

/-- Operations that leave memory alone. -/
def evR (o : Op) (e : Env) (h : H) : Option V :=
  match o with
  | .move x | .assign x => opd e x
  | .pick c a b => match opd e c with
    | some (.bool true) => opd e a
    | some (.bool false) => opd e b
    | _ => none
  | .build t ps => match C.ti t, parts e ps.toList with
    | some i, some vs => match i.und with
      | .struct fs => match placesL C fs.toList with
        | some pl => (fillC (fun k => pl[k]?) i.zero vs).map .agg
        | none => none
      | .array _ el => match C.ti el with
        | some j => (fillC (fun k => some (k * j.size, j.size)) i.zero vs).map .agg
        | none => none
      | _ => none
    | _, _ => none
  | .load t a => match opd e a with
    | some (.ptr (some a)) => ldT C t a h
    | _ => none
  | .nilCheck x => match opd e x with
    | some (.ptr (some a)) => some (.ptr (some a))
    | some (.func (.func f) a b) => some (.func (.func f) a b)
    | some (.yield k) => some (.yield k)
    | some (.iface t v) => some (.iface t v)
    | some (.map r) => some (.map r)
    | _ => none
  | .binOp op t x y _ => match opd e x, opd e y with
    | some v, some w => binV C op t v w
    | _, _ => none
  | .unOp op _ x => match opd e x with
    | some v => unV op v
    | none => none
  | .convert s d x => match C.ti s, C.ti d, opd e x with
    | some _, some j, some v => match j.und, v with
      | .int k, .int _ n => some (.int k (k.wrap n))
      | .string, .str s => some (.str s)
      | _, _ => none
    | _, _, _ => none
  | .makeInterface t x => match C.ti t, opd e x with
    | some i, some v => match i.und with
      | .interface _ => none
      | _ => some (.iface t v)
    | _, _ => none
  | .makeFunc (.func f) a b => match opds e a.toList, opds e b.toList with
    | some a, some b => some (.func (.func f) a b)
    | _, _ => none
  | .slice t x lo hi mx => match C.ti t, opd e x, bnd e lo, bnd e hi, bnd e mx with
    | some i, some v, some lo, some hi, some mx => match i.und, v with
      | .slice el, .slice a n c => match C.ti el with
        | some j => sliceV j.size a n c (lo.getD 0) hi mx
        | none => none
      | .array n el, .ptr (some a) => match C.ti el with
        | some j => sliceV j.size (some a) n (.ex n) (lo.getD 0) hi mx
        | none => none
      | .string, .str s => if mx.isNone ∧ hi.getD s.size ≤ s.size ∧ lo.getD 0 ≤ hi.getD s.size then some (.str (s.extract (lo.getD 0) (hi.getD s.size))) else none
      | _, _ => none
    | _, _, _, _, _ => none
  | .fieldAddr t x f => match C.ti t, opd e x with
    | some i, some (.ptr (some a)) => match i.und with
      | .struct fs => match fieldPlaces C fs f with
        | some (off, size) => if 0 < size then some (.ptr (some (a.add off))) else none
        | none => none
      | _ => none
    | _, _ => none
  | .field t x f => match C.ti t, opd e x with
    | some i, some (.agg cs) => match i.und with
      | .struct fs => match fs[f]? with
        | some fl => partV C fl.type cs fl.offset
        | none => none
      | _ => none
    | _, _ => none
  | .indexAddr t x ix => match C.ti t, opd e x, opd e ix with
    | some i, some v, some (.int _ n) => match i.und, v with
      | .slice el, .slice (some a) len _ => match C.ti el with
        | some j => if 0 ≤ n ∧ n < len then some (.ptr (some (a.add (n.toNat * j.size)))) else none
        | none => none
      | .array len el, .ptr (some a) => match C.ti el with
        | some j => if 0 ≤ n ∧ n < len then some (.ptr (some (a.add (n.toNat * j.size)))) else none
        | none => none
      | _, _ => none
    | _, _, _ => none
  | .index t x ix => match C.ti t, opd e x, opd e ix with
    | some i, some v, some (.int _ n) => match i.und, v with
      | .array len el, .agg cs => match C.ti el with
        | some j => if 0 ≤ n ∧ n < len then partV C el cs (n.toNat * j.size) else none
        | none => none
      | .string, .str s => if 0 ≤ n then (match s[n.toNat]? with
        | some b => some (.int .u8 b.toNat)
        | none => none) else none
      | _, _ => none
    | _, _, _ => none
  | .lookup t m k ok => match opd e m, opd e k with
    | some m, some k => lookupV C t m k ok h
    | _, _ => none
  | .entry it => match opd e it with
    | some (.ptr (some ⟨.new r, 0⟩)) => match h.get r with
      | some (.iter (some m) _ seen stepped) => match seen.getLast?, mapAt h m with
        | some stamp, some (es, c) => if c = stepped then (match es.find? (·.born == stamp) with
          | some x => some (.tup [x.key, x.val])
          | none => none) else none
        | _, _ => none
      | _ => none
    | _ => none
  | .typeAssert x _ t ok => match C.ti t, opd e x with
    | some i, some v => match i.und with
      | .interface _ => none
      | _ => match v with
        | .iface u w => if u = t then some (if ok then .tup [w, .bool true] else w) else if ok then some (.tup [zeroV i, .bool false]) else none
        | .nilIface => if ok then some (.tup [zeroV i, .bool false]) else none
        | _ => none
    | _, _ => none
  | .extract x k => match opd e x with
    | some (.tup vs) => vs[k]?
    | _ => none
  | .call { callee := .builtin b, args, argTypes } => match opds e args.toList, argTypes[0]? with
    | some vs, some t => match C.ti t with
      | some i => match b, i.und, vs with
        | .len, .string, [.str s] => some (.int .i64 s.size)
        | .len, .slice _, [.slice _ n _] => some (.int .i64 n)
        | .len, .array n _, [_] => some (.int .i64 n)
        | .len, .map _ _, [.map none] => some (.int .i64 0)
        | .len, .map _ _, [.map (some r)] => match mapAt h r with
          | some (es, _) => some (.int .i64 es.length)
          | none => none
        | .cap, .slice _, [.slice _ _ (.ex n)] => some (.int .i64 n)
        | .min, _, x :: r => foldV min2V x r
        | .max, _, x :: r => foldV max2V x r
        | _, _, _ => none
      | none => none
    | _, _ => none
  | _ => none

/-- Operations that change memory (the answer none: there is no value). -/
def evW (o : Op) (e : Env) (h : H) : T (V × H) :=
  match o with
  | .alloc t => match C.ti t with
    | some i => .of ((newRow i.zero h).map fun (a, h) => (.ptr (some a), h))
    | none => .fail
  | .box _ x => match opd e x with
    | some v => .of ((newRow v.cells h).map fun (a, h) => (.ptr (some a), h))
    | none => .fail
  | .buildSlice t n ps => match C.ti t, parts e ps.toList with
    | some i, some vs => match i.und with
      | .slice el => match C.ti el with
        | some j => if n * j.size ≤ 2 ^ 24 then
            match fillC (fun k => some (k * j.size, j.size)) (rep n j.zero) vs with
            | some cs => .of ((newRow cs h).map fun (a, h) => (.slice (some a) n (.ex n), h))
            | none => .fail
          else .fail
        | none => .fail
      | _ => .fail
    | _, _ => .fail
  | .store t a x => match opd e a, opd e x with
    | some (.ptr (some a)), some v => .of ((stT C t a v h).map fun h => (.tup [], h))
    | _, _ => .fail
  | .makeMap _ none => .ret (.map (some (.new h.next)), h.push (.map [] 0))
  | .makeSlice t l c => match C.ti t, opd e l, opd e c with
    | some i, some (.int _ l), some (.int _ c) => match i.und with
      | .slice el => match C.ti el with
        | some j => if 0 ≤ l ∧ l ≤ c ∧ c * j.bytes ≤ 2 ^ 47 ∧ c ≤ 2 ^ 47 then
            .of ((newRow (rep c.toNat j.zero) h).map fun (a, h) => (.slice (some a) l.toNat (.ex c.toNat), h))
          else .fail
        | none => .fail
      | _ => .fail
    | _, _, _ => .fail
  | .mapUpdate t m k x | .insert t m k x => match opd e m, opd e k, opd e x with
    | some m, some k, some v => .of ((mapUpdV C t m k v h).map fun h => (.tup [], h))
    | _, _, _ => .fail
  | .range t x => match C.ti t, opd e x with
    | some i, some v => match i.und, v with
      | .string, .str s => .ret (.ptr (some ⟨.new h.next, 0⟩), h.push (.siter s 0))
      | .map _ _, .map none => .ret (.ptr (some ⟨.new h.next, 0⟩), h.push (.iter none 0 [] 0))
      | .map _ _, .map (some r) => match mapAt h r with
        | some (_, c) => .ret (.ptr (some ⟨.new h.next, 0⟩), h.push (.iter (some r) c [] c))
        | none => .fail
      | _, _ => .fail
    | _, _ => .fail
  | .next it isStr => match opd e it with
    | some (.ptr (some ⟨.new r, 0⟩)) => match h.get r, isStr with
      | some (.siter s pos), true =>
        if pos < s.size then
          .ret (.tup [.bool true, .int .i64 pos, .int .i32 (Utf8.decode s pos).1], h.set r (.siter s (pos + (Utf8.decode s pos).2)))
        else .ret (.tup [.bool false], h)
      | some (.iter none _ _ _), false => .ret (.tup [.bool false], h)
      | some (.iter (some m) since seen last), false => match mapAt h m with
        | some (es, c) =>
          if !seen.isEmpty && !es.isEmpty && es.all (fun x => decide (x.born ≥ last)) then .fail
          else
            let cs := cands es since seen
            .ask cs.length fun k => match cs[k]? with
              | some (some x) => .ret (.tup [.bool true, x.key, x.val], h.set r (.iter (some m) since (seen ++ [x.born]) c))
              | some none => .ret (.tup [.bool false], h)
              | none => .fail
        | none => .fail
      | _, _ => .fail
    | _ => .fail
  | .call { callee := .builtin b, args, argTypes } => match opds e args.toList, argTypes[0]? with
    | some vs, some t => match C.ti t with
      | some i => match b, i.und, vs with
        | .append, .slice el, [s, x] => match C.ti el, argTypes[1]? with
          | some j, some t1 => match C.ti t1 with
            | some i1 => match i1.und, lenV x with
              | .int _, _ => .fail
              | _, some n => match showCells C j.size n x h with
                | some add => .of (appendV0 C j s add n h)
                | none => .fail
              | _, none => .fail
            | none => .fail
          | _, _ => .fail
        | .copy, .slice el, [.slice base dl _, x] => match C.ti el, lenV x with
          | some j, some n => match showCells C j.size (min n dl) x h, base with
            | some cs, some a => .of ((stN a cs h).map fun h => (.int .i64 (min n dl : Nat), h))
            | some _, none => if dl = 0 then .ret (.int .i64 0, h) else .fail
            | none, _ => .fail
          | _, _ => .fail
        | .delete, .map _ _, [m, k] => .of ((deleteV C t m k h).map fun h => (.tup [], h))
        | .clear, .map _ _, [.map (some (.new r))] => match mapAt h (.new r) with
          | some (_, c) => .ret (.tup [], h.set r (.map [] c))
          | none => .fail
        | .clear, .slice el, [.slice (some a) n _] => match C.ti el with
          | some j => .of ((stN a (rep n j.zero) h).map fun h => (.tup [], h))
          | none => .fail
        | _, _, _ => .fail
      | none => .fail
    | _, _ => .fail
  | _ => .fail

/-! ### Calls -/

inductive Cal where
  | fn (f : FuncId)
  | yld (k : Nat)

def calOf (f : V) (args : List V) : Option (Cal × List V) :=
  match f with
  | .func (.func f) first cap => some (.fn f, first ++ args ++ cap)
  | .yield k => some (.yld k, args)
  | _ => none

/-- A method's receiver, found along one path of fields behind a pointer. -/
def recvAt (t : TypeId) (v : V) (pr : Bool) (h : H) : Option V :=
  match C.ti t with
  | some i => match i.und, pr, v with
    | .pointer _, true, v => some v
    | .pointer e, false, .ptr (some a) => ldT C e a h
    | .pointer _, false, _ => none
    | _, false, v => some v
    | _, true, _ => none
  | none => none

def recvVar (t : TypeId) (a : Ad) (pr : Bool) (h : H) : Option V :=
  match C.ti t with
  | some i => match i.und, pr with
    | .pointer _, true => ldT C t a h
    | .pointer e, false => match ldT C t a h with
      | some (.ptr (some b)) => ldT C e b h
      | _ => none
    | _, true => some (.ptr (some a))
    | _, false => ldT C t a h
  | none => none

def methOf (t : TypeId) (name : String) : Option Method :=
  match C.P.info? t with
  | some i => i.methods.find? (·.name == name)
  | none => none

def calMeth (recv : V) (name : String) (args : List V) (h : H) : Option (Cal × List V) :=
  match recv with
  | .iface t v => match methOf C t name with
    | some m => match m.func, m.path.toList with
      | some (f, pr), [] => match recvAt C t v pr h with
        | some r => some (.fn f, r :: args)
        | none => none
      | some (f, pr), [s] => match C.ti s.struct, v with
        | some i, .ptr (some a) => match s.deref, i.und with
          | true, .struct fs => match fs[s.index]?, fieldPlaces C fs s.index with
            | some fl, some (off, size) => if 0 < size then match recvVar C fl.type (a.add off) pr h with
              | some r => some (.fn f, r :: args)
              | none => none else none
            | _, _ => none
          | _, _ => none
        | _, _ => none
      | _, _ => none
    | none => none
  | _ => none

def callee (c : Call) (e : Env) (h : H) : Option (Cal × List V) :=
  match opds e c.args.toList with
  | some vs => match c.callee with
    | .value f => match opd e f with
      | some f => calOf f vs
      | none => none
    | .invoke r name => match opd e r with
      | some r => calMeth C r name vs h
      | none => none
    | .builtin _ => none
  | none => none

/-! ### Regions -/

inductive Kind where
  | read | write | call | alloc
  deriving DecidableEq

def kindOf : Op → Kind
  | .alloc _ => .alloc
  | .call { callee := .builtin b, .. } => match b with
    | .len | .cap | .min | .max => .read
    | _ => .write
  | .call _ => .call
  | .box .. | .buildSlice .. | .store .. | .makeMap .. | .makeSlice .. | .mapUpdate .. | .insert .. | .range .. | .next .. | .mapEntry .. | .entryStore .. => .write
  | _ => .read

/-- Is an operation wanted? (none: not known) -/
def wantedV (ops : Array Oper) (o : Oper) (e : Env) : Option Bool :=
  match o.guard with
  | none => some true
  | some (j, want) => match ops[j]? with
    | some g => match g.dst with
      | some d => match e.get d with
        | some (.bool b) => some (b == want)
        | some _ => some false
        | none => none
      | none => some false
    | none => some false

structure S where
  env : Env
  ds : List Nat
  h : H

def Env.dst (e : Env) (d : Option Nat) (v : V) : Env := match d with
  | some t => e.set t v
  | none => e

abbrev Caller := Cal → List V → H → T (V × H)

/-- The value that an operation leaves in its temporary, and memory behind it. -/
def evVal (call : Caller) (ops : Array Oper) (o : Oper) (e : Env) (h : H) : T (V × H) :=
  match wantedV ops o e with
  | some true => match kindOf o.op with
    | .read => match evR C o.op e h with
      | some v => .ret (v, h)
      | none => .fail
    | .call => match o.op with
      | .call c => match callee C c e h with
        | some (f, vs) => call f vs h
        | none => .fail
      | _ => .fail
    | _ => evW C o.op e h
  | some false => .ret (.tup [], h)
  | none => .fail

def evOper (call : Caller) (ops : Array Oper) (o : Oper) (e : Env) (h : H) : T (Env × H) :=
  (evVal C call ops o e h).bind fun (v, h) => .ret (e.dst o.dst v, h)

def evOps (call : Caller) (ops : Array Oper) : List Oper → Env → H → T (Env × H)
  | [], e, h => .ret (e, h)
  | o :: r, e, h => (evOper C call ops o e h).bind fun (e, h) => evOps call ops r e h

/-! A region that draws its order: what is evaluated when. -/

structure Seg where
  evs : List Nat
  chks : List Nat
  fls : List Nat
  x : Option Nat

/-- The value of operation i, at this memory, is the one that stands in its temporary. -/
def chk (ops : Array Oper) (e : Env) (h : H) : List Nat → Bool
  | [] => true
  | i :: r => (match ops[i]? with
    | some o => match wantedV ops o e with
      | some true => match o.dst with
        | some d => match evR C o.op e h, e.get d with
          | some v, some w => V.beq v w
          | _, _ => false
        | none => false
      | some false => match o.dst with
        | some d => match e.get d with
          | some (.tup []) => true
          | _ => false
        | none => true
      | none => false
    | none => false) && chk ops e h r

def evIdx (call : Caller) (ops : Array Oper) : List Nat → Env → H → T (Env × H)
  | [], e, h => .ret (e, h)
  | i :: r, e, h => match ops[i]? with
    | some o => (evOper C call ops o e h).bind fun (e, h) => evIdx call ops r e h
    | none => .fail

def evSegs (call : Caller) (ops : Array Oper) : List Seg → Env → H → T (Env × H)
  | [], e, h => .ret (e, h)
  | s :: r, e, h => (evIdx C call ops s.evs e h).bind fun (e, h) =>
    if chk C ops e h s.chks then
      (evIdx C call ops (s.fls ++ s.x.toList) e h).bind fun (e, h) => evSegs call ops r e h
    else .fail

/-- Which operations lie ahead of operation i, as bits. -/
def ahead (ops : Array Oper) : Array Nat := Region.before ops

/-- The plan of a region. Nothing hangs on how it is made: 'planOk' looks at it. -/
def mkPlan (ops : Array Oper) : List Seg :=
  let B := ahead ops
  let n := ops.size
  let kd (i : Nat) : Kind := ((ops[i]?).map fun o => kindOf o.op).getD .read
  let bef (i j : Nat) : Bool := (B.getD j 0).testBit i
  let ws := (List.range n).filter fun i => kd i == .write || kd i == .call
  let floats := (List.range n).filter fun i => kd i == .alloc && ws.any fun j => !(bef i j) && !(bef j i)
  let xs := (List.range n).filter fun i => kd i != .read && !floats.contains i
  let lev (i : Nat) : Nat := (xs.filter fun x => bef x i).length
  let due (i : Nat) : Nat := (xs.takeWhile fun x => !bef i x).length
  let rest := (List.range n).filter fun i => !xs.contains i && !floats.contains i
  let seg (k : Nat) (x : Option Nat) : Seg :=
    { evs := rest.filter fun i => lev i == k
      chks := rest.filter fun i => decide (lev i < k) && decide (k ≤ due i) && !((ops[i]?).map fun o => isPure o.op).getD false
      fls := floats.filter fun i => due i == k
      x }
  (xs.zipIdx.map fun (x, k) => seg k (some x)) ++ [seg xs.length none]

/-! What the plan must meet. -/

def bef (B : Array Nat) (i j : Nat) : Bool := (B.getD j 0).testBit i

def kdAt (ops : Array Oper) (i : Nat) : Kind := match ops[i]? with
  | some o => kindOf o.op
  | none => .write

def pureAt (ops : Array Oper) (i : Nat) : Bool := match ops[i]? with
  | some o => isPure o.op
  | none => false

def dstAt (ops : Array Oper) (i : Nat) : Option Nat := match ops[i]? with
  | some o => o.dst
  | none => none

def readsAt (ops : Array Oper) (i : Nat) : List Nat := match ops[i]? with
  | some o => o.looksAt ops
  | none => []

def Seg.ord (s : Seg) : List Nat := s.evs ++ (s.fls ++ s.x.toList)

def noDup : List Nat → Bool
  | [] => true
  | a :: r => !r.contains a && noDup r

/-- 'bef' is what the edges come to. -/
def befOk (ops : Array Oper) (B : Array Nat) : Bool :=
  (List.range ops.size).all fun i => match ops[i]? with
    | some o => (o.after.all fun x => !Region.binds .any x || (decide (x.on < ops.size) && bef B x.on i)) &&
        (List.range ops.size).all fun j => !bef B j i || o.after.any fun x => Region.binds .any x && (x.on == j || bef B j x.on)
    | none => true

def ordOk (ops : Array Oper) (B : Array Nat) (fl : List Nat) : List Nat → List Nat → Bool
  | _, [] => true
  | D, i :: r => ((List.range ops.size).all fun j => !bef B j i || D.contains j || (fl.contains j && match dstAt ops j with
      | some t => !(readsAt ops i).contains t
      | none => true)) && ordOk ops B fl (D ++ [i]) r

def chainOk (B : Array Nat) : Option Nat → List Seg → Bool
  | _, [] => true
  | p, s :: r => (match p with
      | some y => s.evs.all (fun i => bef B y i) && (match s.x with
        | some x => bef B y x
        | none => true)
      | none => true) && (s.x.isNone == r.isEmpty) && (match s.x with
      | some x => s.fls.all fun i => bef B i x
      | none => true) && chainOk B s.x r

def covOk (ops : Array Oper) (B : Array Nat) : List Nat → List Nat → List Seg → Bool
  | _, _, [] => true
  | lv, xd, s :: r => (lv.all fun i => s.chks.contains i || xd.any fun x => bef B i x) &&
      covOk ops B (lv ++ s.evs.filter fun i => !pureAt ops i) (xd ++ s.x.toList) r

def flOk (ops : Array Oper) (i : Nat) : Bool := match ops[i]? with
  | some o => o.guard.isNone && (o.after.all fun x => !Region.binds .any x) && (match o.op with
    | .alloc t => match C.ti t with
      | some i => i.zero.all V.scalar
      | none => false
    | _ => false)
  | none => false

/-- Each temporary has one writer; who reads it lies ahead of him or behind. -/
def wrOk (ops : Array Oper) (B : Array Nat) : Bool :=
  (List.range ops.size).all fun i => match dstAt ops i with
    | some t => (List.range ops.size).all fun j => (i == j || dstAt ops j != some t) &&
        (!(readsAt ops j).contains t || (i != j && (bef B i j || (bef B j i && pureAt ops j))))
    | none => true

def planOk (ops : Array Oper) (segs : List Seg) : Bool :=
  let B := ahead ops
  let fl := segs.flatMap (·.fls)
  let order := segs.flatMap Seg.ord
  !segs.isEmpty && befOk ops B && noDup order && order.all (fun i => decide (i < ops.size)) && (List.range ops.size).all (fun i => order.contains i) &&
  ordOk ops B fl [] order && chainOk B none segs && covOk ops B [] [] segs && fl.all (fun i => flOk C ops i) && wrOk ops B &&
  segs.all fun s => s.evs.all (fun i => kdAt ops i == .read) && match s.x with
    | some x => kdAt ops x != .read
    | none => true

def evRegion (call : Caller) (ops : Array Oper) (draw : Bool) (e : Env) (h : H) : T (Env × H) :=
  if draw then
    let p := mkPlan ops
    if planOk C ops p then evSegs C call ops p e h else .fail
  else evOps C call ops ops.toList e h

/-! ### Code -/

inductive Ex where
  | normal
  | exit (id : Nat)
  | ret
  deriving DecidableEq

def loopN (body : S → T (Ex × S)) : Nat → S → T (Ex × S)
  | 0, _ => .fail
  | n + 1, s => (body s).bind fun (e, s) => match e with
    | .normal => loopN body n s
    | e => .ret (e, s)

/-- A tested temporary that is no variable is done with. -/
def afterCond (kp : Nat × List Nat) (c : Operand) (e : Env) : Env :=
  match c with
  | .tmp t => if kp.1 ≤ t then e.del t else e
  | _ => e

def getLoop (h : H) (k : Nat) : Option (LoopState × Option Code × FuncId × Env × List Tmp × Code × Code × Nat) :=
  match h.get k with
  | some (.loop st p f e ps a b d) => some (st, p, f, e, ps, a, b, d)
  | _ => none

/-- Behind a range over a function: what is still to jump to. -/
def afterLoop (k : Nat) (s : S) (go : Code → S → T (Ex × S)) : T (Ex × S) :=
  match s.h.get k with
  | some (.loop st p f e ps a b d) =>
    if st = .busy then .fail else
    let s := { s with h := s.h.set k (.loop .exhausted p f e ps a b d) }
    match p with
    | none => .ret (.normal, s)
    | some c => go c s
  | _ => .fail

def hasBody (P : Program) (f : FuncId) : Bool := match P.funcs[f]? with
  | some fn => fn.body.isSome
  | none => false

def evCode (call : Caller) (n : Nat) (f : FuncId) (rnd : Option Nat) : Code → S → T (Ex × S)
  | .skip, s => .ret (.normal, s)
  | .label _, s => .ret (.normal, s)
  | .region _ ops draw, s => (evRegion C call ops draw s.env s.h).bind fun (e, h) =>
      .ret (.normal, { s with env := e.keep (C.keep f).1 (C.keep f).2, h })
  | .seq a b, s => (evCode call n f rnd a s).bind fun (x, s) => match x with
    | .normal => evCode call n f rnd b s
    | x => .ret (x, s)
  | .cond c a b, s => match opd s.env c with
    | some (.bool true) => evCode call n f rnd a { s with env := afterCond (C.keep f) c s.env }
    | some (.bool false) => evCode call n f rnd b { s with env := afterCond (C.keep f) c s.env }
    | _ => .fail
  | .block id b, s => (evCode call n f rnd b s).bind fun (x, s) => match x with
    | .exit j => if j = id then .ret (.normal, s) else .ret (.exit j, s)
    | x => .ret (x, s)
  | .loop b, s => loopN (evCode call n f rnd b) n s
  | .scope b, s => evCode call n f rnd b s
  | .exit id, s => .ret (.exit id, s)
  | .ret, s => .ret (.ret, s)
  | .rangeFunc g ps as b, s =>
    match opd s.env g with
    | some g =>
      let dd : Option (Nat × List Nat × H) := match rnd with
        | some l => match getLoop s.h l with
          | some (_, _, _, _, _, _, _, d) => some (d, [], s.h)
          | none => none
        | none => some (s.h.next, [s.h.next], s.h.push (.dfr true))
      match dd with
      | some (d, mark, h) =>
        let l := h.next
        let h := h.push (.loop .ready none f s.env ps.toList as b d)
        match calOf g [.yield l] with
        | some (.fn g, vs) => if !(hasBody C.P g) then .fail else (call (.fn g) vs h).bind fun (_, h) =>
          afterLoop l { s with ds := mark ++ s.ds, h } fun c s => match c with
            | .ret => .ret (.ret, s)
            | .exit id => .ret (.exit id, s)
            | _ => .fail
        | _ => .fail
      | none => .fail
    | none => .fail
  | _, _ => .fail

/-- A function's results. -/
def resV (e : Env) (h : H) : List ResultVar → Option (List V)
  | [] => some []
  | .tmp t :: r => match e.get t, resV e h r with
    | some v, some vs => some (v :: vs)
    | _, _ => none
  | .cell a t :: r => match e.get a, resV e h r with
    | some (.ptr (some a)), some vs => match ldT C t a h with
      | some v => some (v :: vs)
      | none => none
    | _, _ => none

def results (e : Env) (h : H) (rs : List ResultVar) : Option V :=
  match resV C e h rs with
  | some [v] => some v
  | some vs => some (.tup vs)
  | none => none

/-- The marks that ranges over functions have left are taken off. -/
def unmark : List Nat → H → Option H
  | [], h => some h
  | d :: r, h => match h.get d with
    | some (.dfr true) => unmark r (h.set d (.dfr false))
    | _ => none

/-- Functions without a body that the machine knows. -/
def ext (name : String) (args : List V) : Option V :=
  if name = "math/bits.Add64" then
    match args with
    | [.int _ x, .int _ y, .int _ c] => if c.toNat > 1 then none else
      some (.tup [.int .u64 (Int.ofNat ((x.toNat + y.toNat + c.toNat) % 2 ^ 64)), .int .u64 (Int.ofNat ((x.toNat + y.toNat + c.toNat) / 2 ^ 64))])
    | _ => none
  else none

def setParams (e : Env) : List Tmp → List V → Option Env
  | [], [] => some e
  | t :: ts, v :: vs => setParams (e.set t v) ts vs
  | _, _ => none

def ev : Nat → Caller
  | 0, _, _, _ => .fail
  | n + 1, .fn f, args, h => match C.sum f with
    | some g => g args h
    | none => match C.P.funcs[f]? with
    | some fn => match fn.body with
      | some c => (evCode C (ev n) n f none c ⟨Env.ofArgs 0 args, [], h⟩).bind fun (x, s) =>
        if x = .normal ∨ x = .ret then
          -- the results are read behind the deferred calls: marks change no cell
          match unmark s.ds s.h with
          | some h => match results C s.env h fn.results.toList with
            | some v => .ret (v, h)
            | none => .fail
          | none => .fail
        else .fail
      | none => match (if fn.origin = "" then ext fn.name args else none) with
        | some v => .ret (v, h)
        | none => .fail
    | none => .fail
  | n + 1, .yld k, args, h =>
    match h.get k with
    | some (.loop _ _ f e ps as b _) => match setParams e ps args with
      | some e => (evCode C (ev n) n f (some k) as ⟨e, [], h⟩).bind fun (x, s) =>
        if x = .normal then
          match s.h.get k with
          | some (.loop st p f' e' ps' as' b' d') =>
            if st = .ready then
              (evCode C (ev n) n f (some k) b { s with h := s.h.set k (.loop .busy p f' e' ps' as' b' d') }).bind fun (x, s) =>
                match s.h.get k with
                | some (.loop _ _ f e ps as b d) => match x with
                  | .normal => .ret (.bool true, s.h.set k (.loop .ready none f e ps as b d))
                  | .ret => .ret (.bool false, s.h.set k (.loop .done (some .ret) f e ps as b d))
                  | .exit id => .ret (.bool false, s.h.set k (.loop .done (some (.exit id)) f e ps as b d))
                | _ => .fail
            else .fail
          | _ => .fail
        else .fail
      | none => .fail
    | _ => .fail

end Go.Ix
namespace Go.Ix

structure En where
  blk : Nat
  base : Nat
  cap : Nat

abbrev Mu := Nat → Option En

def Mu.le (μ μ' : Mu) : Prop := ∀ k e, μ k = some e → μ' k = some e
theorem Mu.le_refl (μ : Mu) : μ.le μ := fun _ _ h => h
theorem Mu.le_trans {a b c : Mu} (h : a.le b) (g : b.le c) : a.le c := fun k e x => g k e (h k e x)

def Id.c (μ : Mu) : Id → Option Nat
  | .old b => some b
  | .new k => (μ k).map (·.blk)

def Ad.c (μ : Mu) (a : Ad) : Option Addr :=
  match a.blk with
  | .old b => some ⟨b, a.off, none⟩
  | .new k => (μ k).map fun e => ⟨e.blk, e.base + a.off, none⟩

mutual
def conc (μ : Mu) : V → Option Value
  | .bool b => some (.bool b)
  | .int k n => some (.int k n)
  | .str s => some (.string s)
  | .ptr none => some (.pointer none)
  | .ptr (some a) => (a.c μ).map fun a => .pointer (some a)
  | .slice none n (.ex c) => some (.slice none n c)
  | .slice none _ (.op _ _) => none
  | .slice (some a) n (.ex c) => (a.c μ).map fun a => .slice (some a) n c
  | .slice (some a) n (.op k pf) => match a.blk with
    | .old _ => none
    | .new j => match μ j with
      | some e => if k + n ≤ e.cap then some (.slice (some ⟨e.blk, e.base + (if e.cap = k then pf else a.off), none⟩) n (e.cap - k)) else none
      | none => none
  | .map none => some (.map none)
  | .map (some r) => (r.c μ).map fun r => .map (some r)
  | .func fn a b => match fn with
    | .func f => match concL μ a, concL μ b with
      | some a, some b => some (.func (.func f) a.toArray b.toArray)
      | _, _ => none
    | _ => none
  | .yield k => (μ k).map fun e => .func (.yield e.blk) #[] #[]
  | .nilFunc => some .nilFunc
  | .iface t v => match conc μ v with
    | some v => some (.iface t v)
    | none => none
  | .nilIface => some .nilIface
  | .agg cs => match concL μ cs with
    | some cs => some (.agg cs.toArray)
    | none => none
  | .tup cs => match concL μ cs with
    | some cs => some (.tuple cs.toArray)
    | none => none
def concL (μ : Mu) : List V → Option (List Value)
  | [] => some []
  | v :: r => match conc μ v, concL μ r with
    | some v, some r => some (v :: r)
    | _, _ => none
end

theorem Ad.c_mono {μ μ' : Mu} (h : μ.le μ') {a : Ad} {x : Addr} (hx : a.c μ = some x) : a.c μ' = some x := by
  unfold Ad.c at *
  split at hx
  · exact hx
  · rename_i k _
    cases hk : μ k with
    | none => simp [hk] at hx
    | some e => rw [h k e hk]; rw [hk] at hx; exact hx

theorem Id.c_mono {μ μ' : Mu} (h : μ.le μ') {a : Id} {x : Nat} (hx : a.c μ = some x) : a.c μ' = some x := by
  cases a with
  | old b => exact hx
  | new k =>
    simp only [Id.c] at *
    cases hk : μ k with
    | none => simp [hk] at hx
    | some e => rw [h k e hk]; rw [hk] at hx; exact hx

mutual
theorem conc_mono {μ μ' : Mu} (h : μ.le μ') : ∀ (v : V) (x : Value), conc μ v = some x → conc μ' v = some x
  | .bool b, x, hx => by simpa only [conc] using hx
  | .int k n, x, hx => by simpa only [conc] using hx
  | .str s, x, hx => by simpa only [conc] using hx
  | .ptr none, x, hx => by simpa only [conc] using hx
  | .ptr (some a), x, hx => by
    simp only [conc] at *
    cases ha : a.c μ with
    | none => simp [ha] at hx
    | some y => rw [Ad.c_mono h ha]; rw [ha] at hx; exact hx
  | .slice none n (.ex c), x, hx => by simpa only [conc] using hx
  | .slice none _ (.op _ _), x, hx => by simp only [conc] at hx; cases hx
  | .slice (some a) n (.ex c), x, hx => by
    simp only [conc] at *
    cases ha : a.c μ with
    | none => simp [ha] at hx
    | some y => rw [Ad.c_mono h ha]; rw [ha] at hx; exact hx
  | .slice (some a) n (.op k pf), x, hx => by
    simp only [conc] at *
    cases hb : a.blk with
    | old b => simp [hb] at hx
    | new j =>
      simp only [hb] at *
      cases hj : μ j with
      | none => simp [hj] at hx
      | some e => rw [hj] at hx; rw [h j e hj]; exact hx
  | .map none, x, hx => by simpa only [conc] using hx
  | .map (some r), x, hx => by
    simp only [conc] at *
    cases ha : r.c μ with
    | none => simp [ha] at hx
    | some y => rw [Id.c_mono h ha]; rw [ha] at hx; exact hx
  | .func fn a b, x, hx => by
    cases fn with
    | func f =>
      simp only [conc] at *
      cases ha : concL μ a with
      | none => simp [ha] at hx
      | some y =>
        cases hb : concL μ b with
        | none => simp [ha, hb] at hx
        | some z => rw [concL_mono h _ _ ha, concL_mono h _ _ hb]; rw [ha, hb] at hx; exact hx
    | _ => simp [conc] at hx
  | .yield k, x, hx => by
    simp only [conc] at *
    cases ha : μ k with
    | none => simp [ha] at hx
    | some y => rw [h k y ha]; rw [ha] at hx; exact hx
  | .nilFunc, x, hx => by simpa only [conc] using hx
  | .iface t v, x, hx => by
    simp only [conc] at *
    cases ha : conc μ v with
    | none => simp [ha] at hx
    | some y => rw [conc_mono h _ _ ha]; rw [ha] at hx; exact hx
  | .nilIface, x, hx => by simpa only [conc] using hx
  | .agg cs, x, hx => by
    simp only [conc] at *
    cases ha : concL μ cs with
    | none => simp [ha] at hx
    | some y => rw [concL_mono h _ _ ha]; rw [ha] at hx; exact hx
  | .tup cs, x, hx => by
    simp only [conc] at *
    cases ha : concL μ cs with
    | none => simp [ha] at hx
    | some y => rw [concL_mono h _ _ ha]; rw [ha] at hx; exact hx
theorem concL_mono {μ μ' : Mu} (h : μ.le μ') : ∀ (l : List V) (x : List Value), concL μ l = some x → concL μ' l = some x
  | [], x, hx => by simpa only [concL] using hx
  | v :: r, x, hx => by
    simp only [concL] at *
    cases ha : conc μ v with
    | none => simp [ha] at hx
    | some y =>
      cases hb : concL μ r with
      | none => simp [ha, hb] at hx
      | some z => rw [conc_mono h _ _ ha, concL_mono h _ _ hb]; rw [ha, hb] at hx; exact hx
end

/-! ### Lists -/

theorem concL_cons {μ : Mu} {v : V} {r : List V} {x : Value} {xs : List Value} (h : conc μ v = some x) (g : concL μ r = some xs) : concL μ (v :: r) = some (x :: xs) := by
  simp only [concL, h, g]

theorem concL_cons_inv {μ : Mu} {v : V} {r : List V} {ys : List Value} (h : concL μ (v :: r) = some ys) : ∃ x xs, ys = x :: xs ∧ conc μ v = some x ∧ concL μ r = some xs := by
  simp only [concL] at h
  cases hv : conc μ v with
  | none => simp [hv] at h
  | some x =>
    cases hr : concL μ r with
    | none => simp [hv, hr] at h
    | some xs => simp only [hv, hr, Option.some.injEq] at h; exact ⟨x, xs, h.symm, rfl, rfl⟩

theorem concL_length {μ : Mu} : ∀ {l : List V} {xs : List Value}, concL μ l = some xs → xs.length = l.length
  | [], xs, h => by simp only [concL, Option.some.injEq] at h; subst h; rfl
  | v :: r, xs, h => by obtain ⟨x, ys, rfl, _, h2⟩ := concL_cons_inv h; simp [concL_length h2]

theorem concL_get {μ : Mu} : ∀ {l : List V} {xs : List Value}, concL μ l = some xs → ∀ (i : Nat) (v : V), l[i]? = some v → ∃ x, xs[i]? = some x ∧ conc μ v = some x
  | [], xs, h, i, v, hi => by simp at hi
  | a :: r, xs, h, i, v, hi => by
    obtain ⟨x, ys, rfl, h1, h2⟩ := concL_cons_inv h
    cases i with
    | zero => simp at hi; subst hi; exact ⟨x, by simp, h1⟩
    | succ i => simp at hi; obtain ⟨y, hy, hc⟩ := concL_get h2 i v hi; exact ⟨y, by simpa using hy, hc⟩

theorem concL_append {μ : Mu} : ∀ {l m : List V} {xs ys : List Value}, concL μ l = some xs → concL μ m = some ys → concL μ (l ++ m) = some (xs ++ ys)
  | [], m, xs, ys, h, g => by simp only [concL, Option.some.injEq] at h; subst h; simpa using g
  | a :: r, m, xs, ys, h, g => by
    obtain ⟨x, zs, rfl, h1, h2⟩ := concL_cons_inv h
    exact concL_cons h1 (concL_append h2 g)

theorem concL_append_inv {μ : Mu} : ∀ {l m : List V} {zs : List Value}, concL μ (l ++ m) = some zs → ∃ xs ys, zs = xs ++ ys ∧ concL μ l = some xs ∧ concL μ m = some ys
  | [], m, zs, h => ⟨[], zs, rfl, rfl, h⟩
  | a :: r, m, zs, h => by
    obtain ⟨x, ys, rfl, h1, h2⟩ := concL_cons_inv h
    obtain ⟨p, q, rfl, h3, h4⟩ := concL_append_inv h2
    exact ⟨x :: p, q, rfl, concL_cons h1 h3, h4⟩

theorem concL_take {μ : Mu} {l : List V} {xs : List Value} (h : concL μ l = some xs) (n : Nat) : concL μ (l.take n) = some (xs.take n) ∧ concL μ (l.drop n) = some (xs.drop n) := by
  rw [← List.take_append_drop n l] at h
  obtain ⟨p, q, rfl, h1, h2⟩ := concL_append_inv h
  have hp := concL_length h1
  rw [h1, h2]
  rw [List.length_take] at hp
  rcases Nat.lt_or_ge n l.length with hn | hn
  · have : p.length = n := by omega
    subst this; simp
  · have hq := concL_length h2
    rw [List.length_drop] at hq
    have : q = [] := List.eq_nil_of_length_eq_zero (by omega)
    subst this
    simp [List.take_of_length_le, List.drop_eq_nil_of_le, show p.length ≤ n by omega]

theorem concL_set {μ : Mu} : ∀ {l : List V} {xs : List Value}, concL μ l = some xs → ∀ (i : Nat) {v : V} {x : Value}, conc μ v = some x → concL μ (l.set i v) = some (xs.set i x)
  | [], xs, h, i, v, x, hv => by simp only [concL, Option.some.injEq] at h; subst h; simp [concL]
  | a :: r, xs, h, i, v, x, hv => by
    obtain ⟨y, ys, rfl, h1, h2⟩ := concL_cons_inv h
    cases i with
    | zero => exact concL_cons hv h2
    | succ i => exact concL_cons h1 (concL_set h2 i hv)

/-! ### Values of the machine, read -/

theorem rd_ptr (b o : Nat) : rd (.pointer (some ⟨b, o, none⟩)) = some (.ptr (some ⟨.old b, o⟩)) := by simp only [rd]

mutual
theorem conc_rd (μ : Mu) : ∀ (x : Value) (v : V), rd x = some v → conc μ v = some x
  | .bool b, v, h => by simp only [rd, Option.some.injEq] at h; subst h; simp only [conc]
  | .int k n, v, h => by simp only [rd, Option.some.injEq] at h; subst h; simp only [conc]
  | .float k n, v, h => by simp [rd] at h
  | .complex k n m, v, h => by simp [rd] at h
  | .string s, v, h => by simp only [rd, Option.some.injEq] at h; subst h; simp only [conc]
  | .pointer none, v, h => by simp only [rd, Option.some.injEq] at h; subst h; simp only [conc]
  | .pointer (some ⟨b, o, none⟩), v, h => by simp only [rd, Option.some.injEq] at h; subst h; simp [conc, Ad.c]
  | .pointer (some ⟨b, o, some s⟩), v, h => by simp [rd] at h
  | .slice none n c, v, h => by simp only [rd, Option.some.injEq] at h; subst h; simp only [conc]
  | .slice (some ⟨b, o, none⟩) n c, v, h => by simp only [rd, Option.some.injEq] at h; subst h; simp [conc, Ad.c]
  | .slice (some ⟨b, o, some s⟩) n c, v, h => by simp [rd] at h
  | .map none, v, h => by simp only [rd, Option.some.injEq] at h; subst h; simp only [conc]
  | .map (some r), v, h => by simp only [rd, Option.some.injEq] at h; subst h; simp [conc, Id.c]
  | .chan r, v, h => by simp [rd] at h
  | .func fn a b, v, h => by
    cases fn with
    | func f =>
      simp only [rd] at h
      cases ha : rdA a with
      | none => simp [ha] at h
      | some y =>
        cases hb : rdA b with
        | none => simp [ha, hb] at h
        | some z =>
          simp only [ha, hb, Option.some.injEq] at h
          subst h
          simp only [conc, concL_rdA μ a y ha, concL_rdA μ b z hb]
    | _ => simp [rd] at h
  | .nilFunc, v, h => by simp only [rd, Option.some.injEq] at h; subst h; simp only [conc]
  | .iface t x, v, h => by
    simp only [rd] at h
    cases ha : rd x with
    | none => simp [ha] at h
    | some y => simp only [ha, Option.some.injEq] at h; subst h; simp only [conc, conc_rd μ x y ha]
  | .nilIface, v, h => by simp only [rd, Option.some.injEq] at h; subst h; simp only [conc]
  | .agg cs, v, h => by
    simp only [rd] at h
    cases ha : rdA cs with
    | none => simp [ha] at h
    | some y => simp only [ha, Option.some.injEq] at h; subst h; simp only [conc, concL_rdA μ cs y ha]
  | .tuple cs, v, h => by
    simp only [rd] at h
    cases ha : rdA cs with
    | none => simp [ha] at h
    | some y => simp only [ha, Option.some.injEq] at h; subst h; simp only [conc, concL_rdA μ cs y ha]
theorem concL_rdA (μ : Mu) : ∀ (a : Array Value) (l : List V), rdA a = some l → concL μ l = some a.toList
  | ⟨xs⟩, l, h => by simp only [rdA] at h; exact concL_rdL μ xs l h
theorem concL_rdL (μ : Mu) : ∀ (xs : List Value) (l : List V), rdL xs = some l → concL μ l = some xs
  | [], l, h => by simp only [rdL, Option.some.injEq] at h; subst h; simp only [concL]
  | x :: r, l, h => by
    simp only [rdL] at h
    cases ha : rd x with
    | none => simp [ha] at h
    | some y =>
      cases hb : rdL r with
      | none => simp [ha, hb] at h
      | some z => simp only [ha, hb, Option.some.injEq] at h; subst h; simp only [concL, conc_rd μ x y ha, concL_rdL μ r z hb]
end

/-! ### Equality -/
mutual
theorem V.beq_eq : ∀ (v w : V), V.beq v w = true → v = w
  | .bool a, w, h => by cases w <;> simp_all [V.beq]
  | .int k a, w, h => by cases w <;> simp_all [V.beq]
  | .str a, w, h => by cases w <;> simp_all [V.beq]
  | .ptr a, w, h => by cases w <;> simp_all [V.beq]
  | .slice a n c, w, h => by cases w <;> simp_all [V.beq]
  | .map a, w, h => by cases w <;> simp_all [V.beq]
  | .func f a b, w, h => by
    cases w <;> simp only [V.beq, Bool.false_eq_true, Bool.and_eq_true, decide_eq_true_eq] at h
    rw [h.1.1, V.beqL_eq _ _ h.1.2, V.beqL_eq _ _ h.2]
  | .yield a, w, h => by cases w <;> simp_all [V.beq]
  | .nilFunc, w, h => by cases w <;> simp_all [V.beq]
  | .iface t v, w, h => by
    cases w <;> simp only [V.beq, Bool.false_eq_true, Bool.and_eq_true, decide_eq_true_eq] at h
    rw [h.1, V.beq_eq _ _ h.2]
  | .nilIface, w, h => by cases w <;> simp_all [V.beq]
  | .agg a, w, h => by
    cases w <;> simp only [V.beq, Bool.false_eq_true] at h
    rw [V.beqL_eq _ _ h]
  | .tup a, w, h => by
    cases w <;> simp only [V.beq, Bool.false_eq_true] at h
    rw [V.beqL_eq _ _ h]
theorem V.beqL_eq : ∀ (v w : List V), V.beqL v w = true → v = w
  | [], w, h => by cases w <;> simp_all [V.beqL]
  | a :: r, w, h => by
    cases w <;> simp only [V.beqL, Bool.false_eq_true, Bool.and_eq_true] at h
    rw [V.beq_eq _ _ h.1, V.beqL_eq _ _ h.2]
end

mutual
theorem V.beq_self : ∀ (v : V), V.beq v v = true
  | .bool a => by simp [V.beq]
  | .int k a => by simp [V.beq]
  | .str a => by simp [V.beq]
  | .ptr a => by simp [V.beq]
  | .slice a n c => by simp [V.beq]
  | .map a => by simp [V.beq]
  | .func f a b => by simp [V.beq, V.beqL_self a, V.beqL_self b]
  | .yield a => by simp [V.beq]
  | .nilFunc => by simp [V.beq]
  | .iface t v => by simp [V.beq, V.beq_self v]
  | .nilIface => by simp [V.beq]
  | .agg a => by simp [V.beq, V.beqL_self a]
  | .tup a => by simp [V.beq, V.beqL_self a]
theorem V.beqL_self : ∀ (v : List V), V.beqL v v = true
  | [] => by simp [V.beqL]
  | a :: r => by simp [V.beqL, V.beq_self a, V.beqL_self r]
end

/-! ### Results -/

theorem T.all_mono {α : Type} {Q Q' : α → Prop} (h : ∀ a, Q a → Q' a) : ∀ t : T α, t.all Q → t.all Q'
  | .ret a, x => h a x
  | .fail, x => x
  | .ask _ k, x => fun i hi => T.all_mono h (k i) (x i hi)
  | .spec _ _ k, x => ⟨x.1, fun i hi => T.all_mono h (k i) (x.2 i hi)⟩

theorem T.all_bind {α β : Type} {Q : β → Prop} (f : α → T β) : ∀ t : T α, (t.bind f).all Q ↔ t.all fun a => (f a).all Q
  | .ret _ => Iff.rfl
  | .fail => Iff.rfl
  | .ask n k => by
    simp only [T.bind, T.all]
    exact ⟨fun h i hi => (T.all_bind f (k i)).1 (h i hi), fun h i hi => (T.all_bind f (k i)).2 (h i hi)⟩
  | .spec p q k => by
    simp only [T.bind, T.all]
    exact ⟨fun h => ⟨h.1, fun i hi => (T.all_bind f (k i)).1 (h.2 i hi)⟩, fun h => ⟨h.1, fun i hi => (T.all_bind f (k i)).2 (h.2 i hi)⟩⟩

theorem T.all_of {α : Type} {Q : α → Prop} {o : Option α} : (T.of o).all Q ↔ ∃ a, o = some a ∧ Q a := by
  cases o with
  | none => simp [T.of, T.all]
  | some a => simp [T.of, T.all]

/-! ### Temporaries -/

def ER (μ : Mu) (e : Env) (tmps : Array Value) : Prop :=
  ∀ t v, e.get t = some v → ∃ x, conc μ v = some x ∧ tmps[t]? = some x

theorem Env.get_del (e : Env) (t s : Nat) : (e.del t).get s = if s = t then none else e.get s := by
  induction e with
  | nil => simp [Env.del, Env.get]
  | cons p r ih =>
    obtain ⟨k, v⟩ := p
    simp only [Env.del]
    by_cases h : k = t
    · subst h
      simp only [if_true, ih, Env.get]
      by_cases hs : s = k
      · simp [hs]
      · rw [if_neg hs, if_neg hs, if_neg (Ne.symm hs)]
    · simp only [h, if_false, Env.get, ih]
      by_cases hk : k = s
      · subst hk; simp [h]
      · simp only [hk, if_false]

theorem Env.get_set (e : Env) (t s : Nat) (v : V) : (e.set t v).get s = if s = t then some v else e.get s := by
  induction e with
  | nil => simp only [Env.set, Env.get, eq_comm]
  | cons p r ih =>
    obtain ⟨k, u⟩ := p
    simp only [Env.set]
    split
    · simp only [Env.get]
      by_cases h : t = s
      · subst h; simp
      · rw [if_neg h, if_neg (Ne.symm h)]
    · split
      · rename_i h
        subst h
        simp only [Env.get]
        by_cases h : k = s
        · subst h; simp
        · rw [if_neg h, if_neg (Ne.symm h), if_neg h]
      · rename_i h
        simp only [Env.get, ih]
        by_cases h' : k = s
        · subst h'; rw [if_pos rfl, if_neg h]; simp
        · rw [if_neg h', if_neg h']

theorem Env.get_keep (lo : Nat) (xs : List Nat) (e : Env) (s : Nat) : (e.keep lo xs).get s = if s < lo || xs.contains s then e.get s else none := by
  induction e with
  | nil => simp [Env.keep, Env.get]
  | cons p r ih =>
    obtain ⟨k, v⟩ := p
    simp only [Env.keep]
    by_cases hk : (k < lo || xs.contains k) = true
    · rw [if_pos hk]
      simp only [Env.get, ih]
      by_cases h : k = s
      · subst h; rw [if_pos rfl, if_pos rfl, if_pos hk]
      · rw [if_neg h, if_neg h]
    · rw [if_neg hk, ih]
      by_cases h : k = s
      · subst h; rw [if_neg hk, if_neg hk]
      · simp only [Env.get, if_neg h]

theorem ER.mono {μ μ' : Mu} {e : Env} {tmps : Array Value} (h : ER μ e tmps) (hle : μ.le μ') : ER μ' e tmps := fun t v hv =>
  let ⟨x, hx, ht⟩ := h t v hv
  ⟨x, conc_mono hle _ _ hx, ht⟩

theorem ER.del {μ : Mu} {e : Env} {tmps : Array Value} (h : ER μ e tmps) (t : Nat) : ER μ (e.del t) tmps := fun s v hv => by
  rw [Env.get_del] at hv
  split at hv
  · cases hv
  · exact h s v hv

theorem ER.keep {μ : Mu} {e : Env} {tmps : Array Value} (h : ER μ e tmps) (lo : Nat) (xs : List Nat) : ER μ (e.keep lo xs) tmps := fun s v hv => by
  rw [Env.get_keep] at hv
  split at hv
  · exact h s v hv
  · cases hv

theorem ER.set {μ : Mu} {e : Env} {tmps : Array Value} (h : ER μ e tmps) {t : Nat} {v : V} {x : Value} (hv : conc μ v = some x) (hsz : t < tmps.size) : ER μ (e.set t v) (tmps.setIfInBounds t x) := fun s u hu => by
  rw [Env.get_set] at hu
  split at hu
  · rename_i hs
    subst hs
    obtain rfl := Option.some.inj hu
    exact ⟨x, hv, by simp [hsz]⟩
  · rename_i hs
    obtain ⟨y, hy, ht⟩ := h s u hu
    exact ⟨y, hy, by rw [Array.getElem?_setIfInBounds_ne (Ne.symm hs)]; exact ht⟩

end Go.Ix
namespace Go.Ix
open Go.RowKit (Below)

def Code.dstOk (n : Nat) : Code → Bool
  | .region _ ops _ => ops.all fun o => match o.dst with
    | some d => decide (d < n)
    | none => true
  | .seq a b => Code.dstOk n a && Code.dstOk n b
  | .cond _ a b => Code.dstOk n a && Code.dstOk n b
  | .block _ b => Code.dstOk n b
  | .loop b => Code.dstOk n b
  | .scope b => Code.dstOk n b
  | .rangeFunc _ ps a b => ps.all (fun t => decide (t < n)) && Code.dstOk n a && Code.dstOk n b
  | _ => true

def MR (μ : Mu) : List MapE → List MapEntry → Prop
  | [], [] => True
  | e :: r, x :: s => conc μ e.key = some x.key ∧ conc μ e.val = some x.val ∧ e.born = x.born ∧ MR μ r s
  | _, _ => False

/-- What an object of the evaluator's stands for. -/
def OR (μ : Mu) (e : En) (o : O) (ob : Obj) : Prop :=
  match o with
  | .cells vs es => ∃ c el xs, ob = .cells c el (0, 0) ∧ concL μ vs = some xs ∧ (c.toList.drop e.base).take vs.length = xs ∧ (0 < es → c.size = e.base + e.cap * es)
  | .map es ck => ∃ arr, ob = .map arr ck ∧ MR μ es arr.toList
  | .iter m since seen stepped => e.base = 0 ∧ ∃ m', ob = .mapIter m' since seen.toArray stepped ∧ (match m with
    | none => m' = none
    | some i => ∃ r, i.c μ = some r ∧ m' = some r)
  | .siter s p => e.base = 0 ∧ ob = .stringIter s p
  | .loop st p _ env ps a b d => ∃ fn tmps dn, ob = .loop { state := st, pending := p, fn, tmps, params := ps.toArray, assign := a, body := b, defers := dn.blk } ∧
      ER μ env tmps ∧ μ d = some dn ∧ (∀ t ∈ ps, t < tmps.size) ∧ Code.dstOk tmps.size a = true ∧ Code.dstOk tmps.size b = true
  | .dfr op => ob = .deferred (if op then some [] else none)
  | .dead => True

theorem MR.mono {μ μ' : Mu} (h : μ.le μ') : ∀ {l : List MapE} {m : List MapEntry}, MR μ l m → MR μ' l m
  | [], [], _ => trivial
  | _ :: _, [], x => x
  | [], _ :: _, x => x
  | _ :: _, _ :: _, ⟨a, b, c, d⟩ => ⟨conc_mono h _ _ a, conc_mono h _ _ b, c, MR.mono h d⟩

theorem OR.mono {μ μ' : Mu} (h : μ.le μ') {e : En} {o : O} {ob : Obj} (x : OR μ e o ob) : OR μ' e o ob := by
  cases o with
  | cells vs es => obtain ⟨c, el, xs, h1, h2, h3, h4⟩ := x; exact ⟨c, el, xs, h1, concL_mono h _ _ h2, h3, h4⟩
  | map es ck => obtain ⟨arr, h1, h2⟩ := x; exact ⟨arr, h1, h2.mono h⟩
  | iter m since seen stepped =>
    obtain ⟨h0, m', h1, h2⟩ := x
    refine ⟨h0, m', h1, ?_⟩
    cases m with
    | none => exact h2
    | some i => obtain ⟨r, h3, h4⟩ := h2; exact ⟨r, Id.c_mono h h3, h4⟩
  | siter s p => exact x
  | loop st p f env ps a b d => obtain ⟨fn, tmps, dn, h1, h2, h3, h4⟩ := x; exact ⟨fn, tmps, dn, h1, h2.mono h, h _ _ h3, h4⟩
  | dfr op => exact x
  | dead => trivial

structure R (w0 : World) (μ : Mu) (h : H) (w : World) : Prop where
  below : Below w0.heap.size w0 w
  fresh : ∀ k, h.next ≤ k → μ k = none
  hfresh : ∀ k, h.next ≤ k → h.get k = none
  obj : ∀ k o, h.get k = some o → o.live = true → ∃ e ob, μ k = some e ∧ w0.heap.size ≤ e.blk ∧ w.heap[e.blk]? = some ob ∧ OR μ e o ob
  inj : ∀ k k' o o' e e', h.get k = some o → o.live = true → h.get k' = some o' → o'.live = true → μ k = some e → μ k' = some e' → e.blk = e'.blk → k = k'

structure Sim (w0 : World) (μ : Mu) (h : H) (w : World) (μ' : Mu) (h' : H) (w' : World) : Prop where
  le : μ.le μ'
  rel : R w0 μ' h' w'
  size : w.heap.size ≤ w'.heap.size
  frame : ∀ b, b < w.heap.size → (∀ k o e, h.get k = some o → o.live = true → μ k = some e → e.blk ≠ b) → w'.heap[b]? = w.heap[b]?
  src : ∀ k o e, h'.get k = some o → o.live = true → μ' k = some e →
    w.heap.size ≤ e.blk ∨ ∃ j oj ej, h.get j = some oj ∧ oj.live = true ∧ μ j = some ej ∧ ej.blk = e.blk

theorem R.blk_lt {w0 : World} {μ : Mu} {h : H} {w : World} (r : R w0 μ h w) {k : Nat} {o : O} {e : En} (hk : h.get k = some o) (hl : o.live = true) (he : μ k = some e) : e.blk < w.heap.size := by
  obtain ⟨e', ob, h1, _, h3, _⟩ := r.obj k o hk hl
  rw [he] at h1
  obtain rfl := Option.some.inj h1
  exact (Array.getElem?_eq_some_iff.1 h3).1

theorem Sim.refl {w0 : World} {μ : Mu} {h : H} {w : World} (r : R w0 μ h w) : Sim w0 μ h w μ h w :=
  ⟨Mu.le_refl μ, r, Nat.le_refl _, fun _ _ _ => rfl, fun k o e hk ho he => .inr ⟨k, o, e, hk, ho, he, rfl⟩⟩

theorem Sim.trans {w0 : World} {μ μ1 μ2 : Mu} {h h1 h2 : H} {w w1 w2 : World} (a : Sim w0 μ h w μ1 h1 w1) (b : Sim w0 μ1 h1 w1 μ2 h2 w2) : Sim w0 μ h w μ2 h2 w2 where
  le := Mu.le_trans a.le b.le
  rel := b.rel
  size := Nat.le_trans a.size b.size
  frame := fun n hn hk => by
    rw [b.frame n (Nat.lt_of_lt_of_le hn a.size) ?_, a.frame n hn hk]
    intro k o e h1k ho he hb
    rcases a.src k o e h1k ho he with h' | ⟨j, oj, ej, hj, hjl, hje, hjb⟩
    · omega
    · exact hk j oj ej hj hjl hje (hjb.trans hb)
  src := fun k o e hk ho he => by
    rcases b.src k o e hk ho he with h' | ⟨j, oj, ej, hj, hjl, hje, hjb⟩
    · exact .inl (Nat.le_trans a.size h')
    · rcases a.src j oj ej hj hjl hje with h' | ⟨i, oi, ei, hi, hil, hie, hib⟩
      · exact .inl (hjb ▸ h')
      · exact .inr ⟨i, oi, ei, hi, hil, hie, hib.trans hjb⟩

/-- The tape's place alone has turned. -/
theorem Sim.drawn {w0 : World} {μ : Mu} {h : H} {w : World} (r : R w0 μ h w) (n : Nat) : Sim w0 μ h w μ h { w with drawn := n } where
  le := Mu.le_refl μ
  rel := ⟨⟨r.below.os, r.below.tape, r.below.output, r.below.size, r.below.block⟩, r.fresh, r.hfresh, r.obj, r.inj⟩
  size := Nat.le_refl _
  frame := fun _ _ _ => rfl
  src := fun k o e hk ho he => .inr ⟨k, o, e, hk, ho, he, rfl⟩

def Mu.up (μ : Mu) (k : Nat) (e : En) : Mu := fun j => if j = k then some e else μ j

theorem Mu.le_up {μ : Mu} {k : Nat} {e : En} (h : μ k = none) : μ.le (μ.up k e) := fun j x hj => by
  unfold Mu.up
  by_cases hjk : j = k
  · subst hjk; rw [h] at hj; cases hj
  · rw [if_neg hjk]; exact hj

theorem Mu.up_self {μ : Mu} {k : Nat} {e : En} : μ.up k e k = some e := by simp [Mu.up]

/-- A new block. -/
theorem Sim.push {w0 : World} {μ : Mu} {h : H} {w : World} (r : R w0 μ h w) (o : O) (ob : Obj) (base cap : Nat) (ho : OR μ ⟨w.heap.size, base, cap⟩ o ob) :
    Sim w0 μ h w (μ.up h.next ⟨w.heap.size, base, cap⟩) (h.push o) (w.alloc ob) := by
  have hle : μ.le (μ.up h.next ⟨w.heap.size, base, cap⟩) := Mu.le_up (r.fresh _ (Nat.le_refl _))
  have hold : ∀ b, b < w.heap.size → (w.alloc ob).heap[b]? = w.heap[b]? := fun b hb => by
    show (w.heap.push ob)[b]? = _
    rw [Array.getElem?_push, if_neg (by omega)]
  have hnew : (w.alloc ob).heap[w.heap.size]? = some ob := by show (w.heap.push ob)[w.heap.size]? = _; simp
  have hsz : w0.heap.size ≤ w.heap.size := r.below.size
  refine ⟨hle, ⟨⟨r.below.os, r.below.tape, r.below.output, by rw [World.size_alloc]; omega, fun b hb => (hold b (by omega)).trans (r.below.block b hb)⟩, ?_, ?_, ?_, ?_⟩, by rw [World.size_alloc]; omega, fun b hb _ => hold b hb, ?_⟩
  · intro k hk
    simp only [H.next_push] at hk
    unfold Mu.up
    rw [if_neg (by omega)]
    exact r.fresh k (by omega)
  · intro k hk
    simp only [H.next_push] at hk
    rw [H.get_push, if_neg (by omega)]
    exact r.hfresh k (by omega)
  · intro k o' hk hl
    rw [H.get_push] at hk
    split at hk
    · rename_i hkn
      subst hkn
      obtain rfl := Option.some.inj hk
      exact ⟨_, ob, Mu.up_self, hsz, hnew, ho.mono hle⟩
    · obtain ⟨e, ob', h1, h2, h3, h4⟩ := r.obj k o' hk hl
      exact ⟨e, ob', hle k e h1, h2, (hold _ (r.blk_lt hk hl h1)).trans h3, h4.mono hle⟩
  · intro k k' o1 o2 e e' hk hl hk' hl' he he' hb
    rw [H.get_push] at hk hk'
    unfold Mu.up at he he'
    split at hk <;> split at hk'
    · omega
    · rename_i h1 h2
      subst h1
      rw [if_pos rfl] at he
      rw [if_neg h2] at he'
      obtain rfl := Option.some.inj he
      have := r.blk_lt hk' hl' he'
      simp only at hb
      omega
    · rename_i h1 h2
      subst h2
      rw [if_neg h1] at he
      rw [if_pos rfl] at he'
      obtain rfl := Option.some.inj he'
      have := r.blk_lt hk hl he
      simp only at hb
      omega
    · rename_i h1 h2
      rw [if_neg h1] at he
      rw [if_neg h2] at he'
      exact r.inj k k' o1 o2 e e' hk hl hk' hl' he he' hb
  · intro k o' e hk hl he
    rw [H.get_push] at hk
    unfold Mu.up at he
    split at hk
    · rename_i h1
      rw [if_pos h1] at he
      obtain rfl := Option.some.inj he
      exact .inl (Nat.le_refl _)
    · rename_i h1
      rw [if_neg h1] at he
      exact .inr ⟨k, o', e, hk, hl, he, rfl⟩

/-- A block is written. -/
theorem Sim.set {w0 : World} {μ : Mu} {h : H} {w w' : World} (r : R w0 μ h w) {k : Nat} {o o' : O} {e : En} {ob' : Obj} (hk : h.get k = some o) (hl : o.live = true) (he : μ k = some e)
    (hos : w'.os = w.os) (ht : w'.tape = w.tape) (hout : w'.output = w.output) (hsz : w'.heap.size = w.heap.size)
    (hb : ∀ b, w'.heap[b]? = if b = e.blk then some ob' else w.heap[b]?) (ho : OR μ e o' ob') :
    Sim w0 μ h w μ (h.set k o') w' := by
  obtain ⟨e1, ob1, he1, hge, _, _⟩ := r.obj k o hk hl
  rw [he] at he1
  obtain rfl := Option.some.inj he1
  refine ⟨Mu.le_refl μ, ⟨⟨hos.trans r.below.os, ht.trans r.below.tape, hout.trans r.below.output, by rw [hsz]; exact r.below.size, fun b hb' => ?_⟩, r.fresh, ?_, ?_, ?_⟩, by rw [hsz]; exact Nat.le_refl _, ?_, ?_⟩
  · rw [hb, if_neg (by omega)]; exact r.below.block b hb'
  · intro j hj
    simp only [H.next_set] at hj
    rw [H.get_set]
    split
    · rename_i h1; subst h1; rw [r.hfresh _ hj] at hk; cases hk
    · exact r.hfresh j hj
  · intro j oj hj hjl
    rw [H.get_set] at hj
    split at hj
    · rename_i h1
      subst h1
      obtain rfl := Option.some.inj hj
      exact ⟨e, ob', he, hge, by rw [hb, if_pos rfl], ho⟩
    · rename_i h1
      obtain ⟨ej, obj, h2, h3, h4, h5⟩ := r.obj j oj hj hjl
      refine ⟨ej, obj, h2, h3, ?_, h5⟩
      rw [hb, if_neg]
      · exact h4
      · intro hbb
        exact h1 (r.inj j k oj o ej e hj hjl hk hl h2 he hbb)
  · intro j j' o1 o2 e1 e2 hj hjl hj' hjl' he1 he2 hbb
    have key : ∀ i oi, (h.set k o').get i = some oi → oi.live = true → ∃ oi', h.get i = some oi' ∧ oi'.live = true := by
      intro i oi hi hil
      rw [H.get_set] at hi
      split at hi
      · rename_i h1; subst h1; exact ⟨o, hk, hl⟩
      · exact ⟨oi, hi, hil⟩
    obtain ⟨a, ha, hal⟩ := key j o1 hj hjl
    obtain ⟨b, hb', hbl⟩ := key j' o2 hj' hjl'
    exact r.inj j j' a b e1 e2 ha hal hb' hbl he1 he2 hbb
  · intro b hb' hk'
    rw [hb, if_neg]
    intro hbb
    exact hk' k o e hk hl he hbb.symm
  · intro j oj ej hj hjl hje
    rw [H.get_set] at hj
    split at hj
    · rename_i h1; subst h1; exact .inr ⟨j, o, ej, hk, hl, hje, rfl⟩
    · exact .inr ⟨j, oj, ej, hj, hjl, hje, rfl⟩

/-- A block is forgotten. -/
theorem Sim.kill {w0 : World} {μ : Mu} {h : H} {w : World} (r : R w0 μ h w) {k : Nat} {o : O} (hk : h.get k = some o) : Sim w0 μ h w μ (h.set k .dead) w := by
  have key : ∀ i oi, (h.set k .dead).get i = some oi → oi.live = true → h.get i = some oi := by
    intro i oi hi hil
    rw [H.get_set] at hi
    split at hi
    · obtain rfl := Option.some.inj hi; cases hil
    · exact hi
  refine ⟨Mu.le_refl μ, ⟨r.below, r.fresh, ?_, fun j oj hj hjl => r.obj j oj (key j oj hj hjl) hjl,
    fun j j' o1 o2 e1 e2 hj hjl hj' hjl' => r.inj j j' o1 o2 e1 e2 (key j o1 hj hjl) hjl (key j' o2 hj' hjl') hjl'⟩, Nat.le_refl _, fun _ _ _ => rfl,
    fun j oj ej hj hjl hje => .inr ⟨j, oj, ej, key j oj hj hjl, hjl, hje, rfl⟩⟩
  intro j hj
  simp only [H.next_set] at hj
  rw [H.get_set]
  split
  · rename_i h1; subst h1; rw [r.hfresh _ hj] at hk; cases hk
  · exact r.hfresh j hj

/-- A block changes hands: the old number is dead, a new one stands for the same block, written. -/
theorem Sim.move {w0 : World} {μ : Mu} {h : H} {w w' : World} (r : R w0 μ h w) {k : Nat} {o o' : O} {e : En} {ob' : Obj} (base cap : Nat) (hk : h.get k = some o) (hl : o.live = true) (he : μ k = some e)
    (hos : w'.os = w.os) (ht : w'.tape = w.tape) (hout : w'.output = w.output) (hsz : w'.heap.size = w.heap.size)
    (hb : ∀ b, w'.heap[b]? = if b = e.blk then some ob' else w.heap[b]?) (ho : OR μ ⟨e.blk, base, cap⟩ o' ob') :
    Sim w0 μ h w (μ.up h.next ⟨e.blk, base, cap⟩) ((h.set k .dead).push o') w' := by
  obtain ⟨e1, ob1, he1, hge, _, _⟩ := r.obj k o hk hl
  rw [he] at he1
  obtain rfl := Option.some.inj he1
  have hle : μ.le (μ.up h.next ⟨e.blk, base, cap⟩) := Mu.le_up (r.fresh _ (Nat.le_refl _))
  have hkn : k ≠ h.next := by rintro rfl; rw [r.hfresh _ (Nat.le_refl _)] at hk; cases hk
  have key : ∀ i oi, ((h.set k .dead).push o').get i = some oi → oi.live = true → (i = h.next ∧ oi = o') ∨ (i ≠ h.next ∧ i ≠ k ∧ h.get i = some oi) := by
    intro i oi hi hil
    rw [H.get_push] at hi
    by_cases h1 : i = (h.set k .dead).next
    · rw [if_pos h1] at hi; exact .inl ⟨h1, (Option.some.inj hi).symm⟩
    · rw [if_neg h1, H.get_set] at hi
      by_cases h2 : i = k
      · rw [if_pos h2] at hi; obtain rfl := Option.some.inj hi; cases hil
      · rw [if_neg h2] at hi; exact .inr ⟨h1, h2, hi⟩
  have hup : ∀ i ei, i ≠ h.next → (μ.up h.next ⟨e.blk, base, cap⟩) i = some ei → μ i = some ei := fun i ei hi hei => by
    unfold Mu.up at hei; rwa [if_neg hi] at hei
  refine ⟨hle, ⟨⟨hos.trans r.below.os, ht.trans r.below.tape, hout.trans r.below.output, by rw [hsz]; exact r.below.size, fun b hb' => ?_⟩, ?_, ?_, ?_, ?_⟩, by rw [hsz]; exact Nat.le_refl _, ?_, ?_⟩
  · rw [hb, if_neg (by omega)]; exact r.below.block b hb'
  · intro j hj
    simp only [H.next_push, H.next_set] at hj
    unfold Mu.up
    rw [if_neg (by omega)]
    exact r.fresh j (by omega)
  · intro j hj
    simp only [H.next_push, H.next_set] at hj
    rw [H.get_push, if_neg (by simp; omega), H.get_set]
    split
    · rename_i h1; subst h1; rw [r.hfresh _ (by omega)] at hk; cases hk
    · exact r.hfresh j (by omega)
  · intro j oj hj hjl
    rcases key j oj hj hjl with ⟨rfl, rfl⟩ | ⟨h1, h2, h3⟩
    · exact ⟨_, ob', Mu.up_self, hge, by rw [hb, if_pos rfl], ho.mono hle⟩
    · obtain ⟨ej, obj, h4, h5, h6, h7⟩ := r.obj j oj h3 hjl
      refine ⟨ej, obj, hle _ _ h4, h5, ?_, h7.mono hle⟩
      rw [hb, if_neg]
      · exact h6
      · intro hbb
        exact h2 (r.inj j k oj o ej e h3 hjl hk hl h4 he hbb)
  · intro j j' o1 o2 e1 e2 hj hjl hj' hjl' he1 he2 hbb
    rcases key j o1 hj hjl with ⟨rfl, rfl⟩ | ⟨h1, h2, h3⟩ <;> rcases key j' o2 hj' hjl' with ⟨rfl, rfl⟩ | ⟨h1', h2', h3'⟩
    · rfl
    · rw [Mu.up_self] at he1
      obtain rfl := Option.some.inj he1
      have := hup _ _ h1' he2
      exact absurd (r.inj k j' o o2 e e2 hk hl h3' hjl' he this hbb).symm h2'
    · rw [Mu.up_self] at he2
      obtain rfl := Option.some.inj he2
      have := hup _ _ h1 he1
      exact absurd (r.inj j k o1 o e1 e h3 hjl hk hl this he hbb) h2
    · exact r.inj j j' o1 o2 e1 e2 h3 hjl h3' hjl' (hup _ _ h1 he1) (hup _ _ h1' he2) hbb
  · intro b hb' hk'
    rw [hb, if_neg]
    intro hbb
    exact hk' k o e hk hl he hbb.symm
  · intro j oj ej hj hjl hje
    rcases key j oj hj hjl with ⟨rfl, rfl⟩ | ⟨h1, h2, h3⟩
    · rw [Mu.up_self] at hje
      obtain rfl := Option.some.inj hje
      exact .inr ⟨k, o, e, hk, hl, he, rfl⟩
    · exact .inr ⟨j, oj, ej, h3, hjl, hup _ _ h1 hje, rfl⟩

end Go.Ix
namespace Go.Ix
open Go.RowKit (Below)

structure TIok (P : Program) (t : TypeId) (i : TI) : Prop where
  und : P.underlying t = some i.und
  info : ∃ f z, P.info? t = some f ∧ f.size = i.size ∧ f.bytes = i.bytes ∧ f.zero = some z ∧ (∀ μ, conc μ (zeroV i) = some z) ∧ (∀ μ, concL μ i.zero = some z.cells.toList)
  zlen : i.zero.length = i.size
  flat : i.flat = true → P.eqGuardType P.depth t = false ∧ ∀ (w : World) (xs ys : List V) (X Y : List Value) (μ : Mu) (b : Bool), flatEq xs ys = some b → xs.length = i.size → fits i.zero xs = true → concL μ xs = some X → concL μ ys = some Y →
    (Op.equal t (.agg X.toArray) (.agg Y.toArray)).run P w = .ok b w

structure Good (C : Cfg) (w0 : World) : Prop where
  ti : ∀ t i, C.ti t = some i → TIok C.P t i
  old : ∀ b o v, C.old b o = some v → ∃ x, (∀ μ, conc μ v = some x) ∧ w0.cell? ⟨b, o, none⟩ = some x
  mixed : C.P.follows .mixedOrders = true
  dst : ∀ (f : FuncId) (fn : Func) (c : Code), C.P.funcs[f]? = some fn → fn.body = some c → Code.dstOk fn.ntmps c = true

section
variable {C : Cfg} {w0 : World} {μ : Mu} {h : H} {w : World} {e : Env} {a : Act}

theorem opd_sound (he : ER μ e a.tmps) {x : Operand} {v : V} (hx : opd e x = some v) : conc μ v = some (a.eval x) := by
  cases x with
  | tmp t =>
    obtain ⟨y, h1, h2⟩ := he t v hx
    simp only [Act.eval, Array.getD_eq_getD_getElem?, h2, Option.getD_some]
    exact h1
  | const u => exact conc_rd μ u v hx
  | global g => simp only [opd, Option.some.injEq] at hx; subst hx; simp [conc, Ad.c, Act.eval]
  | func f => simp only [opd, Option.some.injEq] at hx; subst hx; simp [conc, concL, Act.eval]

theorem opds_sound (he : ER μ e a.tmps) : ∀ {l : List Operand} {vs : List V}, opds e l = some vs → concL μ vs = some (l.map a.eval)
  | [], vs, hx => by simp only [opds, Option.some.injEq] at hx; subst hx; rfl
  | x :: r, vs, hx => by
    simp only [opds] at hx
    cases h1 : opd e x with
    | none => simp [h1] at hx
    | some v =>
      cases h2 : opds e r with
      | none => simp [h1, h2] at hx
      | some us =>
        simp only [h1, h2, Option.some.injEq] at hx
        subst hx
        exact concL_cons (opd_sound he h1) (opds_sound he h2)

/-! Kinds of values, told by what they stand for. -/
theorem conc_int {k : IntKind} {n : Int} {x : Value} (hx : conc μ (.int k n) = some x) : x = .int k n := by simpa only [conc, Option.some.injEq, eq_comm] using hx
theorem conc_bool {b : Bool} {x : Value} (hx : conc μ (.bool b) = some x) : x = .bool b := by simpa only [conc, Option.some.injEq, eq_comm] using hx
theorem conc_str {s : ByteArray} {x : Value} (hx : conc μ (.str s) = some x) : x = .string s := by simpa only [conc, Option.some.injEq, eq_comm] using hx
theorem conc_ptr {ad : Ad} {x : Value} (hx : conc μ (.ptr (some ad)) = some x) : ∃ y, ad.c μ = some y ∧ x = .pointer (some y) := by
  simp only [conc] at hx
  cases hy : ad.c μ with
  | none => simp [hy] at hx
  | some y => exact ⟨y, rfl, by simpa [hy, eq_comm] using hx⟩
theorem conc_agg {cs : List V} {x : Value} (hx : conc μ (.agg cs) = some x) : ∃ ys, concL μ cs = some ys ∧ x = .agg ys.toArray := by
  simp only [conc] at hx
  cases hy : concL μ cs with
  | none => simp [hy] at hx
  | some ys => exact ⟨ys, rfl, by simpa [hy, eq_comm] using hx⟩
theorem conc_tup {cs : List V} {x : Value} (hx : conc μ (.tup cs) = some x) : ∃ ys, concL μ cs = some ys ∧ x = .tuple ys.toArray := by
  simp only [conc] at hx
  cases hy : concL μ cs with
  | none => simp [hy] at hx
  | some ys => exact ⟨ys, rfl, by simpa [hy, eq_comm] using hx⟩
theorem conc_iface {t : TypeId} {v : V} {x : Value} (hx : conc μ (.iface t v) = some x) : ∃ y, conc μ v = some y ∧ x = .iface t y := by
  simp only [conc] at hx
  cases hy : conc μ v with
  | none => simp [hy] at hx
  | some y => exact ⟨y, rfl, by simpa [hy, eq_comm] using hx⟩
theorem conc_map {i : Id} {x : Value} (hx : conc μ (.map (some i)) = some x) : ∃ r, i.c μ = some r ∧ x = .map (some r) := by
  simp only [conc] at hx
  cases hy : i.c μ with
  | none => simp [hy] at hx
  | some y => exact ⟨y, rfl, by simpa [hy, eq_comm] using hx⟩
theorem conc_slice {o : Option Ad} {n : Nat} {c : Cap} {x : Value} (hx : conc μ (.slice o n c) = some x) : ∃ p m, x = .slice p n m := by
  cases o with
  | none => cases c with
    | ex c => simp only [conc, Option.some.injEq] at hx; exact ⟨_, _, hx.symm⟩
    | op k pf => simp [conc] at hx
  | some ad => cases c with
    | ex c =>
      simp only [conc] at hx
      cases hy : ad.c μ with
      | none => simp [hy] at hx
      | some y => exact ⟨some y, c, by simpa [hy, eq_comm] using hx⟩
    | op k pf =>
      simp only [conc] at hx
      cases hb : ad.blk with
      | old b => simp [hb] at hx
      | new j =>
        simp only [hb] at hx
        cases hj : μ j with
        | none => simp [hj] at hx
        | some en =>
          simp only [hj] at hx
          split at hx
          · exact ⟨_, _, (Option.some.inj hx).symm⟩
          · cases hx
/-- A slice that shows something lies where its place says. -/
theorem conc_slice_some {ad : Ad} {n : Nat} {c : Cap} {x : Value} (hx : conc μ (.slice (some ad) n c) = some x) (hn : 0 < n) : ∃ y m, ad.c μ = some y ∧ x = .slice (some y) n m := by
  cases c with
  | ex c =>
    simp only [conc] at hx
    cases hy : ad.c μ with
    | none => simp [hy] at hx
    | some y => exact ⟨y, c, rfl, by simpa [hy, eq_comm] using hx⟩
  | op k pf =>
    simp only [conc] at hx
    cases hb : ad.blk with
    | old b => simp [hb] at hx
    | new j =>
      simp only [hb] at hx
      cases hj : μ j with
      | none => simp [hj] at hx
      | some en =>
        simp only [hj] at hx
        split at hx
        · rename_i hle
          have : ¬ en.cap = k := by omega
          rw [if_neg this] at hx
          exact ⟨⟨en.blk, en.base + ad.off, none⟩, _, by simp [Ad.c, hb, hj], (Option.some.inj hx).symm⟩
        · cases hx

theorem Ad.c_add {ad : Ad} {y : Addr} (hy : ad.c μ = some y) (n : Nat) : (ad.add n).c μ = some (y.add n) ∧ y.spot = none := by
  unfold Ad.c at *
  simp only [Ad.add]
  split at hy
  · obtain rfl := Option.some.inj hy
    refine ⟨?_, rfl⟩
    unfold Addr.add
    split
    · rename_i h0; subst h0; rfl
    · rfl
  · rename_i k _
    cases hk : μ k with
    | none => simp [hk] at hy
    | some en =>
      simp only [hk, Option.map_some, Option.some.injEq] at hy
      subst hy
      refine ⟨?_, rfl⟩
      unfold Addr.add
      split
      · rename_i h0; subst h0; rfl
      · simp [Nat.add_assoc]

/-! Types -/
theorem run_und (G : Good C w0) {t : TypeId} {i : TI} (hi : C.ti t = some i) (w : World) : (underlying t).run C.P w = .ok i.und w := run_underlying (G.ti t i hi).und w
theorem run_size (G : Good C w0) {t : TypeId} {i : TI} (hi : C.ti t = some i) (w : World) : (sizeOf t).run C.P w = .ok i.size w := by
  obtain ⟨f, z, h1, h2, _⟩ := (G.ti t i hi).info
  simp [sizeOf, typeInfo, h1, h2]
theorem run_tinfo (G : Good C w0) {t : TypeId} {i : TI} (hi : C.ti t = some i) (w : World) : ∃ f z, (typeInfo t).run C.P w = .ok f w ∧ f.size = i.size ∧ f.bytes = i.bytes ∧ f.zero = some z ∧ (∀ μ, conc μ (zeroV i) = some z) ∧ (∀ μ, concL μ i.zero = some z.cells.toList) := by
  obtain ⟨f, z, h1, h2⟩ := (G.ti t i hi).info
  exact ⟨f, z, by simp [typeInfo, h1], h2⟩
theorem run_zero (G : Good C w0) {t : TypeId} {i : TI} (hi : C.ti t = some i) (w : World) : ∃ z, (zeroValue t).run C.P w = .ok z w ∧ (∀ μ, conc μ (zeroV i) = some z) ∧ (∀ μ, concL μ i.zero = some z.cells.toList) := by
  obtain ⟨f, z, h1, h2, h3, h4, h5⟩ := (G.ti t i hi).info
  exact ⟨z, by simp [zeroValue, typeInfo, h1, h4], h5⟩
theorem run_agg (G : Good C w0) {t : TypeId} {i : TI} (hi : C.ti t = some i) (w : World) : (isAgg t).run C.P w = .ok (isAggD i.und) w := by
  simp only [isAgg, Sem.run_bind, run_und G hi, Result.andThen_ok]
  cases i.und <;> rfl

/-! Memory -/
theorem ld_sound (G : Good C w0) (r : R w0 μ h w) {ad : Ad} {v : V} (hv : ld C ad h = some v) {y : Addr} (hy : ad.c μ = some y) : ∃ x, conc μ v = some x ∧ w.cell? y = some x := by
  unfold ld at hv
  unfold Ad.c at hy
  cases hb : ad.blk with
  | old b =>
    simp only [hb] at hv hy
    obtain rfl := Option.some.inj hy
    obtain ⟨x, h1, h2⟩ := G.old b ad.off v hv
    refine ⟨x, h1 μ, ?_⟩
    have hlt : b < w0.heap.size := World.block_lt_of_cell? w0 _ h2
    rw [← h2]
    unfold World.cell?
    rw [r.below.block b hlt]
  | new k =>
    simp only [hb] at hv hy
    cases hk : h.get k with
    | none => simp [hk] at hv
    | some o =>
      cases o <;> simp only [hk] at hv <;> try (cases hv; done)
      rename_i vs es
      obtain ⟨en, ob, h1, h2, h3, c, el, xs, h4, h5, h6, h7⟩ := r.obj k _ hk rfl
      rw [h1] at hy
      simp only [Option.map_some, Option.some.injEq] at hy
      subst hy
      obtain ⟨x, hx1, hx2⟩ := concL_get h5 _ v hv
      refine ⟨x, hx2, ?_⟩
      subst h4
      have hlt : ad.off < vs.length := (List.getElem?_eq_some_iff.1 hv).1
      simp only [World.cell?, h3]
      rw [← h6, List.getElem?_take_of_lt hlt, List.getElem?_drop] at hx1
      simpa using hx1

theorem ldN_sound (G : Good C w0) (r : R w0 μ h w) : ∀ (n : Nat) {ad : Ad} {vs : List V}, ldN C ad n h = some vs → ∀ {y : Addr}, ad.c μ = some y →
    ∃ xs, concL μ vs = some xs ∧ xs.length = n ∧ ∀ j x, xs[j]? = some x → w.cell? (y.add j) = some x
  | 0, ad, vs, hv, y, hy => by
    simp only [ldN, Option.some.injEq] at hv
    subst hv
    exact ⟨[], rfl, rfl, fun j x hj => by simp at hj⟩
  | n + 1, ad, vs, hv, y, hy => by
    simp only [ldN] at hv
    cases h1 : ld C ad h with
    | none => simp [h1] at hv
    | some v =>
      cases h2 : ldN C (ad.add 1) n h with
      | none => simp [h1, h2] at hv
      | some us =>
        simp only [h1, h2, Option.some.injEq] at hv
        subst hv
        obtain ⟨x, hx, hc⟩ := ld_sound G r h1 hy
        obtain ⟨xs, g1, g2, g3⟩ := ldN_sound G r n h2 (Ad.c_add hy 1).1
        refine ⟨x :: xs, concL_cons hx g1, by simp [g2], ?_⟩
        intro j z hj
        cases j with
        | zero => simp at hj; subst hj; simpa [Addr.add] using hc
        | succ j =>
          simp only [List.getElem?_cons_succ] at hj
          have := g3 j z hj
          have hs := (Ad.c_add hy 0).2
          have e1 : (y.add 1).add j = y.add (j + 1) := by
            unfold Addr.add
            by_cases hj0 : j = 0
            · subst hj0; simp
            · simp [hj0]; omega
          rw [← e1]; exact this

theorem ldN_run (G : Good C w0) (r : R w0 μ h w) {n : Nat} {ad : Ad} {vs : List V} (hv : ldN C ad n h = some vs) {y : Addr} (hy : ad.c μ = some y) :
    ∃ xs, concL μ vs = some xs ∧ (loadCells y n).run C.P w = .ok xs.toArray w := by
  obtain ⟨xs, h1, h2, h3⟩ := ldN_sound G r n hv hy
  subst h2
  exact ⟨xs, h1, run_loadCells_list w y xs h3⟩

theorem ldT_sound (G : Good C w0) (r : R w0 μ h w) {t : TypeId} {ad : Ad} {v : V} (hv : ldT C t ad h = some v) {y : Addr} (hy : ad.c μ = some y) :
    ∃ x, conc μ v = some x ∧ (loadVar t y).run C.P w = .ok x w := by
  unfold ldT at hv
  cases hi : C.ti t with
  | none => simp [hi] at hv
  | some i =>
    simp only [hi] at hv
    simp only [loadVar, Sem.run_bind, run_agg G hi, Result.andThen_ok]
    cases hagg : isAggD i.und with
    | true =>
      simp only [hagg, if_true] at hv
      cases hl : ldN C ad i.size h with
      | none => simp [hl] at hv
      | some vs =>
        simp only [hl, Option.map_some, Option.some.injEq] at hv
        subst hv
        obtain ⟨xs, h1, h2⟩ := ldN_run G r hl hy
        exact ⟨.agg xs.toArray, by simp [conc, h1], by simp [run_size G hi, h2]⟩
    | false =>
      simp only [hagg, Bool.false_eq_true, if_false] at hv
      obtain ⟨x, h1, h2⟩ := ld_sound G r hv hy
      exact ⟨x, h1, by simp [h2]⟩

end
end Go.Ix
namespace Go.Ix
open Go.RowKit (Below)
section
variable {C : Cfg} {w0 : World} {μ : Mu} {h : H} {w : World} {e : Env} {a : Act} {o : Oper} {v : V}

/-- What is to be shown of a reading operation. -/
def RdOk (C : Cfg) (μ : Mu) (w : World) (a : Act) (o : Oper) (v : V) : Prop := ∃ x, conc μ v = some x ∧ (execOp a.eval o).run C.P w = .ok (.value x) w

theorem read_move (he : ER μ e a.tmps) {x : Operand} (ho : o.op = .move x ∨ o.op = .assign x) (hv : opd e x = some v) : RdOk C μ w a o v := by
  refine ⟨_, opd_sound he hv, ?_⟩
  rcases ho with ho | ho <;> simp [execOp, ho]

theorem read_pick (he : ER μ e a.tmps) {c x y : Operand} (ho : o.op = .pick c x y) (hv : evR C (.pick c x y) e h = some v) : RdOk C μ w a o v := by
  simp only [evR] at hv
  split at hv
  · rename_i hc
    refine ⟨_, opd_sound he hv, ?_⟩
    simp [execOp, ho, asBool, conc_bool (opd_sound he hc)]
  · rename_i hc
    refine ⟨_, opd_sound he hv, ?_⟩
    simp [execOp, ho, asBool, conc_bool (opd_sound he hc)]
  · cases hv

theorem read_load (G : Good C w0) (r : R w0 μ h w) (he : ER μ e a.tmps) {t : TypeId} {x : Operand} (ho : o.op = .load t x) (hv : evR C (.load t x) e h = some v) : RdOk C μ w a o v := by
  simp only [evR] at hv
  split at hv
  · rename_i ad hc
    obtain ⟨y, hy, hx⟩ := conc_ptr (opd_sound he hc)
    obtain ⟨z, h1, h2⟩ := ldT_sound G r hv hy
    exact ⟨z, h1, by simp [execOp, ho, Instr.loadAt, Instr.sureAddr, hx, h2]⟩
  · cases hv

theorem read_nilCheck (he : ER μ e a.tmps) {x : Operand} (ho : o.op = .nilCheck x) (hv : evR C (.nilCheck x) e h = some v) : RdOk C μ w a o v := by
  simp only [evR] at hv
  split at hv <;> (try (cases hv; done)) <;> rename_i hc <;> obtain rfl := Option.some.inj hv <;> have hx := opd_sound he hc <;> refine ⟨_, hx, ?_⟩
  · obtain ⟨y, hy, hx'⟩ := conc_ptr hx; simp [execOp, ho, hx']
  · simp only [conc] at hx
    split at hx
    · simp [execOp, ho, ← Option.some.inj hx]
    · cases hx
  · simp only [conc] at hx
    rename_i k
    cases hk : μ k with
    | none => simp [hk] at hx
    | some en => simp only [hk, Option.map_some, Option.some.injEq] at hx; simp [execOp, ho, ← hx]
  · obtain ⟨y, hy, hx'⟩ := conc_iface hx; simp [execOp, ho, hx']
  · rename_i m
    cases m with
    | none => simp only [conc, Option.some.injEq] at hx; simp [execOp, ho, ← hx]
    | some i => obtain ⟨y, hy, hx'⟩ := conc_map hx; simp [execOp, ho, hx']

theorem read_unOp (he : ER μ e a.tmps) {op : UnOp} {t : TypeId} {x : Operand} (ho : o.op = .unOp op t x) (hv : evR C (.unOp op t x) e h = some v) : RdOk C μ w a o v := by
  simp only [evR] at hv
  cases hc : opd e x with
  | none => simp [hc] at hv
  | some u =>
    simp only [hc] at hv
    have hx := opd_sound he hc
    unfold unV at hv
    split at hv
    · obtain rfl := Option.some.inj hv
      exact ⟨_, rfl, by simp [execOp, ho, conc_int hx, Op.unary, Op.intArith]⟩
    · obtain rfl := Option.some.inj hv
      exact ⟨_, rfl, by simp [execOp, ho, conc_bool hx, Op.unary]⟩
    · cases hv

theorem read_extract (he : ER μ e a.tmps) {x : Operand} {k : Nat} (ho : o.op = .extract x k) (hv : evR C (.extract x k) e h = some v) : RdOk C μ w a o v := by
  simp only [evR] at hv
  split at hv
  · rename_i vs hc
    obtain ⟨ys, h1, h2⟩ := conc_tup (opd_sound he hc)
    obtain ⟨y, h3, h4⟩ := concL_get h1 k v hv
    exact ⟨y, h4, by simp [execOp, ho, h2, Instr.extract, h3]⟩
  · cases hv

theorem read_makeInterface (G : Good C w0) (he : ER μ e a.tmps) {t : TypeId} {x : Operand} (ho : o.op = .makeInterface t x) (hv : evR C (.makeInterface t x) e h = some v) : RdOk C μ w a o v := by
  simp only [evR] at hv
  split at hv
  · rename_i i u hi hc
    have hx := opd_sound he hc
    split at hv
    · cases hv
    · rename_i hne
      obtain rfl := Option.some.inj hv
      refine ⟨.iface t (a.eval x), by simp [conc, hx], ?_⟩
      simp only [execOp, ho, Instr.makeInterface, Sem.run_bind, run_und G hi, Result.andThen_ok]
      cases hu : i.und <;> simp_all
  · cases hv

theorem read_makeFunc (he : ER μ e a.tmps) {fn : Fn} {x y : Array Operand} (ho : o.op = .makeFunc fn x y) (hv : evR C (.makeFunc fn x y) e h = some v) : RdOk C μ w a o v := by
  cases fn with
  | func f =>
    simp only [evR] at hv
    split at hv
    · rename_i p q hp hq
      obtain rfl := Option.some.inj hv
      have h1 := opds_sound he hp
      have h2 := opds_sound he hq
      refine ⟨.func (.func f) (x.map a.eval) (y.map a.eval), ?_, by simp [execOp, ho, Instr.makeFunc]⟩
      simp only [conc, h1, h2, Option.some.injEq, Value.func.injEq, true_and]
      exact ⟨by simp [← Array.toList_map], by simp [← Array.toList_map]⟩
    · cases hv
  | _ => simp [evR] at hv

theorem fieldPlaces_sound (G : Good C w0) {fs : Array Field} {f off size : Nat} (hp : fieldPlaces C fs f = some (off, size)) (w : World) :
    ∃ fl, fs[f]? = some fl ∧ fl.offset = off ∧ (sizeOf fl.type).run C.P w = .ok size w := by
  unfold fieldPlaces at hp
  cases hf : fs[f]? with
  | none => simp [hf] at hp
  | some fl =>
    simp only [hf] at hp
    cases hj : C.ti fl.type with
    | none => simp [hj] at hp
    | some j =>
      simp only [hj, Option.some.injEq, Prod.mk.injEq] at hp
      exact ⟨fl, rfl, hp.1, by rw [run_size G hj, hp.2]⟩

theorem read_fieldAddr (G : Good C w0) (he : ER μ e a.tmps) {t : TypeId} {x : Operand} {f : Nat} (ho : o.op = .fieldAddr t x f) (hv : evR C (.fieldAddr t x f) e h = some v) : RdOk C μ w a o v := by
  simp only [evR] at hv
  split at hv
  · rename_i i ad hi hc
    obtain ⟨y, hy, hx⟩ := conc_ptr (opd_sound he hc)
    split at hv
    · rename_i fs hu
      cases hp : fieldPlaces C fs f with
      | none => simp [hp] at hv
      | some p =>
        obtain ⟨off, size⟩ := p
        simp only [hp] at hv
        split at hv
        · rename_i hsz
          obtain rfl := Option.some.inj hv
          obtain ⟨fl, h1, h2, h3⟩ := fieldPlaces_sound G hp w
          refine ⟨.pointer (some (y.add off)), by simp [conc, (Ad.c_add hy off).1], ?_⟩
          have hne : ¬ size = 0 := by omega
          simp [execOp, ho, Instr.fieldAt, run_und G hi, hu, h1, Instr.sureAddr, hx, fieldPlace, h3, h2, hne]
        · cases hv
    · cases hv
  · cases hv

theorem partV_sound (G : Good C w0) {t : TypeId} {cs : List V} {off : Nat} {xs : List Value} (hv : partV C t cs off = some v) (hc : concL μ cs = some xs) (w : World) :
    ∃ x, conc μ v = some x ∧ (part t xs.toArray off).run C.P w = .ok x w := by
  unfold partV at hv
  cases hi : C.ti t with
  | none => simp [hi] at hv
  | some i =>
    simp only [hi] at hv
    simp only [part, Sem.run_bind, run_agg G hi, Result.andThen_ok]
    cases hagg : isAggD i.und with
    | true =>
      simp only [hagg, if_true] at hv
      split at hv
      · rename_i hle
        obtain rfl := Option.some.inj hv
        have h1 := (concL_take hc off).2
        have h2 := (concL_take h1 i.size).1
        refine ⟨.agg ((xs.drop off).take i.size).toArray, by simp [conc, h2], ?_⟩
        simp [run_size G hi]
      · cases hv
    | false =>
      simp only [hagg, Bool.false_eq_true, if_false] at hv
      obtain ⟨x, h1, h2⟩ := concL_get hc off v hv
      exact ⟨x, h2, by simp [h1]⟩

theorem read_field (G : Good C w0) (he : ER μ e a.tmps) {t : TypeId} {x : Operand} {f : Nat} (ho : o.op = .field t x f) (hv : evR C (.field t x f) e h = some v) : RdOk C μ w a o v := by
  simp only [evR] at hv
  split at hv
  · rename_i i cs hi hc
    obtain ⟨xs, h1, h2⟩ := conc_agg (opd_sound he hc)
    split at hv
    · rename_i fs hu
      split at hv
      · rename_i fl hf
        obtain ⟨y, h3, h4⟩ := partV_sound G hv h1 w
        exact ⟨y, h3, by simp [execOp, ho, Instr.field, run_und G hi, hu, hf, asAgg, h2, h4]⟩
      · cases hv
    · cases hv
  · cases hv

theorem read_indexAddr (G : Good C w0) (he : ER μ e a.tmps) {t : TypeId} {x ix : Operand} (ho : o.op = .indexAddr t x ix) (hv : evR C (.indexAddr t x ix) e h = some v) : RdOk C μ w a o v := by
  simp only [evR] at hv
  split at hv
  · rename_i i u k n hi hc hn
    have hx := opd_sound he hc
    have hix := conc_int (opd_sound he hn)
    split at hv
    · rename_i el ad len cp hu
      cases hj : C.ti el with
      | none => simp [hj] at hv
      | some j =>
        simp only [hj] at hv
        split at hv
        · rename_i hb
          obtain rfl := Option.some.inj hv
          obtain ⟨y, m, hy, hx'⟩ := conc_slice_some hx (by omega)
          refine ⟨.pointer (some (y.add (n.toNat * j.size))), by simp [conc, (Ad.c_add hy _).1], ?_⟩
          simp [execOp, ho, Instr.indexAt, asIntOf, hix, run_und G hi, hu, hx', hb, run_size G hj]
        · cases hv
    · rename_i len el ad hu
      cases hj : C.ti el with
      | none => simp [hj] at hv
      | some j =>
        simp only [hj] at hv
        split at hv
        · rename_i hb
          obtain rfl := Option.some.inj hv
          obtain ⟨y, hy, hx'⟩ := conc_ptr hx
          refine ⟨.pointer (some (y.add (n.toNat * j.size))), by simp [conc, (Ad.c_add hy _).1], ?_⟩
          simp [execOp, ho, Instr.indexAt, asIntOf, hix, run_und G hi, hu, hx', hb, run_size G hj, Instr.sureAddr]
        · cases hv
    · cases hv
  · cases hv

theorem read_index (G : Good C w0) (he : ER μ e a.tmps) {t : TypeId} {x ix : Operand} (ho : o.op = .index t x ix) (hv : evR C (.index t x ix) e h = some v) : RdOk C μ w a o v := by
  simp only [evR] at hv
  split at hv
  · rename_i i u k n hi hc hn
    have hx := opd_sound he hc
    have hix := conc_int (opd_sound he hn)
    split at hv
    · rename_i len el cs hu
      cases hj : C.ti el with
      | none => simp [hj] at hv
      | some j =>
        simp only [hj] at hv
        split at hv
        · rename_i hb
          obtain ⟨xs, h1, h2⟩ := conc_agg hx
          obtain ⟨y, h3, h4⟩ := partV_sound G hv h1 w
          exact ⟨y, h3, by simp [execOp, ho, Instr.index, asIntOf, hix, run_und G hi, hu, h2, hb, run_size G hj, h4]⟩
        · cases hv
    · rename_i s hu
      split at hv
      · rename_i h0
        cases hs : s[n.toNat]? with
        | none => simp [hs] at hv
        | some b =>
          simp only [hs, Option.some.injEq] at hv
          subst hv
          exact ⟨_, rfl, by simp [execOp, ho, Instr.index, asIntOf, hix, run_und G hi, hu, conc_str hx, h0, hs]⟩
      · cases hv
    · cases hv
  · cases hv

theorem read_convert (G : Good C w0) (he : ER μ e a.tmps) {s d : TypeId} {x : Operand} (ho : o.op = .convert s d x) (hv : evR C (.convert s d x) e h = some v) : RdOk C μ w a o v := by
  simp only [evR] at hv
  split at hv
  · rename_i i j u hi hj hc
    have hx := opd_sound he hc
    split at hv
    · rename_i k k' n hu
      obtain rfl := Option.some.inj hv
      refine ⟨_, rfl, ?_⟩
      simp only [execOp, ho, convert, Sem.run_bind, run_und G hi, run_und G hj, Result.andThen_ok, hu, conc_int hx]
      cases i.und <;> simp [Conv.intToInt]
    · rename_i s' hu
      obtain rfl := Option.some.inj hv
      refine ⟨_, rfl, ?_⟩
      simp only [execOp, ho, convert, Sem.run_bind, run_und G hi, run_und G hj, Result.andThen_ok, hu, conc_str hx]
      cases i.und <;> simp
    · cases hv
  · cases hv

theorem read_typeAssert (G : Good C w0) (he : ER μ e a.tmps) {x : Operand} {xt t : TypeId} {ok : Bool} (ho : o.op = .typeAssert x xt t ok) (hv : evR C (.typeAssert x xt t ok) e h = some v) : RdOk C μ w a o v := by
  simp only [evR] at hv
  split at hv
  · rename_i i u hi hc
    have hx := opd_sound he hc
    obtain ⟨z, hz1, hz2, _⟩ := run_zero G hi w
    split at hv
    · cases hv
    · rename_i hne
      split at hv
      · rename_i t' u'
        obtain ⟨y, hy, hx'⟩ := conc_iface hx
        split at hv
        · rename_i heq
          subst heq
          cases ok
          · simp only [Bool.false_eq_true, if_false, Option.some.injEq] at hv
            subst hv
            refine ⟨y, hy, ?_⟩
            simp only [execOp, ho, Instr.typeAssert, Sem.run_bind, run_und G hi, Result.andThen_ok, hx']
            cases hu : i.und <;> simp_all
          · simp only [if_true, Option.some.injEq] at hv
            subst hv
            refine ⟨.tuple #[y, .bool true], by simp [conc, concL, hy], ?_⟩
            simp only [execOp, ho, Instr.typeAssert, Sem.run_bind, run_und G hi, Result.andThen_ok, hx']
            cases hu : i.und <;> simp_all
        · rename_i hneq
          split at hv
          · rename_i hok
            subst hok
            obtain rfl := Option.some.inj hv
            refine ⟨.tuple #[z, .bool false], by simp [conc, concL, hz2 μ], ?_⟩
            simp only [execOp, ho, Instr.typeAssert, Sem.run_bind, run_und G hi, Result.andThen_ok, hx']
            cases hu : i.und <;> simp_all
          · cases hv
      · split at hv
        · rename_i hok
          subst hok
          obtain rfl := Option.some.inj hv
          simp only [conc, Option.some.injEq] at hx
          refine ⟨.tuple #[z, .bool false], by simp [conc, concL, hz2 μ], ?_⟩
          simp only [execOp, ho, Instr.typeAssert, Sem.run_bind, run_und G hi, Result.andThen_ok, ← hx]
          cases hu : i.und <;> simp_all
        · cases hv
      · cases hv
  · cases hv

end
end Go.Ix
namespace Go.Ix
open Go.RowKit (Below)
section
variable {C : Cfg} {w0 : World} {μ : Mu} {h : H} {w : World} {e : Env} {a : Act} {o : Oper} {v : V}

theorem conc_cells {x : Value} (hx : conc μ v = some x) : concL μ v.cells = some x.cells.toList := by
  cases v with
  | agg cs => obtain ⟨ys, h1, h2⟩ := conc_agg hx; subst h2; simpa [V.cells, Value.cells] using h1
  | tup cs => obtain ⟨ys, h1, h2⟩ := conc_tup hx; subst h2; exact concL_cons hx rfl
  | bool b => rw [conc_bool hx]; rfl
  | int k n => rw [conc_int hx]; rfl
  | str s => rw [conc_str hx]; rfl
  | ptr p =>
    cases p with
    | none => simp only [conc, Option.some.injEq] at hx; subst hx; rfl
    | some ad => obtain ⟨y, hy, rfl⟩ := conc_ptr hx; exact concL_cons hx rfl
  | slice p n c => obtain ⟨q, m, rfl⟩ := conc_slice hx; exact concL_cons hx rfl
  | map r =>
    cases r with
    | none => simp only [conc, Option.some.injEq] at hx; subst hx; rfl
    | some i => obtain ⟨y, hy, rfl⟩ := conc_map hx; exact concL_cons hx rfl
  | func fn p q =>
    have : ∃ b c, x = .func fn b c := by
      cases fn <;> simp only [conc] at hx <;> (try (cases hx; done))
      split at hx
      · exact ⟨_, _, (Option.some.inj hx).symm⟩
      · cases hx
    obtain ⟨b, c, rfl⟩ := this
    exact concL_cons hx rfl
  | yield k =>
    have : ∃ l, x = .func (.yield l) #[] #[] := by
      simp only [conc] at hx
      cases hk : μ k with
      | none => simp [hk] at hx
      | some en => exact ⟨_, (by simpa [hk, eq_comm] using hx)⟩
    obtain ⟨l, rfl⟩ := this
    exact concL_cons hx rfl
  | nilFunc => simp only [conc, Option.some.injEq] at hx; subst hx; rfl
  | iface t u => obtain ⟨y, hy, rfl⟩ := conc_iface hx; exact concL_cons hx rfl
  | nilIface => simp only [conc, Option.some.injEq] at hx; subst hx; rfl

theorem conc_scalar {x : Value} (hx : conc μ v = some x) (hs : v.scalar = true) : x.oneCell' = true := by
  cases v with
  | agg cs => cases hs
  | tup cs => cases hs
  | bool b => rw [conc_bool hx]; rfl
  | int k n => rw [conc_int hx]; rfl
  | str s => rw [conc_str hx]; rfl
  | ptr p =>
    cases p with
    | none => simp only [conc, Option.some.injEq] at hx; subst hx; rfl
    | some ad => obtain ⟨y, hy, rfl⟩ := conc_ptr hx; rfl
  | slice p n c => obtain ⟨q, m, rfl⟩ := conc_slice hx; rfl
  | map r =>
    cases r with
    | none => simp only [conc, Option.some.injEq] at hx; subst hx; rfl
    | some i => obtain ⟨y, hy, rfl⟩ := conc_map hx; rfl
  | func fn p q =>
    cases fn <;> simp only [conc] at hx <;> (try (cases hx; done))
    split at hx
    · rw [← Option.some.inj hx]; rfl
    · cases hx
  | yield k =>
    simp only [conc] at hx
    cases hk : μ k with
    | none => simp [hk] at hx
    | some en => simp only [hk, Option.map_some, Option.some.injEq] at hx; subst hx; rfl
  | nilFunc => simp only [conc, Option.some.injEq] at hx; subst hx; rfl
  | iface t u => obtain ⟨y, hy, rfl⟩ := conc_iface hx; rfl
  | nilIface => simp only [conc, Option.some.injEq] at hx; subst hx; rfl

theorem fold_set : ∀ (vs : List Value) (off k : Nat) (arr : Array Value), off + k + vs.length ≤ arr.size →
    ((vs.zipIdx k).foldl (fun cs (p : Value × Nat) => cs.setIfInBounds (off + p.2) p.1) arr).toList = arr.toList.take (off + k) ++ vs ++ arr.toList.drop (off + k + vs.length)
  | [], off, k, arr, hle => by simp
  | v :: r, off, k, arr, hle => by
    simp only [List.zipIdx_cons, List.foldl_cons]
    have hlen : off + k < arr.size := by simp at hle; omega
    rw [fold_set r off (k + 1) _ (by simp at hle ⊢; omega)]
    simp only [Array.toList_setIfInBounds, List.length_cons]
    rw [List.take_set, List.drop_set_of_lt (by omega)]
    have e1 : off + (k + 1) = off + k + 1 := by omega
    rw [e1, List.take_succ_eq_append_getElem (by simpa using hlen), List.set_append_right _ _ (by simp; omega)]
    simp [show off + k + 1 + r.length = off + k + (r.length + 1) by omega]
    rw [Nat.min_eq_left (by omega)]
    simp

theorem fill_sound {place : Nat → Option (Nat × Nat)} : ∀ (vs : List (Nat × V)) (xs : List (Nat × Value)) (cells : List V) (arr : Array Value) (out : List V),
    (vs.map (·.1) = xs.map (·.1)) → concL μ (vs.map (·.2)) = some (xs.map (·.2)) → concL μ cells = some arr.toList → fillC place cells vs = some out →
    ∃ res : Array Value, Instr.fill place arr xs = some res ∧ concL μ out = some res.toList
  | [], xs, cells, arr, out, hn, hv, hc, hf => by
    cases xs with
    | nil => simp only [fillC, Option.some.injEq] at hf; subst hf; exact ⟨arr, rfl, hc⟩
    | cons x r => simp at hn
  | (i, v) :: r, xs, cells, arr, out, hn, hv, hc, hf => by
    cases xs with
    | nil => simp at hn
    | cons x s =>
      obtain ⟨j, y⟩ := x
      simp only [List.map_cons, List.cons.injEq] at hn
      obtain ⟨rfl, hn⟩ := hn
      simp only [List.map_cons] at hv
      obtain ⟨y', ys, he, h1, h2⟩ := concL_cons_inv hv
      simp only [List.cons.injEq] at he
      obtain ⟨rfl, rfl⟩ := he
      simp only [fillC] at hf
      cases hp : place i with
      | none => simp [hp] at hf
      | some p =>
        obtain ⟨off, size⟩ := p
        simp only [hp] at hf
        split at hf
        · rename_i hsz
          have hcell := conc_cells h1
          have l1 := concL_length hcell
          have l2 := concL_length hc
          simp only [Array.length_toList] at l1 l2
          simp only [Instr.fill, hp]
          rw [if_neg (by simp; omega)]
          refine fill_sound r s _ _ out hn h2 ?_ hf
          have := fold_set y.cells.toList off 0 arr (by simp; omega)
          have e2 : (y.cells.zipIdx.foldl (fun cs (c, j) => cs.setIfInBounds (off + j) c) arr).toList = arr.toList.take off ++ y.cells.toList ++ arr.toList.drop (off + size) := by
            rw [← Array.foldl_toList, Array.toList_zipIdx]
            have e3 := this
            simp only [Nat.add_zero, Array.length_toList] at e3
            rw [show off + size = off + y.cells.size by omega]
            exact e3
          rw [e2]
          exact concL_append (concL_append (concL_take hc off).1 hcell) (concL_take hc (off + size)).2
        · cases hf

theorem parts_sound (he : ER μ e a.tmps) : ∀ {l : List (Nat × Operand)} {vs : List (Nat × V)}, parts e l = some vs →
    vs.map (·.1) = l.map (·.1) ∧ concL μ (vs.map (·.2)) = some ((l.map fun p => (p.1, a.eval p.2)).map (·.2))
  | [], vs, hx => by simp only [parts, Option.some.injEq] at hx; subst hx; exact ⟨rfl, rfl⟩
  | (i, x) :: r, vs, hx => by
    simp only [parts] at hx
    cases h1 : opd e x with
    | none => simp [h1] at hx
    | some u =>
      cases h2 : parts e r with
      | none => simp [h1, h2] at hx
      | some us =>
        simp only [h1, h2, Option.some.injEq] at hx
        subst hx
        obtain ⟨g1, g2⟩ := parts_sound he h2
        exact ⟨by simp [g1], concL_cons (opd_sound he h1) g2⟩

theorem places_sound (G : Good C w0) (w : World) : ∀ {l : List Field} {pl : List (Nat × Nat)}, placesL C l = some pl →
    (l.mapM fun f => (do pure (f.offset, ← sizeOf f.type) : Sem (Nat × Nat))).run C.P w = .ok pl w
  | [], pl, hp => by simp only [placesL, Option.some.injEq] at hp; subst hp; rfl
  | f :: r, pl, hp => by
    simp only [placesL] at hp
    cases h1 : C.ti f.type with
    | none => simp [h1] at hp
    | some j =>
      cases h2 : placesL C r with
      | none => simp [h1, h2] at hp
      | some l =>
        simp only [h1, h2, Option.some.injEq] at hp
        subst hp
        have := places_sound G w h2
        simp only [List.mapM_cons, Sem.run_bind, run_size G h1, Result.andThen_ok, Sem.run_pure, this]

theorem read_build (G : Good C w0) (he : ER μ e a.tmps) {t : TypeId} {ps : Array (Nat × Operand)} (ho : o.op = .build t ps) (hv : evR C (.build t ps) e h = some v) : RdOk C μ w a o v := by
  simp only [evR] at hv
  split at hv
  · rename_i i vs hi hp
    obtain ⟨g1, g2⟩ := parts_sound he hp
    obtain ⟨z, hz1, _, hz3⟩ := run_zero G hi w
    have hmap : (ps.map fun (i, x) => (i, a.eval x)).toList = ps.toList.map fun p => (p.1, a.eval p.2) := by simp
    split at hv
    · rename_i fs hu
      cases hpl : placesL C fs.toList with
      | none => simp [hpl] at hv
      | some pl =>
        simp only [hpl] at hv
        cases hf : fillC (fun k => pl[k]?) i.zero vs with
        | none => simp [hf] at hv
        | some out =>
          simp only [hf, Option.map_some, Option.some.injEq] at hv
          subst hv
          have hn : vs.map (·.1) = (ps.toList.map fun p => (p.1, a.eval p.2)).map (·.1) := by rw [g1]; simp
          obtain ⟨res, r1, r2⟩ := fill_sound vs _ i.zero z.cells out hn g2 (hz3 μ) hf
          refine ⟨.agg res, by simp [conc, r2], ?_⟩
          simp only [execOp, ho, Instr.build, Sem.run_bind, hz1, run_und G hi, Result.andThen_ok, hu]
          have hm' : (fs.mapM fun f => (do pure (f.offset, ← sizeOf f.type) : Sem (Nat × Nat))).run C.P w = .ok pl.toArray w := by
            rw [Array.mapM_eq_mapM_toList, Sem.run_map, places_sound G w hpl]; rfl
          rw [hm']
          simp only [Result.andThen_ok]
          have hfun : (fun x : Nat => pl.toArray[x]?) = fun k => pl[k]? := by funext k; simp
          rw [hfun, hmap, r1]
          simp
    · rename_i len el hu
      cases hj : C.ti el with
      | none => simp [hj] at hv
      | some j =>
        simp only [hj] at hv
        cases hf : fillC (fun k => some (k * j.size, j.size)) i.zero vs with
        | none => simp [hf] at hv
        | some out =>
          simp only [hf, Option.map_some, Option.some.injEq] at hv
          subst hv
          have hn : vs.map (·.1) = (ps.toList.map fun p => (p.1, a.eval p.2)).map (·.1) := by rw [g1]; simp
          obtain ⟨res, r1, r2⟩ := fill_sound vs _ i.zero z.cells out hn g2 (hz3 μ) hf
          refine ⟨.agg res, by simp [conc, r2], ?_⟩
          simp only [execOp, ho, Instr.build, Sem.run_bind, hz1, run_und G hi, Result.andThen_ok, hu, run_size G hj]
          rw [hmap, r1]
          simp
    · cases hv
  · cases hv

theorem natOf_sound {u : V} {n : Nat} {x : Value} (hn : natOf u = some n) (hx : conc μ u = some x) : ∃ k, x = .int k n := by
  cases u <;> simp only [natOf] at hn <;> try (cases hn; done)
  rename_i k m
  split at hn
  · rename_i h0
    obtain rfl := Option.some.inj hn
    exact ⟨k, by rw [conc_int hx]; simp; omega⟩
  · cases hn

theorem bnd_sound (he : ER μ e a.tmps) {x : Option Operand} {n : Option Nat} (hb : bnd e x = some n) : ∀ (y : Nat) (code : BoundsCode) (w : World),
    (match x, n with
     | none, none => True
     | some x, some n => n ≤ y → (Instr.sliceBound (a.eval x) y code).run C.P w = .ok n w
     | _, _ => False) := by
  intro y code w
  cases x with
  | none => simp only [bnd, Option.some.injEq] at hb; subst hb; trivial
  | some x =>
    simp only [bnd] at hb
    cases hx : opd e x with
    | none => simp [hx] at hb
    | some u =>
      simp only [hx] at hb
      cases hn : natOf u with
      | none => simp [hn] at hb
      | some m =>
        simp only [hn, Option.map_some, Option.some.injEq] at hb
        subst hb
        intro hle
        obtain ⟨k, hk⟩ := natOf_sound hn (opd_sound he hx)
        simp only [Instr.sliceBound, hk, asIntOf, Sem.run_bind, Sem.run_pure, Result.andThen_ok]
        rw [if_pos ⟨by omega, by omega⟩]
        simp

/-- The three bounds of a slice expression. -/
theorem bounds_run (he : ER μ e a.tmps) {lo hi mx : Option Operand} {l h' m : Option Nat} (h1 : bnd e lo = some l) (h2 : bnd e hi = some h') (h3 : bnd e mx = some m)
    (isS : Bool) (len cap : Nat) (w : World) (b1 : m.getD cap ≤ cap) (b2 : h'.getD len ≤ m.getD cap) (b3 : l.getD 0 ≤ h'.getD len) (b4 : m.isSome = true → h'.isSome = true) :
    (Instr.sliceBounds isS len cap (lo.map a.eval) (hi.map a.eval) (mx.map a.eval)).run C.P w = .ok (l.getD 0, h'.getD len, m.getD cap) w := by
  have g1 := fun y code => bnd_sound (C := C) he h1 y code w
  have g2 := fun y code => bnd_sound (C := C) he h2 y code w
  have g3 := fun y code => bnd_sound (C := C) he h3 y code w
  unfold Instr.sliceBounds
  cases mx with
  | none =>
    cases m with
    | some m => exact (g3 0 .index).elim
    | none =>
      cases hi with
      | none =>
        cases h' with
        | some _ => exact (g2 0 .index).elim
        | none =>
          cases lo with
          | none => cases l with
            | some _ => exact (g1 0 .index).elim
            | none => simp
          | some x => cases l with
            | none => exact (g1 0 .index).elim
            | some l => simp at b3 ⊢; rw [g1 _ _ b3]; simp
      | some y =>
        cases h' with
        | none => exact (g2 0 .index).elim
        | some h' =>
          simp at b2 b3
          cases lo with
          | none => cases l with
            | some _ => exact (g1 0 .index).elim
            | none => simp; rw [g2 _ _ b2]; simp
          | some x => cases l with
            | none => exact (g1 0 .index).elim
            | some l => simp; rw [g2 _ _ b2]; simp; rw [g1 _ _ (by simpa using b3)]; simp
  | some z =>
    cases m with
    | none => exact (g3 0 .index).elim
    | some m =>
      simp at b1
      cases hi with
      | none =>
        cases h' with
        | some _ => exact (g2 0 .index).elim
        | none => simp at b4
      | some y =>
        cases h' with
        | none => exact (g2 0 .index).elim
        | some h' =>
          simp at b2 b3
          cases lo with
          | none => cases l with
            | some _ => exact (g1 0 .index).elim
            | none => simp; rw [g3 _ _ b1]; simp; rw [g2 _ _ b2]; simp
          | some x => cases l with
            | none => exact (g1 0 .index).elim
            | some l => simp; rw [g3 _ _ b1]; simp; rw [g2 _ _ b2]; simp; rw [g1 _ _ (by simpa using b3)]; simp

end
end Go.Ix
namespace Go.Ix
open Go.RowKit (Below)
section
variable {C : Cfg} {w0 : World} {μ : Mu} {h : H} {w : World} {e : Env} {a : Act} {o : Oper} {v : V}

theorem conc_slice_ex {o : Option Ad} {n c : Nat} {x : Value} (hx : conc μ (.slice o n (.ex c)) = some x) :
    ∃ p, x = .slice p n c ∧ (match o with | none => p = none | some ad => ∃ y, ad.c μ = some y ∧ p = some y) := by
  cases o with
  | none => simp only [conc, Option.some.injEq] at hx; exact ⟨none, hx.symm, rfl⟩
  | some ad =>
    simp only [conc] at hx
    cases hy : ad.c μ with
    | none => simp [hy] at hx
    | some y => exact ⟨some y, by simpa [hy, eq_comm] using hx, y, by simp [hy], rfl⟩

theorem conc_slice_op {o : Option Ad} {n k pf : Nat} {x : Value} (hx : conc μ (.slice o n (.op k pf)) = some x) :
    ∃ ad j en, o = some ad ∧ ad.blk = .new j ∧ μ j = some en ∧ k + n ≤ en.cap ∧ x = .slice (some ⟨en.blk, en.base + (if en.cap = k then pf else ad.off), none⟩) n (en.cap - k) := by
  cases o with
  | none => simp [conc] at hx
  | some ad =>
    simp only [conc] at hx
    cases hb : ad.blk with
    | old b => simp [hb] at hx
    | new j =>
      simp only [hb] at hx
      cases hj : μ j with
      | none => simp [hj] at hx
      | some en =>
        simp only [hj] at hx
        split at hx
        · rename_i hle; exact ⟨ad, j, en, rfl, hb, hj, hle, (Option.some.inj hx).symm⟩
        · cases hx

theorem sliceV_sound {es : Nat} {p : Option Ad} {len : Nat} {cap : Cap} {lo : Nat} {hi mx : Option Nat} {x : Value}
    (hx : conc μ (.slice p len cap) = some x) (hv : sliceV es p len cap lo hi mx = some v) :
    ∃ b c, x = .slice b len c ∧ mx.getD c ≤ c ∧ hi.getD len ≤ mx.getD c ∧ lo ≤ hi.getD len ∧ (mx.isSome = true → hi.isSome = true) ∧
      conc μ v = some (.slice (if mx.getD c = lo then b else b.map (·.add (lo * es))) (hi.getD len - lo) (mx.getD c - lo)) := by
  cases cap with
  | ex c =>
    simp only [sliceV] at hv
    split at hv
    · rename_i hb
      obtain ⟨b1, b2, b3, b4⟩ := hb
      obtain rfl := Option.some.inj hv
      obtain ⟨q, hq, hp⟩ := conc_slice_ex hx
      refine ⟨q, c, hq, b1, b2, b3, b4, ?_⟩
      cases p with
      | none => simp only at hp; subst hp; simp [conc]
      | some ad =>
        obtain ⟨y, hy, rfl⟩ := hp
        by_cases hml : mx.getD c = lo
        · simp [hml, conc, hy]
        · simp [hml, conc, (Ad.c_add hy (lo * es)).1]
    · cases hv
  | op k pf =>
    obtain ⟨ad, j, en, rfl, hj, he, hle, rfl⟩ := conc_slice_op hx
    simp only [sliceV] at hv
    cases mx with
    | some m =>
      cases hi with
      | none => simp at hv
      | some h' =>
        simp only at hv
        split at hv
        · rename_i hb
          obtain ⟨b1, b2, b3, b4⟩ := hb
          obtain rfl := Option.some.inj hv
          have hne : ¬ en.cap = k := by omega
          have hy : ad.c μ = some ⟨en.blk, en.base + ad.off, none⟩ := by simp [Ad.c, hj, he]
          refine ⟨_, en.cap - k, rfl, by simp; omega, by simpa using b2, by simpa using b3, by simp, ?_⟩
          rw [if_neg hne]
          by_cases hml : m = lo
          · simp [hml, conc, hy]
          · simp [hml, conc, (Ad.c_add hy (lo * es)).1]
        · cases hv
    | none =>
      simp only at hv
      split at hv
      · rename_i hb
        obtain ⟨b1, b2⟩ := hb
        refine ⟨_, en.cap - k, rfl, by simp, by simp; omega, b2, by simp, ?_⟩
        split at hv
        · rename_i h0
          subst h0
          obtain rfl := Option.some.inj hv
          have hkh : k + hi.getD len ≤ en.cap := by omega
          simp [conc, hj, he, hkh, Addr.add]
        · rename_i h0
          simp only [Option.some.injEq] at hv
          subst hv
          have hne : ¬ en.cap = k := by omega
          have e1 : k + lo + (hi.getD len - lo) ≤ en.cap := by omega
          rw [if_neg hne]
          by_cases hml : en.cap - k = lo
          · have e2 : en.cap = k + lo := by omega
            simp [conc, Ad.add, hj, he, e2]; omega
          · have e2 : ¬ en.cap = k + lo := by omega
            have hy : ad.c μ = some ⟨en.blk, en.base + ad.off, none⟩ := by simp [Ad.c, hj, he]
            have h3 := (Ad.c_add hy (lo * es)).1
            simp only [Ad.c, Ad.add, hj, he, Option.map_some, Option.some.injEq] at h3
            simp [conc, Ad.add, hj, he, e1, e2, hml]
            exact ⟨h3, by omega⟩
      · cases hv

theorem read_slice (G : Good C w0) (he : ER μ e a.tmps) {t : TypeId} {x : Operand} {lo hi mx : Option Operand} (ho : o.op = .slice t x lo hi mx) (hv : evR C (.slice t x lo hi mx) e h = some v) : RdOk C μ w a o v := by
  simp only [evR] at hv
  split at hv
  · rename_i i u l h' m hi' hc h1 h2 h3
    have hx := opd_sound he hc
    split at hv
    · rename_i el p n c hu
      cases hj : C.ti el with
      | none => simp [hj] at hv
      | some j =>
        simp only [hj] at hv
        obtain ⟨b, c', hb, b1, b2, b3, b4, hcv⟩ := sliceV_sound hx hv
        refine ⟨_, hcv, ?_⟩
        simp only [execOp, ho, Instr.sliceAt, Sem.run_bind, run_und G hi', Result.andThen_ok, hu, Instr.slice, hb, bounds_run he h1 h2 h3 true n c' w b1 b2 b3 b4, run_size G hj, Sem.run_pure]
    · rename_i n el ad hu
      cases hj : C.ti el with
      | none => simp [hj] at hv
      | some j =>
        simp only [hj] at hv
        obtain ⟨y, hy, hxx⟩ := conc_ptr hx
        have hcs : conc μ (.slice (some ad) n (.ex n)) = some (.slice (some y) n n) := by simp [conc, hy]
        obtain ⟨b, c', hb, b1, b2, b3, b4, hcv⟩ := sliceV_sound hcs hv
        simp only [Value.slice.injEq, true_and] at hb
        obtain ⟨rfl, rfl⟩ := hb
        refine ⟨_, hcv, ?_⟩
        simp only [execOp, ho, Instr.sliceAt, Sem.run_bind, run_und G hi', Result.andThen_ok, hu, Instr.sureAddr, hxx, bounds_run he h1 h2 h3 false n n w b1 b2 b3 b4, run_size G hj, Sem.run_pure]
        congr 3
        split <;> simp
    · rename_i s hu
      split at hv
      · rename_i hb
        obtain ⟨b1, b2, b3⟩ := hb
        obtain rfl := Option.some.inj hv
        refine ⟨_, rfl, ?_⟩
        cases m with
        | some m => simp at b1
        | none =>
          cases mx with
          | some z =>
            simp only [bnd] at h3
            cases hz : opd e z with
            | none => simp [hz] at h3
            | some zz =>
              simp only [hz] at h3
              cases hzz : natOf zz with
              | none => simp [hzz] at h3
              | some q => simp [hzz] at h3
          | none =>
            have := bounds_run (C := C) he h1 h2 (mx := none) (m := none) rfl false s.size s.size w (by simp) (by simpa using b2) b3 (by simp)
            simp only [Option.map_none] at this
            simp [execOp, ho, Instr.sliceAt, run_und G hi', hu, Instr.slice, conc_str hx, this]
      · cases hv
    · cases hv
  · cases hv

/-! Comparisons -/

theorem noguard {P : Program} {t : TypeId} {X Y : Value} (h1 : ∀ p q, ¬ (X = .agg p ∧ Y = .agg q)) (h2 : ¬ (X = .nilIface ∧ Y = .nilIface)) (op : BinOp) (p q : Operand) :
    (eqGuard op t p q X Y).run P w = .ok () w := by
  unfold eqGuard
  cases op <;> first
    | rfl
    | (simp only [Bool.not_true, Bool.false_eq_true, if_false]
       split
       · exact absurd ⟨rfl, rfl⟩ h2
       · exact absurd ⟨rfl, rfl⟩ (h1 _ _)
       · rfl)

theorem conc_func {fn : Fn} {p q : List V} {x : Value} (hx : conc μ (.func fn p q) = some x) : ∃ y z, x = .func fn y z := by
  cases fn <;> simp only [conc] at hx <;> (try (cases hx; done))
  split at hx
  · exact ⟨_, _, (Option.some.inj hx).symm⟩
  · cases hx

theorem equal_d : ∃ d, ∀ t x y, Op.equal t x y = Op.equalIn (d + 1) t x y := ⟨9999, fun _ _ _ => rfl⟩

theorem eqV_sound (G : Good C w0) {t : TypeId} {x y : V} {b : Bool} {X Y : Value} (hx : conc μ x = some X) (hy : conc μ y = some Y) (hv : eqV C t x y = some b) :
    (Op.equal t X Y).run C.P w = .ok b w ∧ (∀ op p q, (eqGuard op t p q X Y).run C.P w = .ok () w) ∧
      binOp .eql t X Y = (do pure (.bool (← Op.equal t X Y))) ∧ binOp .neq t X Y = (do pure (.bool (!(← Op.equal t X Y)))) := by
  obtain ⟨dd, hE⟩ := equal_d
  unfold eqV at hv
  cases hi : C.ti t with
  | none => simp [hi] at hv
  | some i =>
    simp only [hi] at hv
    have hu := run_und G hi
    split at hv
    · rename_i p q hd
      obtain rfl := Option.some.inj hv
      rw [conc_bool hx, conc_bool hy]
      exact ⟨by simp [hE, Op.equalIn, hu, hd], noguard (by simp) (by simp), rfl, rfl⟩
    · rename_i el q hd
      obtain rfl := Option.some.inj hv
      simp only [conc, Option.some.injEq] at hx
      subst hx
      cases q with
      | none => simp only [conc, Option.some.injEq] at hy; subst hy; exact ⟨by simp [hE, Op.equalIn, hu, hd], noguard (by simp) (by simp), rfl, rfl⟩
      | some ad => obtain ⟨z, _, rfl⟩ := conc_ptr hy; exact ⟨by simp [hE, Op.equalIn, hu, hd], noguard (by simp) (by simp), rfl, rfl⟩
    · rename_i el ad hd
      obtain rfl := Option.some.inj hv
      obtain ⟨z, _, rfl⟩ := conc_ptr hx
      simp only [conc, Option.some.injEq] at hy
      subst hy
      exact ⟨by simp [hE, Op.equalIn, hu, hd], noguard (by simp) (by simp), rfl, rfl⟩
    · rename_i el p q hd
      obtain ⟨A, hA, rfl⟩ := conc_ptr hx
      obtain ⟨B, hB, rfl⟩ := conc_ptr hy
      refine ⟨?_, noguard (by simp) (by simp), rfl, rfl⟩
      cases hj : C.ti el with
      | none => simp [hj] at hv
      | some j =>
        simp only [hj] at hv
        split at hv
        · rename_i hsz
          obtain ⟨hsz, hbb⟩ := hsz
          obtain rfl := Option.some.inj hv
          have hsame : A.block = B.block ∧ (A == B) = decide (p.off = q.off) := by
            unfold Ad.c at hA hB
            rw [hbb] at hA
            cases hq : q.blk with
            | old k =>
              simp only [hq, Option.some.injEq] at hA hB
              rw [← hA, ← hB]
              exact ⟨rfl, by rw [Bool.beq_eq_decide_eq]; simp⟩
            | new k =>
              simp only [hq] at hA hB
              cases hk : μ k with
              | none => simp [hk] at hA
              | some en =>
                simp only [hk, Option.map_some, Option.some.injEq] at hA hB
                rw [← hA, ← hB]
                exact ⟨rfl, by rw [Bool.beq_eq_decide_eq]; simp⟩
          simp only [hE, Op.equalIn, Sem.run_bind, hu, Result.andThen_ok, hd, run_size G hj, ne_eq, hsz, not_false_eq_true, if_true]
          simp [sameAddr, hsame.1, hsame.2]
        · cases hv
    · rename_i ms u z hd
      obtain rfl := Option.some.inj hv
      simp only [conc, Option.some.injEq] at hx
      subst hx
      obtain ⟨Z, _, rfl⟩ := conc_iface hy
      exact ⟨by simp [hE, Op.equalIn, hu, hd], noguard (by simp) (by simp), rfl, rfl⟩
    · rename_i ms u z hd
      obtain rfl := Option.some.inj hv
      simp only [conc, Option.some.injEq] at hy
      subst hy
      obtain ⟨Z, _, rfl⟩ := conc_iface hx
      exact ⟨by simp [hE, Op.equalIn, hu, hd], noguard (by simp) (by simp), rfl, rfl⟩
    · rename_i fs xs ys hd
      obtain ⟨XS, hX, rfl⟩ := conc_agg hx
      obtain ⟨YS, hY, rfl⟩ := conc_agg hy
      split at hv
      · rename_i hf
        obtain ⟨hf, hlen, hfit⟩ := hf
        obtain ⟨f1, f2⟩ := (G.ti t i hi).flat hf
        refine ⟨f2 w xs ys XS YS μ b hv hlen hfit hX hY, fun op p q => ?_, rfl, rfl⟩
        unfold eqGuard
        simp only [Sem.run_bind, Sem.run_ite, run_program, Result.andThen_ok, f1]
        split <;> rfl
      · cases hv
    · rename_i el n c q n' c' hd
      obtain rfl := Option.some.inj hv
      cases c with
      | ex c =>
        obtain ⟨p', rfl, h2⟩ := conc_slice_ex hx
        simp only at h2
        subst h2
        cases q with
        | none =>
          cases c' with
          | ex c' =>
            obtain ⟨p3, rfl, g2⟩ := conc_slice_ex hy
            simp only at g2
            subst g2
            exact ⟨by simp [hE, Op.equalIn, hu, hd], noguard (by simp) (by simp), rfl, rfl⟩
          | op k pf => simp [conc] at hy
        | some ad =>
          have hq : ∃ z m, Y = .slice (some z) n' m := by
            cases c' with
            | ex c' => obtain ⟨p3, g1, y, g2, g3⟩ := conc_slice_ex hy; exact ⟨y, c', by rw [g1, g3]⟩
            | op k pf => obtain ⟨_, _, _, _, _, _, _, g⟩ := conc_slice_op hy; exact ⟨_, _, g⟩
          obtain ⟨z, m', rfl⟩ := hq
          exact ⟨by simp [hE, Op.equalIn, hu, hd], noguard (by simp) (by simp), rfl, rfl⟩
      | op k pf => simp [conc] at hx
    · rename_i el ad n c n' c' hd
      obtain rfl := Option.some.inj hv
      have hq : ∃ z m, X = .slice (some z) n m := by
        cases c with
        | ex c' => obtain ⟨p3, g1, y, g2, g3⟩ := conc_slice_ex hx; exact ⟨y, c', by rw [g1, g3]⟩
        | op k pf => obtain ⟨_, _, _, _, _, _, _, g⟩ := conc_slice_op hx; exact ⟨_, _, g⟩
      obtain ⟨z, m', rfl⟩ := hq
      have hr : ∃ m, Y = .slice none n' m := by
        cases c' with
        | ex c' => obtain ⟨p3, g1, g2⟩ := conc_slice_ex hy; exact ⟨c', by rw [g1, g2]⟩
        | op k pf => simp [conc] at hy
      obtain ⟨m'', rfl⟩ := hr
      exact ⟨by simp [hE, Op.equalIn, hu, hd], noguard (by simp) (by simp), rfl, rfl⟩
    · rename_i kt vt q hd
      obtain rfl := Option.some.inj hv
      simp only [conc, Option.some.injEq] at hx
      subst hx
      cases q with
      | none => simp only [conc, Option.some.injEq] at hy; subst hy; exact ⟨by simp [hE, Op.equalIn, hu, hd], noguard (by simp) (by simp), rfl, rfl⟩
      | some ad => obtain ⟨z, _, rfl⟩ := conc_map hy; exact ⟨by simp [hE, Op.equalIn, hu, hd], noguard (by simp) (by simp), rfl, rfl⟩
    · rename_i kt vt ad hd
      obtain rfl := Option.some.inj hv
      obtain ⟨z, _, rfl⟩ := conc_map hx
      simp only [conc, Option.some.injEq] at hy
      subst hy
      exact ⟨by simp [hE, Op.equalIn, hu, hd], noguard (by simp) (by simp), rfl, rfl⟩
    · rename_i ps rs vd hd
      obtain rfl := Option.some.inj hv
      simp only [conc, Option.some.injEq] at hx hy
      subst hx hy
      exact ⟨by simp [hE, Op.equalIn, hu, hd], noguard (by simp) (by simp), rfl, rfl⟩
    · rename_i ps rs vd fn p q hd
      obtain rfl := Option.some.inj hv
      simp only [conc, Option.some.injEq] at hx
      subst hx
      obtain ⟨y1, y2, rfl⟩ := conc_func hy
      exact ⟨by simp [hE, Op.equalIn, hu, hd], noguard (by simp) (by simp), rfl, rfl⟩
    · rename_i ps rs vd fn p q hd
      obtain rfl := Option.some.inj hv
      simp only [conc, Option.some.injEq] at hy
      subst hy
      obtain ⟨y1, y2, rfl⟩ := conc_func hx
      exact ⟨by simp [hE, Op.equalIn, hu, hd], noguard (by simp) (by simp), rfl, rfl⟩
    · cases hv

theorem read_binOp (G : Good C w0) (he : ER μ e a.tmps) {op : BinOp} {t t' : TypeId} {x y : Operand} (ho : o.op = .binOp op t x y t') (hv : evR C (.binOp op t x y t') e h = some v) : RdOk C μ w a o v := by
  simp only [evR] at hv
  split at hv
  · rename_i p q hp hq
    have hx := opd_sound he hp
    have hy := opd_sound he hq
    unfold binV at hv
    split at hv
    · -- shl
      rename_i k n l m
      unfold shOp at hv
      split at hv
      · cases hv
      · rename_i hneg
        simp only [Option.some.injEq] at hv
        subst hv
        refine ⟨_, rfl, ?_⟩
        simp [execOp, ho, conc_int hx, conc_int hy, noguard, binOp, Op.shift, hneg]
    · rename_i k n l m
      unfold shOp at hv
      split at hv
      · cases hv
      · rename_i hneg
        simp only [Option.some.injEq] at hv
        subst hv
        refine ⟨_, rfl, ?_⟩
        simp [execOp, ho, conc_int hx, conc_int hy, noguard, binOp, Op.shift, hneg]
    · rename_i op' k n l m hs1 hs2
      split at hv
      · rename_i hkl
        subst hkl
        have hrun : (binOp op t (.int k n) (.int k m)).run C.P w = .ok (a.eval x) w ∨ True := .inr trivial
        unfold intOp at hv
        split at hv <;> (try (split at hv)) <;> (try (cases hv; done)) <;> obtain rfl := Option.some.inj hv <;> refine ⟨_, rfl, ?_⟩ <;>
          simp_all [execOp, conc_int hx, conc_int hy, noguard, binOp, Op.intArith, Op.intDiv, Op.intBits, Op.intCmp]
      · cases hv
    · rename_i op' s s'
      unfold strOp at hv
      split at hv <;> (try (split at hv)) <;> (try (cases hv; done)) <;> obtain rfl := Option.some.inj hv <;> refine ⟨_, rfl, ?_⟩ <;>
          simp_all [execOp, conc_str hx, conc_str hy, noguard, binOp, Op.stringOp]
    · rename_i n1 n2
      cases hb : eqV C t p q with
      | none => simp [hb] at hv
      | some b =>
        simp only [hb, Option.map_some, Option.some.injEq] at hv
        subst hv
        obtain ⟨g1, g2, g3, _⟩ := eqV_sound G hx hy hb (w := w)
        exact ⟨_, rfl, by simp [execOp, ho, g2, g3, g1]⟩
    · cases hb : eqV C t p q with
      | none => simp [hb] at hv
      | some b =>
        simp only [hb, Option.map_some, Option.some.injEq] at hv
        subst hv
        obtain ⟨g1, g2, _, g3⟩ := eqV_sound G hx hy hb (w := w)
        exact ⟨_, rfl, by simp [execOp, ho, g2, g3, g1]⟩
    · cases hv
  · cases hv

end
end Go.Ix
namespace Go.Ix
open Go.RowKit (Below)
section
variable {C : Cfg} {w0 : World} {μ : Mu} {h : H} {w : World} {e : Env} {a : Act} {o : Oper} {v : V}

theorem mapAt_sound (r : R w0 μ h w) {i : Id} {es : List MapE} {c n : Nat} (hm : mapAt h i = some (es, c)) (hn : i.c μ = some n) :
    ∃ arr, w.heap[n]? = some (.map arr c) ∧ MR μ es arr.toList := by
  unfold mapAt at hm
  cases i with
  | old b => simp at hm
  | new k =>
    simp only at hm
    cases hk : h.get k with
    | none => simp [hk] at hm
    | some ob =>
      cases ob <;> simp only [hk] at hm <;> try (cases hm; done)
      rename_i es' c'
      simp only [Option.some.injEq, Prod.mk.injEq] at hm
      obtain ⟨rfl, rfl⟩ := hm
      obtain ⟨en, ob, h1, h2, h3, arr, h4, h5⟩ := r.obj k _ hk rfl
      simp only [Id.c, h1, Option.map_some, Option.some.injEq] at hn
      subst hn
      exact ⟨arr, by rw [h3, h4], h5⟩

theorem getObj_run {P : Program} {n : Nat} {ob : Obj} (hn : w.heap[n]? = some ob) (hc : ∀ c el fz, ob ≠ .cells c el fz) : (getObj n).run P w = .ok ob w := by
  cases ob <;> simp_all [getObj, Sem.run]

theorem checkKey_run (G : Good C w0) {kt : TypeId} {ki : TI} (hk : C.ti kt = some ki) {k : V} {K : Value} (hK : conc μ k = some K) (hkind : keyKind ki.und k = true) (em : Bool) :
    (Instr.checkKey em 10000 kt K).run C.P w = .ok () w := by
  have e1 : ∃ d, (10000 : Nat) = d + 1 := ⟨9999, rfl⟩
  obtain ⟨d, hd⟩ := e1
  rw [hd]
  simp only [Instr.checkKey, Sem.run_bind, run_und G hk, Result.andThen_ok]
  unfold keyKind at hkind
  split at hkind
  · rename_i hu; rw [hu, conc_int hK]; rfl
  · rename_i hu; rw [hu, conc_str hK]; rfl
  · rename_i hu; rw [hu, conc_bool hK]; rfl
  · cases hkind

theorem keyEq_sound {d : TypeDesc} {k l : V} {K L : Value} {b : Bool} (hK : conc μ k = some K) (hL : conc μ l = some L) (hkind : keyKind d k = true) (hb : keyEq k l = some b) :
    Instr.sameNow d K L = some b := by
  unfold keyEq at hb
  split at hb
  · split at hb
    · rename_i hkl
      subst hkl
      rw [conc_int hK, conc_int hL]
      unfold keyKind at hkind
      split at hkind <;> simp_all [Instr.sameNow]
    · cases hb
  · rw [conc_str hK, conc_str hL]
    unfold keyKind at hkind
    split at hkind <;> simp_all [Instr.sameNow]
  · rw [conc_bool hK, conc_bool hL]
    unfold keyKind at hkind
    split at hkind <;> simp_all [Instr.sameNow]
  · cases hb

theorem findE_sound {d : TypeDesc} {k : V} {K : Value} (hK : conc μ k = some K) (hkind : keyKind d k = true) : ∀ (es : List MapE) (xs : List MapEntry) (i : Nat) (res : Option (Nat × V)),
    MR μ es xs → findE k es i = some res →
    match res with
    | none => Instr.findNow d K xs i = some none
    | some (j, v) => ∃ (x : MapEntry) (m : MapE), i ≤ j ∧ Instr.findNow d K xs i = some (some (j, x.val)) ∧ xs[j - i]? = some x ∧ es[j - i]? = some m ∧ conc μ v = some x.val ∧ conc μ m.key = some x.key ∧ keyEq k m.key = some true
  | [], [], i, res, _, hf => by simp only [findE, Option.some.injEq] at hf; subst hf; rfl
  | [], _ :: _, _, _, hm, _ => hm.elim
  | _ :: _, [], _, _, hm, _ => hm.elim
  | m :: es, x :: xs, i, res, hm, hf => by
    obtain ⟨m1, m2, m3, m4⟩ := hm
    simp only [findE] at hf
    cases hb : keyEq k m.key with
    | none => simp [hb] at hf
    | some b =>
      have hs := keyEq_sound hK m1 hkind hb
      cases b with
      | true =>
        simp only [hb, Option.some.injEq] at hf
        subst hf
        exact ⟨x, m, Nat.le_refl _, by simp [Instr.findNow, hs], by simp, by simp, m2, m1, hb⟩
      | false =>
        simp only [hb] at hf
        have := findE_sound hK hkind es xs (i + 1) res m4 hf
        cases res with
        | none => simpa [Instr.findNow, hs] using this
        | some p =>
          obtain ⟨j, v⟩ := p
          obtain ⟨x', m', q1, q2, q3, q4, q5, q6, q7⟩ := this
          have e1 : j - i = (j - (i + 1)) + 1 := by omega
          exact ⟨x', m', by omega, by simpa [Instr.findNow, hs] using q2, by rw [e1]; simpa using q3, by rw [e1]; simpa using q4, q5, q6, q7⟩

theorem findKey_run (G : Good C w0) {kt : TypeId} {ki : TI} (hk : C.ti kt = some ki) {K : Value} {xs : List MapEntry} {r : Option (Nat × Value)} (hf : Instr.findNow ki.und K xs 0 = some r) :
    (Instr.findKey kt K xs).run C.P w = .ok r w := by
  simp only [Instr.findKey, Sem.run_bind, run_und G hk, Result.andThen_ok, hf, Sem.run_pure]

theorem mapEs_sound (r : R w0 μ h w) {mv : V} {M : Value} {es : List MapE} (hes : mapEs mv h = some es) (hM : conc μ mv = some M) :
    ∃ arr : Array MapEntry, MR μ es arr.toList ∧ ((M = .map none ∧ arr = #[]) ∨ ∃ n c, M = .map (some n) ∧ (getObj n).run C.P w = .ok (.map arr c) w) := by
  unfold mapEs at hes
  split at hes
  · obtain rfl := Option.some.inj hes
    simp only [conc, Option.some.injEq] at hM
    exact ⟨#[], trivial, .inl ⟨hM.symm, rfl⟩⟩
  · rename_i id
    obtain ⟨n, hn, hmm⟩ := conc_map hM
    cases hma : mapAt h id with
    | none => simp [hma] at hes
    | some p =>
      obtain ⟨es', c⟩ := p
      simp only [hma, Option.map_some, Option.some.injEq] at hes
      subst hes
      obtain ⟨arr, h1, h2⟩ := mapAt_sound r hma hn
      exact ⟨arr, h2, .inr ⟨n, c, hmm, getObj_run h1 (by simp)⟩⟩
  · cases hes

theorem read_lookup (G : Good C w0) (r : R w0 μ h w) (he : ER μ e a.tmps) {t : TypeId} {m k : Operand} {ok : Bool} (ho : o.op = .lookup t m k ok) (hv : evR C (.lookup t m k ok) e h = some v) : RdOk C μ w a o v := by
  simp only [evR] at hv
  split at hv
  · rename_i mv kv hm hk
    have hM := opd_sound he hm
    have hK := opd_sound he hk
    unfold lookupV at hv
    split at hv
    · rename_i kt vt sz by' z fl hi
      split at hv
      · rename_i ki vi hki hvi
        split at hv
        · rename_i hkind
          obtain ⟨Z, hZ1, hZ2, _⟩ := run_zero G hvi w
          split at hv
          · rename_i es hes
            obtain ⟨arr, hmr, hrun⟩ := mapEs_sound r hes hM (C := C)
            have hexec : ∀ (q : Option (Nat × Value)) , Instr.findNow ki.und (a.eval k) arr.toList 0 = some q →
                (execOp a.eval o).run C.P w = .ok (.value (match q with
                  | some (_, v) => if ok then .tuple #[v, .bool true] else v
                  | none => if ok then .tuple #[Z, .bool false] else Z)) w := by
              intro q hq
              rcases hrun with ⟨hm1, rfl⟩ | ⟨n, c, hm1, hm2⟩
              · simp only [execOp, ho, Instr.lookup, Sem.run_bind, run_und G hi, Result.andThen_ok, hm1, Sem.run_pure, checkKey_run G hki hK hkind, findKey_run G hki hq]
                cases q with
                | none => simp [hZ1]
                | some p => simp
              · simp only [execOp, ho, Instr.lookup, Sem.run_bind, run_und G hi, Result.andThen_ok, hm1, hm2, Sem.run_pure, checkKey_run G hki hK hkind, findKey_run G hki hq]
                cases q with
                | none => simp [hZ1]
                | some p => simp
            split at hv
            · rename_i j u hf
              obtain ⟨x, m', q1, q2, q3, q4, q5, q6, q7⟩ := findE_sound hK hkind es arr.toList 0 _ hmr hf
              refine ⟨_, ?_, hexec _ q2⟩
              simp only [Option.some.injEq] at hv
              subst hv
              cases ok <;> simp [conc, concL, q5]
            · rename_i hf
              have := findE_sound hK hkind es arr.toList 0 _ hmr hf
              refine ⟨_, ?_, hexec _ this⟩
              simp only [Option.some.injEq] at hv
              subst hv
              cases ok <;> simp [conc, concL, hZ2 μ]
            · cases hv
          · cases hv
        · cases hv
      · cases hv
    · cases hv
  · cases hv

theorem fold_sound {f : V → V → Option V} {g : Value → Value → Sem Value} {P : Program} (hfg : ∀ x y z X Y, f x y = some z → conc μ x = some X → conc μ y = some Y → ∃ Z, conc μ z = some Z ∧ (g X Y).run P w = .ok Z w) :
    ∀ (l : List V) (x : V) (L : List Value) (X : Value) (z : V), foldV f x l = some z → conc μ x = some X → concL μ l = some L → ∃ Z, conc μ z = some Z ∧ (L.foldlM g X).run P w = .ok Z w
  | [], x, L, X, z, hf, hx, hl => by
    simp only [concL, Option.some.injEq] at hl
    subst hl
    simp only [foldV, Option.some.injEq] at hf
    subst hf
    exact ⟨X, hx, rfl⟩
  | y :: r, x, L, X, z, hf, hx, hl => by
    obtain ⟨Y, ys, rfl, h1, h2⟩ := concL_cons_inv hl
    simp only [foldV] at hf
    cases hxy : f x y with
    | none => simp [hxy] at hf
    | some z' =>
      simp only [hxy] at hf
      obtain ⟨Z', g1, g2⟩ := hfg x y z' X Y hxy hx h1
      obtain ⟨Z, g3, g4⟩ := fold_sound hfg r z' ys Z' z hf g1 h2
      exact ⟨Z, g3, by simp only [List.foldlM_cons, Sem.run_bind, g2, Result.andThen_ok, g4]⟩

theorem min2_sound {P : Program} (x y z : V) (X Y : Value) (hz : min2V x y = some z) (hx : conc μ x = some X) (hy : conc μ y = some Y) : ∃ Z, conc μ z = some Z ∧ (Builtin.min2 X Y).run P w = .ok Z w := by
  unfold min2V at hz
  split at hz
  · split at hz
    · rename_i hkl
      subst hkl
      obtain rfl := Option.some.inj hz
      exact ⟨_, rfl, by rw [conc_int hx, conc_int hy]; rfl⟩
    · cases hz
  · cases hz

theorem max2_sound {P : Program} (x y z : V) (X Y : Value) (hz : max2V x y = some z) (hx : conc μ x = some X) (hy : conc μ y = some Y) : ∃ Z, conc μ z = some Z ∧ (Builtin.max2 X Y).run P w = .ok Z w := by
  unfold max2V at hz
  split at hz
  · split at hz
    · rename_i hkl
      subst hkl
      obtain rfl := Option.some.inj hz
      exact ⟨_, rfl, by rw [conc_int hx, conc_int hy]; rfl⟩
    · cases hz
  · cases hz

theorem argT {A : Array Operand} {f : Operand → Value} {L : List Value} (h : A.toList.map f = L) : A.map f = L.toArray := by
  rw [← h]; simp [← Array.toList_map]

theorem MR_length {es : List MapE} : ∀ {xs : List MapEntry}, MR μ es xs → xs.length = es.length := by
  induction es with
  | nil => intro xs hm; cases xs with
    | nil => rfl
    | cons x r => exact hm.elim
  | cons m r ih => intro xs hm; cases xs with
    | nil => exact hm.elim
    | cons x s => simp [ih hm.2.2.2]

theorem read_builtin (G : Good C w0) (r : R w0 μ h w) (he : ER μ e a.tmps) {b : Builtin} {args : Array Operand} {ats : Array TypeId} (ho : o.op = .call ⟨.builtin b, args, ats⟩)
    (hv : evR C (.call ⟨.builtin b, args, ats⟩) e h = some v) : RdOk C μ w a o v := by
  simp only [evR] at hv
  split at hv
  · rename_i vs t hargs ht
    have hA := opds_sound he hargs
    split at hv
    · rename_i i hi
      have hu := run_und G hi
      have hex0 : ∃ cs, ∀ (L : List Value), args.toList.map a.eval = L → (execOp a.eval o).run C.P w = (builtin b ats o.type cs L.toArray).run C.P w := by
        refine ⟨?cs, fun L hL => ?_⟩
        rotate_left
        · simp only [execOp, ho, resolve, Sem.run_bind, Sem.run_pure, Result.andThen_ok, invoke, argT hL]
          rfl
      obtain ⟨cs, hex⟩ := hex0
      split at hv
      · rename_i s hd
        obtain rfl := Option.some.inj hv
        obtain ⟨x, xs, hl, h1, h2⟩ := concL_cons_inv hA
        simp only [concL, Option.some.injEq] at h2
        subst h2
        refine ⟨_, rfl, ?_⟩
        rw [hex _ hl, conc_str h1]
        simp [builtin, Builtin.len_, ht, hu, hd, goInt]
      · rename_i el q n c hd
        obtain rfl := Option.some.inj hv
        obtain ⟨x, xs, hl, h1, h2⟩ := concL_cons_inv hA
        simp only [concL, Option.some.injEq] at h2
        subst h2
        obtain ⟨p, m, rfl⟩ := conc_slice h1
        refine ⟨_, rfl, ?_⟩
        rw [hex _ hl]
        simp [builtin, Builtin.len_, ht, hu, hd, goInt]
      · rename_i n el q hd
        obtain rfl := Option.some.inj hv
        obtain ⟨x, xs, hl, h1, h2⟩ := concL_cons_inv hA
        simp only [concL, Option.some.injEq] at h2
        subst h2
        refine ⟨_, rfl, ?_⟩
        rw [hex _ hl]
        simp [builtin, Builtin.len_, ht, hu, hd, goInt]
      · rename_i kt vt hd
        obtain rfl := Option.some.inj hv
        obtain ⟨x, xs, hl, h1, h2⟩ := concL_cons_inv hA
        simp only [concL, Option.some.injEq] at h2
        subst h2
        simp only [conc, Option.some.injEq] at h1
        subst h1
        refine ⟨_, rfl, ?_⟩
        rw [hex _ hl]
        simp [builtin, Builtin.len_, ht, hu, hd, goInt]
      · rename_i kt vt id hd
        obtain ⟨x, xs, hl, h1, h2⟩ := concL_cons_inv hA
        simp only [concL, Option.some.injEq] at h2
        subst h2
        obtain ⟨n, hn, rfl⟩ := conc_map h1
        cases hma : mapAt h id with
        | none => simp [hma] at hv
        | some p =>
          obtain ⟨es, c⟩ := p
          simp only [hma, Option.some.injEq] at hv
          subst hv
          obtain ⟨arr, g1, g2⟩ := mapAt_sound r hma hn
          refine ⟨_, rfl, ?_⟩
          rw [hex _ hl]
          have := MR_length g2
          simp only [Array.length_toList] at this
          simp [builtin, Builtin.len_, ht, hu, hd, goInt, getObj_run g1, this]
      · rename_i el q n m hd
        obtain rfl := Option.some.inj hv
        obtain ⟨x, xs, hl, h1, h2⟩ := concL_cons_inv hA
        simp only [concL, Option.some.injEq] at h2
        subst h2
        obtain ⟨p, rfl, _⟩ := conc_slice_ex h1
        refine ⟨_, rfl, ?_⟩
        rw [hex _ hl]
        simp [builtin, Builtin.cap_, ht, hu, hd, goInt]
      · rename_i x rest
        obtain ⟨X, L, hl, h1, h2⟩ := concL_cons_inv hA
        obtain ⟨Z, g1, g2⟩ := fold_sound (P := C.P) (w := w) min2_sound rest x L X v hv h1 h2
        refine ⟨Z, g1, ?_⟩
        rw [hex _ hl]
        simp [builtin, Builtin.min_, g2]
      · rename_i x rest
        obtain ⟨X, L, hl, h1, h2⟩ := concL_cons_inv hA
        obtain ⟨Z, g1, g2⟩ := fold_sound (P := C.P) (w := w) max2_sound rest x L X v hv h1 h2
        refine ⟨Z, g1, ?_⟩
        rw [hex _ hl]
        simp [builtin, Builtin.max_, g2]
      · cases hv
    · cases hv
  · cases hv

theorem MR_find {es : List MapE} {stamp : Nat} : ∀ {xs : List MapEntry} {m : MapE}, MR μ es xs → es.find? (·.born == stamp) = some m →
    ∃ x, xs.find? (·.born == stamp) = some x ∧ conc μ m.key = some x.key ∧ conc μ m.val = some x.val := by
  induction es with
  | nil => intro xs m hm hf; simp at hf
  | cons a r ih =>
    intro xs m hm hf
    cases xs with
    | nil => exact hm.elim
    | cons x s =>
      obtain ⟨m1, m2, m3, m4⟩ := hm
      simp only [List.find?_cons] at hf ⊢
      rw [← m3]
      cases hb : a.born == stamp with
      | true => simp only [hb, Option.some.injEq] at hf; subst hf; exact ⟨x, rfl, m1, m2⟩
      | false => simp only [hb] at hf; exact ih m4 hf

theorem read_entry (r : R w0 μ h w) (he : ER μ e a.tmps) {it : Operand} (ho : o.op = .entry it) (hv : evR C (.entry it) e h = some v) : RdOk C μ w a o v := by
  simp only [evR] at hv
  split at hv
  · rename_i k hit
    have hI := opd_sound he hit
    obtain ⟨y, hy, hI'⟩ := conc_ptr hI
    split at hv
    · rename_i m since seen stepped hk
      split at hv
      · rename_i stamp es c hs hm
        split at hv
        · rename_i hc
          subst hc
          split at hv
          · rename_i x hf
            obtain rfl := Option.some.inj hv
            obtain ⟨en, ob, h1, h2, h3, h0, m', h4, rm, h5, h6⟩ := r.obj k _ hk rfl
            subst h6
            obtain ⟨arr, g1, g2⟩ := mapAt_sound r hm h5
            obtain ⟨z, f1, f2, f3⟩ := MR_find g2 hf
            have hb0 : y = ⟨en.blk, 0, none⟩ := by simpa [Ad.c, h1, h0, eq_comm] using hy
            subst hb0 h4
            refine ⟨.tuple #[z.key, z.val], by simp [conc, concL, f2, f3], ?_⟩
            have hback : seen.toArray.back? = some stamp := by simpa [Array.back?_eq_getElem?, List.getLast?_eq_getElem?] using hs
            have hfind : arr.find? (fun x => x.born == stamp) = some z := by rw [← f1, Array.find?_toList]
            simp [execOp, ho, hI', Instr.entry, getObj_run h3, hback, getObj_run g1, hfind]
          · cases hv
        · cases hv
      · cases hv
    · cases hv
  · cases hv

/-- **Whatever the evaluator tells of an operation that leaves memory alone, the machine does.** -/
theorem evR_sound (G : Good C w0) (r : R w0 μ h w) (he : ER μ e a.tmps) (hv : evR C o.op e h = some v) : RdOk C μ w a o v := by
  cases ho : o.op <;> rw [ho] at hv <;> first
    | exact read_load G r he ho hv
    | exact read_nilCheck he ho hv
    | exact read_unOp he ho hv
    | exact read_extract he ho hv
    | exact read_makeInterface G he ho hv
    | exact read_makeFunc he ho hv
    | exact read_fieldAddr G he ho hv
    | exact read_field G he ho hv
    | exact read_indexAddr G he ho hv
    | exact read_index G he ho hv
    | exact read_convert G he ho hv
    | exact read_typeAssert G he ho hv
    | exact read_build G he ho hv
    | exact read_slice G he ho hv
    | exact read_binOp G he ho hv
    | exact read_lookup G r he ho hv
    | exact read_pick he ho hv
    | exact read_entry r he ho hv
    | (simp only [evR] at hv; exact read_move he (.inl ho) hv)
    | (simp only [evR] at hv; exact read_move he (.inr ho) hv)
    | (rename_i c; obtain ⟨cl, args, ats⟩ := c; cases cl <;> first
        | exact read_builtin G r he ho hv
        | (simp [evR] at hv; done))
    | (simp [evR] at hv; done)

end
end Go.Ix
