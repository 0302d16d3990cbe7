/-
  The operations upon abstract values.
-/
import Derived.Test.YtoljdijpmnadpaaAbB
namespace Go.Proofs.Ytoljdijpmnadpaa
open Go.RowKit
set_option linter.unusedVariables false
set_option linter.unusedSimpArgs false

/-! ### what is known of the functions that are called -/
/-- what a procedure hands back: its result, and what became of the boxes that it was given, with new ones -/
structure Ret where
  res : AV
  outs : List Bx
  fresh : Bool
structure Gam where
  pure : FuncId → List RV → Option RV
  /-- a procedure: which arguments are data; how many boxes keep their names -/
  modes : FuncId → Option (List Bool × Nat × Nat) := fun _ => none
  proc : FuncId → List AV → List Bx → Option Ret := fun _ _ _ => none
  /-- an iterator, by what its closure holds: how often it calls its body, and with what -/
  iter : FuncId → List (Bool × List DV) → Option (Nat × (Nat → List DV)) := fun _ _ => none
instance : CoeFun Gam (fun _ => FuncId → List RV → Option RV) := ⟨Gam.pure⟩

/-! ### values written in the text -/
def Cl.ofV : Value → Cl
  | .int k n => if (Lit.int k n).wf then .d (.int k n) else .dead
  | .bool b => .d (.bool b)
  | .string s => if s.size ≤ maxLen then .d (.str s) else .dead
  | .slice none len cap => if len = 0 ∧ cap = 0 then .nil else .dead
  | .pointer none => .lit (.pointer none)
  | .nilFunc => .lit .nilFunc
  | .nilIface => .lit .nilIface
  | _ => .dead
def AV.ofV : Value → AV
  | .agg cs => .agg (cs.toList.map Cl.ofV)
  | .tuple ⟨[]⟩ => .tup []
  | v => .one (Cl.ofV v)
def AS.eval (s : AS) : Operand → AV
  | .tmp t => s.tm t
  | .const v => AV.ofV v
  | .func f => .one (.d (.fn f))
  | _ => .one .dead

def Cl.ok : Cl → Bool
  | .dead => false
  | _ => true
/-- the cells of a value, if all are known to be cells -/
def AV.cls : AV → Option (List Cl)
  | .one c => if c.ok then some [c] else none
  | .agg cs => some cs
  | .tup _ => none
def AV.bool? : AV → Option Bool
  | .one (.d (.bool b)) => some b
  | .one (.lit (.bool b)) => some b
  | _ => none
def Cl.dv : Cl → Option DV
  | .d v => some v
  | .lit (.bool b) => some (.bool b)
  | .nil => some (.sl 0 [])
  | _ => none
def AV.dv : AV → Option DV
  | .one c => c.dv
  | _ => none
def dvs : List Cl → Option (List DV)
  | [] => some []
  | c :: cs => match c.dv, dvs cs with
    | some v, some vs => some (v :: vs)
    | _, _ => none

/-! ### data read by its type -/
def nAt (xs : List DV) (i : Nat) : Int := match xs[i]? with | some (.int _ n) => n | _ => 0
def bAt (xs : List DV) (i : Nat) : Bool := match xs[i]? with | some (.bool b) => b | _ => false
def sAt (xs : List DV) (i : Nat) : ByteArray := match xs[i]? with | some (.str s) => s | _ => ByteArray.empty
def lAt (xs : List DV) (i : Nat) : Nat := match xs[i]? with | some (.sl n _) => n | _ => 0
def cAt (xs : List DV) (i : Nat) : List DV := match xs[i]? with | some (.sl _ cs) => cs | _ => []
def leafAt (z : Value) (xs : List DV) (i : Nat) : DV :=
  match z with
  | .int k _ => .int k (nAt xs i)
  | .bool _ => .bool (bAt xs i)
  | .string _ => .str (sAt xs i)
  | _ => .sl (lAt xs i) (cAt xs i)
def leavesAt : List Value → List DV → Nat → List DV
  | [], _, _ => []
  | z :: zs, xs, i => leafAt z xs i :: leavesAt zs xs (i + 1)
def leavesVc : List Value → List DV → Nat → Prop
  | [], _, _ => True
  | z :: zs, xs, i => xs[i]? = some (leafAt z xs i) ∧ leavesVc zs xs (i + 1)

/-! ### effects -/
structure Eff where
  rds : List Nat
  wrs : List Nat
  f : List Bx → Option (Prop × AV × List Bx)

def Eff.val (vc : Prop) (v : AV) : Eff := ⟨[], [], fun _ => some (vc, v, [])⟩
def Eff.new (vc : Prop) (d : Nat) (B : Bx) (v : AV) : Eff := ⟨[d], [d], fun bs => match bs with
  | [.fresh] => some (vc, v, [B])
  | _ => none⟩

/-- is a type's value an aggregate, and how many cells it has -/
def kindOf (P : Program) (t : TypeId) : Option (Bool × Nat) :=
  match P.info? t, P.underlying t with
  | some i, some (.struct _) => some (true, i.size)
  | some i, some (.array _ _) => some (true, i.size)
  | some _, some _ => some (false, 1)
  | _, _ => none
/-- with the cells of its zero value -/
def leafZ (P : Program) (t : TypeId) : Option (Bool × List Value) :=
  match kindOf P t, (P.info? t).bind (·.zero) with
  | some (g, k), some z => if z.cells.size = k then some (g, z.cells.toList) else none
  | _, _ => none
def aggOr (agg : Bool) (xs : List Cl) : Option AV := if agg then some (.agg xs) else match xs with | [c] => some (.one c) | _ => none
def sets {α : Type} : List α → Nat → List α → List α
  | xs, _, [] => xs
  | xs, i, y :: ys => sets (xs.set i y) (i + 1) ys
def fillC (place : Nat → Option (Nat × Nat)) : List Cl → List (Nat × AV) → Option (List Cl)
  | cs, [] => some cs
  | cs, (i, x) :: rest => match place i, x.cls with
    | some (off, size), some xs => if xs.length ≠ size ∨ off + xs.length > cs.length then none else fillC place (sets cs off xs) rest
    | _, _ => none

section
variable (P : Program) (ρ : Operand → AV)

def opPick (c x y : Operand) : Option Eff :=
  match (ρ c).bool? with
  | some b => some (.val True (bif b then ρ x else ρ y))
  | none => none
def opAlloc (dst : Option Nat) (t : TypeId) : Option Eff :=
  match dst, (P.info? t).bind (·.zero) with
  | some d, some z => some (.new True d (.cells (z.cells.toList.map Cl.ofV)) (.one (.ptr d 0)))
  | _, _ => none
def opBox (dst : Option Nat) (x : Operand) : Option Eff :=
  match dst, (ρ x).cls with
  | some d, some cs => some (.new True d (.cells cs) (.one (.ptr d 0)))
  | _, _ => none
def placesOf (fs : Array Field) : Option (Array (Nat × Nat)) :=
  if fs.all fun f => (P.info? f.type).isSome then some (fs.map fun f => (f.offset, P.cellsOf f.type)) else none
def opBuild (t : TypeId) (parts : Array (Nat × Operand)) : Option Eff :=
  match (P.info? t).bind (·.zero), P.underlying t with
  | some z, some (.struct fs) =>
    match placesOf P fs with
    | some pl => (fillC (pl[·]?) (z.cells.toList.map Cl.ofV) (parts.toList.map fun p => (p.1, ρ p.2))).map fun cs => .val True (.agg cs)
    | none => none
  | some z, some (.array _ e) =>
    match P.info? e with
    | some i => (fillC (fun k => some (k * i.size, i.size)) (z.cells.toList.map Cl.ofV) (parts.toList.map fun p => (p.1, ρ p.2))).map fun cs => .val True (.agg cs)
    | none => none
  | _, _ => none
def zerosOf (z : Array Value) (n : Nat) : List Cl := (List.range n).map fun k => Cl.ofV (z.getD (k % z.size) default)
def opBuildSlice (dst : Option Nat) (t : TypeId) (len : Nat) (parts : Array (Nat × Operand)) : Option Eff :=
  match dst, P.underlying t with
  | some d, some (.slice e) =>
    match P.info? e with
    | some i =>
      match i.zero with
      | some z =>
        if len * i.size ≤ 16777216 ∧ 0 < i.size ∧ z.cells.size = i.size then
          match fillC (fun k => some (k * i.size, i.size)) (zerosOf z.cells (len * i.size)) (parts.toList.map fun p => (p.1, ρ p.2)) with
          | some cs => match dvs cs with
            | some vs => some (.new True d (.row e i.size vs) (.one (.ref d len)))
            | none => none
          | none => none
        else none
      | none => none
    | none => none
  | _, _ => none
def opLoad (t : TypeId) (x : Operand) : Option Eff :=
  match ρ x with
  | .one (.ptr b off) => some ⟨[b], [], fun bs => match bs with
    | [.cells cs] => match kindOf P t with
      | some (g, k) => if off + k ≤ cs.length then (aggOr g ((cs.drop off).take k)).map fun v => (True, v, []) else none
      | none => none
    | [.row _ _ xs] => match leafZ P t with
      | some (g, zs) => (aggOr g ((leavesAt zs xs off).map .d)).map fun v => (leavesVc zs xs off, v, [])
      | none => none
    | _ => none⟩
  | .one (.vp xs off) => match leafZ P t with
    | some (g, zs) => (aggOr g ((leavesAt zs xs off).map .d)).map fun v => .val (leavesVc zs xs off) v
    | none => none
  | _ => none
def opStore (t : TypeId) (x y : Operand) : Option Eff :=
  match P.info? t, ρ x, (ρ y).cls with
  | some i, .one (.ptr b off), some xs =>
    if xs.length = i.size ∧ xs.all Cl.ok then
      some ⟨[b], [b], fun bs => match bs with
        | [.cells cs] => if off + xs.length ≤ cs.length then some (True, .tup [], [.cells (sets cs off xs)]) else none
        | [.row e size ds] => match dvs xs with
          | some ys => some (off + ys.length ≤ ds.length, .tup [], [.row e size (sets ds off ys)])
          | none => none
        | _ => none⟩
    else none
  | _, _, _ => none

/-! arithmetic -/
def binInt (op : BinOp) (k : IntKind) (a b : Int) : Option (Prop × DV) :=
  match op with
  | .add => some (True, .int k (k.wrap (a + b)))
  | .sub => some (True, .int k (k.wrap (a - b)))
  | .mul => some (True, .int k (k.wrap (a * b)))
  | .quo => some (b ≠ 0, .int k (k.wrap (a.tdiv b)))
  | .rem => some (b ≠ 0, .int k (a.tmod b))
  | .and => some (True, .int k (k.wrap (BitVec.ofInt k.bits a &&& BitVec.ofInt k.bits b).toNat))
  | .or => some (True, .int k (k.wrap (BitVec.ofInt k.bits a ||| BitVec.ofInt k.bits b).toNat))
  | .xor => some (True, .int k (k.wrap (BitVec.ofInt k.bits a ^^^ BitVec.ofInt k.bits b).toNat))
  | .andNot => some (True, .int k (k.wrap (BitVec.ofInt k.bits a &&& ~~~BitVec.ofInt k.bits b).toNat))
  | .eql => some (True, .bool (a == b))
  | .neq => some (True, .bool (a != b))
  | .lss => some (True, .bool (decide (a < b)))
  | .leq => some (True, .bool (decide (a ≤ b)))
  | .gtr => some (True, .bool (decide (a > b)))
  | .geq => some (True, .bool (decide (a ≥ b)))
  | _ => none
def shiftInt (op : BinOp) (k : IntKind) (a b : Int) : Option (Prop × DV) :=
  match op with
  | .shl => some (0 ≤ b, .int k (k.wrap (a * 2 ^ min b.toNat k.bits)))
  | .shr => some (0 ≤ b, .int k (a.fdiv (2 ^ min b.toNat k.bits)))
  | _ => none
def binStr (op : BinOp) (a b : ByteArray) : Option (Prop × DV) :=
  match op with
  | .add => some (a.size + b.size ≤ maxLen, .str (a ++ b))
  | .eql => some (True, .bool (a.toList == b.toList))
  | .neq => some (True, .bool (!(a.toList == b.toList)))
  | .lss => some (True, .bool (Op.bytesLess a.toList b.toList))
  | .leq => some (True, .bool (Op.bytesLess a.toList b.toList || a.toList == b.toList))
  | .gtr => some (True, .bool (!(Op.bytesLess a.toList b.toList || a.toList == b.toList)))
  | .geq => some (True, .bool (!Op.bytesLess a.toList b.toList))
  | _ => none
def plains : List Cl → Option (List Value)
  | [] => some []
  | c :: cs => match c.dv.bind DV.plain, plains cs with
    | some v, some vs => some (v :: vs)
    | _, _ => none
/-- two plain values held against each other by their type -/
def partV (P : Program) (t : TypeId) (cs : List Value) (off : Nat) : Option Value :=
  match kindOf P t with
  | some (true, k) => some (.agg ((cs.drop off).take k).toArray)
  | some (false, _) => cs[off]?
  | none => none
def eqFs (P : Program) (again : TypeId → Value → Value → Option Bool) (xs ys : List Value) : List Field → Option Bool
  | [] => some true
  | f :: fs => if f.name = "_" then eqFs P again xs ys fs else match partV P f.type xs f.offset, partV P f.type ys f.offset with
    | some a, some b => match again f.type a b, eqFs P again xs ys fs with
      | some r, some q => some (r && q)
      | _, _ => none
    | _, _ => none
def eqIs (P : Program) (again : TypeId → Value → Value → Option Bool) (e : TypeId) (xs ys : List Value) : List Nat → Option Bool
  | [] => some true
  | i :: is => match partV P e xs (i * P.cellsOf e), partV P e ys (i * P.cellsOf e) with
    | some a, some b => match again e a b, eqIs P again e xs ys is with
      | some r, some q => some (r && q)
      | _, _ => none
    | _, _ => none
def eqP (P : Program) : Nat → TypeId → Value → Value → Option Bool
  | 0, _, _, _ => none
  | d + 1, t, x, y => match P.underlying t, x, y with
    | some .bool, .bool a, .bool b => some (a == b)
    | some (.int _), .int k a, .int k' b => if k = k' then some (a == b) else none
    | some .string, .string a, .string b => some (a.toList == b.toList)
    | some (.struct fs), .agg xs, .agg ys => if P.stoodInHeld t then none else eqFs P (eqP P d) xs.toList ys.toList fs.toList
    | some (.array n e), .agg xs, .agg ys => match P.info? e with
      | some _ => eqIs P (eqP P d) e xs.toList ys.toList (List.range n)
      | none => none
    | _, _, _ => none
def eqAgg (P : Program) (t : TypeId) (us vs : List Value) : Option Bool :=
  if P.eqGuardType P.depth t then none else eqP P 20 t (.agg us.toArray) (.agg vs.toArray)
def isShift : BinOp → Bool
  | .shl | .shr => true
  | _ => false
def opBin (op : BinOp) (t : TypeId) (x y : Operand) : Option Eff :=
  match ρ x, ρ y with
  | .agg xs, .agg ys =>
    match plains xs, plains ys with
    | some us, some vs => match eqAgg P t us vs, op with
      | some r, .eql => some (.val True (.one (.d (.bool r))))
      | some r, .neq => some (.val True (.one (.d (.bool (!r)))))
      | _, _ => none
    | _, _ => none
  | u, v => match u.dv, v.dv with
    | some (.int k a), some (.int k' b) =>
      if isShift op then (shiftInt op k a b).map fun r => .val r.1 (.one (.d r.2))
      else if k = k' then (binInt op k a b).map fun r => .val r.1 (.one (.d r.2)) else none
    | some (.str a), some (.str b) => (binStr op a b).map fun r => .val r.1 (.one (.d r.2))
    | some (.bool a), some (.bool b) => match P.underlying t, op with
      | some .bool, .eql => some (.val True (.one (.d (.bool (a == b)))))
      | some .bool, .neq => some (.val True (.one (.d (.bool (!(a == b))))))
      | _, _ => none
    | _, _ => none
def opUn (op : UnOp) (x : Operand) : Option Eff :=
  match op, ρ x with
  | .not, .one (.lit (.bool b)) => some (.val True (.one (.lit (.bool !b))))
  | .not, .one (.d (.bool b)) => some (.val True (.one (.d (.bool !b))))
  | .neg, .one (.d (.int k n)) => some (.val True (.one (.d (.int k (k.wrap (0 - n))))))
  | .xor, .one (.d (.int k n)) => some (.val True (.one (.d (.int k (k.wrap (BitVec.ofInt k.bits (if k.signed then -1 else k.max) ^^^ BitVec.ofInt k.bits n).toNat)))))
  | _, _ => none
def opConv (src dst : TypeId) (x : Operand) : Option Eff :=
  match P.underlying src, P.underlying dst, ρ x with
  | some _, some (.int k), .one (.d (.int _ n)) => some (.val True (.one (.d (.int k (k.wrap n)))))
  | some _, some .string, .one (.d (.str s)) => some (.val True (.one (.d (.str s))))
  | _, _, _ => none

/-! slices -/
def repl {α : Type} (n : Nat) (z : List α) : List α := (List.replicate n z).flatten
def opMakeSlice (dst : Option Nat) (t : TypeId) (l c : Operand) : Option Eff :=
  match dst, P.underlying t with
  | some d, some (.slice e) =>
    match P.info? e, (ρ l).dv, (ρ c).dv with
    | some i, some (.int _ n), some (.int _ m) =>
      match i.zero with
      | some z => match dvs (z.cells.toList.map Cl.ofV) with
        | some zs => if zs.length = i.size ∧ 0 < i.size then some (.new (0 ≤ n ∧ n ≤ m ∧ m ≤ maxLen ∧ i.bytes * m ≤ 281474976710656) d (.row e i.size (if i.size = 1 then List.replicate n.toNat (zs.headD (.bool false)) else repl n.toNat zs)) (.one (.ref d n.toNat))) else none
        | none => none
      | none => none
    | _, _, _ => none
  | _, _ => none
/-- a bound of a slice expression -/
def boundOf (o : Option Operand) (dflt : Int) : Option Int :=
  match o with
  | none => some dflt
  | some x => match (ρ x).dv with
    | some (.int _ n) => some n
    | _ => none
def opSlice (t : TypeId) (x : Operand) (lo hi mx : Option Operand) : Option Eff :=
  match mx, P.underlying t, (ρ x).dv with
  | none, some (.slice e), some (.sl n cells) =>
    match P.info? e, boundOf ρ lo 0, boundOf ρ hi n with
    | some i, some l, some h => some (.val (0 ≤ l ∧ l ≤ h ∧ h ≤ n) (.one (.d (.sl (h - l).toNat ((cells.drop (l.toNat * i.size)).take ((h - l).toNat * i.size))))))
    | _, _, _ => none
  | none, some .string, some (.str s) =>
    match boundOf ρ lo 0, boundOf ρ hi s.size with
    | some l, some h => some (.val (0 ≤ l ∧ l ≤ h ∧ h ≤ s.size) (.one (.d (.str (s.extract l.toNat h.toNat)))))
    | _, _ => none
  | _, _, _ => none
def opFieldAddr (t : TypeId) (x : Operand) (f : Nat) : Option Eff :=
  match P.underlying t with
  | some (.struct fs) => match fs[f]? with
    | some fd => match P.info? fd.type with
      | some i => if i.size = 0 then none else match ρ x with
        | .one (.ptr b off) => some (.val True (.one (.ptr b (off + fd.offset))))
        | .one (.vp cs off) => some (.val True (.one (.vp cs (off + fd.offset))))
        | _ => none
      | none => none
    | none => none
  | _ => none
def opField (t : TypeId) (x : Operand) (f : Nat) : Option Eff :=
  match P.underlying t, ρ x with
  | some (.struct fs), .agg cs => match fs[f]? with
    | some fd => match kindOf P fd.type with
      | some (g, k) => if fd.offset + k ≤ cs.length then (aggOr g ((cs.drop fd.offset).take k)).map fun v => .val True v else none
      | none => none
    | none => none
  | _, _ => none
def opIndexAddr (t : TypeId) (x y : Operand) : Option Eff :=
  match P.underlying t, (ρ y).dv with
  | some (.array n e), some (.int _ i) => match P.info? e with
    | some inf => match ρ x with
      | .one (.ptr b off) => some (.val (0 ≤ i ∧ i < n) (.one (.ptr b (off + i.toNat * inf.size))))
      | .one (.vp cs off) => some (.val (0 ≤ i ∧ i < n) (.one (.vp cs (off + i.toNat * inf.size))))
      | _ => none
    | none => none
  | some (.slice e), some (.int _ i) => match P.info? e with
    | some inf => match ρ x with
      | .one (.d (.sl n cs)) => some (.val (0 ≤ i ∧ i < n ∧ i.toNat * inf.size < cs.length) (.one (.vp cs (i.toNat * inf.size))))
      | .one (.ref b n) => some (.val (0 ≤ i ∧ i < n) (.one (.ptr b (i.toNat * inf.size))))
      | _ => none
    | none => none
  | _, _ => none
def opIndex (t : TypeId) (x y : Operand) : Option Eff :=
  match P.underlying t, ρ x, (ρ y).dv with
  | some (.array n e), .agg cs, some (.int _ i) => match P.info? e, dvs cs, leafZ P e with
    | some inf, some xs, some (g, zs) => (aggOr g ((leavesAt zs xs (i.toNat * inf.size)).map .d)).map fun v => .val (0 ≤ i ∧ i < n ∧ leavesVc zs xs (i.toNat * inf.size)) v
    | _, _, _ => none
  | some .string, .one (.d (.str s)), some (.int _ i) => some (.val (0 ≤ i ∧ i < s.size) (.one (.d (.int .u8 (s.data.toList[i.toNat]?.getD 0).toNat))))
  | _, _, _ => none
def opExtract (x : Operand) (i : Nat) : Option Eff :=
  match ρ x with
  | .tup vs => (vs[i]?).map fun v => .val True v
  | _ => none
def opNilCheck (x : Operand) : Option Eff :=
  match ρ x with
  | .one (.ptr b off) => some (.val True (.one (.ptr b off)))
  | .one (.vp cs off) => some (.val True (.one (.vp cs off)))
  | _ => none
def opLen (ts : Array TypeId) (x : AV) : Option Eff :=
  match (ts[0]?).bind P.underlying, x with
  | some (.array n _), _ => some (.val (inK .i64 n) (.one (.d (.int .i64 n))))
  | some (.slice _), .one (.ref _ n) => some (.val (n ≤ maxLen) (.one (.d (.int .i64 n))))
  | some (.slice _), u => match u.dv with
    | some (.sl n _) => some (.val True (.one (.d (.int .i64 n))))
    | _ => none
  | some .string, .one (.d (.str s)) => some (.val True (.one (.d (.int .i64 s.size))))
  | _, _ => none
def opMinMax (mx : Bool) (x y : AV) : Option Eff :=
  match x, y with
  | .one (.d (.int k a)), .one (.d (.int k' b)) => if k = k' then some (.val True (.one (.d (.int k (if mx then max a b else min a b))))) else none
  | _, _ => none

/-! append -/
def rowOf (e size : Nat) : Bx → Option (List DV)
  | .row e' size' xs => if e' = e ∧ size' = size then some xs else none
  | _ => none
def inside : Bx → Option (List DV)
  | .row _ _ xs => some xs
  | .ice xs => some xs
  | _ => none
def appVc (size bytes n m : Nat) (xs ys : List DV) : Prop := xs.length = n * size ∧ ys.length = m * size ∧ n + m ≤ maxLen ∧ (n + m) * bytes ≤ 140737488355328
def zeroFits (i : TypeInfo) : Bool :=
  match i.zero with
  | some z => decide (0 < i.size) && decide (z.cells.size = i.size)
  | none => false
def opAppend (dst : Option Nat) (ts : Array TypeId) (x y : AV) : Option Eff :=
  match dst, ts.toList with
  | some d, [t, t'] =>
    if t ≠ t' then none else
    match P.underlying t with
    | some (.slice e) => match P.info? e with
      | some i => if zeroFits i = false then none else match x, y with
        | .one .nil, .one (.ref b' m) => some ⟨[d, b'], [d], fun bs => match bs with
          | [.fresh, B'] => (inside B').map fun ys => (appVc i.size i.bytes 0 m [] ys, .one (.ref d m), [.row e i.size ys])
          | _ => none⟩
        | .one (.ref b n), .one (.ref b' m) => if b = b' then none else some ⟨[d, b, b'], [d, b], fun bs => match bs with
          | [.fresh, B, B'] => match rowOf e i.size B, inside B' with
            | some xs, some ys => some (appVc i.size i.bytes n m xs ys, .one (.ref d (n + m)), [.row e i.size (xs ++ ys), .gone])
            | _, _ => none
          | _ => none⟩
        | .one .nil, v => match v.dv with
          | some (.sl m ys) => some (.new (appVc i.size i.bytes 0 m [] ys) d (.row e i.size ys) (.one (.ref d m)))
          | _ => none
        | .one (.ref b n), v => match v.dv with
          | some (.sl m ys) => some ⟨[d, b], [d, b], fun bs => match bs with
            | [.fresh, B] => (rowOf e i.size B).map fun xs => (appVc i.size i.bytes n m xs ys, .one (.ref d (n + m)), [.row e i.size (xs ++ ys), .gone])
            | _ => none⟩
          | _ => none
        | _, _ => none
      | none => none
    | _ => none
  | _, _ => none

/-! functions that hold boxes -/
def capOf : AV → Option Cap
  | .one (.ptr b off) => some (.ptr b off)
  | .one c => match c.dv with
    | some v => some (.d v)
    | none => none
  | _ => none
def capsOf : List AV → Option (List Cap)
  | [] => some []
  | x :: xs => match capOf x, capsOf xs with
    | some c, some cs => some (c :: cs)
    | _, _ => none
def opMakeFunc (fn : Fn) (first captured : List AV) : Option Eff :=
  match fn, first, capsOf captured with
  | .func f, [], some [] => some (.val True (.one (.d (.fn f))))
  | .func f, [], some cs => some (.val True (.one (.clo f cs)))
  | _, _, _ => none

/-! calls -/
def Cl.refs : Cl → List Nat
  | .ref b _ => [b]
  | _ => []
def AV.refs : AV → List Nat
  | .one c => c.refs
  | .agg cs => cs.flatMap Cl.refs
  | .tup _ => []
def Cl.rv (look : Nat → Option (List DV)) : Cl → Option DV
  | .ref b n => (look b).map fun xs => .sl n xs
  | c => c.dv
def Cl.rvs (look : Nat → Option (List DV)) : List Cl → Option (List DV)
  | [] => some []
  | c :: cs => match c.rv look, Cl.rvs look cs with
    | some v, some vs => some (v :: vs)
    | _, _ => none
mutual
def AV.rv (look : Nat → Option (List DV)) : AV → Option RV
  | .one c => (c.rv look).map .d
  | .agg cs => (Cl.rvs look cs).map .agg
  | .tup vs => (AV.rvs look vs).map .tup
def AV.rvs (look : Nat → Option (List DV)) : List AV → Option (List RV)
  | [] => some []
  | x :: xs => match x.rv look, AV.rvs look xs with
    | some v, some vs => some (v :: vs)
    | _, _ => none
end
def lookIn : List Nat → List Bx → Nat → Option (List DV)
  | b' :: rs, B :: bs, b => if b = b' then inside B else lookIn rs bs b
  | _, _, _ => none
mutual
def RV.av : RV → AV
  | .d v => .one (.d v)
  | .agg vs => .agg (vs.map .d)
  | .tup vs => .tup (RV.avs vs)
def RV.avs : List RV → List AV
  | [] => []
  | x :: xs => x.av :: RV.avs xs
end
def AV.flat : AV → Bool
  | .tup _ => false
  | _ => true
def Bx.freeze : Bx → Bx
  | .row _ _ xs => .ice xs
  | B => B
def enters (f : FuncId) : Bool :=
  match P.funcs[f]? with
  | some fn => fn.body.isSome && !(fn.name == "runtime.NumGoroutine")
  | none => false
/-- the mark of a function that hands back a row of its own: what Γ says of no arguments -/
def ownOf (Γ : Gam) (f : FuncId) : Option (Nat × Nat) :=
  match Γ f [] with
  | some (.tup [.tup [.d (.int _ e), .d (.int _ size)]]) => some (e.toNat, size.toNat)
  | _ => none
def opCallO (Γ : Gam) (d : Nat) (f : FuncId) (e size : Nat) (xs : List AV) : Option Eff :=
  if enters P f && xs.all AV.flat then
    some ⟨xs.flatMap AV.refs ++ [d], xs.flatMap AV.refs ++ [d], fun bs => match bs.getLast? with
      | some .fresh => match AV.rvs (lookIn (xs.flatMap AV.refs) bs.dropLast) xs with
        | some rs => match Γ f rs with
          | some (.d (.sl n ys)) => some (AnsO P f rs e size n ys, .one (.ref d n), bs.dropLast.map Bx.freeze ++ [.row e size ys])
          | _ => none
        | none => none
      | _ => none⟩
  else none
def opCallP (Γ : Gam) (f : FuncId) (xs : List AV) : Option Eff :=
  if enters P f && xs.all AV.flat then
    some ⟨xs.flatMap AV.refs, xs.flatMap AV.refs, fun bs => match AV.rvs (lookIn (xs.flatMap AV.refs) bs) xs with
      | some rs => match Γ f rs with
        | some r => some (Ans P f rs r, r.av, if r.flat then bs else bs.map Bx.freeze)
        | none => none
      | none => none⟩
  else none
/-- the mark of a function that hands back what lies in new blocks alone -/
def newOf (Γ : Gam) (f : FuncId) : Bool :=
  match Γ f [] with
  | some (.tup [.tup []]) => true
  | _ => false
def opCallN (Γ : Gam) (f : FuncId) (xs : List AV) : Option Eff :=
  if enters P f && xs.all AV.flat then
    some ⟨xs.flatMap AV.refs, xs.flatMap AV.refs, fun bs => match AV.rvs (lookIn (xs.flatMap AV.refs) bs) xs with
      | some rs => match Γ f rs with
        | some r => some (AnsN P f rs r, r.av, bs)
        | none => none
      | none => none⟩
  else none
def opCall (Γ : Gam) (dst : Option Nat) (f : FuncId) (xs : List AV) : Option Eff :=
  match ownOf Γ f with
  | some (e, size) => match dst with
    | some d => opCallO P Γ d f e size xs
    | none => none
  | none => match newOf Γ f with
    | true => opCallN P Γ f xs
    | false => opCallP P Γ f xs
end

def prep (P : Program) (Γ : Gam) (o : Oper) (ρ : Operand → AV) : Option Eff :=
  match o.op with
  | .move x | .assign x => some (.val True (ρ x))
  | .pick c x y => opPick ρ c x y
  | .alloc t => opAlloc P o.dst t
  | .box _ x => opBox ρ o.dst x
  | .build t ps => opBuild P ρ t ps
  | .buildSlice t len ps => opBuildSlice P ρ o.dst t len ps
  | .load t x => opLoad P ρ t x
  | .store t x y => opStore P ρ t x y
  | .nilCheck x => opNilCheck ρ x
  | .binOp op t x y _ => opBin P ρ op t x y
  | .unOp op _ x => opUn ρ op x
  | .convert src dst x => opConv P ρ src dst x
  | .makeSlice t l c => opMakeSlice P ρ o.dst t l c
  | .slice t x lo hi mx => opSlice P ρ t x lo hi mx
  | .fieldAddr t x f => opFieldAddr P ρ t x f
  | .field t x f => opField P ρ t x f
  | .indexAddr t x y => opIndexAddr P ρ t x y
  | .index t x y => opIndex P ρ t x y
  | .extract x i => opExtract ρ x i
  | .makeFunc fn fs cs => opMakeFunc fn (fs.toList.map ρ) (cs.toList.map ρ)
  | .call c => match c.callee, c.args.toList with
    | .value (.func f), xs => opCall P Γ o.dst f (xs.map ρ)
    | .value (.tmp t), xs => match ρ (.tmp t) with
      | .one (.d (.fn f)) => opCall P Γ o.dst f (xs.map ρ)
      | _ => none
    | .builtin .len, [x] => opLen P c.argTypes (ρ x)
    | .builtin .max, [x, y] => opMinMax true (ρ x) (ρ y)
    | .builtin .min, [x, y] => opMinMax false (ρ x) (ρ y)
    | .builtin .append, [x, y] => opAppend P o.dst c.argTypes (ρ x) (ρ y)
    | _, _ => none
  | _ => none

def AS.setBs : AS → List Nat → List Bx → AS
  | s, b :: bs, B :: Bs => (s.setB b B).setBs bs Bs
  | s, _, _ => s
def dstIn (n : Dom) (o : Oper) : Bool := match o.dst with | some d => decide (d < n.n) && !n.keep d | none => true
end Go.Proofs.Ytoljdijpmnadpaa
