/- An evaluator over a memory of ids and lists, in the place of the model's machine: its values, its memory, its operations. Conditions: none; definitions alone. -/
import Derived.Calls
import Derived.Orders
import Derived.Laws.Entries
set_option linter.unusedSimpArgs false
set_option linter.unusedVariables false
namespace Go.Ab

abbrev Id := List Nat

inductive V where
  | bool (b : Bool)
  | int (k : IntKind) (n : Int)
  | str (s : ByteArray)
  | flt (k : FloatKind) (b : Nat)
  | nilp
  | ptr (i : Id) (off : Nat)
  | pptr (cs : List V)
  | nils
  | sl (i : Id) (off len sz : Nat) (cap : Option Nat)
  | psl (cs : List V) (len : Nat) (capped : Bool)
  | nilm
  | mapr (i : Id)
  | fn (f : Fn) (first captured : List V)
  | nilf
  | iface (t : TypeId) (v : V)
  | nili
  | agg (cs : List V)
  | tup (vs : List V)
  | bad
  deriving Inhabited

/-- what an object of the memory is -/
inductive AObj where
  | cells (cs : List V)
  | map (es : List (V × V))
  deriving Inhabited

abbrev Mem := Id → Option AObj

def Mem.set (M : Mem) (i : Id) (o : AObj) : Mem := fun j => if j = i then some o else M j
def Mem.del (M : Mem) (i : Id) : Mem := fun j => if j = i then none else M j

/-- the cells of a value -/
def V.cells : V → List V
  | .agg cs => cs
  | v => [v]

/-- may it lie in one cell? -/
def V.one : V → Bool
  | .agg _ | .tup _ | .bad => false
  | _ => true

abbrev undefV : V := .tup []

/-- a constant of the program -/
def absC : Value → V
  | .bool b => .bool b
  | .int k n => .int k n
  | .string s => .str s
  | .float k b => .flt k b
  | .pointer none => .nilp
  | .slice none 0 0 => .nils
  | .map none => .nilm
  | .nilFunc => .nilf
  | .nilIface => .nili
  | .tuple ⟨[]⟩ => .tup []
  | _ => .bad

/-- the zero value of a type: one level of cells -/
def absZ : Value → V
  | .agg cs => .agg (cs.toList.map absC)
  | v => absC v

abbrev Tm := Nat → V
def upd (f : Tm) (t : Nat) (v : V) : Tm := fun u => if u = t then v else f u
def put (f : Tm) : Option Tmp → V → Tm
  | some t, v => upd f t v
  | none, _ => f

def ev (f : Tm) : Operand → V
  | .tmp t => f t
  | .const v => absC v
  | .global _ => .bad
  | .func g => .fn (.func g) [] []

/-- what the evaluator goes by beside the program: which functions leave the memory alone, whose results are made immutable, what stands in for functions -/
inductive Lv where
  | free
  | adds
  | quiet
  deriving DecidableEq

structure Env where
  P : Program
  lv : FuncId → Lv
  loose : FuncId → Nat → List (Nat × Nat)
  cprim : FuncId → Code → Option ((Nat → V) → Id → Mem → Option ((Nat → V) × Mem))
  fz : FuncId → FuncId → Bool
  prim : FuncId → Option (List V → Id → Mem → Option (V × Mem))

def zeroV (P : Program) (t : TypeId) : Option V := ((P.info? t).bind (·.zero)).map absZ

/-- an element of a slice or an array: how many cells, whether it is a struct or an array, its bytes, its zero cells, whether it is a byte -/
structure El where
  size : Nat
  agg : Bool
  bytes : Nat
  zero : List V
  u8 : Bool

/-- a field: where, how many cells, whether it is a struct or an array -/
structure Ft where
  off : Nat
  size : Nat
  agg : Bool

def aggD : TypeDesc → Bool
  | .struct _ | .array _ _ => true
  | _ => false
def u8D : TypeDesc → Bool
  | .int .u8 => true
  | _ => false

def szOf (P : Program) (t : TypeId) : Option (Nat × Bool) :=
  match P.info? t, P.underlying t with
  | some i, some d => some (i.size, aggD d)
  | _, _ => none

def elOf (P : Program) (e : TypeId) : Option El :=
  match P.info? e, P.underlying e, zeroV P e with
  | some i, some d, some z => if z.cells.length = i.size ∧ 0 < i.size ∧ i.bytes ≤ 1024 ∧ z.cells.all V.one = true then some ⟨i.size, aggD d, i.bytes, z.cells, u8D d⟩ else none
  | _, _, _ => none

/-- a struct of numbers and bools alone, a cell a field -/
def scalarT (P : Program) (t : TypeId) : Bool :=
  match P.underlying t with
  | some .bool | some (.int _) => P.cellsOf t == 1
  | _ => false
def flatT (P : Program) (t : TypeId) (fs : Array Field) : Bool :=
  (fs.toList.zipIdx.all fun (f, i) => f.offset == i && f.name != "_" && scalarT P f.type) && !P.stoodInHeld t && !P.eqGuardType P.depth t

def intT (P : Program) (t : TypeId) : Bool :=
  match P.underlying t with
  | some (.int _) => true
  | _ => false
/-- do cells fit the kinds of the fields: numbers (true), bools? -/
def fitK : List Bool → List V → Bool
  | true :: ks, .int _ _ :: l => fitK ks l
  | false :: ks, .bool _ :: l => fitK ks l
  | [], [] => true
  | _, _ => false

inductive Kk where
  | bool | int | str
  deriving DecidableEq

inductive Kd where
  | bool
  | int (k : IntKind)
  | str
  | pointer
  | slice (e : El)
  | array (n : Nat) (e : El)
  | map (k : Kk) (zero : V)
  | func
  | iface
  | struct (fs : List Ft) (flat : Option (List Bool))
  | other

def keyT (P : Program) (k : TypeId) : Option Kk :=
  match P.underlying k with
  | some (.int _) => some .int
  | some .bool => some .bool
  | some .string => some .str
  | _ => none

def kd (P : Program) (t : TypeId) : Option Kd :=
  match P.underlying t with
  | some .bool => some .bool
  | some (.int k) => some (.int k)
  | some .string => some .str
  | some (.pointer _) => some .pointer
  | some (.slice e) => (elOf P e).map .slice
  | some (.array n e) => (elOf P e).map (.array n)
  | some (.map k e) => match keyT P k, zeroV P e with
    | some k, some z => some (.map k z)
    | _, _ => none
  | some (.func ..) => some .func
  | some (.interface _) => some .iface
  | some (.struct fs) => (fs.toList.mapM fun f => (szOf P f.type).map fun x => (⟨f.offset, x.1, x.2⟩ : Ft)).map fun l => .struct l (if flatT P t fs = true then some (fs.toList.map (intT P ·.type)) else none)
  | some _ => some .other
  | none => none

/-- cells of a value of a type, at an offset of cells -/
def partV (agg : Bool) (n : Nat) (cs : List V) (off : Nat) : Option V :=
  if agg then (if off + n ≤ cs.length then some (.agg ((cs.drop off).take n)) else none) else cs[off]?

def loadV (P : Program) (t : TypeId) (M : Mem) : V → Option V
  | .ptr i off => match M i, szOf P t with
    | some (.cells cs), some (n, b) => partV b n cs off
    | _, _ => none
  | .pptr cs => match szOf P t with
    | some (n, b) => partV b n cs 0
    | none => none
  | _ => none

def splice (cs : List V) (off : Nat) (vs : List V) : List V := cs.take off ++ vs ++ cs.drop (off + vs.length)

def storeV (P : Program) (t : TypeId) (M : Mem) (a v : V) : Option Mem :=
  match a with
  | .ptr i off => match M i, szOf P t with
    | some (.cells cs), some (n, _) =>
      if v.cells.length = n ∧ off + n ≤ cs.length ∧ v.cells.all V.one = true then some (M.set i (.cells (splice cs off v.cells))) else none
    | _, _ => none
  | _ => none

def fieldAddrV (P : Program) (s : TypeId) (x : V) (f : Nat) : Option V :=
  match kd P s with
  | some (.struct fs _) => match fs[f]? with
    | some fd => if fd.size = 0 then none else match x with
      | .ptr i off => some (.ptr i (off + fd.off))
      | .pptr cs => some (.pptr (cs.drop fd.off))
      | _ => none
    | none => none
  | _ => none

def fieldV (P : Program) (s : TypeId) (x : V) (f : Nat) : Option V :=
  match kd P s, x with
  | some (.struct fs _), .agg cs => match fs[f]? with
    | some fd => partV fd.agg fd.size cs fd.off
    | none => none
  | _, _ => none

def indexAddrV (P : Program) (t : TypeId) (x ix : V) : Option V :=
  match ix with
  | .int _ n => match kd P t, x with
    | some (.slice e), .sl i off len _ _ => if 0 ≤ n ∧ n < len then some (.ptr i (off + n.toNat * e.size)) else none
    | some (.slice e), .psl cs len _ => if 0 ≤ n ∧ n < len then some (.pptr (cs.drop (n.toNat * e.size))) else none
    | some (.array len e), .ptr i off => if 0 ≤ n ∧ n < len then some (.ptr i (off + n.toNat * e.size)) else none
    | _, _ => none
  | _ => none

def indexV (P : Program) (t : TypeId) (x ix : V) : Option V :=
  match ix with
  | .int _ n => match kd P t, x with
    | some (.array len e), .agg cs => if 0 ≤ n ∧ n < len then partV e.agg e.size cs (n.toNat * e.size) else none
    | some .str, .str s => if 0 ≤ n then (s[n.toNat]?).map fun b => .int .u8 b.toNat else none
    | _, _ => none
  | _ => none

/-- the bounds of a slice expression: low, high, and the cap where one is said -/
def boundV : V → Option Int
  | .int _ n => some n
  | _ => none

def optB (ρ : Operand → V) : Option Operand → Option (Option Int)
  | none => some none
  | some x => (boundV (ρ x)).map some

/-- what a slice expression cuts, where 'most' is known to be within the capacity -/
def cutB (len most : Nat) (lo hi mx : Option Int) : Option (Nat × Nat × Option Nat) :=
  let m : Int := mx.getD most
  let h : Int := hi.getD len
  let l : Int := lo.getD 0
  if 0 ≤ l ∧ l ≤ h ∧ h ≤ m ∧ m ≤ most ∧ (mx.isSome = true → hi.isSome = true) then some (l.toNat, h.toNat, mx.map (·.toNat)) else none

/-- is a piece's capacity its length? -/
def cut2 (capped : Bool) (h len : Nat) : Option Nat → Bool
  | some m => m == h
  | none => capped && h == len

def sliceV (P : Program) (t : TypeId) (x : V) (lo hi mx : Option Int) : Option V :=
  match kd P t, x with
  | some (.slice _), .nils => match cutB 0 0 lo hi mx with
    | some _ => some .nils
    | none => none
  | some (.slice e), .sl i off len sz cap =>
    if sz = e.size then match cutB len (cap.getD len) lo hi mx with
      | some (l, h, m) => some (.sl i (off + l * sz) (h - l) sz (match m with | some m => some (m - l) | none => cap.map (· - l)))
      | none => none
    else none
  | some (.slice e), .psl cs len capped => match cutB len len lo hi mx with
      | some (l, h, m) => if cs.length = len * e.size then
          some (.psl ((cs.drop (l * e.size)).take ((h - l) * e.size)) (h - l) (cut2 capped h len m)) else none
      | none => none
  | some .str, .str s => if mx.isSome then none else match cutB s.size s.size lo hi none with
      | some (l, h, _) => some (.str (s.extract l h))
      | none => none
  | _, _ => none

/-- '==' of two cells -/
def eq1 : V → V → Option Bool
  | .bool a, .bool b => some (a == b)
  | .int j a, .int k b => if j = k then some (a == b) else none
  | _, _ => none

def eqCells : List V → List V → Option Bool
  | [], [] => some true
  | a :: x, b :: y => match eq1 a b with
    | some r => match eqCells x y with
      | some s => some (r && s)
      | none => none
    | none => none
  | _, _ => none

def eqV (P : Program) (t : TypeId) (x y : V) : Option Bool :=
  match kd P t, x, y with
  | some .bool, .bool a, .bool b => some (a == b)
  | some .str, .str a, .str b => some (a.toList == b.toList)
  | some .pointer, .nilp, .nilp => some true
  | some .pointer, .ptr _ _, .nilp | some .pointer, .pptr _, .nilp | some .pointer, .nilp, .ptr _ _ | some .pointer, .nilp, .pptr _ => some false
  | some (.slice _), .nils, .nils => some true
  | some (.slice _), .sl .., .nils | some (.slice _), .psl .., .nils | some (.slice _), .nils, .sl .. | some (.slice _), .nils, .psl .. => some false
  | some (.map ..), .nilm, .nilm => some true
  | some (.map ..), .mapr _, .nilm | some (.map ..), .nilm, .mapr _ => some false
  | some .func, .nilf, .nilf => some true
  | some .func, .fn .., .nilf | some .func, .nilf, .fn .. => some false
  | some (.struct _ (some ks)), .agg a, .agg b => if a.length = ks.length ∧ b.length = ks.length ∧ fitK ks a = true then eqCells a b else none
  | _, _, _ => none

def arithV (o : BinOp) (k : IntKind) (a b : Int) : Option V :=
  match o with
  | .add => some (.int k (k.wrap (a + b)))
  | .sub => some (.int k (k.wrap (a - b)))
  | .mul => some (.int k (k.wrap (a * b)))
  | .quo => if b = 0 then none else some (.int k (k.wrap (a.tdiv b)))
  | .rem => if b = 0 then none else some (.int k (a.tmod b))
  | .and => some (.int k (k.wrap (BitVec.ofInt k.bits a &&& BitVec.ofInt k.bits b).toNat))
  | .or => some (.int k (k.wrap (BitVec.ofInt k.bits a ||| BitVec.ofInt k.bits b).toNat))
  | .xor => some (.int k (k.wrap (BitVec.ofInt k.bits a ^^^ BitVec.ofInt k.bits b).toNat))
  | .andNot => some (.int k (k.wrap (BitVec.ofInt k.bits a &&& ~~~(BitVec.ofInt k.bits b)).toNat))
  | .eql => some (.bool (a == b))
  | .neq => some (.bool (a != b))
  | .lss => some (.bool (decide (a < b)))
  | .leq => some (.bool (decide (a ≤ b)))
  | .gtr => some (.bool (decide (a > b)))
  | .geq => some (.bool (decide (a ≥ b)))
  | _ => none

def binV (P : Program) (o : BinOp) (t : TypeId) (x y : V) : Option V :=
  match o, x, y with
  | .shl, .int k a, .int _ b => if b < 0 then none else some (.int k (k.wrap (a * 2 ^ (min b.toNat k.bits))))
  | .shr, .int k a, .int _ b => if b < 0 then none else some (.int k (a.fdiv (2 ^ (min b.toNat k.bits))))
  | _, .int k a, .int k' b => if k = k' then arithV o k a b else none
  | .eql, _, _ => (eqV P t x y).map .bool
  | .neq, _, _ => (eqV P t x y).map fun b => .bool (!b)
  | _, _, _ => none

def unV (o : UnOp) (x : V) : Option V :=
  match o, x with
  | .not, .bool b => some (.bool !b)
  | .neg, .int k n => some (.int k (k.wrap (0 - n)))
  | _, _ => none

def bytesOfCells : List V → Option (List UInt8)
  | [] => some []
  | .int .u8 n :: l => (bytesOfCells l).map (UInt8.ofNat n.toNat :: ·)
  | _ => none

def convV (P : Program) (src dst : TypeId) (M : Mem) (x : V) : Option V :=
  match kd P src, kd P dst, x with
  | some (.int _), some (.int k), .int _ n => some (.int k (k.wrap n))
  | some .str, some .str, .str s => some (.str s)
  | some (.slice e), some .str, .nils => if e.u8 then some (.str .empty) else none
  | some (.slice e), some .str, .psl cs len _ => if e.u8 = true ∧ cs.length = len then (bytesOfCells cs).map fun l => .str ⟨l.toArray⟩ else none
  | some (.slice e), some .str, .sl i off len _ _ => if e.u8 then (match M i with
      | some (.cells cs) => if off + len ≤ cs.length then (bytesOfCells ((cs.drop off).take len)).map fun l => .str ⟨l.toArray⟩ else none
      | _ => none) else none
  | _, _, _ => none

/-- keys of maps: numbers, bools, strings -/
def sameKey : Kk → V → V → Option Bool
  | .int, .int j a, .int l b => if j = l then some (a == b) else none
  | .bool, .bool a, .bool b => some (a == b)
  | .str, .str a, .str b => some (a == b)
  | _, _, _ => none

/-- where a key stands -/
def findK (k : Kk) (x : V) : List (V × V) → Nat → Option (Option (Nat × V))
  | [], _ => some none
  | (y, v) :: l, n => match sameKey k x y with
    | some true => some (some (n, v))
    | some false => findK k x l (n + 1)
    | none => none

/-- is it a key of that kind? -/
def isKey : Kk → V → Bool
  | .int, .int _ _ => true
  | .bool, .bool _ => true
  | .str, .str _ => true
  | _, _ => false

def entriesV (M : Mem) : V → Option (List (V × V))
  | .nilm => some []
  | .mapr i => match M i with
    | some (.map es) => some es
    | _ => none
  | _ => none

def lookupV (P : Program) (t : TypeId) (M : Mem) (x ix : V) (ok : Bool) : Option V :=
  match kd P t, entriesV M x with
  | some (.map k z), some es =>
    if isKey k ix then match findK k ix es 0 with
      | some (some (_, v)) => some (if ok then .tup [v, .bool true] else v)
      | some none => some (if ok then .tup [z, .bool false] else z)
      | none => none
    else none
  | _, _ => none

def mapUpdateV (P : Program) (t : TypeId) (M : Mem) (m k v : V) : Option Mem :=
  match kd P t, m with
  | some (.map kk _), .mapr i => match M i with
    | some (.map es) =>
      if isKey kk k then match findK kk k es 0 with
        | some (some (n, _)) => some (M.set i (.map (es.set n (k, v))))
        | some none => some (M.set i (.map (es ++ [(k, v)])))
        | none => none
      else none
    | _ => none
  | _, _ => none

def fillV (place : Nat → Option (Nat × Nat)) (cs : List V) : List (Nat × V) → Option (List V)
  | [] => some cs
  | (i, v) :: rest => match place i with
    | none => none
    | some (off, size) => if v.cells.length = size ∧ off + size ≤ cs.length ∧ v.cells.all V.one = true then fillV place (splice cs off v.cells) rest else none

def repeatV (cs : List V) : Nat → List V
  | 0 => []
  | n + 1 => cs ++ repeatV cs n

def buildV (P : Program) (t : TypeId) (parts : List (Nat × V)) : Option V :=
  match kd P t, zeroV P t with
  | some (.struct fs _), some z => (if z.cells.all V.one = true then fillV (fun i => (fs[i]?).map fun f => (f.off, f.size)) z.cells parts else none).map .agg
  | some (.array _ e), some z => (if z.cells.all V.one = true then fillV (fun i => some (i * e.size, e.size)) z.cells parts else none).map .agg
  | _, _ => none

def buildSliceV (P : Program) (t : TypeId) (len : Nat) (parts : List (Nat × V)) (i : Id) (M : Mem) : Option (V × Mem) :=
  match kd P t with
  | some (.slice e) => if len * e.size ≤ 2 ^ 24 then
      (fillV (fun i => some (i * e.size, e.size)) (repeatV e.zero len) parts).map fun cs => (.sl i 0 len e.size (some len), M.set i (.cells cs))
    else none
  | _ => none

/-- the length of what is put behind, and its cells -/
def srcV (sz : Nat) (M : Mem) : V → Option (Nat × List V)
  | .nils => some (0, [])
  | .sl i off len _ _ => match M i with
    | some (.cells cs) => if off + len * sz ≤ cs.length then some (len, (cs.drop off).take (len * sz)) else none
    | _ => none
  | .psl cs len _ => if cs.length = len * sz then some (len, cs) else none
  | .str s => if sz = 1 then some (s.size, s.data.toList.map fun b => .int .u8 b.toNat) else none
  | _ => none

def mostLen : Nat := 2 ^ 36

/-- n elements put behind a slice -/
def joinV (e : El) (s : V) (n : Nat) (new : List V) (i : Id) (M : Mem) : Option (V × Mem) :=
  match s with
  | .nils => if n = 0 then some (.nils, M) else if n ≤ mostLen then some (.sl i 0 n e.size none, M.set i (.cells new)) else none
  | .psl cs len capped => if cs.length = len * e.size ∧ len + n ≤ mostLen then
      (if n = 0 then some (.psl cs len capped, M) else if capped then some (.sl i 0 (len + n) e.size none, M.set i (.cells (cs ++ new))) else none)
    else none
  | .sl j off len sz cap => match M j with
    | some (.cells cs) => if sz = e.size ∧ off + len * sz ≤ cs.length ∧ len + n ≤ mostLen then
        (match cap with
        | some c => if len + n ≤ c then
              (if off + (len + n) * sz ≤ cs.length then some (.sl j off (len + n) sz cap, M.set j (.cells (splice cs (off + len * sz) new))) else none)
            else some (.sl i 0 (len + n) sz none, M.set i (.cells ((cs.drop off).take (len * sz) ++ new)))
        | none => if off + len * sz = cs.length then some (.sl i 0 (len + n) sz none, (M.del j).set i (.cells (cs.drop off ++ new)))
            else if off + (len + n) * sz ≤ cs.length then some (.sl j off (len + n) sz none, M.set j (.cells (splice cs (off + len * sz) new))) else none)
      else none
    | _ => none
  | _ => none

def appendV (P : Program) (sT : TypeId) (s x : V) (i : Id) (M : Mem) : Option (V × Mem) :=
  match kd P sT with
  | some (.slice e) => match srcV e.size M x with
    | some (n, new) => if new.length = n * e.size then joinV e s n new i M else none
    | none => none
  | _ => none

def lenV (P : Program) (t : TypeId) (M : Mem) (x : V) : Option V :=
  match kd P t, x with
  | some .str, .str s => some (.int .i64 s.size)
  | some (.array n _), _ => some (.int .i64 n)
  | some (.slice _), .nils => some (.int .i64 0)
  | some (.slice _), .sl _ _ n _ _ => some (.int .i64 n)
  | some (.slice _), .psl _ n _ => some (.int .i64 n)
  | some (.map ..), .nilm => some (.int .i64 0)
  | some (.map ..), .mapr i => match M i with
    | some (.map es) => some (.int .i64 es.length)
    | _ => none
  | _, _ => none

def minV : List V → Option V
  | .int k a :: l => l.foldlM (fun x y => match x, y with | .int k a, .int _ b => some (.int k (if b < a then b else a)) | _, _ => none) (.int k a)
  | _ => none
def maxV : List V → Option V
  | .int k a :: l => l.foldlM (fun x y => match x, y with | .int k a, .int _ b => some (.int k (if b > a then b else a)) | _, _ => none) (.int k a)
  | _ => none

/-- zeros in the place of a slice's elements -/
def clearSV (P : Program) (t : TypeId) (j : Id) (off len sz : Nat) (M : Mem) : Option (V × Mem) :=
  match kd P t, M j with
  | some (.slice e), some (.cells cs) => if sz = e.size ∧ off + len * sz ≤ cs.length then some (.tup [], M.set j (.cells (splice cs off (repeatV e.zero len)))) else none
  | _, _ => none

def builtinV (P : Program) (b : Builtin) (ts : Array TypeId) (args : List V) (i : Id) (M : Mem) : Option (V × Mem) :=
  match b, ts.toList, args with
  | .len, t :: _, [x] => (lenV P t M x).map fun v => (v, M)
  | .append, t :: t' :: _, [s, x] => (match kd P t' with | some (.int _) | none => none | _ => appendV P t s x i M)
  | .min, _, l => (minV l).map fun v => (v, M)
  | .max, _, l => (maxV l).map fun v => (v, M)
  | .clear, t :: _, [.mapr j] => match kd P t, M j with
    | some (.map ..), some (.map _) => some (.tup [], M.set j (.map []))
    | _, _ => none
  | .clear, t :: _, [.nils] => match kd P t with
    | some (.slice _) => some (.tup [], M)
    | _ => none
  | .clear, t :: _, [.sl j off len sz _] => clearSV P t j off len sz M
  | _, _, _ => none

def nilCheckV : V → Option V
  | .nilp | .nili | .nilf | .bad => none
  | .fn (.method _) _ _ => none
  | v => some v

/-- an operation that calls no function of the program -/
def opV (P : Program) (o : Op) (ρ : Operand → V) (i : Id) (M : Mem) : Option (V × Mem) :=
  match o with
  | .move x | .assign x => some (ρ x, M)
  | .pick c a b => match ρ c with
    | .bool t => some (if t then ρ a else ρ b, M)
    | _ => none
  | .alloc e => match zeroV P e with
    | some z => if z.cells.all V.one = true then some (.ptr i 0, M.set i (.cells z.cells)) else none
    | none => none
  | .box _ x => if (ρ x).cells.all V.one = true then some (.ptr i 0, M.set i (.cells (ρ x).cells)) else none
  | .build t parts => (buildV P t (parts.toList.map fun (n, x) => (n, ρ x))).map fun v => (v, M)
  | .buildSlice t len parts => buildSliceV P t len (parts.toList.map fun (n, x) => (n, ρ x)) i M
  | .load t a => (loadV P t M (ρ a)).map fun v => (v, M)
  | .store t a v => (storeV P t M (ρ a) (ρ v)).map fun M' => (undefV, M')
  | .nilCheck x => (nilCheckV (ρ x)).map fun v => (v, M)
  | .binOp op t x y _ => (binV P op t (ρ x) (ρ y)).map fun v => (v, M)
  | .unOp op _ x => (unV op (ρ x)).map fun v => (v, M)
  | .convert s d x => (convV P s d M (ρ x)).map fun v => (v, M)
  | .makeInterface t x => match kd P t with
    | some .iface | none => none
    | _ => some (.iface t (ρ x), M)
  | .makeFunc f a b => some (.fn f (a.toList.map ρ) (b.toList.map ρ), M)
  | .makeMap _ none => some (.mapr i, M.set i (.map []))
  | .slice t x lo hi mx => match optB ρ lo, optB ρ hi, optB ρ mx with
    | some l, some h, some m => (sliceV P t (ρ x) l h m).map fun v => (v, M)
    | _, _, _ => none
  | .fieldAddr s x f => (fieldAddrV P s (ρ x) f).map fun v => (v, M)
  | .field s x f => (fieldV P s (ρ x) f).map fun v => (v, M)
  | .indexAddr t x ix => (indexAddrV P t (ρ x) (ρ ix)).map fun v => (v, M)
  | .index t x ix => (indexV P t (ρ x) (ρ ix)).map fun v => (v, M)
  | .lookup t x ix ok => (lookupV P t M (ρ x) (ρ ix) ok).map fun v => (v, M)
  | .mapUpdate t m k v | .insert t m k v => (mapUpdateV P t M (ρ m) (ρ k) (ρ v)).map fun M' => (undefV, M')
  | .extract t n => match ρ t with
    | .tup vs => (vs[n]?).map fun v => (v, M)
    | _ => none
  | .call { callee := .builtin b, args, argTypes } => builtinV P b argTypes (args.toList.map ρ) i M
  | _ => none
end Go.Ab

/- The evaluator: how code runs over a memory of ids. Conditions: none; definitions alone. -/
namespace Go.Ab

inductive Ex where
  | normal
  | exit (id : Nat)
  | ret
  deriving DecidableEq

def wantedV (f : Tm) (ops : Array Oper) (o : Oper) : Option Bool :=
  match o.guard with
  | none => some true
  | some (j, want) => match (ops[j]?).bind (·.dst) with
    | some d => match f d with
      | .bool b => some (b == want)
      | .bad => none
      | _ => some false
    | none => some false

def callOf (ρ : Operand → V) (c : Call) : Option (FuncId × List V) :=
  match c.callee with
  | .value f => match ρ f with
    | .fn (.func g) first captured => some (g, first ++ c.args.toList.map ρ ++ captured)
    | _ => none
  | _ => none

def argsTm (l : List V) : Tm := fun t => l.getD t undefV

/-- results that are slices of one's own, made immutable -/
def freeze1 (M : Mem) : V → Option (V × Mem)
  | .sl i off len sz _ => match M i with
    | some (.cells cs) => if off + len * sz ≤ cs.length then some (.psl ((cs.drop off).take (len * sz)) len false, M.del i) else none
    | _ => none
  | .psl cs len _ => some (.psl cs len false, M)
  | v => some (v, M)

def freezeL (M : Mem) : List V → Option (List V × Mem)
  | [] => some ([], M)
  | v :: l => match freeze1 M v with
    | some (v', M') => match freezeL M' l with
      | some (l', M'') => some (v' :: l', M'')
      | none => none
    | none => none

def freezeV (M : Mem) : V → Option (V × Mem)
  | .agg cs => (freezeL M cs).map fun x => (.agg x.1, x.2)
  | .tup vs => match vs with
    | [.agg cs, v] => match freezeL M cs with
      | some (cs', M') => match freeze1 M' v with
        | some (v', M'') => some (.tup [.agg cs', v'], M'')
        | none => none
      | none => none
    | _ => (freezeL M vs).map fun x => (.tup x.1, x.2)
  | v => freeze1 M v

def resultsV (P : Program) (fn : Func) (f : Tm) (M : Mem) : Option V :=
  match fn.results.toList.mapM (fun r => match r with
    | .tmp t => some (f t)
    | .cell a t => loadV P t M (f a)) with
  | some [v] => some v
  | some vs => some (.tup vs)
  | none => none

/-- a function of the program that has a body -/
def entry (P : Program) (f : FuncId) : Option (Func × Code) :=
  match P.funcs[f]? with
  | some fn => if fn.name = "runtime.NumGoroutine" then none else fn.body.map fun c => (fn, c)
  | none => none

open Classical in
/-- what a call leaves -/
noncomputable def leave (q : Lv) (frz : Bool) (M : Mem) (v : V) (M1 : Mem) : Option (V × Mem) :=
  match (if frz then freezeV M1 v else some (v, M1)) with
  | some (v', M2) => match q with
    | .free => some (v', M2)
    | .adds => if ∀ i o, M i = some o → M2 i = some o then some (v', if frz then M else M2) else none
    | .quiet => if ∀ i o, M i = some o → M2 i = some o then some (v', M) else none
  | none => none

/-- what a load of a region reads in a memory -/
def loadAt (P : Program) (ops : Array Oper) (l : Nat) (f : Tm) (M : Mem) : Option V :=
  match ops[l]? with
  | some o => (opV P o.op (ev f) [] M).map (·.1)
  | none => none

def upTo (p : Nat × Nat) : Nat := if p.1 < p.2 then p.2 + 1 else p.2

open Classical in
mutual
noncomputable def fnN (E : Env) : Nat → Bool → FuncId → List V → Id → Mem → Option (V × Mem)
  | 0, _, _, _, _, _ => none
  | n + 1, frz, f, args, s, M =>
    match entry E.P f with
    | some (fn, c) => match E.prim f with
      | some p => p args s M
      | none => match codeN E n f c (0 :: s) (argsTm args) M with
        | some (.exit _, _, _) => none
        | some (_, f', M1) => match resultsV E.P fn f' M1 with
          | some v => leave (E.lv f) frz M v M1
          | none => none
        | none => none
    | none => none
  termination_by structural n => n
noncomputable def codeN (E : Env) : Nat → FuncId → Code → Id → Tm → Mem → Option (Ex × Tm × Mem)
  | 0, _, _, _, _, _ => none
  | n + 1, cur, c, s, f, M =>
    match c with
    | .skip => some (.normal, f, M)
    | .ret => some (.ret, f, M)
    | .exit id => some (.exit id, f, M)
    | .seq a b => match E.cprim cur (.seq a b) with
      | some p => match p f s M with
        | some (f', M') => some (.normal, f', M')
        | none => none
      | none => match codeN E n cur a (0 :: s) f M with
        | some (.normal, f', M') => codeN E n cur b (1 :: s) f' M'
        | r => r
    | .cond x a b => match ev f x with
      | .bool t => if t then codeN E n cur a (0 :: s) f M else codeN E n cur b (1 :: s) f M
      | _ => none
    | .block id a => match codeN E n cur a (0 :: s) f M with
      | some (.exit id', f', M') => if id' = id then some (.normal, f', M') else some (.exit id', f', M')
      | r => r
    | .loop a => loopN E n cur a 0 s f M
    | .region r ops _ => match opsN E n cur ops ops.toList 0 s f M with
      | some (f', M') => if ∀ p ∈ E.loose cur r, ∃ fl Ml fw Mw, opsN E n cur ops (ops.toList.take p.1) 0 s f M = some (fl, Ml) ∧ opsN E n cur ops (ops.toList.take (upTo p)) 0 s f M = some (fw, Mw) ∧
          loadAt E.P ops p.1 fl Ml = loadAt E.P ops p.1 fl Mw then some (.normal, f', M') else none
      | none => none
    | _ => none
  termination_by structural n => n
noncomputable def loopN (E : Env) : Nat → FuncId → Code → Nat → Id → Tm → Mem → Option (Ex × Tm × Mem)
  | 0, _, _, _, _, _, _ => none
  | n + 1, cur, a, j, s, f, M =>
    match codeN E n cur a (j :: s) f M with
    | some (.normal, f', M') => loopN E n cur a (j + 1) s f' M'
    | r => r
  termination_by structural n => n
noncomputable def opsN (E : Env) : Nat → FuncId → Array Oper → List Oper → Nat → Id → Tm → Mem → Option (Tm × Mem)
  | 0, _, _, _, _, _, _, _ => none
  | n + 1, cur, all, l, k, s, f, M =>
    match l with
    | [] => some (f, M)
    | o :: rest => match wantedV f all o with
      | some false => opsN E n cur all rest (k + 1) s (put f o.dst undefV) M
      | some true => match opN E n cur o (k :: s) f M with
        | some (v, M') => opsN E n cur all rest (k + 1) s (put f o.dst v) M'
        | none => none
      | none => none
  termination_by structural n => n
noncomputable def opN (E : Env) : Nat → FuncId → Oper → Id → Tm → Mem → Option (V × Mem)
  | 0, _, _, _, _, _ => none
  | n + 1, cur, o, s, f, M =>
    match o.op with
    | .call c => match c.callee with
      | .value _ => match callOf (ev f) c with
        | some (g, args) => fnN E n (E.fz cur g) g args s M
        | none => none
      | _ => opV E.P o.op (ev f) s M
    | _ => opV E.P o.op (ev f) s M
  termination_by structural n => n
end

end Go.Ab

/- How the evaluator's memory stands to the model's: placements, values, steps. Conditions: none. -/
namespace Go.Ab

inductive Pl where
  | at (b off room : Nat)
  | dead
  deriving DecidableEq

abbrev Inj := Id → Option Pl
abbrev Fro := Nat → Nat → Option Value

inductive VR (ι : Inj) (C : Fro) : V → Value → Prop
  | bool (b) : VR ι C (.bool b) (.bool b)
  | int (k n) : VR ι C (.int k n) (.int k n)
  | str (s) : VR ι C (.str s) (.string s)
  | flt (k b) : VR ι C (.flt k b) (.float k b)
  | nilp : VR ι C .nilp (.pointer none)
  | ptr (i off pl a) (h : ι i = some pl) (h2 : ∀ b o r, pl = .at b o r → a = ⟨b, o + off, none⟩) : VR ι C (.ptr i off) (.pointer (some a))
  | pptr (cs b o) (g : Nat → Value) (h0 : ∀ j (hj : j < cs.length), cs[j].one = true) (h : ∀ j, j < cs.length → C b (o + j) = some (g j))
      (h2 : ∀ j (hj : j < cs.length), VR ι C cs[j] (g j)) : VR ι C (.pptr cs) (.pointer (some ⟨b, o, none⟩))
  | nils : VR ι C .nils (.slice none 0 0)
  | sl (i off len sz cap pl a ccap) (h : ι i = some pl) (hl : len ≤ ccap) (hc : ∀ c, cap = some c → c = ccap) (hs : a.spot = none)
      (h2 : ∀ b o r, pl = .at b o r → (0 < ccap → a = ⟨b, o + off, none⟩) ∧ off + ccap * sz ≤ r ∧ (cap = none → r ≤ off + ccap * sz)) : VR ι C (.sl i off len sz cap) (.slice (some a) len ccap)
  | psl (cs len capped b o ccap) (g : Nat → Value) (hl : len ≤ ccap) (hc : capped = true → ccap = len) (h0 : ∀ j (hj : j < cs.length), cs[j].one = true)
      (h : ∀ j, j < cs.length → C b (o + j) = some (g j))
      (h2 : ∀ j (hj : j < cs.length), VR ι C cs[j] (g j)) : VR ι C (.psl cs len capped) (.slice (some ⟨b, o, none⟩) len ccap)
  | psl0 (capped) (a : Addr) : VR ι C (.psl [] 0 capped) (.slice (some a) 0 0)
  | nilm : VR ι C .nilm (.map none)
  | mapr (i pl r) (h : ι i = some pl) (h2 : ∀ b o rm, pl = .at b o rm → r = b) : VR ι C (.mapr i) (.map (some r))
  | fn (f l1 l2 a1 a2) (hl1 : l1.length = a1.size) (hl2 : l2.length = a2.size)
      (h1 : ∀ j (p : j < l1.length) (q : j < a1.size), VR ι C l1[j] a1[j]) (h2 : ∀ j (p : j < l2.length) (q : j < a2.size), VR ι C l2[j] a2[j]) : VR ι C (.fn f l1 l2) (.func f a1 a2)
  | nilf : VR ι C .nilf .nilFunc
  | iface (t v c) (h : VR ι C v c) : VR ι C (.iface t v) (.iface t c)
  | nili : VR ι C .nili .nilIface
  | agg (l a) (hl : l.length = a.size) (h : ∀ j (p : j < l.length) (q : j < a.size), VR ι C l[j] a[j]) : VR ι C (.agg l) (.agg a)
  | tup (l a) (hl : l.length = a.size) (h : ∀ j (p : j < l.length) (q : j < a.size), VR ι C l[j] a[j]) : VR ι C (.tup l) (.tuple a)
  | bad (c) : VR ι C .bad c

/-- lists of values -/
def LR (ι : Inj) (C : Fro) (l : List V) (a : Array Value) : Prop :=
  l.length = a.size ∧ ∀ j (p : j < l.length) (q : j < a.size), VR ι C l[j] a[j]

theorem VR.mono {ι ι' : Inj} {C C' : Fro} {v : V} {c : Value} (h : VR ι C v c)
    (hi : ∀ i pl, ι i = some pl → ι' i = some pl ∨ ι' i = some .dead) (hC : ∀ b o x, C b o = some x → C' b o = some x) : VR ι' C' v c := by
  induction h with
  | bool b => exact .bool b
  | int k n => exact .int k n
  | str s => exact .str s
  | flt k b => exact .flt k b
  | nilp => exact .nilp
  | ptr i off pl a h h2 =>
    rcases hi i pl h with e | e
    · exact .ptr i off pl a e h2
    · exact .ptr i off .dead a e (fun _ _ _ h => by cases h)
  | pptr cs b o g h0 h h2 ih => exact .pptr cs b o g h0 (fun j hj => hC _ _ _ (h j hj)) ih
  | nils => exact .nils
  | sl i off len sz cap pl a ccap h hl hc hs h2 =>
    rcases hi i pl h with e | e
    · exact .sl i off len sz cap pl a ccap e hl hc hs h2
    · exact .sl i off len sz cap .dead a ccap e hl hc hs (fun _ _ _ h => by cases h)
  | psl cs len capped b o ccap g hl hc h0 h h2 ih => exact .psl cs len capped b o ccap g hl hc h0 (fun j hj => hC _ _ _ (h j hj)) ih
  | psl0 capped a => exact .psl0 capped a
  | nilm => exact .nilm
  | mapr i pl r h h2 =>
    rcases hi i pl h with e | e
    · exact .mapr i pl r e h2
    · exact .mapr i .dead r e (fun _ _ _ h => by cases h)
  | fn f l1 l2 a1 a2 hl1 hl2 h1 h2 ih1 ih2 => exact .fn f l1 l2 a1 a2 hl1 hl2 ih1 ih2
  | nilf => exact .nilf
  | iface t v c h ih => exact .iface t v c ih
  | nili => exact .nili
  | agg l a hl h ih => exact .agg l a hl ih
  | tup l a hl h ih => exact .tup l a hl ih
  | bad c => exact .bad c

theorem LR.mono {ι ι' : Inj} {C C' : Fro} {l : List V} {a : Array Value} (h : LR ι C l a)
    (hi : ∀ i pl, ι i = some pl → ι' i = some pl ∨ ι' i = some .dead) (hC : ∀ b o x, C b o = some x → C' b o = some x) : LR ι' C' l a :=
  ⟨h.1, fun j p q => (h.2 j p q).mono hi hC⟩

theorem VR.one {ι : Inj} {C : Fro} {v : V} {c : Value} (h : VR ι C v c) (h1 : v.one = true) : c.oneCell' = true := by
  cases h <;> first | rfl | simp [V.one] at h1

/-- a map's entries are stamped, each with a stamp of its own -/
def Born (ces : Array MapEntry) (k : Nat) : Prop := (∀ x ∈ ces.toList, x.born < k) ∧ (ces.toList.map (·.born)).Nodup
/-- an object and its block -/
inductive ObjR (ι : Inj) (C : Fro) (w : World) : AObj → Nat → Nat → Nat → Prop
  | cells (cs b off r c el) (hb : w.heap[b]? = some (.cells c el (0, 0))) (hr : off + r ≤ c.size) (hl : cs.length ≤ r) (h0 : ∀ j (hj : j < cs.length), cs[j].one = true)
      (h : ∀ j (hj : j < cs.length) (hc : off + j < c.size), VR ι C cs[j] c[off + j]) : ObjR ι C w (.cells cs) b off r
  | map (es b off r ces k) (hb : w.heap[b]? = some (.map ces k)) (hs : Born ces k) (hl : es.length = ces.size)
      (h : ∀ j (p : j < es.length) (q : j < ces.size), VR ι C es[j].1 ces[j].key ∧ VR ι C es[j].2 ces[j].val) : ObjR ι C w (.map es) b off r

theorem ObjR.mono {ι ι' : Inj} {C C' : Fro} {w w' : World} {o : AObj} {b off r : Nat} (h : ObjR ι C w o b off r) (hw : w'.heap[b]? = w.heap[b]?)
    (hi : ∀ i pl, ι i = some pl → ι' i = some pl ∨ ι' i = some .dead) (hC : ∀ b o x, C b o = some x → C' b o = some x) : ObjR ι' C' w' o b off r := by
  cases h with
  | cells cs _ _ _ c el hb hr hl h0 h => exact .cells cs b off r c el (hw.trans hb) hr hl h0 (fun j hj hc => (h j hj hc).mono hi hC)
  | map es _ _ _ ces k hb hs hl h => exact .map es b off r ces k (hw.trans hb) hs hl (fun j p q => ⟨(h j p q).1.mono hi hC, (h j p q).2.mono hi hC⟩)

/-- the memories stand to one another -/
structure MR (ι : Inj) (C : Fro) (M : Mem) (w : World) : Prop where
  bound : ∀ i b o r, ι i = some (.at b o r) → b < w.heap.size
  inj : ∀ i j b o r o' r', ι i = some (.at b o r) → ι j = some (.at b o' r') → i = j
  obj : ∀ i pl o, ι i = some pl → M i = some o → ∃ b off r, pl = .at b off r ∧ ObjR ι C w o b off r
  fro : ∀ b o x, C b o = some x → w.cell? ⟨b, o, none⟩ = some x ∧ ∀ i o' r, ι i ≠ some (.at b o' r)

/-- one memory has become another one -/
structure Stp (s : Id) (ι : Inj) (C : Fro) (M : Mem) (w : World) (ι' : Inj) (C' : Fro) (M' : Mem) (w' : World) : Prop where
  dom : ∀ i pl, ι i = some pl → ι' i = some pl ∨ ι' i = some .dead
  new : ∀ i, ι i = none → ι' i ≠ none → s <:+ i
  fro : ∀ b o x, C b o = some x → C' b o = some x
  blk : ∀ i b o r, ι' i = some (.at b o r) → ι i = some (.at b o r) ∨ w.heap.size ≤ b ∨ ∃ j o' r', ι j = some (.at b o' r') ∧ M j ≠ none
  nores : ∀ i, ι i ≠ none → M i = none → M' i = none
  keep : ∀ i pl, ι i = some pl → M i = none → ι' i = some pl
  frame : ∀ b, b < w.heap.size → (∀ i o r, ι i = some (.at b o r) → M i = none) → w'.heap[b]? = w.heap[b]?
  size : w.heap.size ≤ w'.heap.size
  os : w'.os = w.os
  tape : w'.tape = w.tape
  output : w'.output = w.output

theorem Stp.refl (s : Id) (ι : Inj) (C : Fro) (M : Mem) (w : World) : Stp s ι C M w ι C M w :=
  ⟨fun _ _ h => .inl h, fun _ h h' => absurd h h', fun _ _ _ h => h, fun _ _ _ _ h => .inl h, fun _ _ h => h, fun _ _ h _ => h, fun _ _ _ => rfl, Nat.le_refl _, rfl, rfl, rfl⟩

theorem Stp.trans {s : Id} {ι C M w ι' C' M' w' ι'' C'' M'' w''} (h : Stp s ι C M w ι' C' M' w') (k : Stp s ι' C' M' w' ι'' C'' M'' w'') :
    Stp s ι C M w ι'' C'' M'' w'' := by
  refine ⟨?_, ?_, fun b o x e => k.fro b o x (h.fro b o x e), ?_, ?_, fun i pl e1 e2 => k.keep i pl (h.keep i pl e1 e2) (h.nores i (by rw [e1]; simp) e2), ?_, Nat.le_trans h.size k.size, k.os.trans h.os, k.tape.trans h.tape, k.output.trans h.output⟩
  · intro i pl e
    rcases h.dom i pl e with e' | e'
    · exact k.dom i pl e'
    · rcases k.dom i .dead e' with e'' | e'' <;> exact .inr e''
  · intro i e e'
    by_cases h0 : ι' i = none
    · exact k.new i h0 e'
    · exact h.new i e h0
  · intro i b o r e
    rcases k.blk i b o r e with e' | e' | ⟨j, o', r', e1, e2⟩
    · exact h.blk i b o r e'
    · exact .inr (.inl (Nat.le_trans h.size e'))
    · rcases h.blk j b o' r' e1 with e3 | e3 | e3
      · refine .inr (.inr ⟨j, o', r', e3, fun hn => e2 (h.nores j (by rw [e3]; simp) hn)⟩)
      · exact .inr (.inl e3)
      · exact .inr (.inr e3)
  · intro i e e'
    refine k.nores i ?_ (h.nores i e e')
    cases hi : ι i with
    | none => exact absurd hi e
    | some pl => rcases h.dom i pl hi with e2 | e2 <;> rw [e2] <;> simp
  · intro b hb hf
    rw [k.frame b (Nat.lt_of_lt_of_le hb h.size), h.frame b hb hf]
    intro i o r e
    rcases h.blk i b o r e with e' | e' | ⟨j, o', r', e1, e2⟩
    · exact h.nores i (by rw [e']; simp) (hf i o r e')
    · omega
    · exact absurd (hf j o' r' e1) e2

theorem Stp.weaken {s t : Id} {ι C M w ι' C' M' w'} (h : Stp s ι C M w ι' C' M' w') (hs : t <:+ s) : Stp t ι C M w ι' C' M' w' :=
  { h with new := fun i e e' => hs.trans (h.new i e e') }

/-- a world whose heap is the same -/
theorem MR.heap {ι C M w w'} (h : MR ι C M w) (e : w'.heap = w.heap) : MR ι C M w' := by
  refine ⟨fun i b o r hi => by rw [e]; exact h.bound i b o r hi, h.inj, fun i pl o hi hM => ?_, fun b o x hc => ?_⟩
  · obtain ⟨b, off, r, rfl, hO⟩ := h.obj i pl o hi hM
    exact ⟨b, off, r, rfl, hO.mono (by rw [e]) (fun _ _ h => .inl h) (fun _ _ _ h => h)⟩
  · exact ⟨by have := (h.fro b o x hc).1; simpa only [World.cell?, e] using this, (h.fro b o x hc).2⟩

theorem Stp.same_heap (s : Id) {ι C M w w'} (e : w'.heap = w.heap) (e1 : w'.os = w.os) (e2 : w'.tape = w.tape) (e3 : w'.output = w.output) : Stp s ι C M w ι C M w' :=
  ⟨fun _ _ h => .inl h, fun _ h h' => absurd h h', fun _ _ _ h => h, fun _ _ _ _ h => .inl h, fun _ _ h => h, fun _ _ h _ => h, fun _ _ _ => by rw [e], by rw [e]; exact Nat.le_refl _, e1, e2, e3⟩

theorem cell_some {w : World} {b o : Nat} {c : Array Value} {el : TypeId} {fz : Nat × Nat} (h : w.heap[b]? = some (.cells c el fz)) : w.cell? ⟨b, o, none⟩ = c[o]? := by
  simp [World.cell?, h]

/-- fewer objects -/
theorem MR.less {ι C M M' w} (h : MR ι C M w) (hM : ∀ i o, ι i ≠ none → M' i = some o → M i = some o) : MR ι C M' w :=
  ⟨h.bound, h.inj, fun i pl o hi hm => h.obj i pl o hi (hM i o (by rw [hi]; simp) hm), h.fro⟩

def Inj.upd (ι : Inj) (i : Id) (p : Pl) : Inj := fun j => if j = i then some p else ι j

/-- a new block -/
theorem MR.new {ι C M w} (h : MR ι C M w) (i : Id) (hi : ι i = none) (o : AObj) (ob : Obj) (r : Nat)
    (hO : ∀ ι' : Inj, (∀ j pl, ι j = some pl → ι' j = some pl ∨ ι' j = some .dead) → ObjR ι' C (w.alloc ob) o w.heap.size 0 r) :
    MR (ι.upd i (.at w.heap.size 0 r)) C (M.set i o) (w.alloc ob) ∧ Stp i ι C M w (ι.upd i (.at w.heap.size 0 r)) C (M.set i o) (w.alloc ob) := by
  have hsz : (w.alloc ob).heap.size = w.heap.size + 1 := by show (w.heap.push ob).size = _; simp
  have hold : ∀ b, b < w.heap.size → (w.alloc ob).heap[b]? = w.heap[b]? := fun b hb => by
    show (w.heap.push ob)[b]? = _
    rw [Array.getElem?_push, if_neg (by omega)]
  have hdom : ∀ j pl, ι j = some pl → ι.upd i (.at w.heap.size 0 r) j = some pl ∨ ι.upd i (.at w.heap.size 0 r) j = some .dead := by
    intro j pl e
    unfold Inj.upd
    split
    · subst j; rw [hi] at e; cases e
    · exact .inl e
  refine ⟨⟨?_, ?_, ?_, ?_⟩, ⟨hdom, ?_, fun _ _ _ h => h, ?_, ?_, fun j pl e _ => ?_, ?_, by omega, rfl, rfl, rfl⟩⟩
  · intro j b o' r' e
    unfold Inj.upd at e
    split at e
    · cases e; omega
    · have := h.bound j b o' r' e; omega
  · intro j k b o1 r1 o2 r2 e1 e2
    unfold Inj.upd at e1 e2
    split at e1 <;> split at e2
    · simp_all
    · cases e1; have := h.bound k _ _ _ e2; omega
    · cases e2; have := h.bound j _ _ _ e1; omega
    · exact h.inj j k b o1 r1 o2 r2 e1 e2
  · intro j pl o' e1 e2
    unfold Inj.upd at e1
    unfold Mem.set at e2
    split at e1
    · rename_i hj; rw [if_pos hj] at e2; cases e1; cases e2
      exact ⟨_, _, _, rfl, hO _ hdom⟩
    · rename_i hj; rw [if_neg hj] at e2
      obtain ⟨b, off, r', rfl, hO'⟩ := h.obj j pl o' e1 e2
      exact ⟨b, off, r', rfl, hO'.mono (hold b (h.bound j b off r' e1)) hdom (fun _ _ _ h => h)⟩
  · intro b o' x e
    obtain ⟨h1, h2⟩ := h.fro b o' x e
    have hb : b < w.heap.size := by
      simp only [World.cell?] at h1
      cases hh : w.heap[b]? with
      | none => simp [hh] at h1
      | some _ => exact (Array.getElem?_eq_some_iff.1 hh).1
    refine ⟨by simpa only [World.cell?, hold b hb] using h1, fun j o2 r2 => ?_⟩
    unfold Inj.upd
    split
    · intro e; cases e; omega
    · exact h2 j o2 r2
  · intro j e e'
    unfold Inj.upd at e'
    split at e'
    · subst j; exact List.suffix_refl _
    · exact absurd e e'
  · intro j b o' r' e
    unfold Inj.upd at e
    split at e
    · cases e; exact .inr (.inl (Nat.le_refl _))
    · exact .inl e
  · intro j e e'
    unfold Mem.set
    split
    · subst j; exact absurd hi e
    · exact e'
  · unfold Inj.upd
    split
    · subst j; rw [hi] at e; cases e
    · exact e
  · intro b hb _; exact hold b hb

/-- an object has become another one, in its block -/
theorem MR.change {ι C M w} (h : MR ι C M w) (i : Id) (b off r : Nat) (hi : ι i = some (.at b off r)) (hM : M i ≠ none) (o : AObj) (w' : World)
    (hsz : w'.heap.size = w.heap.size) (hold : ∀ b', b' ≠ b → w'.heap[b']? = w.heap[b']?) (e1 : w'.os = w.os) (e2 : w'.tape = w.tape) (e3 : w'.output = w.output)
    (hO : ObjR ι C w' o b off r) (s : Id) :
    MR ι C (M.set i o) w' ∧ Stp s ι C M w ι C (M.set i o) w' := by
  refine ⟨⟨fun j b' o' r' e => by rw [hsz]; exact h.bound j b' o' r' e, h.inj, ?_, ?_⟩,
    ⟨fun _ _ h => .inl h, fun _ h h' => absurd h h', fun _ _ _ h => h, fun _ _ _ _ h => .inl h, ?_, fun _ _ h _ => h, ?_, by omega, e1, e2, e3⟩⟩
  · intro j pl o' ej em
    unfold Mem.set at em
    split at em
    · subst j; cases em; rw [hi] at ej; cases ej; exact ⟨b, off, r, rfl, hO⟩
    · rename_i hne
      obtain ⟨b', off', r', rfl, hO'⟩ := h.obj j pl o' ej em
      refine ⟨b', off', r', rfl, hO'.mono (hold b' ?_) (fun _ _ h => .inl h) (fun _ _ _ h => h)⟩
      intro hbb; subst hbb
      exact hne (h.inj j i b' off' r' off r ej hi)
  · intro b' o' x e
    obtain ⟨h1, h2⟩ := h.fro b' o' x e
    refine ⟨?_, h2⟩
    have hne : b' ≠ b := by rintro rfl; exact h2 i off r hi
    simpa only [World.cell?, hold b' hne] using h1
  · intro j e e'
    unfold Mem.set
    split
    · subst j; exact absurd e' hM
    · exact e'
  · intro b' hb' hf
    refine hold b' ?_
    rintro rfl
    exact hM (hf i off r hi)

end Go.Ab

/- Each operation of the evaluator is the model's: reads, addresses, numbers. Conditions: none. -/
namespace Go.Ab

theorem VR.constC (ι : Inj) (C : Fro) (v : Value) : VR ι C (absC v) v := by
  unfold absC
  split <;> first | exact VR.tup [] #[] rfl (fun j p _ => absurd p (by simp)) | constructor

theorem absC_one {v : Value} (h : (absC v).one = true) : v.oneCell' = true := (VR.constC (fun _ => none) (fun _ _ => none) v).one h

theorem VR.constZ (ι : Inj) (C : Fro) (v : Value) : VR ι C (absZ v) v := by
  unfold absZ
  split
  · rename_i cs
    exact .agg _ _ (by simp) (fun j p q => by simp only [List.getElem_map]; exact VR.constC ι C _)
  · exact VR.constC ι C v

section types
variable {P : Program} {t : TypeId}
theorem szOf_info {n : Nat} {b : Bool} (h : szOf P t = some (n, b)) : ∃ i d, P.info? t = some i ∧ i.size = n ∧ P.underlying t = some d ∧ aggD d = b := by
  unfold szOf at h
  split at h
  · rename_i i d h1 h2
    simp only [Option.some.injEq, Prod.mk.injEq] at h
    exact ⟨i, d, h1, h.1, h2, h.2⟩
  · cases h

theorem run_sizeOf' {n : Nat} {b : Bool} (h : szOf P t = some (n, b)) (w : World) : (sizeOf t).run P w = .ok n w := by
  obtain ⟨i, d, h1, h2, _, _⟩ := szOf_info h
  simp [sizeOf, typeInfo, h1, h2]

theorem run_isAgg' {n : Nat} {b : Bool} (h : szOf P t = some (n, b)) (w : World) : (isAgg t).run P w = .ok b w := by
  obtain ⟨i, d, _, _, h3, h4⟩ := szOf_info h
  cases d <;> simp_all [isAgg, underlying, aggD]

theorem elOf_spec {e : El} (h : elOf P t = some e) : szOf P t = some (e.size, e.agg) ∧ (∃ i, P.info? t = some i ∧ i.bytes = e.bytes) ∧ e.bytes ≤ 1024 ∧ 0 < e.size ∧ e.zero.length = e.size ∧ e.zero.all V.one = true ∧
    (∃ z, zeroV P t = some z ∧ z.cells = e.zero) ∧ ∃ d, P.underlying t = some d ∧ u8D d = e.u8 := by
  unfold elOf at h
  split at h
  · rename_i i d z h1 h2 h3
    split at h
    · rename_i hc
      simp only [Option.some.injEq] at h
      subst h
      exact ⟨by simp [szOf, h1, h2], ⟨i, h1, rfl⟩, hc.2.2.1, hc.2.1, hc.1, hc.2.2.2, ⟨z, h3, rfl⟩, d, h2, rfl⟩
    · cases h
  · cases h

theorem zeroV_spec {z : V} (h : zeroV P t = some z) (w : World) : ∃ v, (zeroValue t).run P w = .ok v w ∧ z = absZ v ∧ ∃ i, P.info? t = some i ∧ i.zero = some v := by
  unfold zeroV at h
  cases hi : P.info? t with
  | none => simp [hi] at h
  | some i =>
    cases hz : i.zero with
    | none => simp [hi, hz] at h
    | some v =>
      simp [hi, hz] at h
      exact ⟨v, by simp [zeroValue, typeInfo, hi, hz], h.symm, i, rfl, hz⟩
end types

/-! reading kinds off 'kd' -/
section kinds
variable {P : Program} {t : TypeId}
theorem kd_slice {e : El} (h : kd P t = some (.slice e)) : ∃ u, P.underlying t = some (.slice u) ∧ elOf P u = some e := by
  unfold kd at h; split at h <;> simp_all
  · split at h <;> simp_all
theorem kd_array {n : Nat} {e : El} (h : kd P t = some (.array n e)) : ∃ u, P.underlying t = some (.array n u) ∧ elOf P u = some e := by
  unfold kd at h; split at h <;> simp_all
  · split at h <;> simp_all
theorem kd_str (h : kd P t = some .str) : P.underlying t = some .string := by
  unfold kd at h; split at h <;> simp_all
  · split at h <;> simp_all
theorem kd_int {k : IntKind} (h : kd P t = some (.int k)) : P.underlying t = some (.int k) := by
  unfold kd at h; split at h <;> simp_all
  · split at h <;> simp_all
theorem kd_bool (h : kd P t = some .bool) : P.underlying t = some .bool := by
  unfold kd at h; split at h <;> simp_all
  · split at h <;> simp_all
theorem kd_pointer (h : kd P t = some .pointer) : ∃ u, P.underlying t = some (.pointer u) := by
  unfold kd at h; split at h <;> simp_all
  · split at h <;> simp_all
theorem kd_func (h : kd P t = some .func) : ∃ a b c, P.underlying t = some (.func a b c) := by
  unfold kd at h; split at h <;> simp_all
  · split at h <;> simp_all
theorem kd_map {k : Kk} {z : V} (h : kd P t = some (.map k z)) : ∃ a b, P.underlying t = some (.map a b) ∧ keyT P a = some k ∧ zeroV P b = some z := by
  unfold kd at h
  split at h <;> try (simp at h; done)
  · rename_i a b hu
    split at h
    · rename_i k' z' h1 h2
      simp only [Option.some.injEq, Kd.map.injEq] at h
      obtain ⟨rfl, rfl⟩ := h
      exact ⟨a, b, hu, h1, h2⟩
    · simp at h

theorem mapM_spec {α β : Type} (f : α → Option β) : ∀ (l : List α) (r : List β), l.mapM f = some r → r.length = l.length ∧ ∀ j (p : j < l.length) (q : j < r.length), f l[j] = some r[j]
  | [], r, h => by simp at h; subst h; simp
  | a :: l, r, h => by
    simp only [List.mapM_cons, bind, Option.bind_eq_some_iff, pure, Option.some.injEq] at h
    obtain ⟨b, h1, bs, h2, rfl⟩ := h
    obtain ⟨h3, h4⟩ := mapM_spec f l bs h2
    refine ⟨by simp [h3], fun j p q => ?_⟩
    cases j with
    | zero => exact h1
    | succ j => exact h4 j (by simpa using p) (by simpa using q)

theorem kd_struct {fs : List Ft} {fl : Option (List Bool)} (h : kd P t = some (.struct fs fl)) : ∃ a, P.underlying t = some (.struct a) ∧ fs.length = a.size ∧ fl = (if flatT P t a = true then some (a.toList.map (intT P ·.type)) else none) ∧
    ∀ j (p : j < a.size) (q : j < fs.length), fs[j].off = a[j].offset ∧ szOf P a[j].type = some (fs[j].size, fs[j].agg) := by
  unfold kd at h
  split at h <;> try (simp at h; done)
  · split at h <;> simp at h
  · rename_i a hu
    simp only [Option.map_eq_some_iff] at h
    obtain ⟨l, h0, h3⟩ := h
    simp only [Kd.struct.injEq] at h3
    obtain ⟨rfl, rfl⟩ := h3
    obtain ⟨h1, h2⟩ := mapM_spec _ _ _ h0
    refine ⟨a, hu, by simpa using h1, rfl, fun j p q => ?_⟩
    have h4 := h2 j (by simpa using p) q
    simp only [Option.map_eq_some_iff] at h4
    obtain ⟨⟨x, y⟩, e1, e2⟩ := h4
    rw [← e2]
    exact ⟨by simp, by simpa using e1⟩
end kinds

/-! addresses and cells -/
theorem add_plain (a : Addr) (h : a.spot = none) (n : Nat) : a.add n = ⟨a.block, a.off + n, none⟩ := by
  unfold Addr.add
  split
  · subst n; cases a; simp at h; simp [h]
  · rfl

theorem run_loadCellsFrom (P : Program) (w : World) (a : Addr) (ha : a.spot = none) (g : Nat → Value) : ∀ (n i : Nat) (acc : Array Value),
    (∀ j, j < n → w.cell? ⟨a.block, a.off + (i + j), none⟩ = some (g (i + j))) → (loadCellsFrom a i n acc).run P w = .ok (acc ++ ((List.range' i n).map g).toArray) w
  | 0, i, acc, _ => by simp [loadCellsFrom]
  | n + 1, i, acc, h => by
    have h0 := h 0 (by omega)
    have ih := run_loadCellsFrom P w a ha g n (i + 1) (acc.push (g i)) (fun j hj => by have := h (j + 1) (by omega); rw [show i + 1 + j = i + (j + 1) by omega]; exact this)
    simp only [loadCellsFrom, Sem.run_bind, run_load, add_plain a ha]
    simp only [Nat.add_zero] at h0
    simp only [h0, Result.andThen_ok, ih]
    congr 1
    simp [List.range'_succ]

theorem run_loadCells (P : Program) (w : World) (a : Addr) (ha : a.spot = none) (g : Nat → Value) (n : Nat)
    (h : ∀ j, j < n → w.cell? ⟨a.block, a.off + j, none⟩ = some (g j)) : (loadCells a n).run P w = .ok ((List.range n).map g).toArray w := by
  unfold loadCells
  rw [run_loadCellsFrom P w a ha g n 0 #[] (by simpa using h)]
  simp [List.range_eq_range']

/-- a value of a type at an address -/
theorem run_loadVar' {P : Program} {t : TypeId} {n : Nat} {b : Bool} (hs : szOf P t = some (n, b)) {ι C} {cs : List V} {off : Nat} {v : V} (hp : partV b n cs off = some v) (w : World)
    (a : Addr) (ha : a.spot = none) (g : Nat → Value) (h : ∀ j, j < cs.length → w.cell? ⟨a.block, a.off + j, none⟩ = some (g j)) (hr : ∀ j (hj : j < cs.length), VR ι C cs[j] (g j)) :
    ∃ c, (loadVar t ⟨a.block, a.off + off, none⟩).run P w = .ok c w ∧ VR ι C v c := by
  unfold partV at hp
  cases b with
  | true =>
    simp only [if_true] at hp
    split at hp
    · rename_i hle
      simp only [Option.some.injEq] at hp
      subst hp
      refine ⟨.agg ((List.range n).map fun j => g (off + j)).toArray, ?_, ?_⟩
      · simp only [loadVar, Sem.run_bind, run_isAgg' hs, Result.andThen_ok, if_true, run_sizeOf' hs]
        rw [run_loadCells P w ⟨a.block, a.off + off, none⟩ rfl (fun j => g (off + j)) n (fun j hj => by
          have := h (off + j) (by omega)
          simpa [Nat.add_assoc] using this)]
        rfl
      · refine .agg _ _ (by simp; omega) (fun j p q => ?_)
        simp at p q
        simpa using hr (off + j) (by omega)
    · cases hp
  | false =>
    simp only [Bool.false_eq_true, if_false] at hp
    obtain ⟨hlt, rfl⟩ := List.getElem?_eq_some_iff.1 hp
    refine ⟨g off, ?_, hr off hlt⟩
    simp only [loadVar, Sem.run_bind, run_isAgg' hs, Result.andThen_ok, Bool.false_eq_true, if_false, run_load, h off hlt]

theorem loadV_sound {P : Program} {t : TypeId} {M : Mem} {x v : V} {ι C w c} (h : loadV P t M x = some v) (hx : VR ι C x c) (hm : MR ι C M w) :
    ∃ r, (Instr.loadAt t c).run P w = .ok r w ∧ VR ι C v r := by
  cases hx <;> simp only [loadV] at h <;> try (cases h)
  case ptr i off pl a hi h2 =>
    split at h
    · rename_i cs n b hM hs
      obtain ⟨b', o', r', rfl, hO⟩ := hm.obj i pl _ hi hM
      obtain rfl := h2 b' o' r' rfl
      cases hO with
      | cells _ _ _ _ arr el hb hr hl h0 hv =>
        obtain ⟨c, h1, h3⟩ := run_loadVar' hs h w ⟨b', o', none⟩ rfl (fun j => arr.getD (o' + j) undef) (fun j hj => by
          rw [cell_some hb]; simp only; rw [Array.getD_eq_getD_getElem?, Array.getElem?_eq_getElem (by omega)]; rfl) (fun j hj => by
          have := hv j hj (by omega)
          simpa [Array.getD_eq_getD_getElem?, Array.getElem?_eq_getElem (show o' + j < arr.size by omega)] using this)
        exact ⟨c, by simpa [Instr.loadAt, Instr.sureAddr] using h1, h3⟩
    · cases h
  case pptr cs b o g h0 hC hv =>
    split at h
    · rename_i n bb hs
      obtain ⟨c, h1, h3⟩ := run_loadVar' hs h w ⟨b, o, none⟩ rfl g (fun j hj => (hm.fro _ _ _ (hC j hj)).1) hv
      exact ⟨c, by simpa [Instr.loadAt, Instr.sureAddr] using h1, h3⟩
    · cases h

theorem part_sound {P : Program} {t : TypeId} {n : Nat} {b : Bool} (hs : szOf P t = some (n, b)) {ι C} {l : List V} {a : Array Value} (hl : l.length = a.size)
    (hr : ∀ j (p : j < l.length) (q : j < a.size), VR ι C l[j] a[j]) {off : Nat} {v : V} (hp : partV b n l off = some v) (w : World) :
    ∃ c, (part t a off).run P w = .ok c w ∧ VR ι C v c := by
  unfold partV at hp
  cases b with
  | true =>
    simp only [if_true] at hp
    split at hp
    · rename_i hle
      simp only [Option.some.injEq] at hp
      subst hp
      refine ⟨.agg (a.extract off (off + n)), ?_, ?_⟩
      · simp only [part, Sem.run_bind, run_isAgg' hs, Result.andThen_ok, if_true, run_sizeOf' hs]; rfl
      · refine .agg _ _ (by simp; omega) (fun j p q => ?_)
        simp at p q
        simpa using hr (off + j) (by omega) (by omega)
    · cases hp
  | false =>
    simp only [Bool.false_eq_true, if_false] at hp
    obtain ⟨hlt, rfl⟩ := List.getElem?_eq_some_iff.1 hp
    refine ⟨a[off]'(by omega), ?_, hr off hlt (by omega)⟩
    simp only [part, Sem.run_bind, run_isAgg' hs, Result.andThen_ok, Bool.false_eq_true, if_false, Array.getElem?_eq_getElem (show off < a.size by omega)]
    rfl

theorem fieldAddrV_sound {P : Program} {s : TypeId} {x v : V} {f : Nat} {ι C c} (h : fieldAddrV P s x f = some v) (hx : VR ι C x c) (w : World) :
    ∃ r, (Instr.fieldAt s c f).run P w = .ok r w ∧ VR ι C v r := by
  unfold fieldAddrV at h
  split at h
  · rename_i fs fl hk
    obtain ⟨a, ha, hlen, _, hf⟩ := kd_struct hk
    split at h
    · rename_i fd hfd
      obtain ⟨hlt, rfl⟩ := List.getElem?_eq_some_iff.1 hfd
      obtain ⟨ho, hs⟩ := hf f (by omega) hlt
      split at h
      · cases h
      · rename_i hne
        have hfield : a[f]? = some (a[f]'(by omega)) := Array.getElem?_eq_getElem (by omega)
        cases hx <;> try (simp at h; done)
        case ptr i off pl ad hi h2 =>
          simp only [Option.some.injEq] at h; subst h
          refine ⟨.pointer (some (ad.add (fs[f].off))), ?_, ?_⟩
          · simp only [Instr.fieldAt, Sem.run_bind, run_underlying ha, Result.andThen_ok, hfield, Instr.sureAddr, Sem.run_pure, fieldPlace, run_sizeOf' hs, hne, if_false, ho]
          · refine .ptr _ _ pl _ hi (fun b o r e => ?_)
            obtain rfl := h2 b o r e
            rw [add_plain _ rfl]
            simp [Nat.add_assoc]
        case pptr cs b o g h0 hC hv =>
          simp only [Option.some.injEq] at h; subst h
          refine ⟨.pointer (some ⟨b, o + fs[f].off, none⟩), ?_, ?_⟩
          · simp only [Instr.fieldAt, Sem.run_bind, run_underlying ha, Result.andThen_ok, hfield, Instr.sureAddr, Sem.run_pure, fieldPlace, run_sizeOf' hs, hne, if_false, ho, add_plain ⟨b, o, none⟩ rfl]
          · refine .pptr _ b _ (fun j => g (fs[f].off + j)) (fun j hj => ?_) (fun j hj => ?_) (fun j hj => ?_)
            · simp at hj; simpa using h0 (fs[f].off + j) (by omega)
            · simp at hj; rw [Nat.add_assoc]; exact hC (fs[f].off + j) (by omega)
            · simp at hj; simpa using hv (fs[f].off + j) (by omega)
    · cases h
  · cases h

theorem fieldV_sound {P : Program} {s : TypeId} {x v : V} {f : Nat} {ι C c} (h : fieldV P s x f = some v) (hx : VR ι C x c) (w : World) :
    ∃ r, (Instr.field s c f).run P w = .ok r w ∧ VR ι C v r := by
  unfold fieldV at h
  split at h
  · rename_i fs fl cs hk
    obtain ⟨a, ha, hlen, _, hf⟩ := kd_struct hk
    split at h
    · rename_i fd hfd
      obtain ⟨hlt, rfl⟩ := List.getElem?_eq_some_iff.1 hfd
      obtain ⟨ho, hs⟩ := hf f (by omega) hlt
      have hfield : a[f]? = some (a[f]'(by omega)) := Array.getElem?_eq_getElem (by omega)
      cases hx with
      | agg _ arr hl hr =>
        obtain ⟨r, h1, h2⟩ := part_sound hs hl hr h w
        refine ⟨r, ?_, h2⟩
        simp only [Instr.field, Sem.run_bind, run_underlying ha, Result.andThen_ok, hfield, asAgg, Sem.run_pure]
        rw [← ho]; exact h1
    · cases h
  · cases h

theorem indexAddrV_sound {P : Program} {t : TypeId} {x ix v : V} {ι C c ci} (h : indexAddrV P t x ix = some v) (hx : VR ι C x c) (hix : VR ι C ix ci) (w : World) :
    ∃ r, (Instr.indexAt t c ci).run P w = .ok r w ∧ VR ι C v r := by
  unfold indexAddrV at h
  split at h
  · rename_i k n
    cases hix with
    | int =>
      split at h
      · rename_i e i off len sz cap hk
        obtain ⟨u, hu, he⟩ := kd_slice hk
        obtain ⟨hs, _⟩ := elOf_spec he
        split at h
        · rename_i hlt
          simp only [Option.some.injEq] at h
          subst h
          cases hx with
          | sl _ _ _ _ _ pl a ccap hi hl hc hsp h2 =>
            refine ⟨.pointer (some (a.add (n.toNat * e.size))), ?_, ?_⟩
            · simp only [Instr.indexAt, Sem.run_bind, asIntOf, Sem.run_pure, Result.andThen_ok, run_underlying hu, hlt.1, hlt.2, and_self, if_true, run_sizeOf' hs]
            · refine .ptr _ _ pl _ hi (fun b o r e' => ?_)
              rw [add_plain a hsp, (h2 b o r e').1 (by omega)]
              simp [Nat.add_assoc]
        · cases h
      · rename_i e cs len capped hk
        obtain ⟨u, hu, he⟩ := kd_slice hk
        obtain ⟨hs, _⟩ := elOf_spec he
        split at h
        · rename_i hlt
          simp only [Option.some.injEq] at h
          subst h
          cases hx with
          | psl _ _ _ b o ccap g hl hc h0 hC hv =>
            refine ⟨.pointer (some ⟨b, o + n.toNat * e.size, none⟩), ?_, ?_⟩
            · simp only [Instr.indexAt, Sem.run_bind, asIntOf, Sem.run_pure, Result.andThen_ok, run_underlying hu, hlt.1, hlt.2, and_self, if_true, run_sizeOf' hs, add_plain ⟨b, o, none⟩ rfl]
            · refine .pptr _ b _ (fun j => g (n.toNat * e.size + j)) (fun j hj => ?_) (fun j hj => ?_) (fun j hj => ?_)
              · simp at hj; simpa using h0 (n.toNat * e.size + j) (by omega)
              · simp at hj; rw [Nat.add_assoc]; exact hC (n.toNat * e.size + j) (by omega)
              · simp at hj; simpa using hv (n.toNat * e.size + j) (by omega)
          | psl0 _ a => exact absurd hlt.2 (by simp; omega)
        · cases h
      · rename_i len e i off hk
        obtain ⟨u, hu, he⟩ := kd_array hk
        obtain ⟨hs, _⟩ := elOf_spec he
        split at h
        · rename_i hlt
          simp only [Option.some.injEq] at h
          subst h
          cases hx with
          | ptr _ _ pl a hi h2 =>
            refine ⟨.pointer (some (a.add (n.toNat * e.size))), ?_, ?_⟩
            · simp only [Instr.indexAt, Sem.run_bind, asIntOf, Sem.run_pure, Result.andThen_ok, run_underlying hu, Instr.sureAddr, hlt.1, hlt.2, and_self, if_true, run_sizeOf' hs]
            · refine .ptr _ _ pl _ hi (fun b o r e' => ?_)
              obtain rfl := h2 b o r e'
              rw [add_plain _ rfl]
              simp [Nat.add_assoc]
        · cases h
      · cases h
  · cases h

theorem indexV_sound {P : Program} {t : TypeId} {x ix v : V} {ι C c ci} (h : indexV P t x ix = some v) (hx : VR ι C x c) (hix : VR ι C ix ci) (w : World) :
    ∃ r, (Instr.index t c ci).run P w = .ok r w ∧ VR ι C v r := by
  unfold indexV at h
  split at h
  · rename_i k n
    cases hix with
    | int =>
      split at h
      · rename_i len e cs hk
        obtain ⟨u, hu, he⟩ := kd_array hk
        obtain ⟨hs, _⟩ := elOf_spec he
        split at h
        · rename_i hlt
          cases hx with
          | agg _ arr hl hr =>
            obtain ⟨r, h1, h2⟩ := part_sound hs hl hr h w
            refine ⟨r, ?_, h2⟩
            simp only [Instr.index, Sem.run_bind, asIntOf, Sem.run_pure, Result.andThen_ok, run_underlying hu, hlt.1, hlt.2, and_self, if_true, run_sizeOf' hs]
            exact h1
        · cases h
      · rename_i s hk
        have hu := kd_str hk
        split at h
        · rename_i h0
          cases hx with
          | str =>
            cases hg : s[n.toNat]? with
            | none => simp [hg] at h
            | some b =>
              simp [hg] at h
              subst h
              refine ⟨.int .u8 b.toNat, ?_, .int _ _⟩
              simp only [Instr.index, Sem.run_bind, asIntOf, Sem.run_pure, Result.andThen_ok, run_underlying hu, h0, if_true, hg]
        · cases h
      · cases h
  · cases h

end Go.Ab

/- Each operation of the evaluator is the model's: slices, comparisons, numbers, maps read. Conditions: none. -/
namespace Go.Ab

/-- an optional bound beside the model's operand -/
inductive BR : Option Int → Option Value → Prop
  | none : BR none none
  | some (k n) : BR (some n) (some (.int k n))

theorem optB_sound {ρ : Operand → V} {ρ' : Operand → Value} {ι C} (hρ : ∀ x, VR ι C (ρ x) (ρ' x)) (o : Option Operand) {b : Option Int} (h : optB ρ o = some b) : BR b (o.map ρ') := by
  cases o with
  | none => simp [optB] at h; subst h; exact .none
  | some x =>
    have hx := hρ x
    unfold optB at h
    cases hv : ρ x <;> simp [boundV, hv] at h
    rename_i k n
    subst h
    rw [hv] at hx
    generalize hc : ρ' x = c at hx
    cases hx
    simp only [Option.map_some, hc]
    exact .some k n

theorem sliceBound_ok {P : Program} {w : World} {k : IntKind} {n : Int} {y : Nat} {code : BoundsCode} (h0 : 0 ≤ n) (h1 : n ≤ y) : (Instr.sliceBound (.int k n) y code).run P w = .ok n.toNat w := by
  simp [Instr.sliceBound, asIntOf, h0, h1]

theorem cutB_sound {P : Program} {w : World} {isSlice : Bool} {len most cap : Nat} {lo hi mx : Option Int} {lo' hi' mx' : Option Value} (r1 : BR lo lo') (r2 : BR hi hi') (r3 : BR mx mx')
    (hcap : most ≤ cap) (hlen : len ≤ most) {l h : Nat} {m : Option Nat} (hc : cutB len most lo hi mx = some (l, h, m)) :
    (Instr.sliceBounds isSlice len cap lo' hi' mx').run P w = .ok (l, h, m.getD cap) w ∧ l ≤ h ∧ h ≤ m.getD cap ∧ m.getD cap ≤ cap ∧ h ≤ most ∧ (∀ x, m = some x → x ≤ most) := by
  unfold cutB at hc
  simp only [] at hc
  split at hc
  · rename_i hcond
    obtain ⟨c1, c2, c3, c4, c5⟩ := hcond
    simp only [Option.some.injEq, Prod.mk.injEq] at hc
    obtain ⟨rfl, rfl, rfl⟩ := hc
    cases r3 with
    | none =>
      simp only [Option.getD_none, Option.map_none] at *
      cases r2 with
      | none =>
        simp only [Option.getD_none] at *
        cases r1 with
        | none => simp [Instr.sliceBounds] at *; omega
        | some k n =>
          simp only [Option.getD_some] at *
          refine ⟨?_, by omega, by omega, by omega, by omega, by simp⟩
          simp only [Instr.sliceBounds, Sem.run_bind, Sem.run_pure, Result.andThen_ok]
          rw [sliceBound_ok c1 (by omega)]
          simp
      | some k2 n2 =>
        simp only [Option.getD_some] at *
        cases r1 with
        | none =>
          simp only [Option.getD_none] at *
          refine ⟨?_, by omega, by omega, by omega, by omega, by simp⟩
          simp only [Instr.sliceBounds, Sem.run_bind, Sem.run_pure, Result.andThen_ok]
          rw [sliceBound_ok (by omega) (by omega)]
          simp
        | some k n =>
          simp only [Option.getD_some] at *
          refine ⟨?_, by omega, by omega, by omega, by omega, by simp⟩
          simp only [Instr.sliceBounds, Sem.run_bind, Sem.run_pure, Result.andThen_ok]
          rw [sliceBound_ok (by omega) (by omega)]
          simp only [Result.andThen_ok]
          rw [sliceBound_ok (by omega) (by omega)]
          simp
    | some k3 n3 =>
      simp only [Option.getD_some, Option.map_some, Option.isSome_some, true_implies] at *
      cases r2 with
      | none => simp at c5
      | some k2 n2 =>
        simp only [Option.getD_some] at *
        cases r1 with
        | none =>
          simp only [Option.getD_none] at *
          refine ⟨?_, by omega, by omega, by omega, by omega, by intro x hx; cases hx; omega⟩
          simp only [Instr.sliceBounds, Sem.run_bind, Sem.run_pure, Result.andThen_ok]
          rw [sliceBound_ok (by omega) (by omega)]
          simp only [Result.andThen_ok]
          rw [sliceBound_ok (by omega) (by omega)]
          simp
        | some k n =>
          simp only [Option.getD_some] at *
          refine ⟨?_, by omega, by omega, by omega, by omega, by intro x hx; cases hx; omega⟩
          simp only [Instr.sliceBounds, Sem.run_bind, Sem.run_pure, Result.andThen_ok]
          rw [sliceBound_ok (by omega) (by omega)]
          simp only [Result.andThen_ok]
          rw [sliceBound_ok (by omega) (by omega)]
          simp only [Result.andThen_ok]
          rw [sliceBound_ok (by omega) (by omega)]
          simp
  · cases hc

theorem sliceV_sound {P : Program} {t : TypeId} {x v : V} {lo hi mx : Option Int} {lo' hi' mx' : Option Value} {ι C c} (h : sliceV P t x lo hi mx = some v) (hx : VR ι C x c)
    (r1 : BR lo lo') (r2 : BR hi hi') (r3 : BR mx mx') (w : World) : ∃ r, (Instr.sliceAt t c lo' hi' mx').run P w = .ok r w ∧ VR ι C v r := by
  unfold sliceV at h
  split at h
  · rename_i e hk
    obtain ⟨u, hu, he⟩ := kd_slice hk
    obtain ⟨hs, _⟩ := elOf_spec he
    split at h
    · rename_i y hc
      obtain ⟨l, hh, m⟩ := y
      simp only [Option.some.injEq] at h
      subst h
      cases hx
      obtain ⟨e1, e2, e3, e4, _⟩ := cutB_sound (P := P) (w := w) (isSlice := true) r1 r2 r3 (Nat.le_refl 0) (Nat.le_refl 0) hc
      refine ⟨.slice none 0 0, ?_, .nils⟩
      simp only [Instr.sliceAt, Sem.run_bind, run_underlying hu, Result.andThen_ok, Instr.slice, e1, run_sizeOf' hs, Sem.run_pure]
      have : hh - l = 0 ∧ m.getD 0 - l = 0 := by omega
      simp [this.1, this.2]
    · cases h
  · rename_i e i off len sz cap hk
    obtain ⟨u, hu, he⟩ := kd_slice hk
    obtain ⟨hs, _⟩ := elOf_spec he
    split at h
    · rename_i hsz
      split at h
      · rename_i l hh m hc
        simp only [Option.some.injEq] at h
        subst h
        cases hx with
        | sl _ _ _ _ _ pl a ccap hi' hl hcp hsp h2 =>
          have hmost : cap.getD len ≤ ccap := by cases cap with | none => exact hl | some x => exact Nat.le_of_eq (hcp x rfl)
          have hlen : len ≤ cap.getD len := by cases cap with | none => exact Nat.le_refl _ | some x => have := hcp x rfl; simp; omega
          obtain ⟨e1, e2, e3, e4, e5, e6⟩ := cutB_sound (P := P) (w := w) (isSlice := true) r1 r2 r3 hmost hlen hc
          refine ⟨.slice (if m.getD ccap = l then some a else (some a).map (·.add (l * e.size))) (hh - l) (m.getD ccap - l), ?_, ?_⟩
          · simp only [Instr.sliceAt, Sem.run_bind, run_underlying hu, Result.andThen_ok, Instr.slice, e1, run_sizeOf' hs, Sem.run_pure]
          · have hval : (if m.getD ccap = l then some a else (some a).map (·.add (l * e.size))) = some (if m.getD ccap = l then a else a.add (l * e.size)) := by split <;> rfl
            rw [hval]
            refine .sl _ _ _ _ _ pl _ _ hi' (by omega) ?_ ?_ ?_
            · intro q hq
              cases m with
              | some m => simp only [Option.some.injEq] at hq; simp; omega
              | none =>
                cases cap with
                | none => simp at hq
                | some x => simp only [Option.map_some, Option.some.injEq] at hq; have := hcp x rfl; simp; omega
            · split
              · exact hsp
              · rw [add_plain a hsp]
            · intro b o r epl
              obtain ⟨g1, g2, g3⟩ := h2 b o r epl
              refine ⟨fun hpos => ?_, ?_, ?_⟩
              · rw [if_neg (by omega), add_plain a hsp, g1 (by omega)]
                simp [Nat.add_assoc, hsz]
              · have : off + l * sz + (m.getD ccap - l) * sz = off + (l + (m.getD ccap - l)) * sz := by rw [Nat.add_mul]; omega
                rw [this, show l + (m.getD ccap - l) = m.getD ccap by omega]
                have := Nat.mul_le_mul_right sz e4
                omega
              · intro hnone
                cases m with
                | some m => cases hnone
                | none =>
                  cases cap with
                  | some x => cases hnone
                  | none =>
                    have h5 := g3 rfl
                    have : off + l * sz + (Option.getD none ccap - l) * sz = off + (l + (Option.getD none ccap - l)) * sz := by rw [Nat.add_mul]; omega
                    rw [this]
                    simp only [Option.getD_none] at e4 ⊢
                    rw [show l + (ccap - l) = ccap by simp only [Option.getD_none] at *; omega]
                    exact h5
      · cases h
    · cases h
  · rename_i e cs len capped hk
    obtain ⟨u, hu, he⟩ := kd_slice hk
    obtain ⟨hs, _⟩ := elOf_spec he
    split at h
    · rename_i l hh m hc
      split at h
      · rename_i hlen
        simp only [Option.some.injEq] at h
        subst h
        cases hx with
        | psl _ _ _ b o ccap g hl hcp h0 hC hv =>
          obtain ⟨e1, e2, e3, e4, e5, e6⟩ := cutB_sound (P := P) (w := w) (isSlice := true) r1 r2 r3 hl (Nat.le_refl _) hc
          refine ⟨.slice (some (if m.getD ccap = l then ⟨b, o, none⟩ else ⟨b, o + l * e.size, none⟩)) (hh - l) (m.getD ccap - l), ?_, ?_⟩
          · simp only [Instr.sliceAt, Sem.run_bind, run_underlying hu, Result.andThen_ok, Instr.slice, e1, run_sizeOf' hs, Sem.run_pure]
            congr 2
            split
            · rfl
            · simp [add_plain ⟨b, o, none⟩ rfl]
          · have hcapped : cut2 capped hh len m = true → m.getD ccap - l = hh - l := by
              clear e1 hc
              intro hq
              cases m with
              | some m => simp [cut2] at hq; simp [hq]
              | none => simp [cut2] at hq; have := hcp hq.1; simp; omega
            by_cases hml : m.getD ccap = l
            · rw [if_pos hml]
              have hz : hh - l = 0 := by omega
              refine .psl _ _ _ b o _ g (by omega) hcapped ?_ ?_ ?_ <;> (intro j hj; simp [hz] at hj)
            · rw [if_neg hml]
              refine .psl _ _ _ b _ _ (fun j => g (l * e.size + j)) (by omega) hcapped ?_ ?_ ?_
              · intro j hj; simp at hj; simpa using h0 (l * e.size + j) (by omega)
              · intro j hj; simp at hj; rw [Nat.add_assoc]; exact hC (l * e.size + j) (by omega)
              · intro j hj; simp at hj; simpa using hv (l * e.size + j) (by omega)
        | psl0 _ a =>
          obtain ⟨e1, e2, e3, e4, e5, e6⟩ := cutB_sound (P := P) (w := w) (isSlice := true) r1 r2 r3 (Nat.le_refl 0) (Nat.le_refl _) hc
          have hl0 : l = 0 := by omega
          have hh0 : hh = 0 := by omega
          have hm0 : m.getD 0 = 0 := by omega
          subst hl0 hh0
          refine ⟨.slice (some a) 0 0, ?_, ?_⟩
          · simp only [Instr.sliceAt, Sem.run_bind, run_underlying hu, Result.andThen_ok, Instr.slice, e1, run_sizeOf' hs, Sem.run_pure, hm0]
            simp
          · simpa using VR.psl0 _ a
      · cases h
    · cases h
  · rename_i s hk
    have hu := kd_str hk
    split at h
    · cases h
    · rename_i hmx
      split at h
      · rename_i l hh m hc
        simp only [Option.some.injEq] at h
        subst h
        cases hx
        cases r3 with
        | some => simp at hmx
        | none =>
          obtain ⟨e1, _⟩ := cutB_sound (P := P) (w := w) (isSlice := false) r1 r2 .none (Nat.le_refl _) (Nat.le_refl _) hc
          refine ⟨.string (s.extract l hh), ?_, .str _⟩
          simp [Instr.sliceAt, run_underlying hu, Instr.slice, e1]
      · cases h
  · cases h

/-! numbers -/
theorem arithV_sound {P : Program} {o : BinOp} {k : IntKind} {a b : Int} {v : V} (h : arithV o k a b = some v) (ho : o ≠ .shl ∧ o ≠ .shr) (t : TypeId) (ι C) (w : World) :
    ∃ r, (binOp o t (.int k a) (.int k b)).run P w = .ok r w ∧ VR ι C v r := by
  unfold arithV at h
  cases o <;> simp only [] at h <;> try (cases h; done)
  all_goals first
    | (split at h
       · cases h
       · rename_i hne
         simp only [Option.some.injEq] at h; subst h
         refine ⟨_, ?_, .int _ _⟩
         simp [binOp, Op.intDiv, hne])
    | (simp only [Option.some.injEq] at h; subst h
       first
         | (refine ⟨_, ?_, .int _ _⟩; simp [binOp, Op.intArith]; done)
         | (refine ⟨_, ?_, .int _ _⟩; simp [binOp, Op.intBits]; done)
         | (refine ⟨_, ?_, .bool _⟩; simp [binOp, Op.intCmp]; done))

theorem scalar_under {P : Program} {t : TypeId} (hs : scalarT P t = true) : (P.underlying t = some .bool ∨ ∃ k, P.underlying t = some (.int k)) ∧ P.cellsOf t = 1 := by
  unfold scalarT at hs
  split at hs
  · rename_i h; exact ⟨.inl h, by simpa using hs⟩
  · rename_i k h; exact ⟨.inr ⟨k, h⟩, by simpa using hs⟩
  · cases hs

theorem part_scalar {P : Program} {t : TypeId} (hs : scalarT P t = true) (a : Array Value) (off : Nat) (h : off < a.size) (w : World) : (part t a off).run P w = .ok a[off] w := by
  rcases (scalar_under hs).1 with h1 | ⟨k, h1⟩ <;> simp [part, isAgg, run_underlying h1, Array.getElem?_eq_getElem h]

theorem eqV_str {P : Program} {t : TypeId} {x y : V} {r : Bool} (hk : kd P t = some .str) (h : eqV P t x y = some r) : ∃ a b, x = .str a ∧ y = .str b ∧ (a.toList == b.toList) = r := by
  unfold eqV at h
  rw [hk] at h
  cases x <;> first | (simp at h; done) | (cases y <;> first | (simp at h; done) | (simp only [Option.some.injEq] at h; exact ⟨_, _, rfl, rfl, h⟩))

/-- one number or bool by another one, of a scalar type: what '==' says where the model says anything -/
theorem binV_sound {P : Program} {o : BinOp} {t : TypeId} {x y v : V} {ι C c d} (h : binV P o t x y = some v) (hx : VR ι C x c) (hy : VR ι C y d) (w : World)
    (heq : kd P t ≠ some .str → ∀ r, eqV P t x y = some r → (Op.equal t c d).run P w = .ok r w) : ∃ r, (binOp o t c d).run P w = .ok r w ∧ VR ι C v r := by
  unfold binV at h
  split at h
  · rename_i k a _ b
    split at h
    · cases h
    · rename_i hb
      simp only [Option.some.injEq] at h; subst h
      cases hx; cases hy
      refine ⟨_, ?_, .int _ _⟩
      simp [binOp, Op.shift, hb]
  · rename_i k a _ b
    split at h
    · cases h
    · rename_i hb
      simp only [Option.some.injEq] at h; subst h
      cases hx; cases hy
      refine ⟨_, ?_, .int _ _⟩
      simp [binOp, Op.shift, hb]
  · rename_i o' k a k' b h1 h2
    split at h
    · rename_i hk; subst hk
      cases hx; cases hy
      exact arithV_sound h ⟨fun e => h1 e, fun e => h2 e⟩ t ι C w
    · cases h
  · rename_i h1
    cases he : eqV P t x y with
    | none => simp [he] at h
    | some r =>
      simp [he] at h; subst h
      refine ⟨.bool r, ?_, .bool r⟩
      by_cases hstr : kd P t = some .str
      · obtain ⟨a, b, rfl, rfl, rfl⟩ := eqV_str hstr he
        cases hx; cases hy
        simp [binOp, Op.stringOp]
      have hq := heq hstr r he
      unfold eqV at he
      split at he <;> cases hx <;> cases hy <;> first
        | (simp [binOp, hq]; done)
        | (simp at he; subst he; simp [binOp, Op.stringOp]; done)
        | (exfalso; simp_all; done)
        | (simp at he; done)
  · rename_i h1
    cases he : eqV P t x y with
    | none => simp [he] at h
    | some r =>
      simp [he] at h; subst h
      refine ⟨.bool (!r), ?_, .bool _⟩
      by_cases hstr : kd P t = some .str
      · obtain ⟨a, b, rfl, rfl, rfl⟩ := eqV_str hstr he
        cases hx; cases hy
        simp [binOp, Op.stringOp]
      have hq := heq hstr r he
      unfold eqV at he
      split at he <;> cases hx <;> cases hy <;> first
        | (simp [binOp, hq]; done)
        | (simp at he; subst he; simp [binOp, Op.stringOp]; done)
        | (exfalso; simp_all; done)
        | (simp at he; done)
  · cases h

theorem equal_succ (t : TypeId) (x y : Value) : Op.equal t x y = Op.equalIn (9999 + 1) t x y := rfl

theorem equal_simple {P : Program} {t : TypeId} {x y : V} {r : Bool} {ι C c d} (h : eqV P t x y = some r) (hx : VR ι C x c) (hy : VR ι C y d) (w : World)
    (hn : ∀ fs ks, kd P t ≠ some (.struct fs (some ks))) (hstr : kd P t ≠ some .str) : (Op.equal t c d).run P w = .ok r w := by
  rw [equal_succ]
  generalize 9999 = dep
  unfold Op.equalIn
  rw [Sem.run_bind]
  unfold eqV at h
  split at h <;> try (simp at h; done)
  case h_1 hk => rw [run_underlying (kd_bool hk)]; cases hx; cases hy; simp at h; subst h; rfl
  case h_2 hk => exact absurd hk hstr
  case h_19 fs ks a b hk => exact absurd hk (hn fs ks)
  all_goals (simp only [Option.some.injEq] at h; subst h)
  case h_3 hk => obtain ⟨u, hu⟩ := kd_pointer hk; rw [run_underlying hu]; cases hx; cases hy; rfl
  case h_4 hk => obtain ⟨u, hu⟩ := kd_pointer hk; rw [run_underlying hu]; cases hx; cases hy; rfl
  case h_5 hk => obtain ⟨u, hu⟩ := kd_pointer hk; rw [run_underlying hu]; cases hx; cases hy; rfl
  case h_6 hk => obtain ⟨u, hu⟩ := kd_pointer hk; rw [run_underlying hu]; cases hx; cases hy; rfl
  case h_7 hk => obtain ⟨u, hu⟩ := kd_pointer hk; rw [run_underlying hu]; cases hx; cases hy; rfl
  case h_8 hk => obtain ⟨u, hu, _⟩ := kd_slice hk; rw [run_underlying hu]; cases hx; cases hy; rfl
  case h_9 hk => obtain ⟨u, hu, _⟩ := kd_slice hk; rw [run_underlying hu]; cases hx; cases hy; rfl
  case h_10 hk => obtain ⟨u, hu, _⟩ := kd_slice hk; rw [run_underlying hu]; cases hx <;> cases hy <;> rfl
  case h_11 hk => obtain ⟨u, hu, _⟩ := kd_slice hk; rw [run_underlying hu]; cases hx; cases hy; rfl
  case h_12 hk => obtain ⟨u, hu, _⟩ := kd_slice hk; rw [run_underlying hu]; cases hx <;> cases hy <;> rfl
  case h_13 hk => obtain ⟨u, u', hu, _⟩ := kd_map hk; rw [run_underlying hu]; cases hx; cases hy; rfl
  case h_14 hk => obtain ⟨u, u', hu, _⟩ := kd_map hk; rw [run_underlying hu]; cases hx; cases hy; rfl
  case h_15 hk => obtain ⟨u, u', hu, _⟩ := kd_map hk; rw [run_underlying hu]; cases hx; cases hy; rfl
  case h_16 hk => obtain ⟨u, u', u'', hu⟩ := kd_func hk; rw [run_underlying hu]; cases hx; cases hy; rfl
  case h_17 hk => obtain ⟨u, u', u'', hu⟩ := kd_func hk; rw [run_underlying hu]; cases hx; cases hy; rfl
  case h_18 hk => obtain ⟨u, u', u'', hu⟩ := kd_func hk; rw [run_underlying hu]; cases hx; cases hy; rfl
end Go.Ab
