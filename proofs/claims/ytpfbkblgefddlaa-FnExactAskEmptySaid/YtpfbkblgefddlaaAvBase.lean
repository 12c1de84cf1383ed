/- Abstract values, abstract heap and the meaning of each operation on them: the base of the walks. -/
import Derived.Calls
import Derived.Below
import Derived.Laws.AppendOwn
import Derived.Laws.MakeOwn
import Derived.Laws.Rows
import Derived.Laws.CopyRow
namespace Go.Proofs.Ytpfbkblgefddlaa.Av
set_option linter.unusedSimpArgs false
set_option linter.unusedVariables false
open Go

/-- What a slot holds, as far as the walk knows (`maybe c d`: true only if c, false only if d): scalars as they are; `ref`: a slice into an object of the walk's own; `val`: a slice whose memory nobody writes; `ptr`: a pointer into an own object; `rptr`: a pointer into memory that nobody writes. -/
inductive AV where
  | top
  | undef
  | int (k : IntKind) (n : Int)
  | bool (b : Bool)
  | str (s : List UInt8)
  | agg (vs : List AV)
  | tup (vs : List AV)
  | ref (id off len : Nat)
  | snil
  | val (rows : List (List AV))
  | ptr (id i off : Nat)
  | rptr (row : List AV) (off : Nat)
  | pnil
  | fn (f : Nat) (caps : List AV)
  | fnil
  | own (z : Nat) (rows : List (List AV))
  | tmp (rows : List (List AV))
  | maybe (c d : Prop)
  deriving Inhabited

/-- An object of the walk's own: a variable (`box`: its cells), a row of elements of `s` cells each (`arr`); `nst`: a row whose elements may own rows of their own (cells `own`); `arx`: one whose cells may be references too. -/
inductive AObj where
  | box (row : List AV)
  | arr (s : Nat) (rows : List (List AV))
  | nst (s : Nat) (rows : List (List AV))
  | arx (s : Nat) (rows : List (List AV))
  deriving Inhabited

abbrev Env := Nat → AV
abbrev Heap := Nat → Option AObj

def Env.upd (e : Env) (t : Nat) (v : AV) : Env := fun s => if s = t then v else e s
def Heap.set (h : Heap) (id : Nat) (o : AObj) : Heap := fun j => if j = id then some o else h j
def Heap.del (h : Heap) (id : Nat) : Heap := fun j => if j = id then none else h j
def Heap.none : Heap := fun _ => Option.none
def Env.top : Env := fun _ => .top

def AV.cells : AV → List AV
  | .agg vs => vs
  | v => [v]

/-- one cell that may be stored -/
def AV.okc (h : Heap) : AV → Prop
  | .int .. | .bool _ | .str _ | .snil | .val _ | .rptr .. | .pnil | .fn .. | .fnil => True
  | .ref id _ _ | .ptr id _ _ => (h id).isSome = true
  | _ => False

/-- every object is there -/
def anyH : Heap := fun _ => some (.arr 0 [])

/-- no reference into own objects -/
def AV.free : AV → Bool
  | .int .. | .bool _ | .str _ | .snil | .val _ | .rptr .. | .pnil | .fnil => true
  | .fn _ caps => caps.isEmpty
  | _ => false

/-- the part [off, off+len) of a list -/
def sub {α : Type} (rows : List α) (off len : Nat) : List α := (rows.drop off).take len

/-- not a cell that owns rows -/
def AV.lone : AV → Bool
  | .own _ _ => false
  | _ => true

/-- no reference into own objects, or nothing known -/
def AV.freeT : AV → Bool
  | .top => true
  | v => v.free

/-- a cell of a row that owns rows, as one that is only read -/
def AV.thaw : AV → AV
  | .own _ rows => .val rows
  | v => v

/-- a cell of such a row: no reference, or rows of its own without any -/
def AV.sld : AV → Prop
  | .own z rows => (∀ r ∈ rows, r.length = z ∧ ∀ c ∈ r, c.free = true)
  | v => v.free = true

/-- The value with the rows of what it refers to written in: of a cell. -/
def AV.snap1 (h : Heap) : AV → AV
  | .ref id off len => match h id with
    | some (.arr _ rows) => if off + len ≤ rows.length then .val (sub rows off len) else .top
    | some (.nst _ rows) => if off + len ≤ rows.length then .val ((sub rows off len).map (List.map AV.thaw)) else .top
    | _ => .top
  | .ptr _ _ _ => .top
  | .agg _ => .top
  | .tup _ => .top
  | .undef => .top
  | .own _ _ => .top
  | .tmp _ => .top
  | .maybe _ _ => .top
  | .snil => .val []
  | .fn f caps => if caps.isEmpty then .fn f [] else .top
  | v => v

/-- .. of what stands in a slot: a struct's cells; a pointer to a variable as a pointer to what it holds. -/
def AV.snap (h : Heap) : AV → AV
  | .agg vs => .agg (vs.map (AV.snap1 h))
  | .ptr id i off => match h id with
    | some (.box row) => if i = 0 then .rptr (row.map (AV.snap1 h)) off else .top
    | some (.arr _ rows) => match rows[i]? with
      | some row => .rptr row off
      | Option.none => .top
    | some (.nst _ rows) => match rows[i]? with
      | some row => .rptr (row.map AV.thaw) off
      | Option.none => .top
    | some (.arx _ _) => .top
    | Option.none => .top
  | v => v.snap1 h

mutual
/-- Objects under other numbers; what has none is forgotten. -/
def AV.mapId (f : Nat → Option Nat) : AV → AV
  | .ref id off len => match f id with
    | some j => .ref j off len
    | Option.none => .top
  | .ptr id i off => match f id with
    | some j => .ptr j i off
    | Option.none => .top
  | .agg vs => .agg (AV.mapIds f vs)
  | .tup vs => .tup (AV.mapIds f vs)
  | .tmp _ => .top
  | .fn g caps => .fn g (AV.mapIds f caps)
  | v => v
def AV.mapIds (f : Nat → Option Nat) : List AV → List AV
  | [] => []
  | v :: r => v.mapId f :: AV.mapIds f r
end

def AObj.mapId (f : Nat → Option Nat) : AObj → AObj
  | .box row => .box (AV.mapIds f row)
  | .arr s rows => .arr s rows
  | .nst s rows => .nst s rows
  | .arx s rows => .arx s (rows.map (AV.mapIds f))

mutual
/-- the own objects that a value names -/
def AV.ids : AV → List Nat
  | .ref id _ _ => [id]
  | .ptr id _ _ => [id]
  | .agg vs => AV.idsL vs
  | .tup vs => AV.idsL vs
  | .fn _ caps => AV.idsL caps
  | _ => []
def AV.idsL : List AV → List Nat
  | [] => []
  | v :: r => v.ids ++ AV.idsL r
end

def objIds (h : Heap) (id : Nat) : List Nat := match h id with
  | some (.box row) => AV.idsL row
  | _ => []

/-- numbers, each once, in the order in which they come -/
def once : List Nat → List Nat
  | [] => []
  | a :: r => a :: (once r).filter (· ≠ a)

/-- what a call is handed: the objects that its arguments name, and those that these name -/
def reach (h : Heap) (args : List AV) : List Nat :=
  let l := once (AV.idsL args)
  once (l ++ l.flatMap (objIds h))

def shift (n : Nat) (id : Nat) : Option Nat := some (n + id)

/-- the place of a number in a list -/
def place (l : List Nat) (id : Nat) : Option Nat := match l with
  | [] => Option.none
  | a :: r => if a = id then some 0 else (place r id).map (· + 1)

/-- .. and back: the first ones are the list's, the others stand from n on -/
def unplace (l : List Nat) (n : Nat) (i : Nat) : Option Nat := match l with
  | [] => some (n + i)
  | a :: r => match i with
    | 0 => some a
    | i + 1 => unplace r n i

def addObjs (h : Heap) (n : Nat) : List AObj → Heap
  | [] => h
  | o :: r => addObjs (h.set n o) (n + 1) r

def setObjs (h : Heap) (n : Nat) : List Nat → List (Option AObj) → Heap
  | id :: l, some o :: r => setObjs (h.set id o) n l r
  | id :: l, Option.none :: r => setObjs (h.del id) n l r
  | [], some o :: r => setObjs (h.set n o) (n + 1) [] r
  | [], Option.none :: r => setObjs h (n + 1) [] r
  | _, [] => h

/-- replace cells from off on -/
def setCells (row : List AV) (off : Nat) (cs : List AV) : List AV := row.take off ++ cs ++ row.drop (off + cs.length)

/-! ### operations -/

inductive Opd where
  | t (n : Nat)
  | c (v : AV)
  deriving Inhabited

def Opd.ev (e : Env) : Opd → AV
  | .t n => e n
  | .c v => v

inductive Tag where
  | mv | pick
  | bin (op : BinOp)
  | not | neg
  | cvt (k : IntKind)
  | box (s : Nat)
  | alc (row : List AV)
  | ld1 | ldn (s : Nat)
  | st (s : Nat)
  | fadr (off : Nat)
  | iadr (s : Nat)
  | idx
  | fld1 (off : Nat) | fldn (off s : Nat)
  | bld (zero : List AV) (places : List (Nat × Nat))
  | bsl (s : Nat)
  | mks (s bytes : Nat) (zero : List AV)
  | slc (s : Nat) (lo hi : Bool)
  | sls (lo hi : Bool)
  | len | lens
  | app (s bytes : Nat)
  | max | min
  | ext (i : Nat)
  | nck
  | mkf (f : Nat)
  | b2s | s2b
  | aidx (len : Nat)
  | slc3 (s : Nat)
  | beq (ng : Bool)
  | aeq (ng : Bool) (ks : List Nat)
  | bslv (s : Nat)
  | bnil (ng : Bool)
  | bsle
  | cap
  | apz (s bytes : Nat) (zero : List AV)
  | no
  | call (f : Nat)
  | dyn
  deriving Inhabited

structure IOper where
  dst : Option Nat
  tag : Tag
  args : List Opd
  g : Option (Nat × Bool)
  deriving Inhabited

def optArgs (lo hi : Bool) (l : List AV) (n : Nat) : Option (Int × Int) :=
  match lo, hi, l with
  | false, false, [] => some (0, n)
  | true, false, [.int _ a] => some (a, n)
  | false, true, [.int _ b] => some (0, b)
  | true, true, [.int _ a, .int _ b] => some (a, b)
  | _, _, _ => Option.none

abbrev Kont := AV → Heap → Nat → Prop

def semInt (op : BinOp) (k : IntKind) (a b : Int) (K : AV → Prop) : Prop :=
  match op with
  | .add => ∃ c, k.wrap (a + b) = c ∧ K (.int k c)
  | .sub => ∃ c, k.wrap (a - b) = c ∧ K (.int k c)
  | .mul => ∃ c, k.wrap (a * b) = c ∧ K (.int k c)
  | .quo => b ≠ 0 ∧ ∃ c, k.wrap (a.tdiv b) = c ∧ K (.int k c)
  | .rem => b ≠ 0 ∧ K (.int k (a.tmod b))
  | .and => K (.int k (k.wrap (BitVec.ofInt k.bits a &&& BitVec.ofInt k.bits b).toNat))
  | .or => K (.int k (k.wrap (BitVec.ofInt k.bits a ||| BitVec.ofInt k.bits b).toNat))
  | .xor => K (.int k (k.wrap (BitVec.ofInt k.bits a ^^^ BitVec.ofInt k.bits b).toNat))
  | .andNot => K (.int k (k.wrap (BitVec.ofInt k.bits a &&& ~~~BitVec.ofInt k.bits b).toNat))
  | .eql => K (.bool (a == b))
  | .neq => K (.bool (a != b))
  | .lss => K (.bool (decide (a < b)))
  | .leq => K (.bool (decide (a ≤ b)))
  | .gtr => K (.bool (decide (a > b)))
  | .geq => K (.bool (decide (a ≥ b)))
  | _ => False

def semShift (op : BinOp) (k : IntKind) (a b : Int) (K : AV → Prop) : Prop :=
  match op with
  | .shl => 0 ≤ b ∧ K (.int k (k.wrap (a * 2 ^ (Nat.min b.toNat k.bits))))
  | .shr => 0 ≤ b ∧ K (.int k (a.fdiv (2 ^ (Nat.min b.toNat k.bits))))
  | _ => False

def semStr (op : BinOp) (a b : List UInt8) (K : AV → Prop) : Prop :=
  match op with
  | .add => a.length + b.length ≤ 9223372036854775807 ∧ K (.str (a ++ b))
  | .eql => K (.bool (a == b))
  | .neq => K (.bool (!(a == b)))
  | _ => False

def semBin (op : BinOp) (x y : AV) (K : AV → Prop) : Prop :=
  match x, y with
  | .int k a, .int k' b => if op = .shl ∨ op = .shr then semShift op k a b K else k = k' ∧ semInt op k a b K
  | .str a, .str b => semStr op a b K
  | _, _ => False

/-- the rows that an appended slice gives -/
def rowsOf (h : Heap) : AV → Option (List (List AV))
  | .snil => some []
  | .val rows => some rows
  | .ref id off len => match h id with
    | some (.arr _ rows) => if off + len ≤ rows.length then some (sub rows off len) else Option.none
    | _ => Option.none
  | _ => Option.none

def AObj.rowsX : AObj → Option (Nat × List (List AV))
  | .box _ => Option.none
  | .arr z rows => some (z, rows)
  | .nst z rows => some (z, rows)
  | .arx z rows => some (z, rows)

/-- .. where they may hold references -/
def AV.rowsX : AV → Option (List (List AV))
  | .tmp rows => some rows
  | _ => Option.none

def fillRow : List AV → List (Nat × Nat) → List AV → Option (List AV)
  | row, [], [] => some row
  | row, (off, s) :: ps, v :: vs => if v.cells.length = s ∧ off + s ≤ row.length then fillRow (setCells row off v.cells) ps vs else Option.none
  | _, _, _ => Option.none

/-- a byte as a row of one cell -/
def byteRow (b : UInt8) : List AV := [.int .u8 b.toNat]

/-- two structs of numbers (0), truths (1) and texts (2): are they the same -/
def eqCells : List Nat → List AV → List AV → Option Bool
  | [], [], [] => some true
  | 0 :: ks, .int k a :: xs, .int k' b :: ys => if k = k' then (eqCells ks xs ys).map fun c => (a == b) && c else none
  | 1 :: ks, .bool a :: xs, .bool b :: ys => (eqCells ks xs ys).map fun c => (a == b) && c
  | 2 :: ks, .str a :: xs, .str b :: ys => (eqCells ks xs ys).map fun c => (a == b) && c
  | _, _, _ => none

/-- true (ng: false) only if c -/
def maybeN (ng : Bool) (c : Prop) : AV := match ng with
  | true => .maybe True c
  | false => .maybe c True

/-- what each operation does, but calls -/
def sem (tag : Tag) (vs : List AV) (h : Heap) (n : Nat) (K : Kont) : Prop :=
  match tag, vs with
  | .mv, [v] => K v h n
  | .pick, [.bool c, a, b] => (c = true → K a h n) ∧ (c = false → K b h n)
  | .bin op, [x, y] => semBin op x y fun v => K v h n
  | .not, [.bool b] => K (.bool (!b)) h n
  | .neg, [.int k a] => ∃ c, k.wrap (0 - a) = c ∧ K (.int k c) h n
  | .cvt k, [.int _ a] => ∃ c, k.wrap a = c ∧ K (.int k c) h n
  | .box s, [v] => v.cells.length = s ∧ (∀ c ∈ v.cells, c.okc h) ∧ K (.ptr n 0 0) (h.set n (.box v.cells)) (n + 1)
  | .alc row, [] => K (.ptr n 0 0) (h.set n (.box row)) (n + 1)
  | .ld1, [.ptr id i off] => (match h id with
    | some (.box row) => i = 0 ∧ (match row[off]? with | some v => K v h n | Option.none => False)
    | some (.arr _ rows) => (match rows[i]? with
      | some row => (match row[off]? with | some v => K v h n | Option.none => False)
      | Option.none => False)
    | some (.nst _ rows) => (match rows[i]? with
      | some row => (match row[off]? with | some v => v.free = true ∧ K v h n | Option.none => False)
      | Option.none => False)
    | some (.arx _ rows) => (match rows[i]? with
      | some row => (match row[off]? with | some v => v.lone = true ∧ K v h n | Option.none => False)
      | Option.none => False)
    | Option.none => False)
  | .ld1, [.rptr row off] => (match row[off]? with | some v => K v h n | Option.none => False)
  | .ldn s, [.ptr id i off] => (match h id with
    | some (.box row) => i = 0 ∧ off + s ≤ row.length ∧ K (.agg (sub row off s)) h n
    | some (.arr _ rows) => (match rows[i]? with
      | some row => off + s ≤ row.length ∧ K (.agg (sub row off s)) h n
      | Option.none => False)
    | some (.nst _ rows) => (match rows[i]? with
      | some row => off + s ≤ row.length ∧ (∀ c ∈ sub row off s, c.free = true) ∧ K (.agg (sub row off s)) h n
      | Option.none => False)
    | some (.arx _ rows) => (match rows[i]? with
      | some row => off + s ≤ row.length ∧ (∀ c ∈ sub row off s, c.lone = true) ∧ K (.agg (sub row off s)) h n
      | Option.none => False)
    | Option.none => False)
  | .ldn s, [.rptr row off] => off + s ≤ row.length ∧ K (.agg (sub row off s)) h n
  | .st s, [.ptr id i off, v] => v.cells.length = s ∧ (∀ c ∈ v.cells, c.okc h) ∧ (match h id with
    | some (.box row) => i = 0 ∧ off + s ≤ row.length ∧ K .undef (h.set id (.box (setCells row off v.cells))) n
    | some (.arr z rows) => (match rows[i]? with
      | some row => off + s ≤ row.length ∧ (∀ c ∈ v.cells, c.free = true) ∧ K .undef (h.set id (.arr z (rows.set i (setCells row off v.cells)))) n
      | Option.none => False)
    | some (.nst z rows) => (match rows[i]? with
      | some row => off + s ≤ row.length ∧ (∀ c ∈ v.cells, c.free = true) ∧ K .undef (h.set id (.nst z (rows.set i (setCells row off v.cells)))) n
      | Option.none => False)
    | some (.arx z rows) => (match rows[i]? with
      | some row => off + s ≤ row.length ∧ K .undef (h.set id (.arx z (rows.set i (setCells row off v.cells)))) n
      | Option.none => False)
    | Option.none => False)
  | .fadr o, [.ptr id i off] => K (.ptr id i (off + o)) h n
  | .fadr o, [.rptr row off] => K (.rptr row (off + o)) h n
  | .iadr s, [.ref id off len, .int _ i] => 0 ≤ i ∧ i < len ∧ (match h id with
    | some (.arr z _) => z = s ∧ K (.ptr id (off + i.toNat) 0) h n
    | some (.nst z _) => z = s ∧ K (.ptr id (off + i.toNat) 0) h n
    | some (.arx z _) => z = s ∧ K (.ptr id (off + i.toNat) 0) h n
    | _ => False)
  | .iadr s, [.val rows, .int _ i] => 0 ≤ i ∧ (match rows[i.toNat]? with
    | some row => row.length = s ∧ K (.rptr row 0) h n
    | Option.none => False)
  | .idx, [.str s, .int _ i] => 0 ≤ i ∧ (match s[i.toNat]? with
    | some b => K (.int .u8 b.toNat) h n
    | Option.none => False)
  | .fld1 off, [.agg vs] => (match vs[off]? with | some v => K v h n | Option.none => False)
  | .fldn off s, [.agg vs] => off + s ≤ vs.length ∧ K (.agg (sub vs off s)) h n
  | .bld zero places, vs => (∀ v ∈ vs, ∀ c ∈ v.cells, c.okc h) ∧ (match fillRow zero places vs with | some row => K (.agg row) h n | Option.none => False)
  | .bsl s, vs => (∀ v ∈ vs, v.cells.length = s ∧ ∀ c ∈ v.cells, c.free = true) ∧
      vs.length * s ≤ 16777216 ∧ K (.ref n 0 vs.length) (h.set n (.arr s (vs.map AV.cells))) (n + 1)
  | .mks s bytes zero, [.int _ l, .int _ c] => 0 ≤ l ∧ l ≤ c ∧ (bytes : Int) * c ≤ 140737488355328 ∧ c ≤ 140737488355328 ∧
      K (.ref n 0 l.toNat) (h.set n (.arr s (List.replicate l.toNat zero))) (n + 1)
  | .slc s lo hi, .ref id off len :: r => (match optArgs lo hi r len, h id with
    | some (a, b), some (.arr z _) => 0 ≤ a ∧ a ≤ b ∧ b ≤ len ∧ z = s ∧ K (.ref id (off + a.toNat) (b - a).toNat) h n
    | _, _ => False)
  | .slc s lo hi, .val rows :: r => (match optArgs lo hi r rows.length with
    | some (a, b) => 0 ≤ a ∧ a ≤ b ∧ b ≤ rows.length ∧ (∀ r ∈ rows, r.length = s) ∧ K (.val (sub rows a.toNat (b - a).toNat)) h n
    | Option.none => False)
  | .slc _ lo hi, .snil :: r => (match optArgs lo hi r 0 with
    | some (a, b) => a = 0 ∧ b = 0 ∧ K .snil h n
    | Option.none => False)
  | .sls lo hi, .str s :: r => (match optArgs lo hi r s.length with
    | some (a, b) => 0 ≤ a ∧ a ≤ b ∧ b ≤ s.length ∧ K (.str (sub s a.toNat (b - a).toNat)) h n
    | Option.none => False)
  | .lens, [.str s] => K (.int .i64 s.length) h n
  | .len, [.ref _ _ len] => K (.int .i64 len) h n
  | .len, [.snil] => K (.int .i64 0) h n
  | .len, [.val rows] => K (.int .i64 rows.length) h n
  | .app s bytes, [.ref id off len, x] => off = 0 ∧ (match h id, rowsOf h x with
    | some (.arr z rows), some more => z = s ∧ len ≤ rows.length ∧ (∀ r ∈ more, r.length = s) ∧ (len + more.length) * bytes ≤ 140737488355328 ∧
        len + more.length ≤ 140737488355328 ∧ K (.ref n 0 (len + more.length)) ((h.del id).set n (.arr s (rows.take len ++ more))) (n + 1)
    | some o, none => (match o.rowsX, x.rowsX with
      | some (z, rows), some more => z = s ∧ len ≤ rows.length ∧ (∀ r ∈ more, r.length = s) ∧ (len + more.length) * bytes ≤ 140737488355328 ∧
        len + more.length ≤ 140737488355328 ∧ K (.ref n 0 (len + more.length)) ((h.del id).set n (.arx s (rows.take len ++ more))) (n + 1)
      | _, _ => False)
    | _, _ => False)
  | .app s bytes, [.snil, x] => (match rowsOf h x with
    | some more => (∀ r ∈ more, r.length = s) ∧ more.length * bytes ≤ 140737488355328 ∧ more.length ≤ 140737488355328 ∧
        K (.ref n 0 more.length) (h.set n (.arr s more)) (n + 1)
    | Option.none => False)
  | .max, [.int k a, .int _ b] => K (.int k (if b > a then b else a)) h n
  | .min, [.int k a, .int _ b] => K (.int k (if b < a then b else a)) h n
  | .ext i, [.tup vs] => (match vs[i]? with | some v => K v h n | Option.none => False)
  | .nck, [.ptr id i off] => K (.ptr id i off) h n
  | .nck, [.rptr row off] => K (.rptr row off) h n
  | .nck, [.fn f caps] => K (.fn f caps) h n
  | .mkf f, vs => K (.fn f vs) h n
  | .b2s, [x] => ∃ bs : List UInt8, rowsOf h x = some (bs.map byteRow) ∧ K (.str bs) h n
  | .s2b, [.str s] => s.length ≤ 140737488355328 ∧ K (.val (s.map byteRow)) h n
  | .aidx len, [.agg vs, .int _ i] => 0 ≤ i ∧ i < len ∧ (match vs[i.toNat]? with | some v => K v h n | Option.none => False)
  | .slc3 s, [.ref id off len, .int _ b, .int _ m] => 0 ≤ b ∧ b ≤ m ∧ m ≤ len ∧ (match h id with
    | some (.arr z _) => z = s ∧ K (.ref id off b.toNat) h n
    | _ => False)
  | .slc3 s, [.val rows, .int _ b, .int _ m] => 0 ≤ b ∧ b ≤ m ∧ m ≤ rows.length ∧ (∀ r ∈ rows, r.length = s) ∧ K (.val (rows.take b.toNat)) h n
  | .slc3 _, [.snil, .int _ b, .int _ m] => b = 0 ∧ m = 0 ∧ K .snil h n
  | .bslv s, vs => (∀ v ∈ vs, v.cells.length = s) ∧ vs.length * s ≤ 16777216 ∧ (match vs.all fun v => v.cells.all AV.free with
    | true => K (.val (vs.map AV.cells)) h n
    | false => (∀ v ∈ vs, ∀ c ∈ v.cells, c.okc anyH) ∧ K (.tmp (vs.map AV.cells)) h n)
  | .bsle, [] => K .snil h n
  | .cap, [.snil] => K (.int .i64 0) h n
  | .apz s bytes zero, [.snil, .int _ k] => 0 < k ∧ (bytes : Int) * k ≤ 140737488355328 ∧ k ≤ 140737488355328 ∧ K (.ref n 0 k.toNat) (h.set n (.arr s (List.replicate k.toNat zero))) (n + 1)
  | .bnil ng, [.val rows] => K (maybeN ng (rows = [])) h n
  | .bnil ng, [.snil] => K (maybeN ng True) h n
  | .bnil ng, [.ref id _ len] => (match h id with
    | some _ => K (maybeN ng (len = 0)) h n
    | Option.none => False)
  | .aeq ng ks, [.agg xs, .agg ys] => (match eqCells ks xs ys with | some c => K (.bool (if ng then !c else c)) h n | Option.none => False)
  | .beq ng, [.bool a, .bool b] => K (.bool (if ng then !(a == b) else a == b)) h n
  | _, _ => False

end Go.Proofs.Ytpfbkblgefddlaa.Av
