/- Part 2 of the proof of FnExactHoaWriteCardSaid: AvBase to AvOps4. Conditions: none. -/
import Derived.Calls
import Derived.Below
import Derived.Laws.AppendOwn
import Derived.Laws.MakeOwn
import Derived.Laws.Rows
import Derived.Laws.CopyRow
import Derived.Laws.Strings
import Derived.Laws.Slices
import Derived.Laws.Tables
set_option linter.unusedSimpArgs false
set_option linter.unusedVariables false
namespace Go.Proofs.YthanhknkoikbfaaDoor.Av
open Go
inductive AV where
  | top
  | undef
  | int (k : IntKind) (n : Int)
  | bool (b : Bool)
  | str (s : List UInt8)
  | agg (vs : List AV)
  | tup (vs : List AV)
  | ref (id off len : Nat)
  | snil
  | val (rows : List (List AV))
  | ptr (id i off : Nat)
  | rptr (row : List AV) (off : Nat)
  | pnil
  | fn (f : Nat) (caps : List AV)
  | fnil
  | own (z : Nat) (rows : List (List AV))
  | tmp (rows : List (List AV))
  | maybe (c d : Prop)
  | mp (id : Nat)
  deriving Inhabited
inductive Sc where
  | i (n : Int)
  | b (x : Bool)
  deriving Inhabited, DecidableEq
abbrev MEnt := List Sc × Int
inductive AObj where
  | box (row : List AV)
  | arr (s : Nat) (rows : List (List AV))
  | nst (s : Nat) (rows : List (List AV))
  | arx (s : Nat) (rows : List (List AV))
  | map (st : Bool) (es : List MEnt)
  | itr (st : Bool) (cur : Option MEnt) (left : List MEnt)
  deriving Inhabited
abbrev Env := Nat → AV
abbrev Heap := Nat → Option AObj
def Env.upd (e : Env) (t : Nat) (v : AV) : Env := fun s => if s = t then v else e s
def Heap.set (h : Heap) (id : Nat) (o : AObj) : Heap := fun j => if j = id then some o else h j
def Heap.del (h : Heap) (id : Nat) : Heap := fun j => if j = id then none else h j
def Heap.none : Heap := fun _ => Option.none
def Env.top : Env := fun _ => .top
def AV.cells : AV → List AV
  | .agg vs => vs
  | v => [v]
def AV.okc (h : Heap) : AV → Prop
  | .int .. | .bool _ | .str _ | .snil | .val _ | .rptr .. | .pnil | .fn .. | .fnil => True
  | .ref id _ _ | .ptr id _ _ | .mp id => (h id).isSome = true
  | _ => False
def anyH : Heap := fun _ => some (.arr 0 [])
def AV.free : AV → Bool
  | .int .. | .bool _ | .str _ | .snil | .val _ | .rptr .. | .pnil | .fnil => true
  | .fn _ caps => caps.isEmpty
  | _ => false
def sub {α : Type} (rows : List α) (off len : Nat) : List α := (rows.drop off).take len
def AV.lone : AV → Bool
  | .own _ _ => false
  | _ => true
def AV.freeT : AV → Bool
  | .top => true
  | v => v.free
def AV.thaw : AV → AV
  | .own _ rows => .val rows
  | v => v
def AV.sld : AV → Prop
  | .own z rows => (∀ r ∈ rows, r.length = z ∧ ∀ c ∈ r, c.free = true)
  | v => v.free = true
def AV.snap1 (h : Heap) : AV → AV
  | .ref id off len => match h id with
    | some (.arr _ rows) => if off + len ≤ rows.length then .val (sub rows off len) else .top
    | some (.nst _ rows) => if off + len ≤ rows.length then .val ((sub rows off len).map (List.map AV.thaw)) else .top
    | _ => .top
  | .ptr _ _ _ => .top
  | .agg _ => .top
  | .tup _ => .top
  | .undef => .top
  | .own _ _ => .top
  | .tmp _ => .top
  | .maybe _ _ => .top
  | .mp _ => .top
  | .snil => .val []
  | .fn f caps => if caps.isEmpty then .fn f [] else .top
  | v => v
def AV.snap (h : Heap) : AV → AV
  | .agg vs => .agg (vs.map (AV.snap1 h))
  | .ptr id i off => match h id with
    | some (.box row) => if i = 0 then .rptr (row.map (AV.snap1 h)) off else .top
    | some (.arr _ rows) => match rows[i]? with
      | some row => .rptr row off
      | Option.none => .top
    | some (.nst _ rows) => match rows[i]? with
      | some row => .rptr (row.map AV.thaw) off
      | Option.none => .top
    | some (.arx _ _) => .top
    | some (.map _ _) => .top
    | some (.itr _ _ _) => .top
    | Option.none => .top
  | v => v.snap1 h
mutual
def AV.mapId (f : Nat → Option Nat) : AV → AV
  | .ref id off len => match f id with
    | some j => .ref j off len
    | Option.none => .top
  | .ptr id i off => match f id with
    | some j => .ptr j i off
    | Option.none => .top
  | .mp id => match f id with
    | some j => .mp j
    | Option.none => .top
  | .agg vs => .agg (AV.mapIds f vs)
  | .tup vs => .tup (AV.mapIds f vs)
  | .tmp _ => .top
  | .fn g caps => .fn g (AV.mapIds f caps)
  | v => v
def AV.mapIds (f : Nat → Option Nat) : List AV → List AV
  | [] => []
  | v :: r => v.mapId f :: AV.mapIds f r
end
def AObj.mapId (f : Nat → Option Nat) : AObj → AObj
  | .box row => .box (AV.mapIds f row)
  | .arr s rows => .arr s rows
  | .nst s rows => .nst s rows
  | .arx s rows => .arx s (rows.map (AV.mapIds f))
  | .map st es => .map st es
  | .itr st cur left => .itr st cur left
mutual
def AV.ids : AV → List Nat
  | .ref id _ _ => [id]
  | .ptr id _ _ => [id]
  | .mp id => [id]
  | .agg vs => AV.idsL vs
  | .tup vs => AV.idsL vs
  | .fn _ caps => AV.idsL caps
  | _ => []
def AV.idsL : List AV → List Nat
  | [] => []
  | v :: r => v.ids ++ AV.idsL r
end
def objIds (h : Heap) (id : Nat) : List Nat := match h id with
  | some (.box row) => AV.idsL row
  | _ => []
def once : List Nat → List Nat
  | [] => []
  | a :: r => a :: (once r).filter (· ≠ a)
def reach (h : Heap) (args : List AV) : List Nat :=
  let l := once (AV.idsL args)
  once (l ++ l.flatMap (objIds h))
def shift (n : Nat) (id : Nat) : Option Nat := some (n + id)
def place (l : List Nat) (id : Nat) : Option Nat := match l with
  | [] => Option.none
  | a :: r => if a = id then some 0 else (place r id).map (· + 1)
def unplace (l : List Nat) (n : Nat) (i : Nat) : Option Nat := match l with
  | [] => some (n + i)
  | a :: r => match i with
    | 0 => some a
    | i + 1 => unplace r n i
def addObjs (h : Heap) (n : Nat) : List AObj → Heap
  | [] => h
  | o :: r => addObjs (h.set n o) (n + 1) r
def setObjs (h : Heap) (n : Nat) : List Nat → List (Option AObj) → Heap
  | id :: l, some o :: r => setObjs (h.set id o) n l r
  | id :: l, Option.none :: r => setObjs (h.del id) n l r
  | [], some o :: r => setObjs (h.set n o) (n + 1) [] r
  | [], Option.none :: r => setObjs h (n + 1) [] r
  | _, [] => h
def setCells (row : List AV) (off : Nat) (cs : List AV) : List AV := row.take off ++ cs ++ row.drop (off + cs.length)
/-! ### operations -/
inductive Opd where
  | t (n : Nat)
  | c (v : AV)
  deriving Inhabited
def Opd.ev (e : Env) : Opd → AV
  | .t n => e n
  | .c v => v
inductive Tag where
  | mv | pick
  | bin (op : BinOp)
  | not | neg
  | cvt (k : IntKind)
  | box (s : Nat)
  | alc (row : List AV)
  | ld1 | ldn (s : Nat)
  | st (s : Nat)
  | fadr (off : Nat)
  | iadr (s : Nat)
  | idx
  | fld1 (off : Nat) | fldn (off s : Nat)
  | bld (zero : List AV) (places : List (Nat × Nat))
  | bsl (s : Nat)
  | mks (s bytes : Nat) (zero : List AV)
  | slc (s : Nat) (lo hi : Bool)
  | sls (lo hi : Bool)
  | len | lens
  | app (s bytes : Nat)
  | max | min
  | ext (i : Nat)
  | nck
  | mkf (f : Nat)
  | b2s | s2b
  | aidx (len : Nat)
  | slc3 (s : Nat)
  | beq (ng : Bool)
  | aeq (ng : Bool) (ks : List Nat)
  | bslv (s : Nat)
  | bnil (ng : Bool)
  | bsle
  | cap
  | apz (s bytes : Nat) (zero : List AV)
  | mkm (st : Bool) | mlk (st : Bool) | mlo (st : Bool) | mup (st : Bool)
  | rng (st : Bool) | nxt | ent
  | cpy (s : Nat)
  | no
  | call (f : Nat)
  | dyn
  deriving Inhabited
structure IOper where
  dst : Option Nat
  tag : Tag
  args : List Opd
  g : Option (Nat × Bool)
  deriving Inhabited
def optArgs (lo hi : Bool) (l : List AV) (n : Nat) : Option (Int × Int) :=
  match lo, hi, l with
  | false, false, [] => some (0, n)
  | true, false, [.int _ a] => some (a, n)
  | false, true, [.int _ b] => some (0, b)
  | true, true, [.int _ a, .int _ b] => some (a, b)
  | _, _, _ => Option.none
abbrev Kont := AV → Heap → Nat → Prop
def semInt (op : BinOp) (k : IntKind) (a b : Int) (K : AV → Prop) : Prop :=
  match op with
  | .add => ∃ c, k.wrap (a + b) = c ∧ K (.int k c)
  | .sub => ∃ c, k.wrap (a - b) = c ∧ K (.int k c)
  | .mul => ∃ c, k.wrap (a * b) = c ∧ K (.int k c)
  | .quo => b ≠ 0 ∧ ∃ c, k.wrap (a.tdiv b) = c ∧ K (.int k c)
  | .rem => b ≠ 0 ∧ K (.int k (a.tmod b))
  | .and => K (.int k (k.wrap (BitVec.ofInt k.bits a &&& BitVec.ofInt k.bits b).toNat))
  | .or => K (.int k (k.wrap (BitVec.ofInt k.bits a ||| BitVec.ofInt k.bits b).toNat))
  | .xor => K (.int k (k.wrap (BitVec.ofInt k.bits a ^^^ BitVec.ofInt k.bits b).toNat))
  | .andNot => K (.int k (k.wrap (BitVec.ofInt k.bits a &&& ~~~BitVec.ofInt k.bits b).toNat))
  | .eql => K (.bool (a == b))
  | .neq => K (.bool (a != b))
  | .lss => K (.bool (decide (a < b)))
  | .leq => K (.bool (decide (a ≤ b)))
  | .gtr => K (.bool (decide (a > b)))
  | .geq => K (.bool (decide (a ≥ b)))
  | _ => False
def semShift (op : BinOp) (k : IntKind) (a b : Int) (K : AV → Prop) : Prop :=
  match op with
  | .shl => 0 ≤ b ∧ K (.int k (k.wrap (a * 2 ^ (Nat.min b.toNat k.bits))))
  | .shr => 0 ≤ b ∧ K (.int k (a.fdiv (2 ^ (Nat.min b.toNat k.bits))))
  | _ => False
def semStr (op : BinOp) (a b : List UInt8) (K : AV → Prop) : Prop :=
  match op with
  | .add => a.length + b.length ≤ 9223372036854775807 ∧ K (.str (a ++ b))
  | .eql => K (.bool (a == b))
  | .neq => K (.bool (!(a == b)))
  | _ => False
def semBin (op : BinOp) (x y : AV) (K : AV → Prop) : Prop :=
  match x, y with
  | .int k a, .int k' b => if op = .shl ∨ op = .shr then semShift op k a b K else k = k' ∧ semInt op k a b K
  | .str a, .str b => semStr op a b K
  | _, _ => False
def rowsOf (h : Heap) : AV → Option (List (List AV))
  | .snil => some []
  | .val rows => some rows
  | .ref id off len => match h id with
    | some (.arr _ rows) => if off + len ≤ rows.length then some (sub rows off len) else Option.none
    | _ => Option.none
  | _ => Option.none
def AObj.rowsX : AObj → Option (Nat × List (List AV))
  | .box _ => Option.none
  | .arr z rows => some (z, rows)
  | .nst z rows => some (z, rows)
  | .arx z rows => some (z, rows)
  | .map _ _ => Option.none
  | .itr _ _ _ => Option.none
def AV.rowsX : AV → Option (List (List AV))
  | .tmp rows => some rows
  | _ => Option.none
def fillRow : List AV → List (Nat × Nat) → List AV → Option (List AV)
  | row, [], [] => some row
  | row, (off, s) :: ps, v :: vs => if v.cells.length = s ∧ off + s ≤ row.length then fillRow (setCells row off v.cells) ps vs else Option.none
  | _, _, _ => Option.none
def byteRow (b : UInt8) : List AV := [.int .u8 b.toNat]
def eqCells : List Nat → List AV → List AV → Option Bool
  | [], [], [] => some true
  | 0 :: ks, .int k a :: xs, .int k' b :: ys => if k = k' then (eqCells ks xs ys).map fun c => (a == b) && c else none
  | 1 :: ks, .bool a :: xs, .bool b :: ys => (eqCells ks xs ys).map fun c => (a == b) && c
  | 2 :: ks, .str a :: xs, .str b :: ys => (eqCells ks xs ys).map fun c => (a == b) && c
  | _, _, _ => none
def maybeN (ng : Bool) (c : Prop) : AV := match ng with
  | true => .maybe True c
  | false => .maybe c True
/-! ### maps -/
def scOf : AV → Option Sc
  | .int .i64 n => some (.i n)
  | .bool x => some (.b x)
  | _ => Option.none
def scsOf : List AV → Option (List Sc)
  | [] => some []
  | v :: r => match scOf v, scsOf r with
    | some a, some b => some (a :: b)
    | _, _ => Option.none
def keyOf : Bool → AV → Option (List Sc)
  | true, .agg vs => scsOf vs
  | false, .int .i64 n => some [.i n]
  | _, _ => Option.none
def Sc.av : Sc → AV
  | .i n => .int .i64 n
  | .b x => .bool x
def keyAV : Bool → List Sc → AV
  | true, k => .agg (k.map Sc.av)
  | false, k => (match k with | a :: _ => a.av | [] => .top)
def mget (es : List MEnt) (k : List Sc) : Int := match es.find? (fun e => decide (e.1 = k)) with
  | some e => e.2
  | Option.none => 0
def mhas (es : List MEnt) (k : List Sc) : Bool := es.any fun e => decide (e.1 = k)
def mset (es : List MEnt) (k : List Sc) (v : Int) : List MEnt := if mhas es k = true then es.map fun e => if e.1 = k then (k, v) else e else es ++ [(k, v)]
def sem (tag : Tag) (vs : List AV) (h : Heap) (n : Nat) (K : Kont) : Prop :=
  match tag, vs with
  | .mv, [v] => K v h n
  | .pick, [.bool c, a, b] => (c = true → K a h n) ∧ (c = false → K b h n)
  | .bin op, [x, y] => semBin op x y fun v => K v h n
  | .not, [.bool b] => K (.bool (!b)) h n
  | .neg, [.int k a] => ∃ c, k.wrap (0 - a) = c ∧ K (.int k c) h n
  | .cvt k, [.int _ a] => ∃ c, k.wrap a = c ∧ K (.int k c) h n
  | .box s, [v] => v.cells.length = s ∧ (∀ c ∈ v.cells, c.okc h) ∧ K (.ptr n 0 0) (h.set n (.box v.cells)) (n + 1)
  | .alc row, [] => K (.ptr n 0 0) (h.set n (.box row)) (n + 1)
  | .ld1, [.ptr id i off] => (match h id with
    | some (.box row) => i = 0 ∧ (match row[off]? with | some v => K v h n | Option.none => False)
    | some (.arr _ rows) => (match rows[i]? with
      | some row => (match row[off]? with | some v => K v h n | Option.none => False)
      | Option.none => False)
    | some (.nst _ rows) => (match rows[i]? with
      | some row => (match row[off]? with | some v => v.free = true ∧ K v h n | Option.none => False)
      | Option.none => False)
    | some (.arx _ rows) => (match rows[i]? with
      | some row => (match row[off]? with | some v => v.lone = true ∧ K v h n | Option.none => False)
      | Option.none => False)
    | _ => False)
  | .ld1, [.rptr row off] => (match row[off]? with | some v => K v h n | Option.none => False)
  | .ldn s, [.ptr id i off] => (match h id with
    | some (.box row) => i = 0 ∧ off + s ≤ row.length ∧ K (.agg (sub row off s)) h n
    | some (.arr _ rows) => (match rows[i]? with
      | some row => off + s ≤ row.length ∧ K (.agg (sub row off s)) h n
      | Option.none => False)
    | some (.nst _ rows) => (match rows[i]? with
      | some row => off + s ≤ row.length ∧ (∀ c ∈ sub row off s, c.free = true) ∧ K (.agg (sub row off s)) h n
      | Option.none => False)
    | some (.arx _ rows) => (match rows[i]? with
      | some row => off + s ≤ row.length ∧ (∀ c ∈ sub row off s, c.lone = true) ∧ K (.agg (sub row off s)) h n
      | Option.none => False)
    | _ => False)
  | .ldn s, [.rptr row off] => off + s ≤ row.length ∧ K (.agg (sub row off s)) h n
  | .st s, [.ptr id i off, v] => v.cells.length = s ∧ (∀ c ∈ v.cells, c.okc h) ∧ (match h id with
    | some (.box row) => i = 0 ∧ off + s ≤ row.length ∧ K .undef (h.set id (.box (setCells row off v.cells))) n
    | some (.arr z rows) => (match rows[i]? with
      | some row => off + s ≤ row.length ∧ (∀ c ∈ v.cells, c.free = true) ∧ K .undef (h.set id (.arr z (rows.set i (setCells row off v.cells)))) n
      | Option.none => False)
    | some (.nst z rows) => (match rows[i]? with
      | some row => off + s ≤ row.length ∧ (∀ c ∈ v.cells, c.free = true) ∧ K .undef (h.set id (.nst z (rows.set i (setCells row off v.cells)))) n
      | Option.none => False)
    | some (.arx z rows) => (match rows[i]? with
      | some row => off + s ≤ row.length ∧ K .undef (h.set id (.arx z (rows.set i (setCells row off v.cells)))) n
      | Option.none => False)
    | _ => False)
  | .fadr o, [.ptr id i off] => K (.ptr id i (off + o)) h n
  | .fadr o, [.rptr row off] => K (.rptr row (off + o)) h n
  | .iadr s, [.ref id off len, .int _ i] => 0 ≤ i ∧ i < len ∧ (match h id with
    | some (.arr z _) => z = s ∧ K (.ptr id (off + i.toNat) 0) h n
    | some (.nst z _) => z = s ∧ K (.ptr id (off + i.toNat) 0) h n
    | some (.arx z _) => z = s ∧ K (.ptr id (off + i.toNat) 0) h n
    | _ => False)
  | .iadr s, [.val rows, .int _ i] => 0 ≤ i ∧ (match rows[i.toNat]? with
    | some row => row.length = s ∧ K (.rptr row 0) h n
    | Option.none => False)
  | .idx, [.str s, .int _ i] => 0 ≤ i ∧ (match s[i.toNat]? with
    | some b => K (.int .u8 b.toNat) h n
    | Option.none => False)
  | .fld1 off, [.agg vs] => (match vs[off]? with | some v => K v h n | Option.none => False)
  | .fldn off s, [.agg vs] => off + s ≤ vs.length ∧ K (.agg (sub vs off s)) h n
  | .bld zero places, vs => (∀ v ∈ vs, ∀ c ∈ v.cells, c.okc h) ∧ (match fillRow zero places vs with | some row => K (.agg row) h n | Option.none => False)
  | .bsl s, vs => (∀ v ∈ vs, v.cells.length = s ∧ ∀ c ∈ v.cells, c.free = true) ∧
      vs.length * s ≤ 16777216 ∧ K (.ref n 0 vs.length) (h.set n (.arr s (vs.map AV.cells))) (n + 1)
  | .mks s bytes zero, [.int _ l, .int _ c] => 0 ≤ l ∧ l ≤ c ∧ (bytes : Int) * c ≤ 140737488355328 ∧ c ≤ 140737488355328 ∧
      K (.ref n 0 l.toNat) (h.set n (.arr s (List.replicate l.toNat zero))) (n + 1)
  | .slc s lo hi, .ref id off len :: r => (match optArgs lo hi r len, h id with
    | some (a, b), some (.arr z _) => 0 ≤ a ∧ a ≤ b ∧ b ≤ len ∧ z = s ∧ K (.ref id (off + a.toNat) (b - a).toNat) h n
    | _, _ => False)
  | .slc s lo hi, .val rows :: r => (match optArgs lo hi r rows.length with
    | some (a, b) => 0 ≤ a ∧ a ≤ b ∧ b ≤ rows.length ∧ (∀ r ∈ rows, r.length = s) ∧ K (.val (sub rows a.toNat (b - a).toNat)) h n
    | Option.none => False)
  | .slc _ lo hi, .snil :: r => (match optArgs lo hi r 0 with
    | some (a, b) => a = 0 ∧ b = 0 ∧ K .snil h n
    | Option.none => False)
  | .sls lo hi, .str s :: r => (match optArgs lo hi r s.length with
    | some (a, b) => 0 ≤ a ∧ a ≤ b ∧ b ≤ s.length ∧ K (.str (sub s a.toNat (b - a).toNat)) h n
    | Option.none => False)
  | .lens, [.str s] => K (.int .i64 s.length) h n
  | .len, [.ref _ _ len] => K (.int .i64 len) h n
  | .len, [.snil] => K (.int .i64 0) h n
  | .len, [.val rows] => K (.int .i64 rows.length) h n
  | .app s bytes, [.ref id off len, x] => off = 0 ∧ (match h id, rowsOf h x with
    | some (.arr z rows), some more => z = s ∧ len ≤ rows.length ∧ (∀ r ∈ more, r.length = s) ∧ (len + more.length) * bytes ≤ 140737488355328 ∧
        len + more.length ≤ 140737488355328 ∧ K (.ref n 0 (len + more.length)) ((h.del id).set n (.arr s (rows.take len ++ more))) (n + 1)
    | some o, none => (match o.rowsX, x.rowsX with
      | some (z, rows), some more => z = s ∧ len ≤ rows.length ∧ (∀ r ∈ more, r.length = s) ∧ (len + more.length) * bytes ≤ 140737488355328 ∧
        len + more.length ≤ 140737488355328 ∧ K (.ref n 0 (len + more.length)) ((h.del id).set n (.arx s (rows.take len ++ more))) (n + 1)
      | _, _ => False)
    | _, _ => False)
  | .app s bytes, [.snil, x] => (match rowsOf h x with
    | some more => (∀ r ∈ more, r.length = s) ∧ more.length * bytes ≤ 140737488355328 ∧ more.length ≤ 140737488355328 ∧
        K (.ref n 0 more.length) (h.set n (.arr s more)) (n + 1)
    | Option.none => False)
  | .max, [.int k a, .int _ b] => K (.int k (if b > a then b else a)) h n
  | .min, [.int k a, .int _ b] => K (.int k (if b < a then b else a)) h n
  | .ext i, [.tup vs] => (match vs[i]? with | some v => K v h n | Option.none => False)
  | .nck, [.ptr id i off] => K (.ptr id i off) h n
  | .nck, [.rptr row off] => K (.rptr row off) h n
  | .nck, [.fn f caps] => K (.fn f caps) h n
  | .mkf f, vs => K (.fn f vs) h n
  | .b2s, [x] => ∃ bs : List UInt8, rowsOf h x = some (bs.map byteRow) ∧ K (.str bs) h n
  | .s2b, [.str s] => s.length ≤ 140737488355328 ∧ K (.val (s.map byteRow)) h n
  | .aidx len, [.agg vs, .int _ i] => 0 ≤ i ∧ i < len ∧ (match vs[i.toNat]? with | some v => K v h n | Option.none => False)
  | .slc3 s, [.ref id off len, .int _ b, .int _ m] => 0 ≤ b ∧ b ≤ m ∧ m ≤ len ∧ (match h id with
    | some (.arr z _) => z = s ∧ K (.ref id off b.toNat) h n
    | _ => False)
  | .slc3 s, [.val rows, .int _ b, .int _ m] => 0 ≤ b ∧ b ≤ m ∧ m ≤ rows.length ∧ (∀ r ∈ rows, r.length = s) ∧ K (.val (rows.take b.toNat)) h n
  | .slc3 _, [.snil, .int _ b, .int _ m] => b = 0 ∧ m = 0 ∧ K .snil h n
  | .bslv s, vs => (∀ v ∈ vs, v.cells.length = s) ∧ vs.length * s ≤ 16777216 ∧ (match vs.all fun v => v.cells.all AV.free with
    | true => K (.val (vs.map AV.cells)) h n
    | false => (∀ v ∈ vs, ∀ c ∈ v.cells, c.okc anyH) ∧ K (.tmp (vs.map AV.cells)) h n)
  | .bsle, [] => K .snil h n
  | .cap, [.snil] => K (.int .i64 0) h n
  | .apz s bytes zero, [.snil, .int _ k] => 0 < k ∧ (bytes : Int) * k ≤ 140737488355328 ∧ k ≤ 140737488355328 ∧ K (.ref n 0 k.toNat) (h.set n (.arr s (List.replicate k.toNat zero))) (n + 1)
  | .bnil ng, [.val rows] => K (maybeN ng (rows = [])) h n
  | .bnil ng, [.snil] => K (maybeN ng True) h n
  | .bnil ng, [.ref id _ len] => (match h id with
    | some _ => K (maybeN ng (len = 0)) h n
    | Option.none => False)
  | .aeq ng ks, [.agg xs, .agg ys] => (match eqCells ks xs ys with | some c => K (.bool (if ng then !c else c)) h n | Option.none => False)
  | .beq ng, [.bool a, .bool b] => K (.bool (if ng then !(a == b) else a == b)) h n
  | .mkm st, [] => K (.mp n) (h.set n (.map st [])) (n + 1)
  | .mlk st, [.mp id, k] => (match h id, keyOf st k with
    | some (.map st' es), some k => st' = st ∧ K (.int .i64 (mget es k)) h n
    | _, _ => False)
  | .mlo st, [.mp id, k] => (match h id, keyOf st k with
    | some (.map st' es), some k => st' = st ∧ K (.tup [.int .i64 (mget es k), .bool (mhas es k)]) h n
    | _, _ => False)
  | .mup st, [.mp id, k, .int .i64 v] => (match h id, keyOf st k with
    | some (.map st' es), some k => st' = st ∧ K .undef (h.set id (.map st (mset es k v))) n
    | _, _ => False)
  | .rng st, [.mp id] => (match h id with
    | some (.map st' es) => st' = st ∧ K (.ptr n 0 0) ((h.del id).set n (.itr st none es)) (n + 1)
    | _ => False)
  | .ent, [.ptr id 0 0] => (match h id with
    | some (.itr st (some e) _) => K (.tup [keyAV st e.1, .int .i64 e.2]) h n
    | _ => False)
  | .cpy s, [.ref id off len, x] => (match h id, rowsOf h x with
    | some (.arr z rows), some more => z = s ∧ off + len ≤ rows.length ∧ more.length ≤ len ∧ (∀ r ∈ more, r.length = s) ∧
        K (.int .i64 more.length) (h.set id (.arr z (rows.take off ++ more ++ rows.drop (off + more.length)))) n
    | _, _ => False)
  | _, _ => False
structure Place where
  blk : Option Nat
  sz : Nat
  cap : Nat
abbrev PlF := Nat → Option Place
structure Pl where
  at' : PlF
  hid : Nat → Option (Nat × Nat × Nat)
instance : CoeFun Pl (fun _ => PlF) := ⟨Pl.at'⟩
instance : Coe Pl PlF := ⟨Pl.at'⟩
def ownOf (own0 : Nat → Prop) (π : Pl) (b : Nat) : Prop := (own0 b ∨ (π.hid b).isSome = true) ∨ ∃ id p, π id = some p ∧ p.blk = some b
inductive Rel (w : World) (own : Nat → Prop) (π : PlF) (N : Nat) : AV → Value → Prop where
  | top (v : Value) : Rel w own π N .top v
  | undef : Rel w own π N .undef Go.undef
  | int (k : IntKind) (n : Int) : Rel w own π N (.int k n) (.int k n)
  | bool (b : Bool) : Rel w own π N (.bool b) (.bool b)
  | str (s : List UInt8) : Rel w own π N (.str s) (.string ⟨s.toArray⟩)
  | agg (vs : List AV) (cs : Array Value) (hl : cs.size = vs.length) (h : ∀ (i : Nat) x u, vs[i]? = some x → cs[i]? = some u → Rel w own π N x u) : Rel w own π N (.agg vs) (.agg cs)
  | tup (vs : List AV) (cs : Array Value) (hl : cs.size = vs.length) (h : ∀ (i : Nat) x u, vs[i]? = some x → cs[i]? = some u → Rel w own π N x u) : Rel w own π N (.tup vs) (.tuple cs)
  | refLive (id off len b cap : Nat) (p : Place) (hp : π id = some p) (hb : p.blk = some b) (h1 : len ≤ cap) (h2 : off + cap ≤ p.cap) :
      Rel w own π N (.ref id off len) (.slice (some ⟨b, off * p.sz, none⟩) len cap)
  | refEnd (id off o b : Nat) (p : Place) (hp : π id = some p) (hb : p.blk = some b) : Rel w own π N (.ref id off 0) (.slice (some ⟨b, o, none⟩) 0 0)
  | refNil (id : Nat) (a : Option Addr) (p : Place) (hp : π id = some p) (hb : p.blk = none) : Rel w own π N (.ref id 0 0) (.slice a 0 0)
  | refDead (id off len : Nat) (a : Option Addr) (cap : Nat) (hp : π id = none) (hn : id < N) : Rel w own π N (.ref id off len) (.slice a len cap)
  | snil (a : Option Addr) : Rel w own π N .snil (.slice a 0 0)
  | valNil (a : Option Addr) (cap : Nat) : Rel w own π N (.val []) (.slice a 0 cap)
  | val (rows : List (List AV)) (g off cap s : Nat) (us : Nat → Nat → Value) (ho : ¬ own g) (hg : g < w.heap.size) (hc : rows.length ≤ cap) (hm : rows.length ≤ 9223372036854775807)
      (hs : ∀ (i : Nat) row, rows[i]? = some row → row.length = s)
      (hf : ∀ (i : Nat) row x, rows[i]? = some row → x ∈ row → x.free = true)
      (hu : ∀ (i j : Nat) row x, rows[i]? = some row → row[j]? = some x → w.cell? ⟨g, off + (i * s + j), none⟩ = some (us i j))
      (h : ∀ (i j : Nat) row x, rows[i]? = some row → row[j]? = some x → Rel w own π N x (us i j)) :
      Rel w own π N (.val rows) (.slice (some ⟨g, off, none⟩) rows.length cap)
  | tmp (rows : List (List AV)) (g off cap s : Nat) (us : Nat → Nat → Value) (ho : ¬ own g) (hg : g < w.heap.size) (hc : rows.length ≤ cap) (hm : rows.length ≤ 9223372036854775807)
      (hs : ∀ (i : Nat) row, rows[i]? = some row → row.length = s)
      (hu : ∀ (i j : Nat) row x, rows[i]? = some row → row[j]? = some x → w.cell? ⟨g, off + (i * s + j), none⟩ = some (us i j))
      (h1 : ∀ (i j : Nat) row x, rows[i]? = some row → row[j]? = some x → (us i j).oneCell' = true)
      (h : ∀ (i j : Nat) row x, rows[i]? = some row → row[j]? = some x → Rel w own π N x (us i j)) :
      Rel w own π N (.tmp rows) (.slice (some ⟨g, off, none⟩) rows.length cap)
  | ptrLive (id i off b : Nat) (p : Place) (hp : π id = some p) (hb : p.blk = some b) : Rel w own π N (.ptr id i off) (.pointer (some ⟨b, i * p.sz + off, none⟩))
  | ptrDead (id i off : Nat) (ad : Addr) (hp : π id = none) (hn : id < N) : Rel w own π N (.ptr id i off) (.pointer (some ad))
  | rptr (row : List AV) (off g o : Nat) (us : Nat → Value) (ho : ¬ own g) (hg : g < w.heap.size)
      (hf : ∀ x, x ∈ row → x.freeT = true)
      (hu : ∀ (j : Nat) x, row[j]? = some x → w.cell? ⟨g, o + j, none⟩ = some (us j))
      (h : ∀ (j : Nat) x, row[j]? = some x → Rel w own π N x (us j)) :
      Rel w own π N (.rptr row off) (.pointer (some ⟨g, o + off, none⟩))
  | pnil : Rel w own π N .pnil (.pointer none)
  | fn (f : Nat) (caps : List AV) (cs : Array Value) (hl : cs.size = caps.length) (h : ∀ (i : Nat) x u, caps[i]? = some x → cs[i]? = some u → Rel w own π N x u) : Rel w own π N (.fn f caps) (.func (.func f) #[] cs)
  | fnil : Rel w own π N .fnil .nilFunc
  | maybe (c d : Prop) (b : Bool) (h1 : b = true → c) (h2 : b = false → d) : Rel w own π N (.maybe c d) (.bool b)
  | mpLive (id b : Nat) (p : Place) (hp : π id = some p) (hb : p.blk = some b) : Rel w own π N (.mp id) (.map (some b))
  | mpDead (id b : Nat) (hp : π id = none) (hn : id < N) : Rel w own π N (.mp id) (.map (some b))
def Loosely : Prop := True
structure TapeLe (w w' : World) : Prop where
  same : w'.tape = w.tape
  le : w.drawn ≤ w'.drawn ∨ Loosely
theorem TapeLe.trans {w1 w2 w3 : World} (h : TapeLe w2 w3) (k : TapeLe w1 w2) : TapeLe w1 w3 := ⟨h.same.trans k.same, k.le.elim (fun a => h.le.elim (fun b => .inl (Nat.le_trans a b)) .inr) .inr⟩
structure Mono (own0 : Nat → Prop) (π π' : Pl) (n n' : Nat) (w w' : World) : Prop where
  size : w.heap.size ≤ w'.heap.size
  kept : ∀ b, b < w.heap.size → ¬ ownOf own0 π b → w'.heap[b]? = w.heap[b]? ∧ ¬ ownOf own0 π' b
  pl : ∀ id p, π id = some p → (π' id = some p ∨ π' id = none) ∧ id < n
  dead : ∀ id, π id = none → id < n → π' id = none
  le : n ≤ n'
  os : w'.os = w.os
  tape : TapeLe w w'
  output : w'.output = w.output
theorem Mono.refl {own0 : Nat → Prop} {π : Pl} {n : Nat} {w : World} (h : ∀ id p, π id = some p → id < n) : Mono own0 π π n n w w :=
  ⟨Nat.le_refl _, fun _ _ h => ⟨rfl, h⟩, fun _ _ hp => ⟨.inl hp, h _ _ hp⟩, fun _ h _ => h, Nat.le_refl _, rfl, ⟨rfl, .inl (Nat.le_refl _)⟩, rfl⟩
theorem Mono.trans {own0 : Nat → Prop} {π π' π'' : Pl} {n n' n'' : Nat} {w w' w'' : World} (h : Mono own0 π π' n n' w w') (k : Mono own0 π' π'' n' n'' w' w'') : Mono own0 π π'' n n'' w w'' where
  size := Nat.le_trans h.size k.size
  kept b hb ho := by
    obtain ⟨h1, h2⟩ := h.kept b hb ho
    obtain ⟨k1, k2⟩ := k.kept b (Nat.lt_of_lt_of_le hb h.size) h2
    exact ⟨k1.trans h1, k2⟩
  pl id p hp := by
    obtain ⟨h1, h2⟩ := h.pl id p hp
    refine ⟨?_, h2⟩
    rcases h1 with h1 | h1
    · exact (k.pl id p h1).1
    · exact .inr (k.dead id h1 (Nat.lt_of_lt_of_le h2 h.le))
  dead id hp hn := k.dead id (h.dead id hp hn) (Nat.lt_of_lt_of_le hn h.le)
  le := Nat.le_trans h.le k.le
  os := k.os.trans h.os
  tape := k.tape.trans h.tape
  output := k.output.trans h.output
theorem cell?_of_heap {w w' : World} {a : Addr} (h : w'.heap[a.block]? = w.heap[a.block]?) : w'.cell? a = w.cell? a := by simp [World.cell?, h]
theorem Rel.mono {own0 : Nat → Prop} {π π' : Pl} {n n' : Nat} {w w' : World} (m : Mono own0 π π' n n' w w') {x : AV} {v : Value} (h : Rel w (ownOf own0 π) π n x v) :
    Rel w' (ownOf own0 π') π' n' x v := by
  induction h with
  | top v => exact .top v
  | undef => exact .undef
  | int k n => exact .int k n
  | bool b => exact .bool b
  | str s => exact .str s
  | agg vs cs hl _ ih => exact .agg vs cs hl ih
  | tup vs cs hl _ ih => exact .tup vs cs hl ih
  | refLive id off len b cap p hp hb h1 h2 =>
    rcases (m.pl id p hp).1 with h | h
    · exact .refLive id off len b cap p h hb h1 h2
    · exact .refDead id off len _ _ h (Nat.lt_of_lt_of_le (m.pl id p hp).2 m.le)
  | refEnd id off o b p hp hb =>
    rcases (m.pl id p hp).1 with h | h
    · exact .refEnd id off o b p h hb
    · exact .refDead id off 0 _ _ h (Nat.lt_of_lt_of_le (m.pl id p hp).2 m.le)
  | refNil id a p hp hb =>
    rcases (m.pl id p hp).1 with h | h
    · exact .refNil id a p h hb
    · exact .refDead id 0 0 _ _ h (Nat.lt_of_lt_of_le (m.pl id p hp).2 m.le)
  | refDead id off len v cap hp hn => exact .refDead id off len v cap (m.dead id hp hn) (Nat.lt_of_lt_of_le hn m.le)
  | snil a => exact .snil a
  | valNil a cap => exact .valNil a cap
  | val rows g off cap s us ho hg hc hm hs hf hu _ ih =>
    obtain ⟨k1, k2⟩ := m.kept g hg ho
    exact .val rows g off cap s us k2 (Nat.lt_of_lt_of_le hg m.size) hc hm hs hf (fun i j row x h1 h2 => (cell?_of_heap k1).trans (hu i j row x h1 h2)) ih
  | tmp rows g off cap s us ho hg hc hm hs hu ho1 _ ih =>
    obtain ⟨k1, k2⟩ := m.kept g hg ho
    exact .tmp rows g off cap s us k2 (Nat.lt_of_lt_of_le hg m.size) hc hm hs (fun i j row x h1 h2 => (cell?_of_heap k1).trans (hu i j row x h1 h2)) ho1 ih
  | ptrLive id i off b p hp hb =>
    rcases (m.pl id p hp).1 with h | h
    · exact .ptrLive id i off b p h hb
    · exact .ptrDead id i off _ h (Nat.lt_of_lt_of_le (m.pl id p hp).2 m.le)
  | ptrDead id i off v hp hn => exact .ptrDead id i off v (m.dead id hp hn) (Nat.lt_of_lt_of_le hn m.le)
  | rptr row off g o us ho hg hf hu _ ih =>
    obtain ⟨k1, k2⟩ := m.kept g hg ho
    exact .rptr row off g o us k2 (Nat.lt_of_lt_of_le hg m.size) hf (fun j x h1 => (cell?_of_heap k1).trans (hu j x h1)) ih
  | pnil => exact .pnil
  | fn f caps cs hl _ ih => exact .fn f caps cs hl ih
  | fnil => exact .fnil
  | maybe c d b h1 h2 => exact .maybe c d b h1 h2
  | mpLive id b p hp hb =>
    rcases (m.pl id p hp).1 with h | h
    · exact .mpLive id b p h hb
    · exact .mpDead id b h (Nat.lt_of_lt_of_le (m.pl id p hp).2 m.le)
  | mpDead id b hp hn => exact .mpDead id b (m.dead id hp hn) (Nat.lt_of_lt_of_le hn m.le)
theorem freeT_of_free {x : AV} (h : x.free = true) : x.freeT = true := by cases x <;> simp_all [AV.freeT, AV.free]
theorem Rel.free {w w' : World} {own own' : Nat → Prop} {π π' : PlF} {n n' : Nat} (hk : ∀ b, b < w.heap.size → ¬ own b → w'.heap[b]? = w.heap[b]? ∧ ¬ own' b) (hs : w.heap.size ≤ w'.heap.size)
    {x : AV} {v : Value} (h : Rel w own π n x v) (hf : x.freeT = true) : Rel w' own' π' n' x v := by
  induction h with
  | top v => exact .top v
  | undef => simp [AV.freeT, AV.free] at hf
  | int k n => exact .int k n
  | bool b => exact .bool b
  | str s => exact .str s
  | agg vs cs hl _ ih => simp [AV.freeT, AV.free] at hf
  | tup vs cs hl _ ih => simp [AV.freeT, AV.free] at hf
  | refLive => simp [AV.freeT, AV.free] at hf
  | refEnd => simp [AV.freeT, AV.free] at hf
  | refNil => simp [AV.freeT, AV.free] at hf
  | refDead => simp [AV.freeT, AV.free] at hf
  | snil a => exact .snil a
  | valNil a cap => exact .valNil a cap
  | val rows g off cap s us ho hg hc hm hs' hf' hu _ ih =>
    obtain ⟨k1, k2⟩ := hk g hg ho
    exact .val rows g off cap s us k2 (Nat.lt_of_lt_of_le hg hs) hc hm hs' hf' (fun i j row x h1 h2 => (cell?_of_heap k1).trans (hu i j row x h1 h2))
      (fun i j row x h1 h2 => ih i j row x h1 h2 (freeT_of_free (hf' i row x h1 (List.mem_of_getElem? h2))))
  | tmp => simp [AV.freeT, AV.free] at hf
  | ptrLive => simp [AV.freeT, AV.free] at hf
  | ptrDead => simp [AV.freeT, AV.free] at hf
  | rptr row off g o us ho hg hf' hu _ ih =>
    obtain ⟨k1, k2⟩ := hk g hg ho
    exact .rptr row off g o us k2 (Nat.lt_of_lt_of_le hg hs) hf' (fun j x h1 => (cell?_of_heap k1).trans (hu j x h1))
      (fun j x h1 => ih j x h1 (hf' x (List.mem_of_getElem? h1)))
  | pnil => exact .pnil
  | fn f caps cs hl h ih =>
    refine .fn f caps cs hl (fun i x u h1 h2 => ?_)
    simp [AV.freeT, AV.free] at hf
    subst hf
    simp at h1
  | fnil => exact .fnil
  | maybe => simp [AV.freeT, AV.free] at hf
  | mpLive => simp [AV.freeT, AV.free] at hf
  | mpDead => simp [AV.freeT, AV.free] at hf
theorem Rel.free_same {w : World} {own : Nat → Prop} {π π' : PlF} {n n' : Nat} {x : AV} {v : Value} (h : Rel w own π n x v) (hf : x.free = true) : Rel w own π' n' x v :=
  h.free (fun _ _ h => ⟨rfl, h⟩) (Nat.le_refl _) (freeT_of_free hf)
def ArrAt (w : World) (own : Nat → Prop) (π : PlF) (n : Nat) (p : Place) (s : Nat) (rows : List (List AV)) : Prop :=
  p.sz = s ∧ (∀ (i : Nat) row, rows[i]? = some row → row.length = s ∧ ∀ x ∈ row, x.free = true) ∧
      match p.blk with
      | none => rows = []
      | some b => ∃ cur e, w.heap[b]? = some (.cells cur e (0, 0)) ∧ cur.size = p.cap * s ∧ (rows.length ≤ p.cap ∧ rows.length ≤ 140737488355328) ∧ p.cap ≤ maxLen ∧
          ∀ (i j : Nat) row x u, rows[i]? = some row → row[j]? = some x → cur[i * s + j]? = some u → Rel w own π n x u
def OwnAt (w : World) (own : Nat → Prop) (π : Pl) (n id i j z : Nat) (rs : List (List AV)) (u : Value) : Prop :=
  (rs = [] ∧ ∃ a, u = .slice a 0 0) ∨ ∃ (q : Place) (b cap : Nat), q.blk = some b ∧ π.hid b = some (id, i, j) ∧ u = .slice (some ⟨b, 0, none⟩) rs.length cap ∧ rs.length ≤ cap ∧ cap ≤ q.cap ∧ ArrAt w own π n q z rs
def CellAt (w : World) (own : Nat → Prop) (π : Pl) (n id i j : Nat) (x : AV) (u : Value) : Prop := match x with
  | .own z rs => OwnAt w own π n id i j z rs u
  | x => Rel w own π n x u
def NstAt (w : World) (own : Nat → Prop) (π : Pl) (n id : Nat) (p : Place) (s : Nat) (rows : List (List AV)) : Prop :=
  p.sz = s ∧ (∀ (i : Nat) row, rows[i]? = some row → row.length = s) ∧
      match p.blk with
      | none => rows = []
      | some b => ∃ cur e, w.heap[b]? = some (.cells cur e (0, 0)) ∧ cur.size = p.cap * s ∧ (rows.length ≤ p.cap ∧ rows.length ≤ 140737488355328) ∧ p.cap ≤ maxLen ∧
          ∀ (i j : Nat) row x u, rows[i]? = some row → row[j]? = some x → cur[i * s + j]? = some u → CellAt w own π n id i j x u
def Sc.val : Sc → Value
  | .i n => .int .i64 n
  | .b x => .bool x
def keyVal : Bool → List Sc → Value
  | true, k => .agg (k.map Sc.val).toArray
  | false, k => (match k with | a :: _ => a.val | [] => Go.undef)
def Ents (st : Bool) (l : List MapEntry) (es : List MEnt) : Prop := l.map (fun e => (e.key, e.val)) = es.map (fun e => (keyVal st e.1, Value.int .i64 e.2))
def Borns (l : List MapEntry) (clock : Nat) : Prop := (l.map (·.born)).Nodup ∧ ∀ x ∈ l, x.born < clock
def KeysOk (st : Bool) (es : List MEnt) : Prop := (es.map (·.1)).Nodup ∧ ∀ e ∈ es, st = false → ∃ n, e.1 = [.i n]
def leftE (es : Array MapEntry) (seen : Array Nat) : List MapEntry := (es.filter fun e => !seen.contains e.born).toList
def ObjAt (w : World) (own : Nat → Prop) (π : Pl) (n id : Nat) (p : Place) : AObj → Prop
  | .box row => ∃ b cur e, p.blk = some b ∧ w.heap[b]? = some (.cells cur e (0, 0)) ∧ cur.size = row.length ∧ ∀ (j : Nat) x u, row[j]? = some x → cur[j]? = some u → Rel w own π n x u
  | .arr s rows => ArrAt w own π n p s rows
  | .nst s rows => NstAt w own π n id p s rows ∧ ∀ (i : Nat) row, rows[i]? = some row → ∀ x ∈ row, x.sld
  | .arx s rows => NstAt w own π n id p s rows
  | .map st es => ∃ b ents clock, p.blk = some b ∧ w.heap[b]? = some (.map ents clock) ∧ Ents st ents.toList es ∧ Borns ents.toList clock ∧ KeysOk st es
  | .itr st cur left => ∃ b g ents clock seen, p.blk = some b ∧ w.heap[b]? = some (.mapIter (some g) clock seen clock) ∧ ¬ own g ∧ g < w.heap.size ∧ w.heap[g]? = some (.map ents clock) ∧
      Borns ents.toList clock ∧ Ents st (leftE ents seen) left ∧ ∀ e, cur = some e → ∃ x ∈ ents.toList, (∃ sn : Array Nat, seen = sn.push x.born) ∧ Ents st [x] [e]
theorem ArrAt.mono {own0 : Nat → Prop} {π π' : Pl} {n n' : Nat} {w w' : World} (m : Mono own0 π π' n n' w w') {p : Place} {s : Nat} {rows : List (List AV)} (h : ArrAt w (ownOf own0 π) π n p s rows)
    (hk : ∀ b, p.blk = some b → w'.heap[b]? = w.heap[b]?) : ArrAt w' (ownOf own0 π') π' n' p s rows := by
  obtain ⟨h0, h1, h2⟩ := h
  refine ⟨h0, h1, ?_⟩
  cases hb : p.blk with
  | none => simpa [hb] using h2
  | some b =>
    simp only [hb] at h2
    obtain ⟨cur, e, g1, g2, g3, g4, g5⟩ := h2
    exact ⟨cur, e, (hk b hb).trans g1, g2, g3, g4, fun i j row x u a1 a2 a3 => (g5 i j row x u a1 a2 a3).mono m⟩
theorem CellAt.mono {own0 : Nat → Prop} {π π' : Pl} {n n' : Nat} {w w' : World} (m : Mono own0 π π' n n' w w') {id id' i j : Nat} {x : AV} {u : Value} (h : CellAt w (ownOf own0 π) π n id i j x u)
    (hh : ∀ b, π.hid b = some (id, i, j) → w'.heap[b]? = w.heap[b]? ∧ π'.hid b = some (id', i, j)) : CellAt w' (ownOf own0 π') π' n' id' i j x u := by
  unfold CellAt at h ⊢
  split
  · rename_i z rs
    rcases h with h | ⟨q, b, cap, h1, h2, h3, h4, h5, h6⟩
    · exact .inl h
    · obtain ⟨k1, k2⟩ := hh b h2
      exact .inr ⟨q, b, cap, h1, k2, h3, h4, h5, h6.mono m (fun b' hb' => by rw [h1] at hb'; cases hb'; exact k1)⟩
  · rename_i hx
    have h : Rel w (ownOf own0 π) π n x u := by
      split at h
      · rename_i z rs; exact absurd rfl (hx z rs)
      · exact h
    exact h.mono m
theorem NstAt.mono {own0 : Nat → Prop} {π π' : Pl} {n n' : Nat} {w w' : World} (m : Mono own0 π π' n n' w w') {id id' : Nat} {p : Place} {s : Nat} {rows : List (List AV)} (h : NstAt w (ownOf own0 π) π n id p s rows)
    (hk : ∀ b, p.blk = some b → w'.heap[b]? = w.heap[b]?) (hh : ∀ b i j, π.hid b = some (id, i, j) → w'.heap[b]? = w.heap[b]? ∧ π'.hid b = some (id', i, j)) : NstAt w' (ownOf own0 π') π' n' id' p s rows := by
  obtain ⟨h0, h1, h2⟩ := h
  refine ⟨h0, h1, ?_⟩
  cases hb : p.blk with
  | none => simpa [hb] using h2
  | some b =>
    simp only [hb] at h2
    obtain ⟨cur, e, g1, g2, g3, g4, g5⟩ := h2
    exact ⟨cur, e, (hk b hb).trans g1, g2, g3, g4, fun i j row x u a1 a2 a3 => (g5 i j row x u a1 a2 a3).mono m (fun b hb => hh b i j hb)⟩
theorem ObjAt.mono {own0 : Nat → Prop} {π π' : Pl} {n n' : Nat} {w w' : World} (m : Mono own0 π π' n n' w w') {id : Nat} {p : Place} {o : AObj} (h : ObjAt w (ownOf own0 π) π n id p o)
    (hk : ∀ b, p.blk = some b → w'.heap[b]? = w.heap[b]?) (hh : ∀ b i j, π.hid b = some (id, i, j) → w'.heap[b]? = w.heap[b]? ∧ π'.hid b = some (id, i, j)) : ObjAt w' (ownOf own0 π') π' n' id p o := by
  cases o with
  | box row =>
    obtain ⟨b, cur, e, h1, h2, h3, h4⟩ := h
    exact ⟨b, cur, e, h1, (hk b h1).trans h2, h3, fun j x u hx hu => (h4 j x u hx hu).mono m⟩
  | arr s rows => exact ArrAt.mono m h hk
  | nst s rows => exact ⟨NstAt.mono m h.1 hk hh, h.2⟩
  | arx s rows => exact NstAt.mono m h hk hh
  | map st es =>
    obtain ⟨b, ents, clock, h1, h2, h3⟩ := h
    exact ⟨b, ents, clock, h1, (hk b h1).trans h2, h3⟩
  | itr st cur left =>
    obtain ⟨b, g, ents, clock, seen, h1, h2, h3, h4, h5, h6⟩ := h
    obtain ⟨k1, k2⟩ := m.kept g h4 h3
    exact ⟨b, g, ents, clock, seen, h1, (hk b h1).trans h2, k2, Nat.lt_of_lt_of_le h4 m.size, k1.trans h5, h6⟩
structure HSim (own0 : Nat → Prop) (π : Pl) (h : Heap) (n : Nat) (w : World) : Prop where
  dom : ∀ id, h id = none → π id = none
  obj : ∀ id o, h id = some o → id < n ∧ ∃ p, π id = some p ∧ ObjAt w (ownOf own0 π) π n id p o
  inj : ∀ id id' p p' b, π id = some p → π id' = some p' → p.blk = some b → p'.blk = some b → id = id'
  sep : ∀ id p b, π id = some p → p.blk = some b → ¬ own0 b
  old : ∀ b, own0 b → b < w.heap.size
  hid : ∀ b k, π.hid b = some k → ¬ own0 b ∧ b < w.heap.size ∧ k.1 < n ∧ ∀ id p, π id = some p → p.blk ≠ some b
theorem HSim.lt {own0 : Nat → Prop} {π : Pl} {h : Heap} {n : Nat} {w : World} (s : HSim own0 π h n w) {id : Nat} {p : Place} (hp : π id = some p) : id < n ∧ ∃ o, h id = some o ∧ ObjAt w (ownOf own0 π) π n id p o := by
  cases ho : h id with
  | none => rw [s.dom id ho] at hp; cases hp
  | some o =>
    obtain ⟨h1, p', h2, h3⟩ := s.obj id o ho
    rw [hp] at h2; cases h2
    exact ⟨h1, o, rfl, h3⟩
theorem ObjAt.blk_lt {w : World} {own : Nat → Prop} {π : Pl} {n id : Nat} {p : Place} {o : AObj} (h : ObjAt w own π n id p o) {b : Nat} (hb : p.blk = some b) : b < w.heap.size := by
  have key : ∀ s rows, NstAt w own π n id p s rows → b < w.heap.size := by
    rintro s rows ⟨_, _, h2⟩
    simp only [hb] at h2
    obtain ⟨cur, e, g1, _⟩ := h2
    exact (Array.getElem?_eq_some_iff.1 g1).1
  cases o with
  | box row =>
    obtain ⟨b', cur, e, h1, h2, _⟩ := h
    rw [hb] at h1; cases h1
    exact (Array.getElem?_eq_some_iff.1 h2).1
  | arr s rows =>
    obtain ⟨_, _, h2⟩ := h
    simp only [hb] at h2
    obtain ⟨cur, e, g1, _⟩ := h2
    exact (Array.getElem?_eq_some_iff.1 g1).1
  | nst s rows => exact key s rows h.1
  | arx s rows => exact key s rows h
  | map st es =>
    obtain ⟨b', ents, clock, h1, h2, _⟩ := h
    rw [hb] at h1; cases h1
    exact (Array.getElem?_eq_some_iff.1 h2).1
  | itr st cur left =>
    obtain ⟨b', g, ents, clock, seen, h1, h2, _⟩ := h
    rw [hb] at h1; cases h1
    exact (Array.getElem?_eq_some_iff.1 h2).1
theorem HSim.blk_lt {own0 : Nat → Prop} {π : Pl} {h : Heap} {n : Nat} {w : World} (s : HSim own0 π h n w) {id : Nat} {p : Place} {b : Nat} (hp : π id = some p) (hb : p.blk = some b) : b < w.heap.size := by
  obtain ⟨_, o, _, ho⟩ := s.lt hp
  exact ho.blk_lt hb
structure Fr (w0 : World) (pass : Nat → Prop) (π : Pl) (w : World) : Prop where
  os : w.os = w0.os
  tape : TapeLe w0 w
  output : w.output = w0.output
  size : w0.heap.size ≤ w.heap.size
  kept : ∀ b, b < w0.heap.size → ¬ pass b → w.heap[b]? = w0.heap[b]?
  blk : ∀ id p b, π id = some p → p.blk = some b → w0.heap.size ≤ b ∨ pass b
  hid : ∀ b k, π.hid b = some k → w0.heap.size ≤ b ∨ pass b
structure Sim (w0 : World) (pass own0 : Nat → Prop) (π : Pl) (e : Env) (h : Heap) (n : Nat) (a : Act) (w : World) : Prop where
  hs : HSim own0 π h n w
  fr : Fr w0 pass π w
  env : ∀ t, Rel w (ownOf own0 π) π n (e t) (a.tmps.getD t Go.undef)
structure Go1 (w0 : World) (pass own0 : Nat → Prop) (π : Pl) (n : Nat) (w : World) (π' : Pl) (h' : Heap) (n' : Nat) (w' : World) : Prop where
  mono : Mono own0 π π' n n' w w'
  hs : HSim own0 π' h' n' w'
  fr : Fr w0 pass π' w'
theorem Sim.put {w0 : World} {pass own0 : Nat → Prop} {π π' : Pl} {e : Env} {h h' : Heap} {n n' : Nat} {a : Act} {w w' : World} (s : Sim w0 pass own0 π e h n a w)
    (g : Go1 w0 pass own0 π n w π' h' n' w') {x : AV} {v : Value} (hr : Rel w' (ownOf own0 π') π' n' x v) (d : Nat) (hd : d < a.tmps.size) :
    Sim w0 pass own0 π' (e.upd d x) h' n' (a.put (some d) v) w' := by
  refine ⟨g.hs, g.fr, fun t => ?_⟩
  simp only [Env.upd, Act.put]
  by_cases ht : t = d
  · subst ht; simpa [hd] using hr
  · rw [if_neg ht]
    have : (a.tmps.setIfInBounds d v).getD t Go.undef = a.tmps.getD t Go.undef := by
      simp only [Array.getD_eq_getD_getElem?, Array.getElem?_setIfInBounds_ne (Ne.symm ht)]
    rw [this]
    exact (s.env t).mono g.mono
theorem Sim.put_none {w0 : World} {pass own0 : Nat → Prop} {π π' : Pl} {e : Env} {h h' : Heap} {n n' : Nat} {a : Act} {w w' : World} (s : Sim w0 pass own0 π e h n a w)
    (g : Go1 w0 pass own0 π n w π' h' n' w') (v : Value) : Sim w0 pass own0 π' e h' n' (a.put none v) w' :=
  ⟨g.hs, g.fr, fun t => (s.env t).mono g.mono⟩
theorem Sim.stay {w0 : World} {pass own0 : Nat → Prop} {π : Pl} {e : Env} {h : Heap} {n : Nat} {a : Act} {w : World} (s : Sim w0 pass own0 π e h n a w) :
    Go1 w0 pass own0 π n w π h n w :=
  ⟨.refl fun _ _ hp => (s.hs.lt hp).1, s.hs, s.fr⟩
/-! ### three ways in which the world goes on -/
def plAdd (π : Pl) (kill : Option Nat) (n : Nat) (p : Place) : Pl where
  at' j := if j = n then some p else if kill = some j then none else π j
  hid b := (π.hid b).map fun k => if kill = some k.1 then (n, k.2) else k
theorem plAdd_at (π : Pl) (kill : Option Nat) (n : Nat) (p : Place) (j : Nat) : plAdd π kill n p j = if j = n then some p else if kill = some j then none else π j := rfl
def hpAdd (h : Heap) (kill : Option Nat) (n : Nat) (o : AObj) : Heap := fun j => if j = n then some o else if kill = some j then none else h j
theorem hpAdd_none (h : Heap) (n : Nat) (o : AObj) : hpAdd h none n o = h.set n o := by
  funext j; simp [hpAdd, Heap.set]
theorem hpAdd_some (h : Heap) (id n : Nat) (o : AObj) : hpAdd h (some id) n o = (h.del id).set n o := by
  funext j; simp only [hpAdd, Heap.set, Heap.del, Option.some.injEq, eq_comm (a := id)]
structure Adds (own0 : Nat → Prop) (π : Pl) (h : Heap) (n : Nat) (w : World) (kill : Option Nat) (p : Place) (w' : World) : Prop where
  hs : HSim own0 π h n w
  size : w.heap.size ≤ w'.heap.size
  os : w'.os = w.os
  tape : TapeLe w w'
  output : w'.output = w.output
  blk : p.blk = none ∨ p.blk = some w.heap.size ∨ ∃ id q, kill = some id ∧ π id = some q ∧ p.blk = q.blk
  kept : ∀ b, b < w.heap.size → p.blk ≠ some b → w'.heap[b]? = w.heap[b]?
theorem plAdd_hid {π : Pl} {kill : Option Nat} {n : Nat} {p : Place} {b : Nat} {k : Nat × Nat × Nat} (h : (plAdd π kill n p).hid b = some k) : ∃ k0, π.hid b = some k0 ∧ k = if kill = some k0.1 then (n, k0.2) else k0 := by
  obtain ⟨k0, h1, h2⟩ := Option.map_eq_some_iff.1 (show (π.hid b).map _ = some k from h)
  exact ⟨k0, h1, h2.symm⟩
theorem plAdd_hid_some {π : Pl} {kill : Option Nat} {n : Nat} {p : Place} {b : Nat} : ((plAdd π kill n p).hid b).isSome = (π.hid b).isSome := by
  show ((π.hid b).map _).isSome = _
  simp
theorem Adds.ne_hid {own0 : Nat → Prop} {π : Pl} {h : Heap} {n : Nat} {w w' : World} {kill : Option Nat} {p : Place} (a : Adds own0 π h n w kill p w') {b : Nat} {k : Nat × Nat × Nat} (hb : π.hid b = some k) : p.blk ≠ some b := by
  obtain ⟨_, h2, _, h4⟩ := a.hs.hid b k hb
  intro hp
  rcases a.blk with h1 | h1 | ⟨id, q, _, h5, h6⟩
  · rw [h1] at hp; cases hp
  · rw [h1] at hp; cases hp; omega
  · exact h4 id q h5 (h6 ▸ hp)
theorem Adds.mono {own0 : Nat → Prop} {π : Pl} {h : Heap} {n : Nat} {w w' : World} {kill : Option Nat} {p : Place} (a : Adds own0 π h n w kill p w') :
    Mono own0 π (plAdd π kill n p) n (n + 1) w w' where
  size := a.size
  kept b hb ho := by
    have hne : p.blk ≠ some b := by
      intro hp
      rcases a.blk with h1 | h1 | ⟨id, q, _, h2, h3⟩
      · rw [h1] at hp; cases hp
      · rw [h1] at hp; cases hp; omega
      · exact ho (.inr ⟨id, q, h2, h3 ▸ hp⟩)
    refine ⟨a.kept b hb hne, ?_⟩
    rintro (h1 | ⟨id, q, h1, h2⟩)
    · rw [plAdd_hid_some] at h1
      exact ho (.inl h1)
    · rw [plAdd_at] at h1
      split at h1
      · cases h1; exact hne h2
      · split at h1
        · cases h1
        · exact ho (.inr ⟨id, q, h1, h2⟩)
  pl id q hq := by
    have hlt := (a.hs.lt hq).1
    refine ⟨?_, hlt⟩
    simp only [plAdd_at]
    rw [if_neg (by omega)]
    split
    · exact .inr rfl
    · exact .inl hq
  dead id hq hn := by
    rw [plAdd_at]
    rw [if_neg (by omega)]
    split
    · rfl
    · exact hq
  le := Nat.le_succ n
  os := a.os
  tape := a.tape
  output := a.output
theorem Adds.go {w0 : World} {pass own0 : Nat → Prop} {π : Pl} {h : Heap} {n : Nat} {w w' : World} {kill : Option Nat} {p : Place} {o : AObj} (a : Adds own0 π h n w kill p w')
    (fr : Fr w0 pass π w) (ho : ObjAt w' (ownOf own0 (plAdd π kill n p)) (plAdd π kill n p) (n + 1) n p o) :
    Go1 w0 pass own0 π n w (plAdd π kill n p) (hpAdd h kill n o) (n + 1) w' where
  mono := a.mono
  hs := by
    have hlt : ∀ {id q}, π id = some q → id ≠ n := fun hq => Nat.ne_of_lt (a.hs.lt hq).1
    have hinj : ∀ id q b, π id = some q → kill ≠ some id → q.blk = some b → p.blk ≠ some b := by
      intro id q b h1 h2 h3 h4
      rcases a.blk with h5 | h5 | ⟨id', q', h6, h7, h8⟩
      · rw [h5] at h4; cases h4
      · rw [h5] at h4; cases h4
        have := a.hs.blk_lt h1 h3
        omega
      · have := a.hs.inj id id' q q' b h1 h7 h3 (h8 ▸ h4)
        subst this
        exact h2 h6
    refine ⟨?_, ?_, ?_, ?_, ?_, ?_⟩
    · intro id hid
      unfold hpAdd at hid
      rw [plAdd_at]
      split at hid
      · cases hid
      · rename_i hne
        rw [if_neg hne]
        split at hid
        · rename_i hk; rw [if_pos hk]
        · rename_i hk; rw [if_neg hk]; exact a.hs.dom id hid
    · intro id o' hid
      unfold hpAdd at hid
      split at hid
      · rename_i he; subst he; cases hid
        exact ⟨Nat.lt_succ_self _, p, by simp [plAdd], ho⟩
      · rename_i hne
        split at hid
        · cases hid
        · rename_i hk
          obtain ⟨h1, q, h2, h3⟩ := a.hs.obj id o' hid
          refine ⟨Nat.lt_succ_of_lt h1, q, by simp [plAdd, hne, hk, h2], h3.mono a.mono (fun b hb => a.kept b (a.hs.blk_lt h2 hb) (hinj id q b h2 hk hb)) (fun b i j hb => ⟨a.kept b (a.hs.hid b _ hb).2.1 (a.ne_hid hb), ?_⟩)⟩
          show (π.hid b).map _ = _
          rw [hb, Option.map_some, if_neg hk]
    · intro id id' q q' b h1 h2 h3 h4
      rw [plAdd_at] at h1 h2
      split at h1
      · rename_i he
        cases h1
        split at h2
        · rename_i he'; rw [he, he']
        · split at h2
          · cases h2
          · rename_i hk; exact absurd h3 (hinj id' q' b h2 hk h4)
      · split at h1
        · cases h1
        · rename_i hk
          split at h2
          · cases h2; exact absurd h4 (hinj id q b h1 hk h3)
          · split at h2
            · cases h2
            · exact a.hs.inj id id' q q' b h1 h2 h3 h4
    · intro id q b h1 h2
      rw [plAdd_at] at h1
      split at h1
      · cases h1
        rcases a.blk with h5 | h5 | ⟨id', q', h6, h7, h8⟩
        · rw [h5] at h2; cases h2
        · rw [h5] at h2; cases h2
          intro h0; have := a.hs.old _ h0; omega
        · exact a.hs.sep id' q' b h7 (h8 ▸ h2)
      · split at h1
        · cases h1
        · exact a.hs.sep id q b h1 h2
    · intro b hb; exact Nat.lt_of_lt_of_le (a.hs.old b hb) a.size
    · intro b k hb
      obtain ⟨k0, hb0, rfl⟩ := plAdd_hid hb
      obtain ⟨g1, g2, g3, g4⟩ := a.hs.hid b k0 hb0
      refine ⟨g1, Nat.lt_of_lt_of_le g2 a.size, ?_, fun id q hq => ?_⟩
      · split
        · exact Nat.lt_succ_self n
        · exact Nat.lt_succ_of_lt g3
      · rw [plAdd_at] at hq
        split at hq
        · cases hq; exact a.ne_hid hb0
        · split at hq
          · cases hq
          · exact g4 id q hq
  fr := by
    refine ⟨a.os.trans fr.os, a.tape.trans fr.tape, a.output.trans fr.output, Nat.le_trans fr.size a.size, ?_, ?_, ?_⟩
    · intro b hb hp
      have hne : p.blk ≠ some b := by
        intro h4
        rcases a.blk with h5 | h5 | ⟨id', q', h6, h7, h8⟩
        · rw [h5] at h4; cases h4
        · rw [h5] at h4; cases h4; have := fr.size; omega
        · rcases fr.blk id' q' b h7 (h8 ▸ h4) with h | h
          · omega
          · exact hp h
      exact (a.kept b (Nat.lt_of_lt_of_le hb fr.size) hne).trans (fr.kept b hb hp)
    · intro id q b h1 h2
      rw [plAdd_at] at h1
      split at h1
      · cases h1
        rcases a.blk with h5 | h5 | ⟨id', q', h6, h7, h8⟩
        · rw [h5] at h2; cases h2
        · rw [h5] at h2; cases h2; exact .inl fr.size
        · exact fr.blk id' q' b h7 (h8 ▸ h2)
      · split at h1
        · cases h1
        · exact fr.blk id q b h1 h2
    · intro b k hb
      obtain ⟨k0, hb0, _⟩ := plAdd_hid hb
      exact fr.hid b k0 hb0
structure Writes (own0 : Nat → Prop) (π : Pl) (h : Heap) (n : Nat) (w : World) (id : Nat) (p : Place) (b : Nat) (w' : World) : Prop where
  hs : HSim own0 π h n w
  hp : π id = some p
  hb : p.blk = some b
  size : w'.heap.size = w.heap.size
  os : w'.os = w.os
  tape : TapeLe w w'
  output : w'.output = w.output
  kept : ∀ k, k ≠ b → w'.heap[k]? = w.heap[k]?
theorem Writes.mono {own0 : Nat → Prop} {π : Pl} {h : Heap} {n : Nat} {w w' : World} {id : Nat} {p : Place} {b : Nat} (a : Writes own0 π h n w id p b w') : Mono own0 π π n n w w' where
  size := by rw [a.size]; exact Nat.le_refl _
  kept k _ ho := ⟨a.kept k (fun e => ho (.inr ⟨id, p, a.hp, e ▸ a.hb⟩)), ho⟩
  pl _ _ hq := ⟨.inl hq, (a.hs.lt hq).1⟩
  dead _ hq _ := hq
  le := Nat.le_refl _
  os := a.os
  tape := a.tape
  output := a.output
theorem Writes.go {w0 : World} {pass own0 : Nat → Prop} {π : Pl} {h : Heap} {n : Nat} {w w' : World} {id : Nat} {p : Place} {b : Nat} {o : AObj} (a : Writes own0 π h n w id p b w')
    (fr : Fr w0 pass π w) (ho : ObjAt w' (ownOf own0 π) π n id p o) : Go1 w0 pass own0 π n w π (h.set id o) n w' where
  mono := a.mono
  hs := by
    refine ⟨?_, ?_, a.hs.inj, a.hs.sep, fun k hk => by rw [a.size]; exact a.hs.old k hk, fun k i hk => by rw [a.size]; exact a.hs.hid k i hk⟩
    · intro j hj
      unfold Heap.set at hj
      split at hj
      · cases hj
      · exact a.hs.dom j hj
    · intro j o' hj
      unfold Heap.set at hj
      split at hj
      · rename_i he; subst he; cases hj
        exact ⟨(a.hs.lt a.hp).1, p, a.hp, ho⟩
      · rename_i hne
        obtain ⟨h1, q, h2, h3⟩ := a.hs.obj j o' hj
        exact ⟨h1, q, h2, h3.mono a.mono (fun k hk => a.kept k (fun e => hne (a.hs.inj j id q p b h2 a.hp (e ▸ hk) a.hb))) (fun k i j hk => ⟨a.kept k (fun e => (a.hs.hid k _ hk).2.2.2 id p a.hp (e ▸ a.hb)), hk⟩)⟩
  fr := by
    refine ⟨a.os.trans fr.os, a.tape.trans fr.tape, a.output.trans fr.output, by rw [a.size]; exact fr.size, ?_, fr.blk, fr.hid⟩
    intro k hk hp
    refine (a.kept k ?_).trans (fr.kept k hk hp)
    intro e
    rcases fr.blk id p b a.hp a.hb with h | h
    · omega
    · exact hp (e ▸ h)
def cVal1 : Value → Option AV
  | .int k n => some (.int k n)
  | .bool b => some (.bool b)
  | .string s => some (.str s.data.toList)
  | .slice none 0 0 => some .snil
  | .pointer none => some .pnil
  | .nilFunc => some .fnil
  | _ => none
def cVals : List Value → Option (List AV)
  | [] => some []
  | v :: r => match cVal1 v, cVals r with
    | some x, some y => some (x :: y)
    | _, _ => none
def cVal : Value → Option AV
  | .agg cs => (cVals cs.toList).map .agg
  | v => cVal1 v
def cOpd : Operand → Option Opd
  | .tmp t => some (.t t)
  | .const v => (cVal v).map .c
  | .func f => some (.c (.fn f []))
  | .global _ => none
def cOpds : List Operand → Option (List Opd)
  | [] => some []
  | v :: r => match cOpd v, cOpds r with
    | some x, some y => some (x :: y)
    | _, _ => none
def cSize (P : Program) (t : TypeId) : Option Nat := (P.info? t).map (·.size)
def cBytes (P : Program) (t : TypeId) : Option Nat := (P.info? t).map (·.bytes)
def cZero (P : Program) (t : TypeId) : Option (List AV) := match (P.info? t).bind (·.zero) with
  | some z => cVals z.cells.toList
  | none => none
def cAgg (P : Program) (t : TypeId) : Option Bool := match P.underlying t with
  | some (.struct _) | some (.array _ _) => some true
  | some _ => some false
  | none => none
def cElem (P : Program) (t : TypeId) : Option TypeId := match P.underlying t with
  | some (.slice e) => some e
  | _ => none
def oList (a : Option Operand) : List Operand := match a with | some x => [x] | none => []
def cPlaces (place : Nat → Option (Nat × Nat)) : List (Nat × Operand) → Option (List (Nat × Nat))
  | [] => some []
  | (i, _) :: r => match place i, cPlaces place r with
    | some f, some y => some (f :: y)
    | _, _ => none
def cFields (P : Program) (fs : List Field) : Option (List (Nat × Nat)) := fs.mapM fun f => (P.info? f.type).map fun i => (f.offset, i.size)
def inOrder : List (Nat × Operand) → Nat → Bool
  | [], _ => true
  | (i, _) :: r, k => i == k && inOrder r (k + 1)
def cBoolEq (P : Program) (op : BinOp) (t : TypeId) : Bool := match op, P.underlying t with
  | .eql, some .bool | .neq, some .bool => true
  | _, _ => false
def cFieldKs (P : Program) : Nat → List Field → Option (List Nat)
  | _, [] => some []
  | i, f :: fs => if f.name = "_" ∨ f.offset ≠ i then none else match P.underlying f.type with
    | some (.int _) => (cFieldKs P (i + 1) fs).map (0 :: ·)
    | some .bool => (cFieldKs P (i + 1) fs).map (1 :: ·)
    | some .string => (cFieldKs P (i + 1) fs).map (2 :: ·)
    | _ => none
def cStructEq (P : Program) (op : BinOp) (t : TypeId) : Option (Bool × List Nat) := match P.underlying t with
  | some (.struct fs) => if P.stoodInHeld t = false ∧ P.eqGuardType P.depth t = false then (match op with
    | .eql => (cFieldKs P 0 fs.toList).map (false, ·)
    | .neq => (cFieldKs P 0 fs.toList).map (true, ·)
    | _ => none) else none
  | _ => none
def cNilEq (P : Program) (op : BinOp) (t : TypeId) (y : Operand) : Option Bool := match op, P.underlying t, y with
  | .eql, some (.slice _), .const (.slice none 0 0) => some false
  | .neq, some (.slice _), .const (.slice none 0 0) => some true
  | _, _, _ => none
def cOp (P : Program) (op : Op) : Option (Tag × List Opd) :=
  match op with
  | .move x | .assign x => (cOpds [x]).map (.mv, ·)
  | .pick c a b => (cOpds [c, a, b]).map (.pick, ·)
  | .alloc e => (cZero P e).map fun z => (.alc z, [])
  | .box e v => match cSize P e with
    | some s => (cOpds [v]).map (.box s, ·)
    | none => none
  | .build t parts => match P.underlying t, cZero P t with
    | some (.struct fs), some z => match cFields P fs.toList with
      | some all => match cPlaces (all.toArray[·]?) parts.toList with
        | some ps => (cOpds (parts.toList.map (·.2))).map (.bld z ps, ·)
        | none => none
      | none => none
    | some (.array _ e), some z => match cSize P e with
      | some s => match cPlaces (fun i => some (i * s, s)) parts.toList with
        | some ps => (cOpds (parts.toList.map (·.2))).map (.bld z ps, ·)
        | none => none
      | none => none
    | _, _ => none
  | .buildSlice t len parts => match cElem P t with
    | some e => match cSize P e with
      | some s => if parts.toList.length = len ∧ inOrder parts.toList 0 = true ∧ 0 < s ∧ ((P.info? e).bind (·.zero)).isSome = true then (cOpds (parts.toList.map (·.2))).map (.bsl s, ·) else none
      | none => none
    | none => none
  | .load t a => match cAgg P t, cSize P t with
    | some true, some (s + 1) => (cOpds [a]).map (.ldn (s + 1), ·)
    | some false, some _ => (cOpds [a]).map (.ld1, ·)
    | _, _ => none
  | .store t a v => match cSize P t with
    | some (s + 1) => (cOpds [a, v]).map (.st (s + 1), ·)
    | _ => none
  | .nilCheck x => (cOpds [x]).map (.nck, ·)
  | .binOp op t x y _ => if cBoolEq P op t = true then none else if (cStructEq P op t).isSome = true then none else if (cNilEq P op t y).isSome = true then none else (cOpds [x, y]).map (.bin op, ·)
  | .unOp .not _ x => (cOpds [x]).map (.not, ·)
  | .unOp .neg _ x => (cOpds [x]).map (.neg, ·)
  | .convert s d x => match P.underlying s, P.underlying d with
    | some (.int _), some (.int k) => (cOpds [x]).map (.cvt k, ·)
    | _, _ => none
  | .makeSlice t l c => match cElem P t with
    | some e => match cSize P e, cBytes P e, cZero P e with
      | some s, some b, some z => if z.length = s ∧ 0 < s then (cOpds [l, c]).map (.mks s b z, ·) else none
      | _, _, _ => none
    | none => none
  | .slice t x lo hi none => match P.underlying t with
    | some (.slice e) => match cSize P e with
      | some z => (cOpds (x :: (oList lo ++ oList hi))).map (.slc z lo.isSome hi.isSome, ·)
      | none => none
    | some .string => (cOpds (x :: (oList lo ++ oList hi))).map (.sls lo.isSome hi.isSome, ·)
    | _ => none
  | .slice t x none (some b) (some m) => match P.underlying t with
    | some (.slice e) => match cSize P e with
      | some z => (cOpds [x, b, m]).map (.slc3 z, ·)
      | none => none
    | _ => none
  | .fieldAddr t x i => match P.underlying t with
    | some (.struct fs) => match fs[i]? with
      | some f => match cSize P f.type with
        | some (_ + 1) => (cOpds [x]).map (.fadr f.offset, ·)
        | _ => none
      | none => none
    | _ => none
  | .field t x i => match P.underlying t with
    | some (.struct fs) => match fs[i]? with
      | some f => match cAgg P f.type, cSize P f.type with
        | some true, some s => (cOpds [x]).map (.fldn f.offset s, ·)
        | some false, some _ => (cOpds [x]).map (.fld1 f.offset, ·)
        | _, _ => none
      | none => none
    | _ => none
  | .indexAddr t x i => match cElem P t with
    | some e => match cSize P e with
      | some s => (cOpds [x, i]).map (.iadr s, ·)
      | none => none
    | none => none
  | .index t x i => match P.underlying t with
    | some .string => (cOpds [x, i]).map (.idx, ·)
    | _ => none
  | .extract x i => (cOpds [x]).map (.ext i, ·)
  | .makeFunc (.func f) first captured => if first.isEmpty then (cOpds captured.toList).map (.mkf f, ·) else none
  | .call c => match c.callee with
    | .value (.func f) => (cOpds c.args.toList).map (.call f, ·)
    | .value (.tmp t) => (cOpds c.args.toList).map fun l => (.dyn, .t t :: l)
    | .builtin .len => match c.argTypes.toList, c.args.toList with
      | [t], [x] => match P.underlying t with
        | some .string => (cOpds [x]).map (.lens, ·)
        | some (.slice _) => (cOpds [x]).map (.len, ·)
        | _ => none
      | _, _ => none
    | .builtin .append => match c.argTypes.toList, c.args.toList with
      | [t, u], [x, y] => if t = u then match cElem P t with
          | some e => match cSize P e, cBytes P e, cZero P e with
            | some s, some b, some z => if z.length = s ∧ 0 < s then (cOpds [x, y]).map (.app s b, ·) else none
            | _, _, _ => none
          | none => none
        else none
      | _, _ => none
    | .builtin .max => match c.args.toList with
      | [x, y] => (cOpds [x, y]).map (.max, ·)
      | _ => none
    | .builtin .min => match c.args.toList with
      | [x, y] => (cOpds [x, y]).map (.min, ·)
      | _ => none
    | _ => none
  | _ => none
def cMap (P : Program) (t : TypeId) : Option Bool := match P.underlying t with
  | some (.map k e) => (match P.underlying k, (P.info? e).bind (·.zero) with
    | some (.int .i64), some (.int .i64 0) => some false
    | _, _ => none)
  | _ => none
def cMapOp (P : Program) (t : TypeId) (f : Bool → Tag) (l : List Operand) : Tag × List Opd := match cMap P t, cOpds l with
  | some st, some l => (f st, l)
  | _, _ => (.no, [])
def cOpE (P : Program) (op : Op) : Tag × List Opd :=
  match op with
  | .convert s d x => match P.underlying s, P.underlying d with
    | some (.slice e), some .string => match P.underlying e, cOpds [x] with
      | some (.int .u8), some l => (.b2s, l)
      | _, _ => (.no, [])
    | some .string, some (.slice e) => match P.underlying e, cOpds [x] with
      | some (.int .u8), some l => (.s2b, l)
      | _, _ => (.no, [])
    | _, _ => (.no, [])
  | .index t x i => match P.underlying t with
    | some (.array len e) => match cAgg P e, cSize P e, cOpds [x, i] with
      | some false, some 1, some l => (.aidx len, l)
      | _, _, _ => (.no, [])
    | _ => (.no, [])
  | .binOp op t x y _ => if cBoolEq P op t = true then (match op, cOpds [x, y] with
      | .eql, some l => (.beq false, l)
      | .neq, some l => (.beq true, l)
      | _, _ => (.no, [])) else match cStructEq P op t, cOpds [x, y] with
        | some (g, ks), some l => (.aeq g ks, l)
        | _, _ => (match cNilEq P op t y, cOpds [x] with
          | some g, some l => (.bnil g, l)
          | _, _ => (.no, []))
  | .call c => (match c.callee with
    | .builtin .cap => (match c.argTypes.toList, c.args.toList with
      | [t], [x] => (match P.underlying t, cOpds [x] with
        | some (.slice _), some l => (.cap, l)
        | _, _ => (.no, []))
      | _, _ => (.no, []))
    | .builtin .append => (match c.argTypes.toList, c.args.toList with
      | [t, u], [x, y] => (match cElem P t, P.underlying u, cOpds [x, y] with
        | some e, some (.int _), some l => (match cSize P e, cBytes P e, cZero P e with
          | some s, some b, some z => if z.length = s ∧ 0 < s then (.apz s b z, l) else (.no, [])
          | _, _, _ => (.no, []))
        | _, _, _ => (.no, []))
      | _, _ => (.no, []))
    | .builtin .copy => (match c.argTypes.toList, c.args.toList with
      | [t, _], [x, y] => (match cElem P t, cOpds [x, y] with
        | some e, some l => (match cSize P e with
          | some (s + 1) => (.cpy (s + 1), l)
          | _ => (.no, []))
        | _, _ => (.no, []))
      | _, _ => (.no, []))
    | _ => (.no, []))
  | .makeMap t none => cMapOp P t .mkm []
  | .lookup t m k c => cMapOp P t (if c then .mlo else .mlk) [m, k]
  | .mapUpdate t m k v => cMapOp P t .mup [m, k, v]
  | .range t m => cMapOp P t .rng [m]
  | .next m false => (match cOpds [m] with
    | some l => (.nxt, l)
    | none => (.no, []))
  | .entry m => (match cOpds [m] with
    | some l => (.ent, l)
    | none => (.no, []))
  | _ => (.no, [])
def cOpT (P : Program) (op : Op) : Option (Tag × List Opd) := match cOp P op with
  | some x => some x
  | none => some (cOpE P op)
def varArg (ops : Array Oper) (o : Oper) : Bool := match o.dst with
  | some d => ops.toList.any fun p => match p.op with
    | .call c => (match c.callee, c.args.toList with
      | .builtin .append, [_, .tmp t] => t == d
      | _, _ => false)
    | _ => false
  | none => false
def cTag (ops : Array Oper) (o : Oper) (tag : Tag) (args : List Opd) : Tag := match tag, args with
  | .bsl _, [] => .bsle
  | .bsl s, _ :: _ => if varArg ops o = true then .bslv s else .bsl s
  | t, _ => t
def cOper (P : Program) (ops : Array Oper) (o : Oper) : Option IOper :=
  match cOpT P o.op with
  | some (tag, args) => match o.guard with
    | none => some ⟨o.dst, cTag ops o tag args, args, none⟩
    | some (j, b) => match (ops[j]?).bind (·.dst) with
      | some d => some ⟨o.dst, cTag ops o tag args, args, some (d, b)⟩
      | none => none
  | none => none
def cOpers (P : Program) (ops : Array Oper) : List Oper → Option (List IOper)
  | [] => some []
  | o :: r => match cOper P ops o, cOpers P ops r with
    | some x, some y => some (x :: y)
    | _, _ => none
inductive ICode where
  | skip
  | reg (ops : List IOper)
  | drw (ops : List IOper) (us : List (List Nat)) (b1 b2 : Bool)
  | drs (pre post : List IOper)
  | seq (a b : ICode)
  | cond (c : Opd) (t e : ICode)
  | block (id : Nat) (b : ICode)
  | loop (b : ICode)
  | exit (id : Nat)
  | ret
  deriving Inhabited
abbrev O0 (d : Nat) (t : Tag) : IOper := ⟨some d, t, [], none⟩
abbrev O1 (d : Nat) (t : Tag) (a : Nat) : IOper := ⟨some d, t, [.t a], none⟩
abbrev O2 (d : Nat) (t : Tag) (a b : Nat) : IOper := ⟨some d, t, [.t a, .t b], none⟩
abbrev O3 (d : Nat) (t : Tag) (a b c : Nat) : IOper := ⟨some d, t, [.t a, .t b, .t c], none⟩
abbrev Ol (d : Nat) (t : Tag) (l : List Opd) : IOper := ⟨some d, t, l, none⟩
abbrev Og (d : Nat) (t : Tag) (l : List Opd) (g : Nat) (b : Bool) : IOper := ⟨some d, t, l, some (g, b)⟩
abbrev S2 (t : Tag) (a b : Nat) : IOper := ⟨none, t, [.t a, .t b], none⟩
abbrev ci (n : Int) : Opd := .c (.int .i64 n)
abbrev cb (b : Bool) : Opd := .c (.bool b)
def bitsTo (x : Nat) : Nat → List Nat
  | 0 => []
  | n + 1 => bitsTo x n ++ (if x.testBit n then [n] else [])
def unB : List Nat → Nat → List (List Nat)
  | [], _ => []
  | x :: r, n => bitsTo x n :: unB r (n + 1)
section
variable {P : Program} {w0 : World} {pass own0 : Nat → Prop} {π : Pl} {e : Env} {h : Heap} {n : Nat} {a : Act} {w : World}
theorem rel_cVal1 {own : Nat → Prop} {v : Value} {x : AV} (hc : cVal1 v = some x) : Rel w own π n x v := by
  unfold cVal1 at hc
  split at hc <;> first | cases hc | skip
  · exact .int _ _
  · exact .bool _
  · rename_i s; have := Rel.str (w := w) (own := own) (π := π) (N := n) s.data.toList; simpa using this
  · exact .snil none
  · exact .pnil
  · exact .fnil
theorem rel_cVals {own : Nat → Prop} : ∀ (vs : List Value) (xs : List AV), cVals vs = some xs → vs.length = xs.length ∧ ∀ (i : Nat) x u, xs[i]? = some x → vs[i]? = some u → Rel w own π n x u
  | [], xs, hc => by cases hc; simp
  | v :: r, xs, hc => by
    unfold cVals at hc
    split at hc
    · rename_i x y h1 h2
      cases hc
      obtain ⟨g1, g2⟩ := rel_cVals r y h2
      refine ⟨by simp [g1], fun i z u hz hu => ?_⟩
      cases i with
      | zero => simp at hz hu; subst hz; subst hu; exact rel_cVal1 h1
      | succ i => exact g2 i z u (by simpa using hz) (by simpa using hu)
    · cases hc
theorem rel_cVal {own : Nat → Prop} {v : Value} {x : AV} (hc : cVal v = some x) : Rel w own π n x v := by
  unfold cVal at hc
  split at hc
  · rename_i cs
    cases hv : cVals cs.toList with
    | none => simp [hv] at hc
    | some xs =>
      simp [hv] at hc; subst hc
      obtain ⟨g1, g2⟩ := rel_cVals (w := w) (own := own) (π := π) (n := n) _ _ hv
      exact .agg xs cs (by simpa using g1) (fun i x u h1 h2 => g2 i x u h1 (by simpa using h2))
  · exact rel_cVal1 hc
theorem rel_opd (s : Sim w0 pass own0 π e h n a w) {x : Operand} {y : Opd} (hc : cOpd x = some y) : Rel w (ownOf own0 π) π n (y.ev e) (a.eval x) := by
  cases x with
  | tmp t => simp [cOpd] at hc; subst hc; exact s.env t
  | const v =>
    simp [cOpd] at hc
    obtain ⟨x, h1, rfl⟩ := hc
    exact rel_cVal h1
  | global g => simp [cOpd] at hc
  | func f => simp [cOpd] at hc; subst hc; exact .fn f [] #[] rfl (by simp)
theorem cOpds1 {x : Operand} {l : List Opd} (hc : cOpds [x] = some l) : ∃ y, l = [y] ∧ cOpd x = some y := by
  simp only [cOpds] at hc
  cases h1 : cOpd x <;> simp [h1] at hc
  exact ⟨_, hc.symm, rfl⟩
theorem cOpds2 {x y : Operand} {l : List Opd} (hc : cOpds [x, y] = some l) : ∃ a b, l = [a, b] ∧ cOpd x = some a ∧ cOpd y = some b := by
  simp only [cOpds] at hc
  cases h1 : cOpd x <;> cases h2 : cOpd y <;> simp [h1, h2] at hc
  exact ⟨_, _, hc.symm, rfl, rfl⟩
theorem cOpds3 {x y z : Operand} {l : List Opd} (hc : cOpds [x, y, z] = some l) : ∃ a b c, l = [a, b, c] ∧ cOpd x = some a ∧ cOpd y = some b ∧ cOpd z = some c := by
  simp only [cOpds] at hc
  cases h1 : cOpd x <;> cases h2 : cOpd y <;> cases h3 : cOpd z <;> simp [h1, h2, h3] at hc
  exact ⟨_, _, _, hc.symm, rfl, rfl, rfl⟩
theorem rel_opds (s : Sim w0 pass own0 π e h n a w) : ∀ (xs : List Operand) (ys : List Opd), cOpds xs = some ys →
    (ys.map (Opd.ev e)).length = (xs.map a.eval).length ∧ ∀ (i : Nat) x u, (ys.map (Opd.ev e))[i]? = some x → (xs.map a.eval)[i]? = some u → Rel w (ownOf own0 π) π n x u
  | [], ys, hc => by simp [cOpds] at hc; subst hc; simp
  | x :: r, ys, hc => by
    simp only [cOpds] at hc
    cases h1 : cOpd x with
    | none => simp [h1] at hc
    | some y =>
      cases h2 : cOpds r with
      | none => simp [h1, h2] at hc
      | some z =>
        simp [h1, h2] at hc; subst hc
        obtain ⟨g1, g2⟩ := rel_opds s r z h2
        refine ⟨by simpa using g1, fun i u v hu hv => ?_⟩
        cases i with
        | zero => simp at hu hv; subst hu; subst hv; exact rel_opd s h1
        | succ i => exact g2 i u v (by simpa using hu) (by simpa using hv)
def nextVal : Next → Option Value
  | .value v => some v
  | .skip => some Go.undef
  | _ => none
def Done (P : Program) (w0 : World) (pass own0 : Nat → Prop) (π : Pl) (n : Nat) (w : World) (s : Sem Value) (K : Kont) : Prop :=
  ∃ v w' π' x h' n', s.run P w = .ok v w' ∧ Go1 w0 pass own0 π n w π' h' n' w' ∧ Rel w' (ownOf own0 π') π' n' x v ∧ K x h' n'
theorem done_same (s : Sim w0 pass own0 π e h n a w) {m : Sem Value} {K : Kont} {v : Value} {x : AV} (hr : m.run P w = .ok v w) (hx : Rel w (ownOf own0 π) π n x v) (hk : K x h n) :
    Done P w0 pass own0 π n w m K := ⟨v, w, π, x, h, n, hr, s.stay, hx, hk⟩
theorem snd_int (op : BinOp) (k : IntKind) (x y : Int) {K : AV → Prop} (hk : semInt op k x y K) (hns : ¬ (op = .shl ∨ op = .shr)) (t : TypeId) :
    ∃ v z, (binOp op t (.int k x) (.int k y)).run P w = .ok v w ∧ (∀ own π n, Rel w own π n z v) ∧ K z := by
  unfold semInt at hk
  cases op <;> first | (simp at hns; done) | skip
  all_goals simp only [] at hk
  all_goals first | exact hk.elim | skip
  all_goals
    first
      | (obtain ⟨_, rfl, hk⟩ := hk; exact ⟨_, _, by simp [binOp, Op.intArith, Op.intBits], fun _ _ _ => .int _ _, hk⟩)
      | (obtain ⟨h0, _, rfl, hk⟩ := hk; exact ⟨_, _, by simp [binOp, Op.intDiv, h0], fun _ _ _ => .int _ _, hk⟩)
      | exact ⟨_, _, by simp [binOp, Op.intArith, Op.intBits], fun _ _ _ => .int _ _, hk⟩
      | exact ⟨_, _, by simp [binOp, Op.intCmp], fun _ _ _ => .bool _, hk⟩
      | exact ⟨_, _, by simp [binOp, Op.intDiv, hk.1], fun _ _ _ => .int _ _, hk.2⟩
theorem snd_shift (op : BinOp) (k k' : IntKind) (x y : Int) {K : AV → Prop} (hk : semShift op k x y K) (t : TypeId) :
    ∃ v z, (binOp op t (.int k x) (.int k' y)).run P w = .ok v w ∧ (∀ own π n, Rel w own π n z v) ∧ K z := by
  unfold semShift at hk
  cases op <;> simp only [] at hk
  all_goals first | exact hk.elim | skip
  all_goals
    obtain ⟨h0, hk⟩ := hk
    have h0' : ¬ y < 0 := by omega
    exact ⟨_, _, by simp [binOp, Op.shift, h0', Nat.min_def, Nat.min], fun _ _ _ => .int _ _, hk⟩
theorem snd_str (op : BinOp) (x y : List UInt8) {K : AV → Prop} (hk : semStr op x y K) (t : TypeId) :
    ∃ v z, (binOp op t (.string ⟨x.toArray⟩) (.string ⟨y.toArray⟩)).run P w = .ok v w ∧ (∀ own π n, Rel w own π n z v) ∧ K z := by
  unfold semStr at hk
  cases op <;> simp only [] at hk
  all_goals first | exact hk.elim | skip
  · obtain ⟨h0, hk⟩ := hk
    refine ⟨.string ⟨(x ++ y).toArray⟩, _, ?_, fun _ _ _ => .str _, hk⟩
    have h1 : ¬ (((x.length + y.length : Nat) : Int) > IntKind.i64.max) := by
      simp only [IntKind.max, IntKind.signed, IntKind.bits]; omega
    simp [binOp, Op.stringOp, ByteArray.size] at h1 ⊢
    rw [if_neg (by omega)]
    simp
    apply ByteArray.ext
    simp
  · exact ⟨_, _, by simp [binOp, Op.stringOp], fun _ _ _ => .bool _, hk⟩
  · exact ⟨_, _, by simp [binOp, Op.stringOp], fun _ _ _ => .bool _, hk⟩
theorem snd_bin {own : Nat → Prop} (op : BinOp) {x y : AV} {u v : Value} (hx : Rel w own π n x u) (hy : Rel w own π n y v) {K : AV → Prop} (hk : semBin op x y K) (t : TypeId) :
    ∃ r z, (binOp op t u v).run P w = .ok r w ∧ (∀ own π n, Rel w own π n z r) ∧ K z := by
  unfold semBin at hk
  split at hk
  · rename_i k a k' b
    cases hx; cases hy
    split at hk
    · exact snd_shift op k k' a b hk t
    · rename_i hns
      obtain ⟨rfl, hk⟩ := hk
      exact snd_int op k a b hk hns t
  · rename_i a b
    cases hx; cases hy
    exact snd_str op a b hk t
  · exact hk.elim
theorem okc_of_free {x : AV} (hf : x.free = true) : x.okc h := by cases x <;> simp [AV.free, AV.okc] at hf ⊢
theorem one_of_okc {own : Nat → Prop} {x : AV} {v : Value} (hr : Rel w own π n x v) (ho : x.okc h) : v.oneCell' = true ∧ v.cells = #[v] := by
  cases hr <;> simp only [AV.okc] at ho <;> first | exact ⟨rfl, rfl⟩ | exact ho.elim
theorem rel_cells {own : Nat → Prop} {x : AV} {v : Value} (hr : Rel w own π n x v) (ho : ∀ c ∈ x.cells, c.okc h) :
    v.cells.size = x.cells.length ∧ (∀ (j : Nat) c u, x.cells[j]? = some c → v.cells[j]? = some u → Rel w own π n c u) ∧ ∀ u ∈ v.cells.toList, u.oneCell' = true := by
  have key : x.okc h → x.cells = [x] → v.cells.size = x.cells.length ∧ (∀ (j : Nat) c u, x.cells[j]? = some c → v.cells[j]? = some u → Rel w own π n c u) ∧ ∀ u ∈ v.cells.toList, u.oneCell' = true := by
    intro h1 h2
    obtain ⟨g1, g2⟩ := one_of_okc hr h1
    rw [h2, g2]
    refine ⟨rfl, fun j c u hc hu => ?_, fun u hu => ?_⟩
    · cases j with
      | zero => simp at hc hu; subst hc; subst hu; exact hr
      | succ j => simp at hc
    · simp at hu; subst hu; exact g1
  cases hx : x with
  | agg vs =>
    subst hx
    cases hr with
    | agg _ cs hl hh =>
      refine ⟨hl, hh, fun u hu => ?_⟩
      obtain ⟨j, hj⟩ := List.getElem?_of_mem hu
      have hj' : cs[j]? = some u := by simpa [Value.cells] using hj
      have hlt : j < vs.length := by rw [← hl]; exact (Array.getElem?_eq_some_iff.1 hj').1
      have hc : vs[j]? = some vs[j] := List.getElem?_eq_getElem hlt
      exact (one_of_okc (hh j _ u hc hj') (ho _ (by simp [AV.cells]))).1
  | _ =>
    subst hx
    exact key (ho _ (by simp [AV.cells])) (by simp [AV.cells])
theorem run_newVar (t : TypeId) (v : Value) : (newVar t v).run P w = .ok ⟨w.heap.size, 0, none⟩ (w.alloc (.cells v.cells t)) := by
  simp [newVar, newRow]
theorem adds_new (hs : HSim own0 π h n w) (o : Obj) (w1 : World) (h1 : w1 = w ∨ w1 = w.drew) (s c : Nat) : Adds own0 π h n w none ⟨some w.heap.size, s, c⟩ (w1.alloc o) := by
  refine ⟨hs, ?_, ?_, ?_, ?_, .inr (.inl rfl), ?_⟩
  · rcases h1 with rfl | rfl <;> simp
  · rcases h1 with rfl | rfl <;> rfl
  · rcases h1 with rfl | rfl <;> exact ⟨rfl, .inl (by first | exact Nat.le_refl _ | exact Nat.le_succ _)⟩
  · rcases h1 with rfl | rfl <;> rfl
  · intro b hb _
    rcases h1 with rfl | rfl
    · exact heap_alloc_old _ o b hb
    · exact heap_alloc_old _ o b hb
theorem ref_new (w : World) (own : Nat → Prop) (π : Pl) (kill : Option Nat) (n : Nat) (p : Place) {b : Nat} (hb : p.blk = some b) (N : Nat) : Rel w own (plAdd π kill n p) N (.ptr n 0 0) (.pointer (some ⟨b, 0, none⟩)) := by
  have := Rel.ptrLive (w := w) (own := own) (N := N) n 0 0 b p (π := plAdd π kill n p) (by simp [plAdd]) hb
  simpa using this
theorem snd_var (s : Sim w0 pass own0 π e h n a w) {row : List AV} {v : Value} (t : TypeId) {K : Kont} (hl : v.cells.size = row.length)
    (hr : ∀ (j : Nat) c u, row[j]? = some c → v.cells[j]? = some u → Rel w (ownOf own0 π) π n c u) (hk : K (.ptr n 0 0) (h.set n (.box row)) (n + 1)) :
    Done P w0 pass own0 π n w (do pure (.pointer (some (← newVar t v)))) K := by
  have A := adds_new s.hs (.cells v.cells t) w (.inl rfl) 0 0
  refine ⟨_, _, _, _, _, _, by simp [run_newVar], A.go s.fr (o := .box row) ?_, ref_new _ _ _ _ _ _ rfl _, by rw [hpAdd_none]; exact hk⟩
  exact ⟨_, v.cells, t, rfl, by rw [heap_alloc_new], hl, fun j x u hx hu => (hr j x u hx hu).mono A.mono⟩
/-! ### loads and stores -/
def AObj.rowAt : AObj → Nat → Option (List AV)
  | .box row, i => if i = 0 then some row else none
  | .arr _ rows, i => rows[i]?
  | .nst _ rows, i => rows[i]?
  | .arx _ rows, i => rows[i]?
  | .map _ _, _ => none
  | .itr _ _ _, _ => none
def AObj.plain : AObj → Bool
  | .box _ => true
  | .arr _ _ => true
  | _ => false
theorem cellAt_lone {own : Nat → Prop} {id i j : Nat} {x : AV} {u : Value} (hx : x.lone = true) : CellAt w own π n id i j x u ↔ Rel w own π n x u := by
  cases x <;> first | exact Iff.rfl | (simp [AV.lone] at hx)
theorem idx_lt {i j s c : Nat} (hi : i < c) (hj : j < s) : i * s + j < c * s := by
  have h1 : (i + 1) * s ≤ c * s := Nat.mul_le_mul_right s hi
  have h2 : (i + 1) * s = i * s + s := by rw [Nat.add_mul, Nat.one_mul]
  omega
theorem nst_at {own : Nat → Prop} {id : Nat} {p : Place} {s : Nat} {rows : List (List AV)} (ho : NstAt w own π n id p s rows) {i j : Nat} {row : List AV} {x : AV} (hr : rows[i]? = some row) (hx : row[j]? = some x) :
    ∃ b u, p.blk = some b ∧ w.cell? ⟨b, i * p.sz + j, none⟩ = some u ∧ CellAt w own π n id i j x u := by
  obtain ⟨h1, h2, h3⟩ := ho
  have hi : i < rows.length := (List.getElem?_eq_some_iff.1 hr).1
  cases hb : p.blk with
  | none => simp only [hb] at h3; subst h3; simp at hi
  | some b =>
    simp only [hb] at h3
    obtain ⟨cur, e, g1, g2, g3, g4, g5⟩ := h3
    have hj : j < s := by rw [← h2 i row hr]; exact (List.getElem?_eq_some_iff.1 hx).1
    have hlt : i * s + j < cur.size := by rw [g2]; exact idx_lt (by omega) hj
    refine ⟨b, cur[i * s + j], rfl, ?_, g5 i j row x _ hr hx (Array.getElem?_eq_getElem hlt)⟩
    rw [h1, cell_of_row w b _ cur e (0, 0) g1]
    exact Array.getElem?_eq_getElem hlt
theorem cell_at {own : Nat → Prop} {id : Nat} {p : Place} {o : AObj} (ho : ObjAt w own π n id p o) {i j : Nat} {row : List AV} {x : AV} (hr : o.rowAt i = some row) (hx : row[j]? = some x) :
    ∃ b u, p.blk = some b ∧ w.cell? ⟨b, i * p.sz + j, none⟩ = some u ∧ (o.plain = true ∨ x.lone = true → Rel w own π n x u) := by
  cases o with
  | box row' =>
    simp only [AObj.rowAt] at hr
    split at hr
    · rename_i hi; subst hi; cases hr
      obtain ⟨b, cur, e, h1, h2, h3, h4⟩ := ho
      have hlt : j < cur.size := by rw [h3]; exact (List.getElem?_eq_some_iff.1 hx).1
      refine ⟨b, cur[j], h1, ?_, fun _ => h4 j x _ hx (Array.getElem?_eq_getElem hlt)⟩
      rw [Nat.zero_mul, Nat.zero_add, cell_of_row w b j cur e (0, 0) h2]
      exact Array.getElem?_eq_getElem hlt
    · cases hr
  | arr s rows =>
    simp only [AObj.rowAt] at hr
    obtain ⟨h1, h2, h3⟩ := ho
    have hi : i < rows.length := (List.getElem?_eq_some_iff.1 hr).1
    cases hb : p.blk with
    | none => simp only [hb] at h3; subst h3; simp at hi
    | some b =>
      simp only [hb] at h3
      obtain ⟨cur, e, g1, g2, g3, g4, g5⟩ := h3
      have hj : j < s := by rw [← (h2 i row hr).1]; exact (List.getElem?_eq_some_iff.1 hx).1
      have hlt : i * s + j < cur.size := by rw [g2]; exact idx_lt (by omega) hj
      refine ⟨b, cur[i * s + j], rfl, ?_, fun _ => g5 i j row x _ hr hx (Array.getElem?_eq_getElem hlt)⟩
      rw [h1, cell_of_row w b _ cur e (0, 0) g1]
      exact Array.getElem?_eq_getElem hlt
  | nst s rows =>
    obtain ⟨b, u, h1, h2, h3⟩ := nst_at ho.1 hr hx
    exact ⟨b, u, h1, h2, fun h => (cellAt_lone (h.resolve_left (by simp [AObj.plain]))).1 h3⟩
  | arx s rows =>
    obtain ⟨b, u, h1, h2, h3⟩ := nst_at ho hr hx
    exact ⟨b, u, h1, h2, fun h => (cellAt_lone (h.resolve_left (by simp [AObj.plain]))).1 h3⟩
  | map _ _ => simp [AObj.rowAt] at hr
  | itr _ _ _ => simp [AObj.rowAt] at hr
def rowOf (h : Heap) : AV → Option (List AV × Nat)
  | .ptr id i off => match h id with
    | some o => (o.rowAt i).map fun r => (r, off)
    | none => none
  | .rptr row off => some (row, off)
  | _ => none
def okRow (h : Heap) (x c : AV) : Prop := match x with
  | .ptr id _ _ => match h id with
    | some o => o.plain = true ∨ c.lone = true
    | none => False
  | _ => True
theorem ptr_live (hs : HSim own0 π h n w) {own : Nat → Prop} {id i off : Nat} {v : Value} (hr : Rel w own π n (.ptr id i off) v) {o : AObj} (ho : h id = some o) :
    ∃ p, π id = some p ∧ ObjAt w (ownOf own0 π) π n id p o ∧ ∀ b, p.blk = some b → v = .pointer (some ⟨b, i * p.sz + off, none⟩) := by
  obtain ⟨_, p, hp, hq⟩ := hs.obj id o ho
  refine ⟨p, hp, hq, ?_⟩
  cases hr with
  | ptrLive _ _ _ b' p' hp' hb' =>
    rw [hp] at hp'; cases hp'
    intro b hb
    rw [hb] at hb'; cases hb'; rfl
  | ptrDead _ _ _ _ hd _ => rw [hp] at hd; cases hd
theorem cells_of_ptr (hs : HSim own0 π h n w) {x : AV} {v : Value} (hr : Rel w (ownOf own0 π) π n x v) {row : List AV} {off : Nat} (hw : rowOf h x = some (row, off)) (hne : off < row.length) :
    ∃ ad : Addr, v = .pointer (some ad) ∧ ad.spot = none ∧ ∀ (j : Nat) c, row[off + j]? = some c → okRow h x c → ∃ u, w.cell? ⟨ad.block, ad.off + j, none⟩ = some u ∧ Rel w (ownOf own0 π) π n c u := by
  cases x <;> simp only [rowOf] at hw <;> first | cases hw | skip
  · rename_i id i off'
    cases ho : h id with
    | none => simp [ho] at hw
    | some o =>
      simp only [ho, Option.map_eq_some_iff, Prod.mk.injEq] at hw
      obtain ⟨r, hr1, rfl, rfl⟩ := hw
      obtain ⟨p, hp, hq, hv⟩ := ptr_live hs hr ho
      obtain ⟨b, u, hb, _, _⟩ := cell_at hq hr1 (List.getElem?_eq_getElem hne)
      refine ⟨_, hv b hb, rfl, fun j c hc hk => ?_⟩
      obtain ⟨b', u, hb', h1, h2⟩ := cell_at hq hr1 hc
      rw [hb] at hb'; cases hb'
      simp only [okRow, ho] at hk
      exact ⟨u, by rw [← h1, Nat.add_assoc], h2 hk⟩
  · cases hr with
    | rptr _ _ g o us ho hg hf hu hh =>
      refine ⟨_, rfl, rfl, fun j c hc _ => ⟨us (off + j), ?_, hh _ c hc⟩⟩
      rw [← hu _ c hc, Nat.add_assoc]
theorem run_ld1 {t : TypeId} (ha : cAgg P t = some false) {ad : Addr} {u : Value} (hu : w.cell? ad = some u) : (Instr.loadAt t (.pointer (some ad))).run P w = .ok u w := by
  unfold cAgg at ha
  cases hd : P.underlying t with
  | none => simp [hd] at ha
  | some d =>
    cases d <;> simp [hd] at ha <;> simp [Instr.loadAt, Instr.sureAddr, loadVar, isAgg, run_underlying hd, load, Sem.run, hu]
theorem run_ldn {t : TypeId} (ha : cAgg P t = some true) {s : Nat} (hs : cSize P t = some s) {ad : Addr} {cs : List Value} (hl : cs.length = s)
    (hu : ∀ j v, cs[j]? = some v → w.cell? (ad.add j) = some v) : (Instr.loadAt t (.pointer (some ad))).run P w = .ok (.agg cs.toArray) w := by
  unfold cSize at hs
  obtain ⟨i, hi, rfl⟩ := Option.map_eq_some_iff.1 hs
  have hc := run_loadCells_list (P := P) w ad cs hu
  rw [hl] at hc
  unfold cAgg at ha
  cases hd : P.underlying t with
  | none => simp [hd] at ha
  | some d =>
    cases d <;> simp [hd] at ha <;> simp [Instr.loadAt, Instr.sureAddr, loadVar, isAgg, run_underlying hd, sizeOf, typeInfo, hi, hc]
theorem add_eq (ad : Addr) (h : ad.spot = none) (j : Nat) : ad.add j = ⟨ad.block, ad.off + j, none⟩ := by
  cases ad; simp at h; subst h; exact Addr.add_lit _ _ _
theorem snd_ld1 (s : Sim w0 pass own0 π e h n a w) {t : TypeId} (ha : cAgg P t = some false) {x c : AV} {v : Value} (hr : Rel w (ownOf own0 π) π n x v) {row : List AV} {off : Nat} (hw : rowOf h x = some (row, off))
    (hc : row[off]? = some c) (hok : okRow h x c) {K : Kont} (hk : K c h n) : Done P w0 pass own0 π n w (Instr.loadAt t v) K := by
  obtain ⟨ad, rfl, hsp, hcells⟩ := cells_of_ptr s.hs hr hw (List.getElem?_eq_some_iff.1 hc).1
  obtain ⟨u, h1, h2⟩ := hcells 0 c (by simpa using hc) hok
  refine done_same s (run_ld1 ha (u := u) ?_) h2 hk
  rw [← h1]; cases ad; simp at hsp; subst hsp; rfl
theorem getElem?_sub {α : Type} (l : List α) (off s j : Nat) : (sub l off s)[j]? = if j < s then l[off + j]? else none := by
  simp only [sub, List.getElem?_take, List.getElem?_drop]
theorem length_sub {α : Type} (l : List α) (off s : Nat) (h : off + s ≤ l.length) : (sub l off s).length = s := by
  simp only [sub, List.length_take, List.length_drop]; omega
theorem snd_ldn (s : Sim w0 pass own0 π e h n a w) {t : TypeId} (ha : cAgg P t = some true) {z : Nat} (hz : cSize P t = some z) {x : AV} {v : Value} (hr : Rel w (ownOf own0 π) π n x v) {row : List AV} {off : Nat} (hw : rowOf h x = some (row, off))
    (hc : off + z ≤ row.length) (hz0 : 0 < z) (hok : ∀ c ∈ sub row off z, okRow h x c) {K : Kont} (hk : K (.agg (sub row off z)) h n) : Done P w0 pass own0 π n w (Instr.loadAt t v) K := by
  obtain ⟨ad, rfl, hsp, hcells⟩ := cells_of_ptr s.hs hr hw (by omega)
  have hex : ∀ j : Nat, ∃ u, j < z → w.cell? ⟨ad.block, ad.off + j, none⟩ = some u ∧ ∀ c, row[off + j]? = some c → Rel w (ownOf own0 π) π n c u := by
    intro j
    by_cases hj : j < z
    · obtain ⟨u, h1, h2⟩ := hcells j row[off + j] (List.getElem?_eq_getElem (by omega)) (hok _ (List.mem_of_getElem? (i := j) (by rw [getElem?_sub, if_pos hj]; exact List.getElem?_eq_getElem (by omega))))
      exact ⟨u, fun _ => ⟨h1, fun c hc => by rw [List.getElem?_eq_getElem (by omega)] at hc; cases hc; exact h2⟩⟩
    · exact ⟨Go.undef, fun h => absurd h hj⟩
  obtain ⟨f, hf⟩ := Classical.axiomOfChoice hex
  have hcs : ∀ (j : Nat) u, ((List.range z).map f)[j]? = some u → j < z ∧ u = f j := by
    intro j u hj
    simp only [List.getElem?_map, Option.map_eq_some_iff] at hj
    obtain ⟨k, hk, rfl⟩ := hj
    obtain ⟨h1, h2⟩ := List.getElem?_eq_some_iff.1 hk
    simp at h1 h2; subst h2; exact ⟨h1, rfl⟩
  refine done_same s (run_ldn ha hz (cs := (List.range z).map f) (by simp) ?_) ?_ hk
  · intro j u hj
    obtain ⟨h1, rfl⟩ := hcs j u hj
    rw [add_eq ad hsp]
    exact (hf j h1).1
  · refine .agg _ _ (by simp [length_sub _ _ _ hc]) (fun j c u h1 h2 => ?_)
    obtain ⟨h3, rfl⟩ := hcs j u (by simpa using h2)
    rw [getElem?_sub, if_pos h3] at h1
    exact (hf j h3).2 c h1
theorem getElem?_splice {α : Type} (l m : List α) (o j : Nat) (h : o + m.length ≤ l.length) :
    (l.take o ++ m ++ l.drop (o + m.length))[j]? = if j < o then l[j]? else if j < o + m.length then m[j - o]? else l[j]? := by
  simp only [List.getElem?_append, List.length_append, List.length_take, List.getElem?_take, List.getElem?_drop]
  have ho : min o l.length = o := by omega
  rw [ho]
  by_cases h1 : j < o
  · simp [h1]; omega
  · by_cases h2 : j < o + m.length
    · simp [h1, h2]
    · have : o + m.length + (j - (o + m.length)) = j := by omega
      simp [h1, h2, this]
theorem length_setCells (row : List AV) (off : Nat) (cs : List AV) (h : off + cs.length ≤ row.length) : (setCells row off cs).length = row.length := by
  simp only [setCells, List.length_append, List.length_take, List.length_drop]; omega
theorem run_st {t : TypeId} {z : Nat} (hz : cSize P t = some z) {g o : Nat} {v : Value} {cur : Array Value} {e' : TypeId} (hg : w.heap[g]? = some (.cells cur e' (0, 0))) (hv : v.cells.size = z)
    (hl : o + z ≤ cur.size) (h1 : ∀ u ∈ v.cells.toList, u.oneCell' = true) :
    (Instr.storeAt t (.pointer (some ⟨g, o, none⟩)) v).run P w = .ok () (w.setRow g (cur.toList.take o ++ v.cells.toList ++ cur.toList.drop (o + z)).toArray) := by
  unfold cSize at hz
  obtain ⟨i, hi, rfl⟩ := Option.map_eq_some_iff.1 hz
  have hst := run_storeCells_at P g o e' v.cells.toList 0 cur w hg (by simp [hv, hl]) h1
  simp only [Nat.add_zero, Array.length_toList, hv] at hst
  simp [Instr.storeAt, Instr.sureAddr, storeVar, sizeOf, typeInfo, hi, hv, hst]
theorem writes_row (s : Sim w0 pass own0 π e h n a w) {id : Nat} {p : Place} {b : Nat} (hp : π id = some p) (hb : p.blk = some b) (cs : Array Value) : Writes own0 π h n w id p b (w.setRow b cs) :=
  ⟨s.hs, hp, hb, by simp [World.setRow], rfl, ⟨rfl, .inl (Nat.le_refl _)⟩, rfl, fun k hk => setRow_other w b k cs hk⟩
theorem snd_st (s : Sim w0 pass own0 π e h n a w) {t : TypeId} {z : Nat} (hz : cSize P t = some z) {id i off : Nat} {x : AV} {u v : Value} (hp : Rel w (ownOf own0 π) π n (.ptr id i off) u) (hx : Rel w (ownOf own0 π) π n x v)
    (hl : x.cells.length = z) (hz0 : 0 < z) (hok : ∀ c ∈ x.cells, c.okc h) {o : AObj} (ho : h id = some o) {row : List AV} (hrow : o.rowAt i = some row) (hlen : off + z ≤ row.length)
    (o' : AObj) (ho' : o' = match o with | .box _ => .box (setCells row off x.cells) | .arr q rows => .arr q (rows.set i (setCells row off x.cells)) | .nst q rows => .nst q (rows.set i (setCells row off x.cells)) | .arx q rows => .arx q (rows.set i (setCells row off x.cells)) | .map st es => .map st es | .itr st c l => .itr st c l)
    (hfree : (match o with | .box _ => True | .arr _ _ => ∀ c ∈ x.cells, c.free = true | .nst _ _ => ∀ c ∈ x.cells, c.free = true | .arx _ _ => True | .map _ _ => True | .itr _ _ _ => True)) :
    ∃ w', (Instr.storeAt t u v).run P w = .ok () w' ∧ Go1 w0 pass own0 π n w π (h.set id o') n w' := by
  obtain ⟨p, hpi, hq, hu⟩ := ptr_live s.hs hp ho
  obtain ⟨hc1, hc2, hc3⟩ := rel_cells hx hok
  obtain ⟨b, _, hb, _, _⟩ := cell_at hq hrow (List.getElem?_eq_getElem (show off < row.length by omega))
  rw [hu b hb]
  have hsub : ∀ (j : Nat) c q, x.cells[j]? = some c → v.cells.toList[j]? = some q → Rel w (ownOf own0 π) π n c q := fun j c q h1 h2 => hc2 j c q h1 (by simpa using h2)
  have hvl : v.cells.toList.length = z := by simp [hc1, hl]
  have hset : ∀ (j : Nat), (setCells row off x.cells)[j]? = if j < off then row[j]? else if j < off + z then x.cells[j - off]? else row[j]? := by
    intro j; rw [← hl]; exact getElem?_splice row x.cells off j (by omega)
  have key : ∀ (q : Nat) (rows : List (List AV)), rows[i]? = some row → NstAt w (ownOf own0 π) π n id p q rows →
      ∃ w', (Instr.storeAt t (.pointer (some ⟨b, i * p.sz + off, none⟩)) v).run P w = .ok () w' ∧ Writes own0 π h n w id p b w' ∧ NstAt w' (ownOf own0 π) π n id p q (rows.set i (setCells row off x.cells)) := by
    rintro q rows hrow ⟨h1, h2, h3⟩
    simp only [hb] at h3
    obtain ⟨cur, e', g1, g2, g3, g4, g5⟩ := h3
    have hi : i < rows.length := (List.getElem?_eq_some_iff.1 hrow).1
    have hrl : row.length = q := h2 i row hrow
    have hbound : i * q + off + z ≤ cur.size := by
      have := idx_lt (i := i) (j := off + z - 1) (s := q) (c := p.cap) (by omega) (by omega)
      rw [g2]; omega
    have W := writes_row s hpi hb ((cur.toList.take (i * q + off) ++ v.cells.toList ++ cur.toList.drop (i * q + off + z)).toArray)
    refine ⟨_, by rw [h1]; exact run_st hz g1 (by rw [hc1, hl]) hbound hc3, W, ?_⟩
    have hnew : ∀ (i' : Nat) r, (rows.set i (setCells row off x.cells))[i']? = some r → (i' = i ∧ r = setCells row off x.cells) ∨ (i' ≠ i ∧ rows[i']? = some r) := by
      intro i' r hr
      by_cases he : i' = i
      · subst he; rw [List.getElem?_set_self hi] at hr; cases hr; exact .inl ⟨rfl, rfl⟩
      · rw [List.getElem?_set_ne (Ne.symm he)] at hr; exact .inr ⟨he, hr⟩
    have hmono : ∀ {i' j' : Nat} {c : AV} {u : Value}, CellAt w (ownOf own0 π) π n id i' j' c u → CellAt (w.setRow b ((cur.toList.take (i * q + off) ++ v.cells.toList ++ cur.toList.drop (i * q + off + z)).toArray)) (ownOf own0 π) π n id i' j' c u := by
      intro i' j' c u hc
      exact CellAt.mono W.mono hc (fun k hk => ⟨W.kept k (fun e => (s.hs.hid k _ hk).2.2.2 id p hpi (e ▸ hb)), hk⟩)
    refine ⟨h1, fun i' r hr => ?_, ?_⟩
    · rcases hnew i' r hr with ⟨rfl, rfl⟩ | ⟨_, hr⟩
      · rw [length_setCells _ _ _ (by omega)]; exact hrl
      · exact h2 i' r hr
    · simp only [hb]
      refine ⟨_, e', setRow_heap w b cur _ e' _ g1, ?_, by simpa using g3, g4, ?_⟩
      · simp only [List.size_toArray, List.length_append, List.length_take, List.length_drop, hvl, Array.length_toList]; omega
      · intro i' j r c u' hr hc hu'
        refine hmono ?_
        rw [List.getElem?_toArray, ← hvl, getElem?_splice _ _ _ _ (by simp [hvl]; omega), hvl] at hu'
        rcases hnew i' r hr with ⟨rfl, rfl⟩ | ⟨hne, hr⟩
        · rw [hset] at hc
          by_cases k1 : j < off
          · rw [if_pos k1] at hc; rw [if_pos (by omega)] at hu'; exact g5 i' j row c u' hrow hc (by simpa using hu')
          · rw [if_neg k1] at hc; rw [if_neg (by omega)] at hu'
            by_cases k2 : j < off + z
            · rw [if_pos k2] at hc; rw [if_pos (by omega)] at hu'
              have hlone : c.lone = true := by
                have := hok c (List.mem_of_getElem? hc)
                cases c <;> first | rfl | exact this.elim
              exact (cellAt_lone hlone).2 (hsub _ c u' hc (by rw [← hu']; congr 1; omega))
            · rw [if_neg k2] at hc; rw [if_neg (by omega)] at hu'; exact g5 i' j row c u' hrow hc (by simpa using hu')
        · have hj : j < q := by rw [← h2 i' r hr]; exact (List.getElem?_eq_some_iff.1 hc).1
          have hout : ¬ (i * q + off ≤ i' * q + j ∧ i' * q + j < i * q + off + z) := by
            rcases Nat.lt_or_gt_of_ne hne with h | h
            · have := idx_lt (i := i') (j := j) (s := q) (c := i) h hj; omega
            · have h5 : (i + 1) * q ≤ i' * q := Nat.mul_le_mul_right q h
              rw [Nat.add_mul, Nat.one_mul] at h5; omega
          have hu2 : cur.toList[i' * q + j]? = some u' := by
            split at hu'
            · exact hu'
            · split at hu'
              · omega
              · exact hu'
          exact g5 i' j r c u' hr hc (by simpa using hu2)
  cases o with
  | box row' =>
    simp only [AObj.rowAt] at hrow
    split at hrow
    · rename_i hi; subst hi; cases hrow
      obtain ⟨b', cur, e', h1, h2, h3, h4⟩ := hq
      rw [hb] at h1; cases h1
      have W := writes_row s hpi hb ((cur.toList.take off ++ v.cells.toList ++ cur.toList.drop (off + z)).toArray)
      refine ⟨_, by rw [Nat.zero_mul, Nat.zero_add]; exact run_st hz h2 (by rw [hc1, hl]) (by omega) hc3, W.go s.fr ?_⟩
      subst ho'
      refine ⟨b, _, e', hb, setRow_heap w b cur _ e' _ h2, ?_, ?_⟩
      · simp only [List.size_toArray, List.length_append, List.length_take, List.length_drop, hvl, Array.length_toList]
        rw [length_setCells _ _ _ (by omega)]; omega
      · intro j c q hc hq'
        refine Rel.mono W.mono ?_
        rw [hset] at hc
        rw [List.getElem?_toArray, ← hvl, getElem?_splice _ _ _ _ (by simp [hvl]; omega), hvl] at hq'
        by_cases g1 : j < off
        · rw [if_pos g1] at hc hq'; exact h4 j c q hc (by simpa using hq')
        · rw [if_neg g1] at hc hq'
          by_cases g2 : j < off + z
          · rw [if_pos g2] at hc hq'; exact hsub _ c q hc hq'
          · rw [if_neg g2] at hc hq'; exact h4 j c q hc (by simpa using hq')
    · cases hrow
  | arr q rows =>
    simp only [AObj.rowAt] at hrow
    obtain ⟨h1, h2, h3⟩ := hq
    simp only [hb] at h3
    obtain ⟨cur, e', g1, g2, g3, g4, g5⟩ := h3
    have hi : i < rows.length := (List.getElem?_eq_some_iff.1 hrow).1
    have hrl : row.length = q := (h2 i row hrow).1
    have hbound : i * q + off + z ≤ cur.size := by
      have := idx_lt (i := i) (j := off + z - 1) (s := q) (c := p.cap) (by omega) (by omega)
      rw [g2]; omega
    have W := writes_row s hpi hb ((cur.toList.take (i * q + off) ++ v.cells.toList ++ cur.toList.drop (i * q + off + z)).toArray)
    refine ⟨_, by rw [h1]; exact run_st hz g1 (by rw [hc1, hl]) hbound hc3, W.go s.fr ?_⟩
    subst ho'
    have hnew : ∀ (i' : Nat) r, (rows.set i (setCells row off x.cells))[i']? = some r → (i' = i ∧ r = setCells row off x.cells) ∨ (i' ≠ i ∧ rows[i']? = some r) := by
      intro i' r hr
      by_cases he : i' = i
      · subst he; rw [List.getElem?_set_self hi] at hr; cases hr; exact .inl ⟨rfl, rfl⟩
      · rw [List.getElem?_set_ne (Ne.symm he)] at hr; exact .inr ⟨he, hr⟩
    refine ⟨h1, fun i' r hr => ?_, ?_⟩
    · rcases hnew i' r hr with ⟨rfl, rfl⟩ | ⟨_, hr⟩
      · refine ⟨by rw [length_setCells _ _ _ (by omega)]; exact hrl, fun c hc => ?_⟩
        simp only [setCells, List.mem_append] at hc
        rcases hc with (hc | hc) | hc
        · exact (h2 i' row hrow).2 c (List.mem_of_mem_take hc)
        · exact hfree c hc
        · exact (h2 i' row hrow).2 c (List.mem_of_mem_drop hc)
      · exact h2 i' r hr
    · simp only [hb]
      refine ⟨_, e', setRow_heap w b cur _ e' _ g1, ?_, by simpa using g3, g4, ?_⟩
      · simp only [List.size_toArray, List.length_append, List.length_take, List.length_drop, hvl, Array.length_toList]; omega
      · intro i' j r c u' hr hc hu'
        refine Rel.mono W.mono ?_
        rw [List.getElem?_toArray, ← hvl, getElem?_splice _ _ _ _ (by simp [hvl]; omega), hvl] at hu'
        rcases hnew i' r hr with ⟨rfl, rfl⟩ | ⟨hne, hr⟩
        · rw [hset] at hc
          by_cases k1 : j < off
          · rw [if_pos k1] at hc; rw [if_pos (by omega)] at hu'; exact g5 i' j row c u' hrow hc (by simpa using hu')
          · rw [if_neg k1] at hc; rw [if_neg (by omega)] at hu'
            by_cases k2 : j < off + z
            · rw [if_pos k2] at hc; rw [if_pos (by omega)] at hu'
              exact hsub _ c u' hc (by rw [← hu']; congr 1; omega)
            · rw [if_neg k2] at hc; rw [if_neg (by omega)] at hu'; exact g5 i' j row c u' hrow hc (by simpa using hu')
        · have hj : j < q := by rw [← (h2 i' r hr).1]; exact (List.getElem?_eq_some_iff.1 hc).1
          have hout : ¬ (i * q + off ≤ i' * q + j ∧ i' * q + j < i * q + off + z) := by
            rcases Nat.lt_or_gt_of_ne hne with h | h
            · have := idx_lt (i := i') (j := j) (s := q) (c := i) h hj; omega
            · have h5 : (i + 1) * q ≤ i' * q := Nat.mul_le_mul_right q h
              rw [Nat.add_mul, Nat.one_mul] at h5; omega
          have hu2 : cur.toList[i' * q + j]? = some u' := by
            split at hu'
            · exact hu'
            · split at hu'
              · omega
              · exact hu'
          exact g5 i' j r c u' hr hc (by simpa using hu2)
  | nst q rows =>
    obtain ⟨w', g1, W, g2⟩ := key q rows hrow hq.1
    subst ho'
    refine ⟨w', g1, W.go s.fr ⟨g2, fun i' r hr c hc => ?_⟩⟩
    by_cases he : i' = i
    · subst he
      rw [List.getElem?_set_self (List.getElem?_eq_some_iff.1 hrow).1] at hr; cases hr
      simp only [setCells, List.mem_append] at hc
      rcases hc with (hc | hc) | hc
      · exact hq.2 i' row hrow c (List.mem_of_mem_take hc)
      · have hf := hfree c hc
        cases c <;> first | exact hf | (simp [AV.free] at hf)
      · exact hq.2 i' row hrow c (List.mem_of_mem_drop hc)
    · rw [List.getElem?_set_ne (Ne.symm he)] at hr
      exact hq.2 i' r hr c hc
  | arx q rows =>
    obtain ⟨w', g1, W, g2⟩ := key q rows hrow hq
    subst ho'
    exact ⟨w', g1, W.go s.fr g2⟩
  | map _ _ => simp [AObj.rowAt] at hrow
  | itr _ _ _ => simp [AObj.rowAt] at hrow
/-! ### addresses -/
theorem cElem_eq {t el : TypeId} (h : cElem P t = some el) : P.underlying t = some (.slice el) := by
  unfold cElem at h
  split at h
  · rename_i hd; cases h; exact hd
  · cases h
theorem live_some (hs : HSim own0 π h n w) {id : Nat} (hl : (h id).isSome = true) : ∃ o p, h id = some o ∧ π id = some p ∧ ObjAt w (ownOf own0 π) π n id p o := by
  obtain ⟨o, ho⟩ := Option.isSome_iff_exists.1 hl
  obtain ⟨_, p, hp, hq⟩ := hs.obj id o ho
  exact ⟨o, p, ho, hp, hq⟩
theorem snd_fadr (s : Sim w0 pass own0 π e h n a w) {t : TypeId} {fs : Array Field} {i : Nat} {f : Field} (ht : P.underlying t = some (.struct fs)) (hf : fs[i]? = some f) {m : Nat} (hz : cSize P f.type = some (m + 1))
    {x : AV} {v : Value} (hr : Rel w (ownOf own0 π) π n x v) {K : Kont} (hk : sem (.fadr f.offset) [x] h n K) : Done P w0 pass own0 π n w (Instr.fieldAt t v i) K := by
  unfold cSize at hz
  obtain ⟨inf, hi, hsz⟩ := Option.map_eq_some_iff.1 hz
  have run : ∀ ad : Addr, (Instr.fieldAt t (.pointer (some ad)) i).run P w = .ok (.pointer (some (ad.add f.offset))) w := by
    intro ad
    simp [Instr.fieldAt, run_underlying ht, hf, Instr.sureAddr, fieldPlace, sizeOf, typeInfo, hi, hsz]
  cases x <;> simp only [sem] at hk <;> first | exact hk.elim | skip
  · rename_i id j off
    cases hr with
    | ptrLive _ _ _ b p' hp' hb =>
      refine done_same s (run _) ?_ hk
      rw [Addr.add_lit, Nat.add_assoc]
      exact .ptrLive _ _ _ _ _ hp' hb
    | ptrDead _ _ _ ad hd hn => exact done_same s (run ad) (.ptrDead _ _ _ _ hd hn) hk
  · cases hr with
    | rptr row off g o us ho hg hf hu hh =>
      refine done_same s (run _) ?_ hk
      rw [Addr.add_lit, Nat.add_assoc]
      exact .rptr _ _ g o us ho hg hf hu hh
theorem run_iadr {t el : TypeId} {z : Nat} (ht : cElem P t = some el) (hz : cSize P el = some z) (ad : Addr) (len cap : Nat) (k : IntKind) (i : Int) (h0 : 0 ≤ i) (h1 : i < len) :
    (Instr.indexAt t (.slice (some ad) len cap) (.int k i)).run P w = .ok (.pointer (some (ad.add (i.toNat * z)))) w := by
  unfold cSize at hz
  obtain ⟨inf, hi, rfl⟩ := Option.map_eq_some_iff.1 hz
  simp [Instr.indexAt, asIntOf, run_underlying (cElem_eq ht), h0, h1, sizeOf, typeInfo, hi]
theorem snd_iadr (s : Sim w0 pass own0 π e h n a w) {t el : TypeId} {z : Nat} (ht : cElem P t = some el) (hz : cSize P el = some z) {x y : AV} {u v : Value} (hx : Rel w (ownOf own0 π) π n x u) (hy : Rel w (ownOf own0 π) π n y v)
    {K : Kont} (hk : sem (.iadr z) [x, y] h n K) : Done P w0 pass own0 π n w (Instr.indexAt t u v) K := by
  cases x <;> cases y <;> simp only [sem] at hk <;> first | exact hk.elim | skip
  · rename_i id off len k i
    obtain ⟨h0, h1, hk⟩ := hk
    have key : ∀ (q : Nat) (o : AObj), h id = some o → (∀ p, ObjAt w (ownOf own0 π) π n id p o → p.sz = q) → q = z ∧ K (.ptr id (off + i.toNat) 0) h n → Done P w0 pass own0 π n w (Instr.indexAt t u v) K := by
      rintro q o ho hsz ⟨rfl, hk2⟩
      obtain ⟨_, p, hp, hq⟩ := s.hs.obj id _ ho
      have hsz := hsz p hq
      cases hy
      cases hx with
      | refLive _ _ _ b cap p' hp' hb h2 h3 =>
        rw [hp] at hp'; cases hp'
        refine done_same s (run_iadr ht hz _ _ _ _ _ h0 h1) ?_ hk2
        rw [Addr.add_lit, hsz, ← Nat.add_mul]
        have := Rel.ptrLive (w := w) (own := ownOf own0 π) (N := n) id (off + i.toNat) 0 b p hp hb
        rwa [hsz, Nat.add_zero] at this
      | refEnd => omega
      | refNil => omega
      | refDead _ _ _ _ _ hd _ => rw [hp] at hd; cases hd
    cases ho : h id with
    | none => simp [ho] at hk
    | some o =>
      cases o with
      | box row => simp [ho] at hk
      | arr q rows => simp only [ho] at hk; exact key q _ ho (fun p hq => hq.1) hk
      | nst q rows => simp only [ho] at hk; exact key q _ ho (fun p hq => hq.1.1) hk
      | arx q rows => simp only [ho] at hk; exact key q _ ho (fun p hq => hq.1) hk
      | map _ _ => simp [ho] at hk
      | itr _ _ _ => simp [ho] at hk
  · rename_i rows k i
    obtain ⟨h0, hk⟩ := hk
    cases hr : rows[i.toNat]? with
    | none => simp [hr] at hk
    | some row =>
      simp only [hr] at hk
      obtain ⟨hl, hk⟩ := hk
      have hlt : i.toNat < rows.length := (List.getElem?_eq_some_iff.1 hr).1
      cases hy
      cases hx with
      | valNil => simp at hlt
      | val _ g off cap q us ho hg hc hm hs hf hu hh =>
        refine done_same s (run_iadr ht hz _ _ _ _ _ h0 (by omega)) ?_ hk
        have hq : q = z := by rw [← hs _ _ hr, hl]
        subst hq
        rw [Addr.add_lit]
        have := Rel.rptr (w := w) (own := ownOf own0 π) (π := π) (N := n) row 0 g (off + i.toNat * q) (us i.toNat) ho hg (fun x hx => freeT_of_free (hf _ _ x hr hx))
          (fun j x hx => by rw [← hu _ j _ x hr hx, Nat.add_assoc]) (fun j x hx => hh _ j _ x hr hx)
        simpa using this
theorem snd_idx (s : Sim w0 pass own0 π e h n a w) {t : TypeId} (ht : P.underlying t = some .string) {x y : AV} {u v : Value} (hx : Rel w (ownOf own0 π) π n x u) (hy : Rel w (ownOf own0 π) π n y v)
    {K : Kont} (hk : sem .idx [x, y] h n K) : Done P w0 pass own0 π n w (Instr.index t u v) K := by
  cases x <;> cases y <;> simp only [sem] at hk <;> first | exact hk.elim | skip
  rename_i l k i
  obtain ⟨h0, hk⟩ := hk
  cases hr : l[i.toNat]? with
  | none => simp [hr] at hk
  | some b =>
    simp only [hr] at hk
    obtain ⟨hlt, hb⟩ := List.getElem?_eq_some_iff.1 hr
    cases hx; cases hy
    refine done_same s (x := .int .u8 b.toNat) (v := .int .u8 b.toNat) ?_ (.int _ _) hk
    rw [run_index_string w t _ _ _ ht]
    have hsz : (⟨l.toArray⟩ : ByteArray).size = l.length := rfl
    rw [dif_pos ⟨h0, by rw [hsz]; omega⟩]
    subst hb
    rfl
/-! ### parts of structs -/
theorem snd_fld1 (s : Sim w0 pass own0 π e h n a w) {t : TypeId} {fs : Array Field} {i : Nat} {f : Field} (ht : P.underlying t = some (.struct fs)) (hf : fs[i]? = some f) (ha : cAgg P f.type = some false)
    {x : AV} {v : Value} (hr : Rel w (ownOf own0 π) π n x v) {K : Kont} (hk : sem (.fld1 f.offset) [x] h n K) : Done P w0 pass own0 π n w (Instr.field t v i) K := by
  cases x <;> simp only [sem] at hk <;> first | exact hk.elim | skip
  rename_i vs
  cases hc : vs[f.offset]? with
  | none => simp [hc] at hk
  | some c =>
    simp only [hc] at hk
    cases hr with
    | agg _ cs hl hh =>
      have hlt : f.offset < cs.size := by rw [hl]; exact (List.getElem?_eq_some_iff.1 hc).1
      have hu : cs[f.offset]? = some cs[f.offset] := Array.getElem?_eq_getElem hlt
      refine done_same s (v := cs[f.offset]) ?_ (hh _ _ _ hc hu) hk
      unfold cAgg at ha
      cases hd : P.underlying f.type with
      | none => simp [hd] at ha
      | some d => cases d <;> simp [hd] at ha <;> simp [Instr.field, run_underlying ht, hf, asAgg, part, isAgg, run_underlying hd, hlt]
theorem snd_fldn (s : Sim w0 pass own0 π e h n a w) {t : TypeId} {fs : Array Field} {i : Nat} {f : Field} (ht : P.underlying t = some (.struct fs)) (hf : fs[i]? = some f) (ha : cAgg P f.type = some true) {z : Nat} (hz : cSize P f.type = some z)
    {x : AV} {v : Value} (hr : Rel w (ownOf own0 π) π n x v) {K : Kont} (hk : sem (.fldn f.offset z) [x] h n K) : Done P w0 pass own0 π n w (Instr.field t v i) K := by
  unfold cSize at hz
  obtain ⟨inf, hi, rfl⟩ := Option.map_eq_some_iff.1 hz
  cases x <;> simp only [sem] at hk <;> first | exact hk.elim | skip
  rename_i vs
  obtain ⟨hlen, hk⟩ := hk
  cases hr with
  | agg _ cs hl hh =>
    refine done_same s (v := .agg (cs.extract f.offset (f.offset + inf.size))) ?_ ?_ hk
    · unfold cAgg at ha
      cases hd : P.underlying f.type with
      | none => simp [hd] at ha
      | some d => cases d <;> simp [hd] at ha <;> simp [Instr.field, run_underlying ht, hf, asAgg, part, isAgg, run_underlying hd, sizeOf, typeInfo, hi]
    · refine .agg _ _ (by simp [length_sub _ _ _ hlen]; omega) (fun j c u h1 h2 => ?_)
      rw [getElem?_sub] at h1
      simp only [Array.getElem?_extract] at h2
      split at h1
      · rename_i hj
        rw [if_pos (by omega)] at h2
        exact hh _ c u h1 h2
      · cases h1
/-! ### literals -/
theorem getElem?_foldl_set (cs : List Value) : ∀ (off k : Nat) (acc : Array Value) (j : Nat), off + k + cs.length ≤ acc.size →
    ((cs.zipIdx k).foldl (fun a (x : Value × Nat) => a.setIfInBounds (off + x.2) x.1) acc).size = acc.size ∧
    ((cs.zipIdx k).foldl (fun a (x : Value × Nat) => a.setIfInBounds (off + x.2) x.1) acc)[j]? = if off + k ≤ j ∧ j < off + k + cs.length then cs[j - (off + k)]? else acc[j]? := by
  induction cs with
  | nil => intro off k acc j _; simp; omega
  | cons c r ih =>
    intro off k acc j hl
    simp only [List.length_cons] at hl
    simp only [List.zipIdx_cons, List.foldl_cons, List.length_cons]
    obtain ⟨h1, h2⟩ := ih off (k + 1) (acc.setIfInBounds (off + k) c) j (by simp; omega)
    refine ⟨by rw [h1]; simp, ?_⟩
    rw [h2]
    by_cases g1 : off + (k + 1) ≤ j ∧ j < off + (k + 1) + r.length
    · rw [if_pos g1, if_pos (by omega)]
      have : j - (off + k) = (j - (off + (k + 1))) + 1 := by omega
      rw [this, List.getElem?_cons_succ]
    · rw [if_neg g1]
      by_cases g2 : j = off + k
      · subst g2
        rw [if_pos (by omega)]
        simp only [Nat.sub_self, List.getElem?_cons_zero]
        rw [Array.getElem?_setIfInBounds_self_of_lt (by omega)]
      · rw [if_neg (by omega), Array.getElem?_setIfInBounds_ne (Ne.symm g2)]
theorem fill_rel (place : Nat → Option (Nat × Nat)) : ∀ (parts : List (Nat × Value)) (ps : List (Nat × Nat)) (vs row : List AV) (cells : Array Value) (row' : List AV),
    parts.length = ps.length → (∀ (i : Nat) x q, parts[i]? = some x → ps[i]? = some q → place x.1 = some q) →
    parts.length = vs.length → (∀ (i : Nat) x y, parts[i]? = some x → vs[i]? = some y → Rel w (ownOf own0 π) π n y x.2) →
    (∀ y ∈ vs, ∀ c ∈ y.cells, c.okc h) →
    cells.size = row.length → (∀ (j : Nat) c u, row[j]? = some c → cells[j]? = some u → Rel w (ownOf own0 π) π n c u) →
    fillRow row ps vs = some row' →
    ∃ cells', Instr.fill place cells parts = some cells' ∧ cells'.size = row'.length ∧ ∀ (j : Nat) c u, row'[j]? = some c → cells'[j]? = some u → Rel w (ownOf own0 π) π n c u
  | [], [], [], row, cells, row', _, _, _, _, _, h1, h2, h3 => by
    simp [fillRow] at h3; subst h3
    exact ⟨cells, rfl, h1, h2⟩
  | (i, v) :: parts, (off, sz) :: ps, y :: vs, row, cells, row', l1, hp, l2, hv, hok, h1, h2, h3 => by
    simp only [fillRow] at h3
    split at h3
    · rename_i hc
      obtain ⟨hc1, hc2⟩ := hc
      have hpl := hp 0 _ _ rfl rfl
      simp only at hpl
      obtain ⟨g1, g2, g3⟩ := rel_cells (hv 0 _ _ rfl rfl) (hok y (by simp))
      simp only at g1 g2
      have hfold := fun j => getElem?_foldl_set v.cells.toList off 0 cells j (by simp [g1, hc1, h1]; omega)
      simp only [Nat.add_zero, Array.length_toList, g1, hc1] at hfold
      have := fill_rel place parts ps vs (setCells row off y.cells) ((v.cells.toList.zipIdx 0).foldl (fun a (x : Value × Nat) => a.setIfInBounds (off + x.2) x.1) cells) row'
        (by simpa using l1) (fun i x q hx hq => hp (i + 1) x q (by simpa using hx) (by simpa using hq))
        (by simpa using l2) (fun i x q hx hq => hv (i + 1) x q (by simpa using hx) (by simpa using hq)) (fun z hz => hok z (by simp [hz]))
        (by rw [(hfold 0).1, length_setCells _ _ _ (by omega)]; exact h1)
        (fun j c u hc' hu => by
          rw [(hfold j).2] at hu
          simp only [setCells] at hc'
          rw [getElem?_splice _ _ _ _ (by omega), hc1] at hc'
          by_cases k1 : j < off
          · rw [if_pos k1] at hc'; rw [if_neg (by omega)] at hu; exact h2 j c u hc' hu
          · rw [if_neg k1] at hc'
            by_cases k2 : j < off + sz
            · rw [if_pos k2] at hc'; rw [if_pos (by omega)] at hu; exact g2 _ c u hc' (by simpa using hu)
            · rw [if_neg k2] at hc'; rw [if_neg (by omega)] at hu; exact h2 j c u hc' hu)
        h3
      obtain ⟨cells', q1, q2, q3⟩ := this
      refine ⟨cells', ?_, q2, q3⟩
      simp only [Instr.fill, hpl]
      rw [if_neg (by simp [g1, hc1, h1]; omega)]
      have e1 : (v.cells.zipIdx.foldl (fun cs (x : Value × Nat) => cs.setIfInBounds (off + x.2) x.1) cells) = (v.cells.toList.zipIdx 0).foldl (fun a (x : Value × Nat) => a.setIfInBounds (off + x.2) x.1) cells := by
        rw [← Array.foldl_toList, Array.toList_zipIdx]
      exact (congrArg (fun q => Instr.fill place q parts) e1).trans q1
    · cases h3
  | [], _ :: _, _, _, _, _, l1, _, _, _, _, _, _, _ => by simp at l1
  | _ :: _, [], _, _, _, _, l1, _, _, _, _, _, _, _ => by simp at l1
  | [], [], _ :: _, _, _, _, _, _, l2, _, _, _, _, _ => by simp at l2
  | _ :: _, _ :: _, [], _, _, _, _, _, l2, _, _, _, _, _ => by simp at l2
theorem cPlaces_spec (place : Nat → Option (Nat × Nat)) : ∀ (parts : List (Nat × Operand)) (ps : List (Nat × Nat)), cPlaces place parts = some ps →
    parts.length = ps.length ∧ ∀ (i : Nat) x q, parts[i]? = some x → ps[i]? = some q → place x.1 = some q
  | [], ps, hc => by simp [cPlaces] at hc; subst hc; simp
  | (k, o) :: r, ps, hc => by
    simp only [cPlaces] at hc
    split at hc
    · rename_i f y h1 h2
      cases hc
      obtain ⟨g1, g2⟩ := cPlaces_spec place r y h2
      refine ⟨by simp [g1], fun i x q hx hq => ?_⟩
      cases i with
      | zero => simp at hx hq; subst hx; subst hq; exact h1
      | succ i => exact g2 i x q (by simpa using hx) (by simpa using hq)
    · cases hc
theorem cZero_spec {t : TypeId} {z : List AV} (hz : cZero P t = some z) : ∃ i v, P.info? t = some i ∧ i.zero = some v ∧ cVals v.cells.toList = some z := by
  unfold cZero at hz
  split at hz
  · rename_i v h1
    cases hi : P.info? t with
    | none => simp [hi] at h1
    | some i => exact ⟨i, v, rfl, by simpa [hi] using h1, hz⟩
  · cases hz
theorem rel_zero {own : Nat → Prop} {v : Value} {z : List AV} (hz : cVals v.cells.toList = some z) : v.cells.size = z.length ∧ ∀ (j : Nat) c u, z[j]? = some c → v.cells[j]? = some u → Rel w own π n c u := by
  obtain ⟨h1, h2⟩ := rel_cVals (w := w) (own := own) (π := π) (n := n) _ _ hz
  exact ⟨by simpa using h1, fun j c u hc hu => h2 j c u hc (by simpa using hu)⟩
theorem rel_parts (s : Sim w0 pass own0 π e h n a w) {parts : List (Nat × Operand)} {l : List Opd} (hc : cOpds (parts.map (·.2)) = some l) :
    parts.length = l.length ∧ ∀ (i : Nat) x y, (parts.map fun (k, o) => (k, a.eval o))[i]? = some x → (l.map (Opd.ev e))[i]? = some y → Rel w (ownOf own0 π) π n y x.2 := by
  obtain ⟨h1, h2⟩ := rel_opds s _ _ hc
  refine ⟨by simpa using h1.symm, fun i x y hx hy => ?_⟩
  simp only [List.getElem?_map, Option.map_eq_some_iff] at hx
  obtain ⟨q, hq, rfl⟩ := hx
  exact h2 i y _ hy (by simp [hq])
theorem snd_bld (s : Sim w0 pass own0 π e h n a w) {t : TypeId} {parts : Array (Nat × Operand)} {z : List AV} {ps : List (Nat × Nat)} {place : Nat → Option (Nat × Nat)} (hz : cZero P t = some z)
    (hp : cPlaces place parts.toList = some ps) {l : List Opd} (hl : cOpds (parts.toList.map (·.2)) = some l)
    (hb : ∀ zv ps' cells, (P.info? t).bind (·.zero) = some zv → Instr.fill place zv.cells ps' = some cells → P.built t ps' = some cells)
    {K : Kont} (hk : sem (.bld z ps) (l.map (Opd.ev e)) h n K) : Done P w0 pass own0 π n w (Instr.build t (parts.map fun (i, x) => (i, a.eval x))) K := by
  simp only [sem] at hk
  obtain ⟨hok, hk⟩ := hk
  split at hk
  · rename_i row hrow
    obtain ⟨i, v, hi, hv, hcv⟩ := cZero_spec hz
    obtain ⟨g1, g2⟩ := rel_zero (w := w) (own := ownOf own0 π) (π := π) (n := n) hcv
    obtain ⟨q1, q2⟩ := rel_parts s hl
    obtain ⟨r1, r2⟩ := cPlaces_spec place _ _ hp
    obtain ⟨cells, k1, k2, k3⟩ := fill_rel place (parts.toList.map fun (k, o) => (k, a.eval o)) ps (l.map (Opd.ev e)) z v.cells row
      (by simpa using r1) (fun i x q hx hq => by
        simp only [List.getElem?_map, Option.map_eq_some_iff] at hx
        obtain ⟨y, hy, rfl⟩ := hx
        exact r2 i y q hy hq)
      (by simpa using q1) q2 hok g1 g2 hrow
    refine done_same s (v := .agg cells) (run_build w t _ cells (hb v _ cells (by simp [hi, hv]) (by simpa using k1))) (.agg _ _ k2 k3) hk
  · exact hk.elim
theorem inOrder_spec : ∀ (parts : List (Nat × Operand)) (k : Nat), inOrder parts k = true → ∀ (i : Nat) x, parts[i]? = some x → x.1 = k + i
  | [], _, _, i, x, hx => by simp at hx
  | (j, o) :: r, k, hi, i, x, hx => by
    simp only [inOrder, Bool.and_eq_true, beq_iff_eq] at hi
    cases i with
    | zero => simp at hx; subst hx; exact hi.1
    | succ i => have := inOrder_spec r (k + 1) hi.2 i x (by simpa using hx); omega
/-! ### slices made -/
theorem fillRow_rows (z : Nat) : ∀ (vs : List AV) (k : Nat) (row : List AV), (∀ v ∈ vs, v.cells.length = z) → (k + vs.length) * z ≤ row.length →
    ∃ row', fillRow row ((List.range' k vs.length).map fun i => (i * z, z)) vs = some row' ∧ row'.length = row.length ∧
      (∀ i j, j < z → i < vs.length → row'[(k + i) * z + j]? = (vs[i]?.map AV.cells).bind (·[j]?)) ∧ ∀ j, j < k * z → row'[j]? = row[j]?
  | [], k, row, _, _ => ⟨row, by simp [fillRow], rfl, fun i j _ h => by simp at h, fun _ _ => rfl⟩
  | v :: vs, k, row, hv, hl => by
    have hvl : v.cells.length = z := hv v (by simp)
    simp only [List.length_cons] at hl
    have e1 : (k + (vs.length + 1)) * z = k * z + z + vs.length * z := by rw [Nat.add_mul, Nat.add_mul, Nat.one_mul]; omega
    have e2 : (k + 1 + vs.length) * z = k * z + z + vs.length * z := by rw [Nat.add_mul, Nat.add_mul, Nat.one_mul]
    have hlen := length_setCells row (k * z) v.cells (by omega)
    obtain ⟨row', h1, h2, h3, h4⟩ := fillRow_rows z vs (k + 1) (setCells row (k * z) v.cells) (fun u hu => hv u (by simp [hu])) (by rw [hlen, e2]; omega)
    refine ⟨row', ?_, by rw [h2, hlen], ?_, ?_⟩
    · simp only [List.length_cons, List.range'_succ, List.map_cons, fillRow]
      rw [if_pos ⟨hvl, by omega⟩]
      exact h1
    · intro i j hj hi
      cases i with
      | zero =>
        simp only [Nat.add_zero, List.getElem?_cons_zero, Option.map_some, Option.bind_some]
        rw [h4 _ (by rw [Nat.add_mul, Nat.one_mul]; omega)]
        simp only [setCells]
        rw [getElem?_splice _ _ _ _ (by omega), if_neg (by omega), if_pos (by omega)]
        congr 1; omega
      | succ i =>
        have := h3 i j hj (by simpa using hi)
        rw [show k + (i + 1) = k + 1 + i by omega, this]
        simp
    · intro j hj
      rw [h4 j (by rw [Nat.add_mul, Nat.one_mul]; omega)]
      simp only [setCells]
      rw [getElem?_splice _ _ _ _ (by omega), if_pos hj]
theorem rel_top_row (w : World) (own : Nat → Prop) (π : Pl) (n k : Nat) : ∀ (j : Nat) c (u : Value), (List.replicate k AV.top)[j]? = some c → Rel w own π n c u := by
  intro j c u hc
  rw [List.getElem?_replicate] at hc
  split at hc
  · cases hc; exact .top u
  · cases hc
theorem objAt_arr {own : Nat → Prop} {s c b : Nat} {rows : List (List AV)} {cur : Array Value} {t : TypeId} (hb : w.heap[b]? = some (.cells cur t (0, 0))) (hc : cur.size = c * s) (hl : rows.length ≤ c ∧ rows.length ≤ 140737488355328) (hm : c ≤ maxLen)
    (hr : ∀ (i : Nat) row, rows[i]? = some row → row.length = s ∧ ∀ x ∈ row, x.free = true)
    (h : ∀ (i j : Nat) row x u, rows[i]? = some row → row[j]? = some x → cur[i * s + j]? = some u → Rel w own π n x u) {id : Nat} : ObjAt w own π n id ⟨some b, s, c⟩ (.arr s rows) :=
  ⟨rfl, hr, cur, t, hb, hc, hl, hm, h⟩
theorem ref_own (w : World) (own : Nat → Prop) (π : Pl) (kill : Option Nat) (n len cap : Nat) (p : Place) {b : Nat} (hb : p.blk = some b) (N : Nat) (h1 : len ≤ cap) (h2 : cap ≤ p.cap) :
    Rel w own (plAdd π kill n p) N (.ref n 0 len) (.slice (some ⟨b, 0, none⟩) len cap) := by
  have := Rel.refLive (w := w) (own := own) (N := N) n 0 len b cap p (π := plAdd π kill n p) (by simp [plAdd]) hb h1 (by omega)
  simpa using this
theorem bsl_run (s : Sim w0 pass own0 π e h n a w) {t el : TypeId} {len z : Nat} {parts : Array (Nat × Operand)} (ht : cElem P t = some el) (hz : cSize P el = some z)
    (h1 : parts.toList.length = len) (h2 : inOrder parts.toList 0 = true) (h3 : 0 < z) (hzv : ((P.info? el).bind (·.zero)).isSome = true) {l : List Opd} (hl : cOpds (parts.toList.map (·.2)) = some l)
    (hok : ∀ v ∈ l.map (Opd.ev e), v.cells.length = z ∧ ∀ c ∈ v.cells, c.okc anyH) (hsmall : (l.map (Opd.ev e)).length * z ≤ 16777216) :
    l.length = len ∧ ∃ cells, (Instr.buildSlice t len (parts.map fun (i, x) => (i, a.eval x))).run P w = .ok (.slice (some ⟨w.heap.size, 0, none⟩) len len) (w.alloc (.cells cells el)) ∧
      cells.size = len * z ∧ ∀ (i j : Nat) row x u, ((l.map (Opd.ev e)).map AV.cells)[i]? = some row → row[j]? = some x → cells[i * z + j]? = some u → Rel w (ownOf own0 π) π n x u := by
  unfold cSize at hz
  obtain ⟨inf, hi, hiz⟩ := Option.map_eq_some_iff.1 hz
  subst hiz
  obtain ⟨zv, hzv⟩ := Option.isSome_iff_exists.1 hzv
  simp only [hi, Option.bind_some] at hzv
  obtain ⟨q1, q2⟩ := rel_parts s hl
  simp only [List.length_map] at hsmall
  have hll : l.length = len := by rw [← q1, h1]
  rw [hll] at hsmall
  refine ⟨hll, ?_⟩
  have key : ∀ init : Array Value, init.size = len * inf.size → ∃ cells, Instr.fill (fun i => some (i * inf.size, inf.size)) init (parts.toList.map fun (i, x) => (i, a.eval x)) = some cells ∧
      cells.size = len * inf.size ∧ ∀ (i j : Nat) row x u, ((l.map (Opd.ev e)).map AV.cells)[i]? = some row → row[j]? = some x → cells[i * inf.size + j]? = some u → Rel w (ownOf own0 π) π n x u := by
    intro init hinit
    obtain ⟨row', f1, f2, f3, _⟩ := fillRow_rows inf.size (l.map (Opd.ev e)) 0 (List.replicate (len * inf.size) .top) (fun v hv => (hok v hv).1) (by simp [hll])
    obtain ⟨cells, k1, k2, k3⟩ := fill_rel (fun i => some (i * inf.size, inf.size)) (parts.toList.map fun (k, o) => (k, a.eval o)) _ (l.map (Opd.ev e)) (List.replicate (len * inf.size) .top)
      init row'
      (by simp [q1, hll]) (fun i x q hx hq => by
        simp only [List.getElem?_map, Option.map_eq_some_iff] at hx hq
        obtain ⟨y, hy, rfl⟩ := hx
        obtain ⟨r, hr, rfl⟩ := hq
        have e1 := inOrder_spec _ _ h2 i y hy
        obtain ⟨hlt, e2⟩ := List.getElem?_eq_some_iff.1 hr
        simp at e2
        simp only [e1, ← e2, Nat.zero_add])
      (by simp [q1, hll]) q2 (fun y hy c hc => (hok y hy).2 c hc) (by simp [hinit]) (fun j c u hc _ => rel_top_row w _ π n _ j c u hc) f1
    refine ⟨cells, k1, by rw [k2, f2]; simp, fun i j row x u hr hx hu => ?_⟩
    simp only [List.getElem?_map, Option.map_eq_some_iff] at hr
    obtain ⟨y, ⟨o, ho, rfl⟩, rfl⟩ := hr
    have hil : i < l.length := (List.getElem?_eq_some_iff.1 ho).1
    have hj : j < inf.size := by
      rw [← (hok (o.ev e) (by simp only [List.mem_map]; exact ⟨o, List.mem_of_getElem? ho, rfl⟩)).1]
      exact (List.getElem?_eq_some_iff.1 hx).1
    have := f3 i j hj (by simpa using hil)
    rw [Nat.zero_add] at this
    refine k3 _ x u ?_ hu
    rw [this]
    simp [ho, hx]
  have hno : ¬ (16777216 < len * inf.size) := by omega
  by_cases hz0 : len * inf.size = 0
  · obtain ⟨cells, k1, k2, k3⟩ := key ((Array.range (len * inf.size)).map ((#[] : Array Value)[· % (#[] : Array Value).size]!)) (by simp)
    refine ⟨cells, ?_, k2, k3⟩
    have k1' : Instr.fill (fun i => some (i * inf.size, inf.size)) ((Array.range (len * inf.size)).map ((#[] : Array Value)[· % (#[] : Array Value).size]!)) (parts.map fun (i, x) => (i, a.eval x)).toList = some cells := by
      rw [Array.toList_map]; exact k1
    simp only [hz0] at k1'
    simp [Instr.buildSlice, run_underlying (cElem_eq ht), sizeOf, typeInfo, hi, hz0, newRow]
    simp at k1'
    simp [k1']
  · obtain ⟨cells, k1, k2, k3⟩ := key ((Array.range (len * inf.size)).map (zv.cells[· % zv.cells.size]!)) (by simp)
    refine ⟨cells, ?_, k2, k3⟩
    have k1' : Instr.fill (fun i => some (i * inf.size, inf.size)) ((Array.range (len * inf.size)).map (zv.cells[· % zv.cells.size]!)) (parts.map fun (i, x) => (i, a.eval x)).toList = some cells := by
      rw [Array.toList_map]; exact k1
    simp [Instr.buildSlice, run_underlying (cElem_eq ht), sizeOf, typeInfo, zeroValue, hi, hz0, hzv, newRow, hno]
    simp at k1'
    simp [k1']
theorem snd_bsl (s : Sim w0 pass own0 π e h n a w) {t el : TypeId} {len z : Nat} {parts : Array (Nat × Operand)} (ht : cElem P t = some el) (hz : cSize P el = some z)
    (h1 : parts.toList.length = len) (h2 : inOrder parts.toList 0 = true) (h3 : 0 < z) (hzv : ((P.info? el).bind (·.zero)).isSome = true) {l : List Opd} (hl : cOpds (parts.toList.map (·.2)) = some l)
    {K : Kont} (hk : sem (.bsl z) (l.map (Opd.ev e)) h n K) : Done P w0 pass own0 π n w (Instr.buildSlice t len (parts.map fun (i, x) => (i, a.eval x))) K := by
  simp only [sem] at hk
  obtain ⟨hok, hsmall, hk⟩ := hk
  obtain ⟨hll, cells, k1, k2, k3⟩ := bsl_run s ht hz h1 h2 h3 hzv hl (fun v hv => ⟨(hok v hv).1, fun c hc => okc_of_free ((hok v hv).2 c hc)⟩) hsmall
  simp only [List.length_map] at hk hsmall
  rw [hll] at hk hsmall
  have A := adds_new s.hs (.cells cells el) w (.inl rfl) z len
  refine ⟨_, _, _, _, _, _, k1, A.go s.fr (o := .arr z ((l.map (Opd.ev e)).map AV.cells)) ?_, ref_own _ _ _ _ _ _ _ _ rfl _ (Nat.le_refl _) (Nat.le_refl _), by rw [hpAdd_none]; exact hk⟩
  · refine objAt_arr (heap_alloc_new _ _) k2 (by have : len * 1 ≤ len * z := Nat.mul_le_mul_left _ h3; simp [hll]; omega) (by simp only [maxLen]; have : len * 1 ≤ len * z := Nat.mul_le_mul_left _ h3; omega) ?_ ?_
    · intro i row hr
      simp only [List.getElem?_map, Option.map_eq_some_iff] at hr
      obtain ⟨y, ⟨o, ho, rfl⟩, rfl⟩ := hr
      exact hok _ (by simp only [List.mem_map]; exact ⟨o, List.mem_of_getElem? ho, rfl⟩)
    · intro i j row x u hr hx hu
      exact (k3 i j row x u hr hx hu).mono A.mono
end
section
variable {P : Program} {w0 : World} {pass own0 : Nat → Prop} {π : Pl} {e : Env} {h : Heap} {n : Nat} {a : Act} {w : World}
theorem snd_mks (s : Sim w0 pass own0 π e h n a w) {t el : TypeId} {z b : Nat} {zero : List AV} (ht : cElem P t = some el) (hz : cSize P el = some z) (hb : cBytes P el = some b) (hzero : cZero P el = some zero) (hzl : zero.length = z) (hz0 : 0 < z)
    (hfree : ∀ c ∈ zero, c.free = true)
    {x y : AV} {u v : Value} (hx : Rel w (ownOf own0 π) π n x u) (hy : Rel w (ownOf own0 π) π n y v) {K : Kont} (hk : sem (.mks z b zero) [x, y] h n K) : Done P w0 pass own0 π n w (Instr.makeSlice t u v) K := by
  cases x <;> cases y <;> simp only [sem] at hk <;> first | exact hk.elim | skip
  rename_i k1 l k2 c
  obtain ⟨h0, hlc, hbytes, hcm, hk⟩ := hk
  cases hx; cases hy
  obtain ⟨inf, zv, hi, hzv, hcv⟩ := cZero_spec hzero
  have hz' : inf.size = z := by simpa [cSize, hi] using hz
  have hb' : inf.bytes = b := by simpa [cBytes, hi] using hb
  subst hz'; subst hb'
  have hr := run_make (P := P) w t el inf zv (cElem_eq ht) hi hzv k1 k2 l c h0 hlc (by omega) (by omega)
  have A := adds_new s.hs (.cells (madeCells zv.cells (c.toNat * inf.size)) el) w (.inl rfl) inf.size c.toNat
  obtain ⟨g1, g2⟩ := rel_zero (w := w) (own := ownOf own0 π) (π := π) (n := n) hcv
  refine ⟨_, _, _, _, _, _, hr, A.go s.fr (o := .arr inf.size (List.replicate l.toNat zero)) ?_, ref_own _ _ _ _ _ _ _ _ rfl _ (by omega) (Nat.le_refl _), by rw [hpAdd_none]; exact hk⟩
  refine objAt_arr (heap_alloc_new _ _) (size_madeCells _ _) (by simp; omega) (by simp only [maxLen]; omega) ?_ ?_
  · intro i row hr
    rw [List.getElem?_replicate] at hr
    split at hr
    · cases hr; exact ⟨hzl, hfree⟩
    · cases hr
  · intro i j row x u hr hx hu
    rw [List.getElem?_replicate] at hr
    split at hr
    · cases hr
      refine Rel.mono A.mono (g2 j x u hx ?_)
      have hj : j < inf.size := by rw [← hzl]; exact (List.getElem?_eq_some_iff.1 hx).1
      have hsz : zv.cells.size = inf.size := by rw [g1, hzl]
      unfold madeCells at hu
      simp only [Array.getElem?_map, Option.map_eq_some_iff] at hu
      obtain ⟨q, hq, rfl⟩ := hu
      obtain ⟨hq1, hq2⟩ := Array.getElem?_eq_some_iff.1 hq
      simp at hq2
      subst hq2
      rw [hsz, Nat.add_comm, Nat.add_mul_mod_self_right, Nat.mod_eq_of_lt hj]
      rw [getElem!_pos zv.cells j (by omega)]
      exact Array.getElem?_eq_getElem (by omega)
    · cases hr
/-! ### cuts -/
theorem run_bounds (isS : Bool) (len cap : Nat) (lo hi : Option Value) (x y : Int) (hx : lo = none ∧ x = 0 ∨ ∃ k, lo = some (.int k x)) (hy : hi = none ∧ y = len ∨ ∃ k, hi = some (.int k y))
    (h0 : 0 ≤ x) (h1 : x ≤ y) (h2 : y ≤ cap) : (Instr.sliceBounds isS len cap lo hi none).run P w = .ok (x.toNat, y.toNat, cap) w := by
  have B : ∀ (k : IntKind) (i : Int) (m : Nat) (code : BoundsCode), 0 ≤ i → i ≤ m → (Instr.sliceBound (.int k i) m code).run P w = .ok i.toNat w := by
    intro k i m code h0 h1; simp [Instr.sliceBound, asIntOf, h0, h1]
  have hy0 : 0 ≤ y := by omega
  have hyn : x ≤ (y.toNat : Int) := by omega
  rcases hx with ⟨rfl, rfl⟩ | ⟨k, rfl⟩ <;> rcases hy with ⟨rfl, rfl⟩ | ⟨k', rfl⟩
  · simp [Instr.sliceBounds]
  · simp [Instr.sliceBounds, B _ _ _ _ hy0 h2]
  · simp at hyn; simp [Instr.sliceBounds, B _ _ _ _ h0 h1]
  · simp [Instr.sliceBounds, B _ _ _ _ hy0 h2, B _ _ _ _ h0 hyn]
theorem int_of_rel {own : Nat → Prop} {z : AV} {v : Value} (hr : Rel w own π n z v) {k : IntKind} {x : Int} (hz : z = .int k x) : v = .int k x := by
  subst hz; cases hr; rfl
theorem opt_bounds (s : Sim w0 pass own0 π e h n a w) {lo hi : Option Operand} {l : List Opd} (hc : cOpds (oList lo ++ oList hi) = some l) {len : Nat} {x y : Int} (ho : optArgs lo.isSome hi.isSome (l.map (Opd.ev e)) len = some (x, y)) :
    (lo.map a.eval = none ∧ x = 0 ∨ ∃ k, lo.map a.eval = some (.int k x)) ∧ (hi.map a.eval = none ∧ y = len ∨ ∃ k, hi.map a.eval = some (.int k y)) := by
  cases lo with
  | none =>
    cases hi with
    | none =>
      simp [oList, cOpds] at hc; subst hc
      simp [optArgs] at ho
      exact ⟨.inl ⟨rfl, ho.1.symm⟩, .inl ⟨rfl, ho.2.symm⟩⟩
    | some q =>
      obtain ⟨z, rfl, hz⟩ := cOpds1 (show cOpds [q] = some l from hc)
      have hr := rel_opd s hz
      simp only [List.map_cons, List.map_nil, Option.isSome_none, Option.isSome_some] at ho
      generalize hE : Opd.ev e z = zz at hr ho
      cases zz <;> simp [optArgs] at ho
      obtain ⟨rfl, rfl⟩ := ho
      exact ⟨.inl ⟨rfl, rfl⟩, .inr ⟨_, by simp [int_of_rel hr rfl]; rfl⟩⟩
  | some p =>
    cases hi with
    | none =>
      obtain ⟨z, rfl, hz⟩ := cOpds1 (show cOpds [p] = some l from hc)
      have hr := rel_opd s hz
      simp only [List.map_cons, List.map_nil, Option.isSome_none, Option.isSome_some] at ho
      generalize hE : Opd.ev e z = zz at hr ho
      cases zz <;> simp [optArgs] at ho
      obtain ⟨rfl, rfl⟩ := ho
      exact ⟨.inr ⟨_, by simp [int_of_rel hr rfl]; rfl⟩, .inl ⟨rfl, rfl⟩⟩
    | some q =>
      obtain ⟨z, z', rfl, hz, hz'⟩ := cOpds2 (show cOpds [p, q] = some l from hc)
      have hr := rel_opd s hz
      have hr' := rel_opd s hz'
      simp only [List.map_cons, List.map_nil, Option.isSome_some] at ho
      generalize hE : Opd.ev e z = zz at hr ho
      generalize hE' : Opd.ev e z' = zz' at hr' ho
      cases zz <;> cases zz' <;> simp [optArgs] at ho
      obtain ⟨rfl, rfl⟩ := ho
      exact ⟨.inr ⟨_, by simp [int_of_rel hr rfl]; rfl⟩, .inr ⟨_, by simp [int_of_rel hr' rfl]; rfl⟩⟩
theorem run_slc {t el : TypeId} {z : Nat} (ht : P.underlying t = some (.slice el)) (hz : cSize P el = some z) (ad : Option Addr) (len cap : Nat) (lo hi : Option Value) (x y : Int)
    (hx : lo = none ∧ x = 0 ∨ ∃ k, lo = some (.int k x)) (hy : hi = none ∧ y = len ∨ ∃ k, hi = some (.int k y)) (h0 : 0 ≤ x) (h1 : x ≤ y) (h2 : y ≤ cap) :
    (Instr.sliceAt t (.slice ad len cap) lo hi none).run P w = .ok (.slice (if cap = x.toNat then ad else ad.map (·.add (x.toNat * z))) (y.toNat - x.toNat) (cap - x.toNat)) w := by
  unfold cSize at hz
  obtain ⟨inf, hi', rfl⟩ := Option.map_eq_some_iff.1 hz
  have hb := run_bounds (P := P) (w := w) true len cap lo hi x y hx hy h0 h1 h2
  simp [Instr.sliceAt, Instr.slice, run_underlying ht, hb, sizeOf, typeInfo, hi']
theorem snd_slc (s : Sim w0 pass own0 π e h n a w) {t el : TypeId} {z : Nat} (ht : P.underlying t = some (.slice el)) (hz : cSize P el = some z) {u : Value} {lo hi : Option Operand} {l : List Opd} {x : AV}
    (hr : Rel w (ownOf own0 π) π n x u) (hc : cOpds (oList lo ++ oList hi) = some l) {K : Kont} (hk : sem (.slc z lo.isSome hi.isSome) (x :: l.map (Opd.ev e)) h n K) :
    Done P w0 pass own0 π n w (Instr.sliceAt t u (lo.map a.eval) (hi.map a.eval) none) K := by
  cases x <;> simp only [sem] at hk <;> first | exact hk.elim | skip
  · rename_i id off len
    split at hk
    · rename_i x y q rows ho hid
      obtain ⟨h0, h1, h2, rfl, hk⟩ := hk
      obtain ⟨bx, b_y⟩ := opt_bounds s hc ho
      obtain ⟨_, p, hp, hq'⟩ := s.hs.obj id _ hid
      obtain ⟨hsz, _, _⟩ := hq'
      have e1 : (y - x).toNat = y.toNat - x.toNat := by omega
      cases hr with
      | refLive _ _ _ b cap p' hp' hb g1 g2 =>
        rw [hp] at hp'; cases hp'
        refine done_same s (run_slc ht hz _ _ _ _ _ x y bx b_y h0 h1 (by omega)) ?_ hk
        rw [e1]
        split
        · rename_i hcap
          have : y.toNat - x.toNat = 0 := by omega
          rw [this, show cap - x.toNat = 0 by omega]
          exact .refEnd _ _ _ _ _ hp hb
        · rw [Option.map_some, Addr.add_lit, hsz, ← Nat.add_mul]
          have := Rel.refLive (w := w) (own := ownOf own0 π) (N := n) id (off + x.toNat) (y.toNat - x.toNat) b (cap - x.toNat) p hp hb (by omega) (by omega)
          rwa [hsz] at this
      | refEnd _ _ o' b p' hp' hb =>
        refine done_same s (run_slc ht hz _ _ _ _ _ x y bx b_y h0 h1 (by omega)) ?_ hk
        have hx0 : x.toNat = 0 := by omega
        have hy0 : y.toNat = 0 := by omega
        simp only [e1, hx0, hy0, if_true, Nat.sub_self]
        exact .refEnd _ _ _ _ _ hp' hb
      | refNil _ ad p' hp' hb =>
        refine done_same s (run_slc ht hz _ _ _ _ _ x y bx b_y h0 h1 (by omega)) ?_ hk
        have hx0 : x.toNat = 0 := by omega
        have hy0 : y.toNat = 0 := by omega
        simp only [e1, hx0, hy0, if_true, Nat.sub_self]
        exact .refNil _ _ _ hp' hb
      | refDead _ _ _ _ _ hd _ => rw [hp] at hd; cases hd
    · exact hk.elim
  · split at hk
    · rename_i x y ho
      obtain ⟨h0, h1, hk⟩ := hk
      subst h0; subst h1
      obtain ⟨bx, b_y⟩ := opt_bounds s hc ho
      cases hr with
      | snil ad => exact done_same s (v := .slice ad 0 0) (by simpa using run_slc (w := w) ht hz ad 0 0 _ _ 0 0 bx b_y (by omega) (by omega) (by omega)) (.snil ad) hk
    · exact hk.elim
  · rename_i rows
    split at hk
    · rename_i x y ho
      obtain ⟨h0, h1, h2, hrl, hk⟩ := hk
      obtain ⟨bx, b_y⟩ := opt_bounds s hc ho
      have e1 : (y - x).toNat = y.toNat - x.toNat := by omega
      rw [e1] at hk
      have hsubl : (sub rows x.toNat (y.toNat - x.toNat)).length = y.toNat - x.toNat := length_sub _ _ _ (by omega)
      cases hr with
      | valNil ad cap =>
        have hx0 : x.toNat = 0 := by simp at h2; omega
        have hy0 : y.toNat = 0 := by simp at h2; omega
        refine done_same s (run_slc ht hz _ _ _ _ _ x y bx b_y h0 h1 (by simp at h2; omega)) ?_ hk
        simp only [hx0, hy0, Nat.sub_self]
        exact .valNil _ _
      | val _ g off cap q us ho' hg hcp hm hs hf hu hh =>
        refine done_same s (run_slc ht hz _ _ _ _ _ x y bx b_y h0 h1 (by omega)) ?_ hk
        by_cases hn0 : y.toNat - x.toNat = 0
        · rw [hn0]
          have : sub rows x.toNat 0 = [] := by simp [sub]
          rw [this]
          exact .valNil _ _
        · have hq : q = z := by
            have hlt : x.toNat < rows.length := by omega
            have := hs x.toNat rows[x.toNat] (List.getElem?_eq_getElem hlt)
            rw [← this]; exact hrl _ (List.getElem_mem hlt)
          subst hq
          rw [if_neg (by omega), Option.map_some, Addr.add_lit]
          have hget : ∀ (i : Nat) row, (sub rows x.toNat (y.toNat - x.toNat))[i]? = some row → rows[x.toNat + i]? = some row := by
            intro i row hr
            rw [getElem?_sub] at hr
            split at hr
            · exact hr
            · cases hr
          have := Rel.val (w := w) (own := ownOf own0 π) (π := π) (N := n) (sub rows x.toNat (y.toNat - x.toNat)) g (off + x.toNat * q) (cap - x.toNat) q (fun i j => us (x.toNat + i) j) ho' hg (by rw [hsubl]; omega) (by rw [hsubl]; omega) (fun i row hr => hs _ row (hget i row hr)) (fun i row c hr hx => hf _ row c (hget i row hr) hx)
            (fun i j row c hr hx => by rw [← hu _ j row c (hget i row hr) hx, Nat.add_mul]; simp only [Nat.add_assoc]) (fun i j row c hr hx => hh _ j row c (hget i row hr) hx)
          rwa [hsubl] at this
    · exact hk.elim
theorem run_slc3 {t el : TypeId} {z : Nat} (ht : P.underlying t = some (.slice el)) (hz : cSize P el = some z) (ad : Option Addr) (len cap : Nat) (k k' : IntKind) (b m : Int)
    (h0 : 0 ≤ b) (h1 : b ≤ m) (h2 : m ≤ cap) :
    (Instr.sliceAt t (.slice ad len cap) none (some (.int k b)) (some (.int k' m))).run P w = .ok (.slice (if m.toNat = 0 then ad else ad.map (·.add (0 * z))) b.toNat m.toNat) w := by
  unfold cSize at hz
  obtain ⟨inf, hi', rfl⟩ := Option.map_eq_some_iff.1 hz
  have B : ∀ (k : IntKind) (i : Int) (q : Nat) (code : BoundsCode), 0 ≤ i → i ≤ q → (Instr.sliceBound (.int k i) q code).run P w = .ok i.toNat w := by
    intro k i q code h0 h1; simp [Instr.sliceBound, asIntOf, h0, h1]
  have hb : (Instr.sliceBounds true len cap none (some (.int k b)) (some (.int k' m))).run P w = .ok (0, b.toNat, m.toNat) w := by
    simp [Instr.sliceBounds, B k' m cap _ (by omega) h2, B k b m.toNat _ h0 (by omega)]
  simp [Instr.sliceAt, Instr.slice, run_underlying ht, hb, sizeOf, typeInfo, hi']
set_option maxHeartbeats 1000000 in
theorem snd_slc3 (s : Sim w0 pass own0 π e h n a w) {t el : TypeId} {z : Nat} (ht : P.underlying t = some (.slice el)) (hz : cSize P el = some z) {u u1 u2 : Value} {x x1 x2 : AV}
    (hr : Rel w (ownOf own0 π) π n x u) (hr1 : Rel w (ownOf own0 π) π n x1 u1) (hr2 : Rel w (ownOf own0 π) π n x2 u2) {K : Kont} (hk : sem (.slc3 z) [x, x1, x2] h n K) :
    Done P w0 pass own0 π n w (Instr.sliceAt t u none (some u1) (some u2)) K := by
  cases x <;> cases x1 <;> cases x2 <;> simp only [sem] at hk <;> first | exact hk.elim | skip
  · rename_i id off len k b k' m
    cases hr1; cases hr2
    obtain ⟨h0, h1, h2, hk⟩ := hk
    split at hk
    · rename_i q rows hid
      obtain ⟨rfl, hk⟩ := hk
      obtain ⟨_, p, hp, hq'⟩ := s.hs.obj id _ hid
      obtain ⟨hsz, _, _⟩ := hq'
      cases hr with
      | refLive _ _ _ b' cap p' hp' hb g1 g2 =>
        rw [hp] at hp'; cases hp'
        refine done_same s (run_slc3 ht hz _ _ _ _ _ b m h0 h1 (by omega)) ?_ hk
        split
        · rename_i hm
          have : b.toNat = 0 := by omega
          rw [this, hm]
          exact .refEnd _ _ _ _ _ hp hb
        · rw [Option.map_some, Addr.add_lit, hsz, Nat.zero_mul, Nat.add_zero]
          have := Rel.refLive (w := w) (own := ownOf own0 π) (N := n) id off b.toNat b' m.toNat p hp hb (by omega) (by omega)
          rwa [hsz] at this
      | refEnd _ _ o' b' p' hp' hb =>
        refine done_same s (run_slc3 ht hz _ _ _ _ _ b m h0 h1 (by omega)) ?_ hk
        have hx0 : b.toNat = 0 := by omega
        have hy0 : m.toNat = 0 := by omega
        simp only [hx0, hy0, if_true]
        exact .refEnd _ _ _ _ _ hp' hb
      | refNil _ ad p' hp' hb =>
        refine done_same s (run_slc3 ht hz _ _ _ _ _ b m h0 h1 (by omega)) ?_ hk
        have hx0 : b.toNat = 0 := by omega
        have hy0 : m.toNat = 0 := by omega
        simp only [hx0, hy0, if_true]
        exact .refNil _ _ _ hp' hb
      | refDead _ _ _ _ _ hd _ => rw [hp] at hd; cases hd
    · exact hk.elim
  · rename_i k b k' m
    cases hr1; cases hr2
    obtain ⟨rfl, rfl, hk⟩ := hk
    cases hr with
    | snil ad =>
      refine done_same s (run_slc3 ht hz _ _ _ _ _ 0 0 (by omega) (by omega) (by omega)) ?_ hk
      simp only [Int.toNat_zero, if_true]
      exact .snil ad
  · rename_i rows k b k' m
    cases hr1; cases hr2
    obtain ⟨h0, h1, h2, hrl, hk⟩ := hk
    have hlen : (rows.take b.toNat).length = b.toNat := by rw [List.length_take]; omega
    have hget : ∀ (i : Nat) row, (rows.take b.toNat)[i]? = some row → rows[i]? = some row := by
      intro i row hr
      rw [List.getElem?_take] at hr
      split at hr
      · exact hr
      · cases hr
    cases hr with
    | valNil ad cap =>
      have hx0 : b.toNat = 0 := by simp at h2; omega
      have hy0 : m.toNat = 0 := by simp at h2; omega
      refine done_same s (run_slc3 ht hz _ _ _ _ _ b m h0 h1 (by simp at h2; omega)) ?_ hk
      simp only [hx0, hy0, if_true, List.take_nil]
      exact .valNil _ _
    | val _ g off cap q us ho' hg hcp hm hs hf hu hh =>
      refine done_same s (run_slc3 ht hz _ _ _ _ _ b m h0 h1 (by omega)) ?_ hk
      by_cases hn0 : b.toNat = 0
      · rw [hn0, List.take_zero]
        exact .valNil _ _
      · rw [if_neg (by omega), Option.map_some, Addr.add_lit, Nat.zero_mul, Nat.add_zero]
        have := Rel.val (w := w) (own := ownOf own0 π) (π := π) (N := n) (rows.take b.toNat) g off m.toNat q us ho' hg (by rw [hlen]; omega) (by rw [hlen]; omega) (fun i row hr => hs _ row (hget i row hr)) (fun i row c hr hx => hf _ row c (hget i row hr) hx)
          (fun i j row c hr hx => hu i j row c (hget i row hr) hx) (fun i j row c hr hx => hh i j row c (hget i row hr) hx)
        rwa [hlen] at this
theorem snd_sls (s : Sim w0 pass own0 π e h n a w) {t : TypeId} (ht : P.underlying t = some .string) {u : Value} {lo hi : Option Operand} {l : List Opd} {x : AV}
    (hr : Rel w (ownOf own0 π) π n x u) (hc : cOpds (oList lo ++ oList hi) = some l) {K : Kont} (hk : sem (.sls lo.isSome hi.isSome) (x :: l.map (Opd.ev e)) h n K) :
    Done P w0 pass own0 π n w (Instr.sliceAt t u (lo.map a.eval) (hi.map a.eval) none) K := by
  cases x <;> simp only [sem] at hk <;> first | exact hk.elim | skip
  rename_i l'
  split at hk
  · rename_i x y ho
    obtain ⟨h0, h1, h2, hk⟩ := hk
    obtain ⟨bx, b_y⟩ := opt_bounds s hc ho
    cases hr
    have hb := run_bounds (P := P) (w := w) false l'.length l'.length _ _ x y bx b_y h0 h1 h2
    refine done_same s (v := .string (ByteArray.extract ⟨l'.toArray⟩ x.toNat y.toNat)) ?_ ?_ hk
    · have hsz : (⟨l'.toArray⟩ : ByteArray).size = l'.length := rfl
      simp [Instr.sliceAt, Instr.slice, run_underlying ht, hsz, hb]
    · have : (ByteArray.extract ⟨l'.toArray⟩ x.toNat y.toNat) = ⟨(sub l' x.toNat (y - x).toNat).toArray⟩ := by
        apply ByteArray.ext
        have e1 : (y - x).toNat = y.toNat - x.toNat := by omega
        simp [sub, e1, List.take_drop]
      rw [this]
      exact .str _
  · exact hk.elim
theorem snd_lens (s : Sim w0 pass own0 π e h n a w) {t : TypeId} (ht : P.underlying t = some .string) (ty : TypeId) {x : AV} {v : Value} (hr : Rel w (ownOf own0 π) π n x v)
    {K : Kont} (hk : sem .lens [x] h n K) : Done P w0 pass own0 π n w (Builtin.len_ #[t] ty #[v]) K := by
  cases x <;> simp only [sem] at hk <;> first | exact hk.elim | skip
  rename_i l
  cases hr
  exact done_same s (run_len_string (P := P) w t ty ⟨l.toArray⟩ ht) (.int _ _) hk
theorem snd_len (s : Sim w0 pass own0 π e h n a w) {t el : TypeId} (hel : P.underlying t = some (.slice el)) (ty : TypeId) {x : AV} {v : Value} (hr : Rel w (ownOf own0 π) π n x v)
    {K : Kont} (hk : sem .len [x] h n K) : Done P w0 pass own0 π n w (Builtin.len_ #[t] ty #[v]) K := by
  have run : ∀ (ad : Option Addr) (len cap : Nat), (Builtin.len_ #[t] ty #[.slice ad len cap]).run P w = .ok (goInt len) w := by
    intro ad len cap
    simp [Builtin.len_, run_underlying hel]
  cases x <;> simp only [sem] at hk <;> first | exact hk.elim | skip
  · rename_i id off len
    cases hr with
    | refLive => exact done_same s (run _ _ _) (.int _ _) hk
    | refEnd => exact done_same s (run _ _ _) (.int _ _) hk
    | refNil => exact done_same s (run _ _ _) (.int _ _) hk
    | refDead => exact done_same s (run _ _ _) (.int _ _) hk
  · cases hr; exact done_same s (run _ _ _) (.int _ _) hk
  · cases hr with
    | valNil => exact done_same s (run _ _ _) (.int _ _) hk
    | val => exact done_same s (run _ _ _) (.int _ _) hk
/-! ### small ones -/
theorem snd_max (s : Sim w0 pass own0 π e h n a w) (tys : Array TypeId) (ty : TypeId) {x y : AV} {u v : Value} (hx : Rel w (ownOf own0 π) π n x u) (hy : Rel w (ownOf own0 π) π n y v)
    {K : Kont} (hk : sem .max [x, y] h n K) : Done P w0 pass own0 π n w (Builtin.max_ tys ty #[u, v]) K := by
  cases x <;> cases y <;> simp only [sem] at hk <;> first | exact hk.elim | skip
  cases hx; cases hy
  exact done_same s (by simp [Builtin.max_, Builtin.max2]) (.int _ _) hk
theorem snd_min (s : Sim w0 pass own0 π e h n a w) (tys : Array TypeId) (ty : TypeId) {x y : AV} {u v : Value} (hx : Rel w (ownOf own0 π) π n x u) (hy : Rel w (ownOf own0 π) π n y v)
    {K : Kont} (hk : sem .min [x, y] h n K) : Done P w0 pass own0 π n w (Builtin.min_ tys ty #[u, v]) K := by
  cases x <;> cases y <;> simp only [sem] at hk <;> first | exact hk.elim | skip
  cases hx; cases hy
  exact done_same s (by simp [Builtin.min_, Builtin.min2]) (.int _ _) hk
theorem snd_ext (s : Sim w0 pass own0 π e h n a w) (i : Nat) {x : AV} {u : Value} (hx : Rel w (ownOf own0 π) π n x u) {K : Kont} (hk : sem (.ext i) [x] h n K) : Done P w0 pass own0 π n w (Instr.extract u i) K := by
  cases x <;> simp only [sem] at hk <;> first | exact hk.elim | skip
  rename_i vs
  cases hc : vs[i]? with
  | none => simp [hc] at hk
  | some c =>
    simp only [hc] at hk
    cases hx with
    | tup _ cs hl hh =>
      have hlt : i < cs.size := by rw [hl]; exact (List.getElem?_eq_some_iff.1 hc).1
      have hu : cs[i]? = some cs[i] := Array.getElem?_eq_getElem hlt
      exact done_same s (v := cs[i]) (by simp [Instr.extract, hlt]) (hh _ _ _ hc hu) hk
end
section
variable {P : Program} {w0 : World} {pass own0 : Nat → Prop} {π : Pl} {e : Env} {h : Heap} {n : Nat} {a : Act} {w : World}
theorem run_app_room {t ty el : TypeId} {i : TypeInfo} (ht : P.underlying t = some (.slice el)) (hi : P.info? el = some i) (g sLen sCap : Nat) (cur : Array Value) (e' : TypeId)
    (hg : w.heap[g]? = some (.cells cur e' (0, 0))) (src : Value) (m : Nat) (news : List Value) (hlen : (Builtin.lenOf src).run P w = .ok m w) (hf : (Builtin.firstCells i.size m src).run P w = .ok news.toArray w)
    (h1 : ∀ u ∈ news, u.oneCell' = true) (hroom : sLen + m ≤ sCap) (hfit : sLen * i.size + news.length ≤ cur.size) :
    (Builtin.append_ #[t, t] ty #[.slice (some ⟨g, 0, none⟩) sLen sCap, src]).run P w =
      .ok (.slice (some ⟨g, 0, none⟩) (sLen + m) sCap) (w.setRow g (cur.toList.take (sLen * i.size) ++ news ++ cur.toList.drop (sLen * i.size + news.length)).toArray) := by
  have hst := run_storeCells_at P g (sLen * i.size) e' news 0 cur w hg (by simpa using hfit) h1
  simp only [Nat.add_zero] at hst
  simp [Builtin.append_, run_underlying ht, sizeOf, typeInfo, hi, hlen, hroom, hf, Addr.add_lit, hst]
theorem run_app_nil {t ty el : TypeId} {i : TypeInfo} (ht : P.underlying t = some (.slice el)) (hi : P.info? el = some i) (ad : Option Addr) (src : Value) (hlen : (Builtin.lenOf src).run P w = .ok 0 w)
    (hf : (Builtin.firstCells i.size 0 src).run P w = .ok #[] w) :
    (Builtin.append_ #[t, t] ty #[.slice ad 0 0, src]).run P w = .ok (.slice ad 0 0) w := by
  cases ad <;> simp [Builtin.append_, run_underlying ht, sizeOf, typeInfo, hi, hlen, hf, storeCells]
theorem run_app_grow {t ty el : TypeId} {i : TypeInfo} {z : Value} (ht : P.underlying t = some (.slice el)) (hi : P.info? el = some i) (hz : i.zero = some z)
    (base : Option Addr) (sLen sCap : Nat) (olds : List Value) (hold : (Builtin.firstCells i.size sLen (.slice base sLen sCap)).run P w.drew = .ok olds.toArray w.drew)
    (src : Value) (m : Nat) (news : List Value) (hlen : (Builtin.lenOf src).run P w = .ok m w) (hf : (Builtin.firstCells i.size m src).run P w.drew = .ok news.toArray w.drew)
    (hgr : sCap < sLen + m) (h63 : ((sLen + m : Nat) : Int) ≤ 9223372036854775807) (hfit : Builtin.nextslicecap (sLen + m) sCap * i.bytes ≤ 281474976710656) :
    (Builtin.append_ #[t, t] ty #[.slice base sLen sCap, src]).run P w =
      .ok (.slice (some ⟨w.heap.size, 0, none⟩) (sLen + m) (grownCap w (sLen + m) sCap el))
        (w.drew.alloc (.cells (olds.toArray ++ (news.toArray ++ Builtin.zeroCells z.cells (grownCap w (sLen + m) sCap el - (sLen + m)))) el)) := by
  have hn : ¬ (sLen + m ≤ sCap) := by omega
  have h63' : ¬ (9223372036854775807 < ((sLen : Int) + (m : Int))) := by omega
  have h48' : ¬ (281474976710656 < Builtin.nextslicecap (sLen + m) sCap * i.bytes) := by omega
  simp [Builtin.append_, run_underlying ht, sizeOf, typeInfo, zeroValue, hi, hz, hlen, hn, h63', h48', Question.forced, hold, hf, newRow, grownCap]
structure Src (P : Program) (w : World) (own : Nat → Prop) (π : Pl) (n s : Nat) (src : Value) (more : List (List AV)) (news : List Value) : Prop where
  len : ∀ w1 : World, (Builtin.lenOf src).run P w1 = .ok more.length w1
  first : ∀ w1 : World, w1.heap = w.heap → (Builtin.firstCells s more.length src).run P w1 = .ok news.toArray w1
  size : news.length = more.length * s
  one : ∀ u ∈ news, u.oneCell' = true
  rel : ∀ (i j : Nat) row x u, more[i]? = some row → row[j]? = some x → news[i * s + j]? = some u → Rel w own π n x u
  rowl : ∀ (i : Nat) row, more[i]? = some row → row.length = s
theorem src_nil (w : World) (own : Nat → Prop) (π : Pl) (n s : Nat) (ad : Option Addr) (c : Nat) : Src P w own π n s (.slice ad 0 c) [] [] where
  len w1 := by simp [Builtin.lenOf]
  first w1 _ := by cases ad <;> simp [Builtin.firstCells, loadCells, loadCellsFrom]
  size := by simp
  one := by simp
  rel := by simp
  rowl := by simp
theorem src_cells {own : Nat → Prop} {s g off c : Nat} {more : List (List AV)} (hs0 : 0 < s) (hfree : ∀ (i : Nat) row, more[i]? = some row → row.length = s)
    (hc : ∀ (i j : Nat) row x, more[i]? = some row → row[j]? = some x → ∃ u, w.cell? ⟨g, off + (i * s + j), none⟩ = some u ∧ Rel w own π n x u ∧ u.oneCell' = true) :
    ∃ news, Src P w own π n s (.slice (some ⟨g, off, none⟩) more.length c) more news := by
  have hrow : ∀ k : Nat, k < more.length * s → ∃ row x, more[k / s]? = some row ∧ row[k % s]? = some x := by
    intro k hk
    have h1 : k / s < more.length := by rw [Nat.div_lt_iff_lt_mul hs0]; exact hk
    have h2 := hfree _ _ (List.getElem?_eq_getElem h1)
    have h3 : k % s < (more[k / s]).length := by rw [h2]; exact Nat.mod_lt _ hs0
    exact ⟨_, _, List.getElem?_eq_getElem h1, List.getElem?_eq_getElem h3⟩
  have hex : ∀ k : Nat, ∃ u, k < more.length * s → w.cell? ⟨g, off + k, none⟩ = some u ∧ ∀ row x, more[k / s]? = some row → row[k % s]? = some x → Rel w own π n x u ∧ u.oneCell' = true := by
    intro k
    by_cases hk : k < more.length * s
    · obtain ⟨row, x, h1, h2⟩ := hrow k hk
      obtain ⟨u, h3, h4⟩ := hc _ _ row x h1 h2
      refine ⟨u, fun _ => ⟨?_, fun row' x' h1' h2' => ?_⟩⟩
      · rw [← h3, Nat.mul_comm, Nat.div_add_mod]
      · rw [h1] at h1'; cases h1'; rw [h2] at h2'; cases h2'; exact h4
    · exact ⟨Go.undef, fun h => absurd h hk⟩
  obtain ⟨f, hf⟩ := Classical.axiomOfChoice hex
  have hnews : ∀ (k : Nat) u, ((List.range (more.length * s)).map f)[k]? = some u → k < more.length * s ∧ u = f k := by
    intro k u hk
    simp only [List.getElem?_map, Option.map_eq_some_iff] at hk
    obtain ⟨q, hq, rfl⟩ := hk
    obtain ⟨h1, h2⟩ := List.getElem?_eq_some_iff.1 hq
    simp at h1 h2; subst h2; exact ⟨h1, rfl⟩
  refine ⟨(List.range (more.length * s)).map f, ⟨fun w1 => by simp [Builtin.lenOf], ?_, by simp, ?_, ?_, hfree⟩⟩
  · intro w1 hw1
    refine run_firstCells_some (P := P) w1 s more.length ⟨g, off, none⟩ more.length c _ (by simp) ?_
    intro j v hj
    obtain ⟨h1, rfl⟩ := hnews j v hj
    rw [Addr.add_lit, ← (hf j h1).1]
    simp [World.cell?, hw1]
  · intro u hu
    obtain ⟨k, hk⟩ := List.getElem?_of_mem hu
    obtain ⟨h1, rfl⟩ := hnews k u hk
    obtain ⟨row, x, g1, g2⟩ := hrow k h1
    exact ((hf k h1).2 row x g1 g2).2
  · intro i j row x u h1 h2 h3
    obtain ⟨h4, rfl⟩ := hnews _ u h3
    have hj : j < s := by rw [← hfree _ _ h1]; exact (List.getElem?_eq_some_iff.1 h2).1
    have e1 : (i * s + j) / s = i := by rw [Nat.add_comm, Nat.add_mul_div_right _ _ hs0, Nat.div_eq_of_lt hj, Nat.zero_add]
    have e2 : (i * s + j) % s = j := by rw [Nat.add_comm, Nat.add_mul_mod_self_right, Nat.mod_eq_of_lt hj]
    exact ((hf _ h4).2 row x (by rw [e1]; exact h1) (by rw [e2]; exact h2)).1
theorem one_of_free {own : Nat → Prop} (x : AV) (u : Value) (hf : x.free = true) (hr : Rel w own π n x u) : u.oneCell' = true :=
  (one_of_okc hr (okc_of_free (h := anyH) hf)).1
theorem src_of (s : Sim w0 pass own0 π e h n a w) {z : Nat} (hz0 : 0 < z) {x : AV} {v : Value} (hr : Rel w (ownOf own0 π) π n x v) {more : List (List AV)} (hm : rowsOf h x = some more) (hl : ∀ r ∈ more, r.length = z) :
    ∃ news, Src P w (ownOf own0 π) π n z v more news := by
  cases x <;> simp only [rowsOf] at hm <;> first | cases hm | skip
  · rename_i id off len
    split at hm
    · rename_i q rows ho
      split at hm
      · rename_i hle
        cases hm
        obtain ⟨_, p, hp, hq⟩ := s.hs.obj id _ ho
        obtain ⟨hsz, hfr, hbk⟩ := hq
        have hget : ∀ (i : Nat) row, (sub rows off len)[i]? = some row → i < len ∧ rows[off + i]? = some row := by
          intro i row hr
          rw [getElem?_sub] at hr
          split at hr
          · rename_i hi; exact ⟨hi, hr⟩
          · cases hr
        have hsl : (sub rows off len).length = len := length_sub _ _ _ hle
        cases hr with
        | refLive _ _ _ b cap p' hp' hb h1 h2 =>
          rw [hp] at hp'; cases hp'
          simp only [hb] at hbk
          obtain ⟨cur, e', g1, g2, g3, g4, g5⟩ := hbk
          by_cases hlen0 : len = 0
          · subst hlen0
            have : sub rows off 0 = [] := by simp [sub]
            rw [this]
            exact ⟨[], src_nil _ _ _ _ _ _ _⟩
          · have hqz : q = z := by
              have hlt : off < rows.length := by omega
              have h3 := (hfr off rows[off] (List.getElem?_eq_getElem hlt)).1
              rw [← h3]
              refine hl _ (List.mem_of_getElem? (i := 0) ?_)
              rw [getElem?_sub, if_pos (by omega)]
              exact List.getElem?_eq_getElem hlt
            subst hqz
            have := src_cells (P := P) (w := w) (own := ownOf own0 π) (π := π) (n := n) (g := b) (off := off * p.sz) (c := cap) (more := sub rows off len) hz0 (fun i row hr => (hfr _ row (hget i row hr).2).1)
              (fun i j row x hr hx => by
                have h3 := (hget i row hr).2
                have hj : j < q := by rw [← (hfr _ row h3).1]; exact (List.getElem?_eq_some_iff.1 hx).1
                have hlt : (off + i) * q + j < cur.size := by
                  rw [g2]; exact idx_lt (by have := (List.getElem?_eq_some_iff.1 h3).1; omega) hj
                have hrel := g5 _ j row x _ h3 hx (Array.getElem?_eq_getElem hlt)
                refine ⟨cur[(off + i) * q + j], ?_, hrel, one_of_free x _ ((hfr _ row h3).2 x (List.mem_of_getElem? hx)) hrel⟩
                rw [hsz, ← Nat.add_assoc, ← Nat.add_mul, cell_of_row w b _ cur e' (0, 0) g1]
                exact Array.getElem?_eq_getElem hlt)
            rwa [hsl] at this
        | refEnd _ _ o b p' hp' hb =>
          have : sub rows off 0 = [] := by simp [sub]
          rw [this]; exact ⟨[], src_nil _ _ _ _ _ _ _⟩
        | refNil _ ad p' hp' hb =>
          have : sub rows 0 0 = [] := by simp [sub]
          rw [this]; exact ⟨[], src_nil _ _ _ _ _ _ _⟩
        | refDead _ _ _ _ _ hd _ => rw [hp] at hd; cases hd
      · cases hm
    · cases hm
  · cases hr; exact ⟨[], src_nil _ _ _ _ _ _ _⟩
  · cases hr with
    | valNil => exact ⟨[], src_nil _ _ _ _ _ _ _⟩
    | val _ g off cap q us ho' hg hcp hm' hs hf hu hh =>
      by_cases hlen0 : more.length = 0
      · have := List.eq_nil_of_length_eq_zero hlen0
        subst this
        exact ⟨[], src_nil _ _ _ _ _ _ _⟩
      · have hq : q = z := by
          have hlt : 0 < more.length := by omega
          rw [← hs 0 more[0] (List.getElem?_eq_getElem hlt)]; exact hl _ (List.getElem_mem hlt)
        subst hq
        exact src_cells (P := P) hz0 (fun i row hr => hs i row hr) (fun i j row x hr hx => ⟨_, hu i j row x hr hx, hh i j row x hr hx, one_of_free x _ (hf i row x hr (List.mem_of_getElem? hx)) (hh i j row x hr hx)⟩)
theorem src_tmp {z : Nat} (hz0 : 0 < z) {x : AV} {v : Value} {own : Nat → Prop} (hr : Rel w own π n x v) {more : List (List AV)} (hm : x.rowsX = some more) (hl : ∀ r ∈ more, r.length = z) :
    ∃ news, Src P w own π n z v more news := by
  cases x <;> simp only [AV.rowsX] at hm <;> first | cases hm | skip
  cases hr with
  | tmp _ g off cap q us ho' hg hcp hm' hs hu h1 hh =>
    by_cases hlen0 : more.length = 0
    · have := List.eq_nil_of_length_eq_zero hlen0
      subst this
      exact ⟨[], ⟨fun w1 => by simp [Builtin.lenOf], fun w1 _ => by simp [Builtin.firstCells, loadCells, loadCellsFrom], by simp, by simp, by simp, by simp⟩⟩
    · have hq : q = z := by
        have hlt : 0 < more.length := by omega
        rw [← hs 0 more[0] (List.getElem?_eq_getElem hlt)]; exact hl _ (List.getElem_mem hlt)
      subst hq
      exact src_cells (P := P) hz0 (fun i row hr => hs i row hr) (fun i j row x hr hx => ⟨_, hu i j row x hr hx, hh i j row x hr hx, h1 i j row x hr hx⟩)
theorem rows_free_of (s : Sim w0 pass own0 π e h n a w) {x : AV} {v : Value} (hr : Rel w (ownOf own0 π) π n x v) {more : List (List AV)} (hm : rowsOf h x = some more) : ∀ (i : Nat) row, more[i]? = some row → ∀ y ∈ row, y.free = true := by
  cases x <;> simp only [rowsOf] at hm <;> first | cases hm | skip
  · rename_i id off len
    split at hm
    · rename_i q rows ho
      split at hm
      · cases hm
        obtain ⟨_, p, hp, hq⟩ := s.hs.obj id _ ho
        intro i row hr'
        rw [getElem?_sub] at hr'
        split at hr'
        · exact (hq.2.1 _ row hr').2
        · cases hr'
      · cases hm
    · cases hm
  · simp
  · cases hr with
    | valNil => simp
    | val _ g off cap q us ho' hg hcp hm' hs hf hu hh => exact fun i row hr' y hy => hf i row y hr' hy
theorem nst_of_arr {own : Nat → Prop} {id : Nat} {p : Place} {q : Nat} {rows : List (List AV)} (h : ArrAt w own π n p q rows) : NstAt w own π n id p q rows := by
  obtain ⟨h1, h2, h3⟩ := h
  refine ⟨h1, fun i row hr => (h2 i row hr).1, ?_⟩
  cases hb : p.blk with
  | none => simpa [hb] using h3
  | some b =>
    simp only [hb] at h3
    obtain ⟨cur, e, g1, g2, g3, g4, g5⟩ := h3
    refine ⟨cur, e, g1, g2, g3, g4, fun i j row x u a1 a2 a3 => (cellAt_lone ?_).2 (g5 i j row x u a1 a2 a3)⟩
    have := (h2 i row a1).2 x (List.mem_of_getElem? a2)
    cases x <;> first | rfl | (simp [AV.free] at this)
theorem arr_of_nst {own : Nat → Prop} {id : Nat} {p : Place} {q : Nat} {rows : List (List AV)} (h : NstAt w own π n id p q rows) (hf : ∀ (i : Nat) row, rows[i]? = some row → ∀ x ∈ row, x.free = true) : ArrAt w own π n p q rows := by
  obtain ⟨h1, h2, h3⟩ := h
  refine ⟨h1, fun i row hr => ⟨h2 i row hr, hf i row hr⟩, ?_⟩
  cases hb : p.blk with
  | none => simpa [hb] using h3
  | some b =>
    simp only [hb] at h3
    obtain ⟨cur, e, g1, g2, g3, g4, g5⟩ := h3
    refine ⟨cur, e, g1, g2, g3, g4, fun i j row x u a1 a2 a3 => (cellAt_lone ?_).1 (g5 i j row x u a1 a2 a3)⟩
    have := hf i row a1 x (List.mem_of_getElem? a2)
    cases x <;> first | rfl | (simp [AV.free] at this)
theorem app_cells {own : Nat → Prop} {s len id : Nat} {rows more : List (List AV)} {cells : List Value} (hold : rows.length = len)
    (h1 : ∀ (i j : Nat) row x u, rows[i]? = some row → row[j]? = some x → cells[i * s + j]? = some u → CellAt w own π n id i j x u)
    (h2 : ∀ (i j : Nat) row x u, more[i]? = some row → row[j]? = some x → cells[(len + i) * s + j]? = some u → Rel w own π n x u) :
    ∀ (i j : Nat) row x u, (rows ++ more)[i]? = some row → row[j]? = some x → cells[i * s + j]? = some u → CellAt w own π n id i j x u := by
  intro i j row x u hr hx hu
  rw [List.getElem?_append] at hr
  split at hr
  · exact h1 i j row x u hr hx hu
  · rename_i hge
    have hrel := h2 (i - len) j row x u (by rw [hold] at hr; exact hr) hx (by rw [show len + (i - len) = i by omega]; exact hu)
    refine (cellAt_lone ?_).2 hrel
    cases x <;> first | rfl | cases hrel
theorem rows_len {s : Nat} {rs more : List (List AV)} (h1 : ∀ (i : Nat) row, rs[i]? = some row → row.length = s) (h2 : ∀ (i : Nat) row, more[i]? = some row → row.length = s) :
    ∀ (i : Nat) row, (rs ++ more)[i]? = some row → row.length = s := by
  intro i row hr
  rw [List.getElem?_append] at hr
  split at hr
  · exact h1 i row hr
  · exact h2 _ row hr
def AppDone (P : Program) (own0 : Nat → Prop) (π : Pl) (h : Heap) (n : Nat) (w : World) (kill : Option Nat) (z len : Nat) (rows : List (List AV)) (m : Sem Value) : Prop :=
  ∃ v w' p, m.run P w = .ok v w' ∧ Adds own0 π h n w kill p w' ∧ NstAt w' (ownOf own0 (plAdd π kill n p)) (plAdd π kill n p) (n + 1) n p z rows ∧ Rel w' (ownOf own0 (plAdd π kill n p)) (plAdd π kill n p) (n + 1) (.ref n 0 len) v
theorem app_grow (s : Sim w0 pass own0 π e h n a w) {t ty el : TypeId} {z b : Nat} {zero : List AV} (ht : cElem P t = some el) (hz : cSize P el = some z) (hb : cBytes P el = some b) (hzero : cZero P el = some zero) (hzl : zero.length = z) (hz0 : 0 < z)
    (kill : Option Nat) (base : Option Addr) (sLen sCap : Nat) (rs : List (List AV)) (hrs : rs.length = sLen) (hrf : ∀ (i : Nat) row, rs[i]? = some row → row.length = z)
    (olds : List Value) (hol : olds.length = sLen * z) (hold : (Builtin.firstCells z sLen (.slice base sLen sCap)).run P w.drew = .ok olds.toArray w.drew) (id : Nat) (hkill : kill = some id ∨ rs = [])
    (hor : ∀ (i j : Nat) row x u, rs[i]? = some row → row[j]? = some x → olds[i * z + j]? = some u → CellAt w (ownOf own0 π) π n id i j x u)
    {src : Value} {more : List (List AV)} {news : List Value} (S : Src P w (ownOf own0 π) π n z src more news) (hgr : sCap < sLen + more.length)
    (hbytes : (sLen + more.length) * b ≤ 140737488355328) (hm : sLen + more.length ≤ 140737488355328) :
    AppDone P own0 π h n w kill z (sLen + more.length) (rs ++ more) (Builtin.append_ #[t, t] ty #[.slice base sLen sCap, src]) := by
  obtain ⟨inf, zv, hi, hzv, hcv⟩ := cZero_spec hzero
  have hz' : inf.size = z := by simpa [cSize, hi] using hz
  have hb' : inf.bytes = b := by simpa [cBytes, hi] using hb
  subst hz'; subst hb'
  obtain ⟨g1, _⟩ := rel_zero (w := w) (own := ownOf own0 π) (π := π) (n := n) hcv
  have hr := run_app_grow (P := P) (w := w) (ty := ty) (cElem_eq ht) hi hzv base sLen sCap olds hold src more.length news (S.len w) (S.first w.drew rfl) hgr (by omega) (growslice_fits hgr hbytes)
  have hge := grownCap_ge w (sLen + more.length) sCap el
  have hcm := grownCap_le_maxLen w (sLen + more.length) sCap el (by simp only [maxLen]; omega)
  have A0 := adds_new s.hs (.cells (olds.toArray ++ (news.toArray ++ Builtin.zeroCells zv.cells (grownCap w (sLen + more.length) sCap el - (sLen + more.length)))) el) w.drew (.inr rfl) inf.size (grownCap w (sLen + more.length) sCap el)
  have A : Adds own0 π h n w kill ⟨some w.heap.size, inf.size, grownCap w (sLen + more.length) sCap el⟩ _ := ⟨A0.hs, A0.size, A0.os, A0.tape, A0.output, .inr (.inl rfl), A0.kept⟩
  have hlen : (rs ++ more).length = sLen + more.length := by rw [List.length_append, hrs]
  refine ⟨_, _, _, hr, A, ?_, ref_own _ _ _ _ _ _ _ _ rfl _ hge (Nat.le_refl _)⟩
  refine ⟨rfl, rows_len hrf S.rowl, _, el, heap_alloc_new w.drew _, ?_, (by rw [hlen]; exact ⟨hge, hm⟩), hcm, ?_⟩
  · simp only [Array.size_append, List.size_toArray, size_zeroCells, g1, hzl, hol, S.size, ← Nat.add_mul]
    congr 1; omega
  · intro i j row x u hr' hx hu
    have hi' : i < sLen + more.length := by rw [← hlen]; exact (List.getElem?_eq_some_iff.1 hr').1
    have hj : j < inf.size := by rw [← rows_len hrf S.rowl i row hr']; exact (List.getElem?_eq_some_iff.1 hx).1
    have hlt := idx_lt hi' hj
    have hu' : (olds ++ news)[i * inf.size + j]? = some u := by
      rw [← Array.append_assoc, Array.getElem?_append_left (by simp [hol, S.size, ← Nat.add_mul]; omega)] at hu
      simpa using hu
    refine app_cells (cells := olds ++ news) hrs ?_ ?_ i j row x u hr' hx hu'
    · intro i j row x u h1 h2 h3
      have hi1 : i < sLen := by rw [← hrs]; exact (List.getElem?_eq_some_iff.1 h1).1
      have hj1 : j < inf.size := by rw [← hrf i row h1]; exact (List.getElem?_eq_some_iff.1 h2).1
      rcases hkill with hkill | hkill
      · refine CellAt.mono A.mono (hor i j row x u h1 h2 ?_) (fun k hk => ⟨A.kept k (s.hs.hid k _ hk).2.1 (A.ne_hid hk), ?_⟩)
        · rw [List.getElem?_append_left (by rw [hol]; exact idx_lt hi1 hj1)] at h3
          exact h3
        · show (π.hid k).map _ = _
          rw [hk, Option.map_some, if_pos hkill]
      · rw [hkill] at h1; simp at h1
    · intro i j row x u h1 h2 h3
      refine Rel.mono A.mono (S.rel i j row x u h1 h2 ?_)
      rw [List.getElem?_append_right (by rw [hol, Nat.add_mul]; omega), hol, Nat.add_mul] at h3
      rw [show i * inf.size + j = sLen * inf.size + i * inf.size + j - sLen * inf.size by omega]
      exact h3
theorem app_ref (s : Sim w0 pass own0 π e h n a w) {t ty el : TypeId} {z b : Nat} {zero : List AV} (ht : cElem P t = some el) (hz : cSize P el = some z) (hb : cBytes P el = some b) (hzero : cZero P el = some zero) (hzl : zero.length = z) (hz0 : 0 < z)
    {id len : Nat} {u v : Value} (hx : Rel w (ownOf own0 π) π n (.ref id 0 len) u) {p : Place} (hp : π id = some p) {rows : List (List AV)} (hq : NstAt w (ownOf own0 π) π n id p z rows) (hle : len ≤ rows.length)
    {more : List (List AV)} {news : List Value} (S : Src P w (ownOf own0 π) π n z v more news) (hbytes : (len + more.length) * b ≤ 140737488355328) (hm : len + more.length ≤ 140737488355328) :
    AppDone P own0 π h n w (some id) z (len + more.length) (rows.take len ++ more) (Builtin.append_ #[t, t] ty #[u, v]) := by
  obtain ⟨inf, zv, hi, hzv, hcv⟩ := cZero_spec hzero
  have hz' : inf.size = z := by simpa [cSize, hi] using hz
  obtain ⟨hsz, hfr, hbk⟩ := hq
  have htl : (rows.take len).length = len := by simp [List.length_take]; omega
  have htf : ∀ (i : Nat) row, (rows.take len)[i]? = some row → row.length = z := by
    intro i row hr
    rw [List.getElem?_take] at hr
    split at hr
    · exact hfr i row hr
    · cases hr
  cases hx with
  | refLive _ _ _ blk cap p' hp' hbl h1 h2 =>
    rw [hp] at hp'; cases hp'
    simp only [hbl] at hbk
    obtain ⟨cur, e', g1, g2, g3, g4, g5⟩ := hbk
    have hcell : ∀ (i j : Nat) row x u, (rows.take len)[i]? = some row → row[j]? = some x → cur[i * z + j]? = some u → CellAt w (ownOf own0 π) π n id i j x u := by
      intro i j row x u hr hx hu
      rw [List.getElem?_take] at hr
      split at hr
      · exact g5 i j row x u hr hx hu
      · cases hr
    have hlc : len * z ≤ cur.size := by rw [g2]; exact Nat.mul_le_mul_right _ (by omega)
    by_cases hroom : len + more.length ≤ cap
    · have hfit : len * z + news.length ≤ cur.size := by rw [S.size, g2, ← Nat.add_mul]; exact Nat.mul_le_mul_right _ (by omega)
      have hr := run_app_room (P := P) (w := w) (ty := ty) (cElem_eq ht) hi blk len cap cur e' g1 v more.length news (S.len w) (by rw [hz']; exact S.first w rfl) S.one hroom (by rw [hz']; exact hfit)
      rw [hz'] at hr
      have A : Adds own0 π h n w (some id) p (w.setRow blk (cur.toList.take (len * z) ++ news ++ cur.toList.drop (len * z + news.length)).toArray) :=
        ⟨s.hs, by simp [World.setRow], rfl, ⟨rfl, .inl (Nat.le_refl _)⟩, rfl, .inr (.inr ⟨id, p, rfl, hp, rfl⟩), fun k _ hk => setRow_other w blk k _ (fun e => hk (e ▸ hbl))⟩
      have hrow := setRow_heap w blk cur ((cur.toList.take (len * z) ++ news ++ cur.toList.drop (len * z + news.length)).toArray) e' _ g1
      refine ⟨_, _, _, by rw [Nat.zero_mul]; exact hr, A, ?_, ref_own _ _ _ _ _ _ _ _ hbl _ hroom (by omega)⟩
      refine ⟨hsz, rows_len htf S.rowl, ?_⟩
      simp only [hbl]
      refine ⟨_, e', hrow, ?_, by rw [List.length_append, htl]; omega, g4, ?_⟩
      · simp only [List.size_toArray, List.length_append, List.length_take, List.length_drop, Array.length_toList]; omega
      · intro i j row x u hr' hx' hu'
        have hu2 : (cur.toList.take (len * z) ++ news ++ cur.toList.drop (len * z + news.length))[i * z + j]? = some u := by simpa using hu'
        refine app_cells htl ?_ ?_ i j row x u hr' hx' hu2
        · intro i j row x u k1 k2 k3
          have hi1 : i < len := by rw [← htl]; exact (List.getElem?_eq_some_iff.1 k1).1
          have hj1 : j < z := by rw [← htf i row k1]; exact (List.getElem?_eq_some_iff.1 k2).1
          rw [getElem?_splice _ _ _ _ (by simpa using hfit), if_pos (idx_lt hi1 hj1)] at k3
          refine CellAt.mono A.mono (hcell i j row x u k1 k2 (by simpa using k3)) (fun k hk => ⟨A.kept k (s.hs.hid k _ hk).2.1 (A.ne_hid hk), ?_⟩)
          show (π.hid k).map _ = _
          rw [hk, Option.map_some, if_pos rfl]
        · intro i j row x u k1 k2 k3
          have hi1 : i < more.length := (List.getElem?_eq_some_iff.1 k1).1
          have hj1 : j < z := by rw [← S.rowl i row k1]; exact (List.getElem?_eq_some_iff.1 k2).1
          have := idx_lt hi1 hj1
          rw [getElem?_splice _ _ _ _ (by simpa using hfit), Nat.add_mul, if_neg (by omega), S.size, if_pos (by omega)] at k3
          refine Rel.mono A.mono (S.rel i j row x u k1 k2 ?_)
          rw [← k3]; congr 1; omega
    · refine app_grow s ht hz hb hzero hzl hz0 (some id) (some ⟨blk, 0 * p.sz, none⟩) len cap (rows.take len) htl htf (cur.toList.take (len * z)) (by simp; omega) ?_ id (.inl rfl) ?_ S (by omega) hbytes hm
      · rw [Nat.zero_mul]
        refine run_firstCells_some (P := P) w.drew z len ⟨blk, 0, none⟩ len cap _ (by simp; omega) (fun j u hj => ?_)
        rw [Addr.add_lit, Nat.zero_add, cell_of_row w.drew blk j cur e' (0, 0) g1]
        rw [List.getElem?_take] at hj
        split at hj
        · simpa using hj
        · cases hj
      · intro i j row x u k1 k2 k3
        rw [List.getElem?_take] at k3
        split at k3
        · exact hcell i j row x u k1 k2 (by simpa using k3)
        · cases k3
  | refEnd _ _ o' blk p' hp' hbl =>
    rw [hp] at hp'; cases hp'
    by_cases hm0 : more.length = 0
    · have : more = [] := List.eq_nil_of_length_eq_zero hm0
      subst this
      have hr := run_app_nil (P := P) (w := w) (ty := ty) (cElem_eq ht) hi (some ⟨blk, o', none⟩) v (S.len w) (by
        have := S.first w rfl
        have hn : news = [] := List.eq_nil_of_length_eq_zero (by rw [S.size]; simp)
        rw [hn] at this
        rw [hz']; exact this)
      have A : Adds own0 π h n w (some id) p w := ⟨s.hs, Nat.le_refl _, rfl, ⟨rfl, .inl (Nat.le_refl _)⟩, rfl, .inr (.inr ⟨id, p, rfl, hp, rfl⟩), fun _ _ _ => rfl⟩
      refine ⟨_, _, _, hr, A, ?_, ?_⟩
      · refine ⟨hsz, by simp, ?_⟩
        simp only [hbl] at hbk ⊢
        obtain ⟨cur, e', g1, g2, g3, g4, g5⟩ := hbk
        exact ⟨cur, e', g1, g2, by simp, g4, by simp⟩
      · exact .refEnd n 0 o' blk p (by simp [plAdd]) hbl
    · have := app_grow s ht hz hb hzero hzl hz0 (ty := ty) (some id) (some ⟨blk, o', none⟩) 0 0 [] rfl (by simp) [] (by simp) (by simp [Builtin.firstCells, loadCells, loadCellsFrom]) id (.inl rfl) (by simp) S (by omega) hbytes hm
      simpa using this
  | refNil _ ad p' hp' hbl =>
    rw [hp] at hp'; cases hp'
    by_cases hm0 : more.length = 0
    · have : more = [] := List.eq_nil_of_length_eq_zero hm0
      subst this
      have hr := run_app_nil (P := P) (w := w) (ty := ty) (cElem_eq ht) hi ad v (S.len w) (by
        have := S.first w rfl
        have hn : news = [] := List.eq_nil_of_length_eq_zero (by rw [S.size]; simp)
        rw [hn] at this
        rw [hz']; exact this)
      have A : Adds own0 π h n w (some id) p w := ⟨s.hs, Nat.le_refl _, rfl, ⟨rfl, .inl (Nat.le_refl _)⟩, rfl, .inl hbl, fun _ _ _ => rfl⟩
      refine ⟨_, _, _, hr, A, ?_, ?_⟩
      · exact ⟨hsz, by simp, by simp [hbl]⟩
      · exact .refNil n ad p (by simp [plAdd]) hbl
    · have := app_grow s ht hz hb hzero hzl hz0 (ty := ty) (some id) ad 0 0 [] rfl (by simp) [] (by simp) (by cases ad <;> simp [Builtin.firstCells, loadCells, loadCellsFrom]) id (.inl rfl) (by simp) S (by omega) hbytes hm
      simpa using this
  | refDead _ _ _ _ _ hd _ => rw [hp] at hd; cases hd
theorem snd_app (s : Sim w0 pass own0 π e h n a w) {t ty el : TypeId} {z b : Nat} {zero : List AV} (ht : cElem P t = some el) (hz : cSize P el = some z) (hb : cBytes P el = some b) (hzero : cZero P el = some zero) (hzl : zero.length = z) (hz0 : 0 < z)
    {x y : AV} {u v : Value} (hx : Rel w (ownOf own0 π) π n x u) (hy : Rel w (ownOf own0 π) π n y v) {K : Kont} (hk : sem (.app z b) [x, y] h n K) : Done P w0 pass own0 π n w (Builtin.append_ #[t, t] ty #[u, v]) K := by
  obtain ⟨inf, zv, hi, hzv, hcv⟩ := cZero_spec hzero
  have hz' : inf.size = z := by simpa [cSize, hi] using hz
  cases x <;> simp only [sem] at hk <;> first | exact hk.elim | skip
  · rename_i id off len
    obtain ⟨rfl, hk⟩ := hk
    split at hk
    · rename_i q rows more hid hmore
      obtain ⟨rfl, hle, hml, hbytes, hm, hk⟩ := hk
      obtain ⟨news, S⟩ := src_of (P := P) s hz0 hy hmore hml
      obtain ⟨_, p, hp, hq⟩ := s.hs.obj id _ hid
      rw [← hpAdd_some] at hk
      obtain ⟨v', w', p', k1, A, k2, k3⟩ := app_ref s ht hz hb hzero hzl hz0 (ty := ty) hx hp (nst_of_arr (id := id) hq) hle S hbytes hm
      refine ⟨_, _, _, _, _, _, k1, A.go s.fr (o := .arr q (rows.take len ++ more)) (arr_of_nst k2 ?_), k3, hk⟩
      intro i row hr y hy'
      rw [List.getElem?_append] at hr
      split at hr
      · rw [List.getElem?_take] at hr
        split at hr
        · exact (hq.2.1 i row hr).2 y hy'
        · cases hr
      · exact rows_free_of s hy hmore _ row hr y hy'
    · rename_i o hid hno
      split at hk
      · rename_i q rows more hox hmore
        obtain ⟨rfl, hle, hml, hbytes, hm, hk⟩ := hk
        obtain ⟨news, S⟩ := src_tmp (P := P) hz0 hy hmore hml
        obtain ⟨_, p, hp, hq⟩ := s.hs.obj id _ hid
        rw [← hpAdd_some] at hk
        have hq' : NstAt w (ownOf own0 π) π n id p q rows := by
          cases o with
          | box row => cases hox
          | arr q' rows' => cases hox; exact nst_of_arr hq
          | nst q' rows' => cases hox; exact hq.1
          | arx q' rows' => cases hox; exact hq
          | map _ _ => cases hox
          | itr _ _ _ => cases hox
        obtain ⟨v', w', p', k1, A, k2, k3⟩ := app_ref s ht hz hb hzero hzl hz0 (ty := ty) hx hp hq' hle S hbytes hm
        exact ⟨_, _, _, _, _, _, k1, A.go s.fr (o := .arx q (rows.take len ++ more)) k2, k3, hk⟩
      · exact hk.elim
    · exact hk.elim
  · split at hk
    · rename_i more hmore
      obtain ⟨hml, hbytes, hm, hk⟩ := hk
      obtain ⟨news, S⟩ := src_of (P := P) s hz0 hy hmore hml
      rw [← hpAdd_none] at hk
      obtain ⟨ad, rfl⟩ : ∃ ad, u = Value.slice ad 0 0 := by cases hx with | snil ad => exact ⟨ad, rfl⟩
      by_cases hm0 : more.length = 0
      · have : more = [] := List.eq_nil_of_length_eq_zero hm0
        subst this
        have hr := run_app_nil (P := P) (w := w) (ty := ty) (cElem_eq ht) hi ad v (S.len w) (by
          have := S.first w rfl
          have hn : news = [] := List.eq_nil_of_length_eq_zero (by rw [S.size]; simp)
          rw [hn] at this
          rw [hz']; exact this)
        have A : Adds own0 π h n w none ⟨none, z, 0⟩ w := ⟨s.hs, Nat.le_refl _, rfl, ⟨rfl, .inl (Nat.le_refl _)⟩, rfl, .inl rfl, fun _ _ _ => rfl⟩
        refine ⟨_, _, _, _, _, _, hr, A.go s.fr (o := .arr z []) ?_, ?_, hk⟩
        · exact ⟨rfl, by simp, rfl⟩
        · exact .refNil n ad ⟨none, z, 0⟩ (by simp [plAdd]) rfl
      · obtain ⟨v', w', p', k1, A, k2, k3⟩ := app_grow s ht hz hb hzero hzl hz0 (ty := ty) none ad 0 0 [] rfl (by simp) [] (by simp) (by cases ad <;> simp [Builtin.firstCells, loadCells, loadCellsFrom]) 0 (.inr rfl) (by simp) S (by omega) (by simpa using hbytes) (by simpa using hm)
        exact ⟨_, _, _, _, _, _, k1, A.go s.fr (o := .arr z more) (arr_of_nst (by simpa using k2) (rows_free_of s hy hmore)), k3, by simpa using hk⟩
    · exact hk.elim
end
section
variable {P : Program} {w0 : World} {pass own0 : Nat → Prop} {π : Pl} {e : Env} {h : Heap} {n : Nat} {a : Act} {w : World}
def OpDone (P : Program) (w0 : World) (pass own0 : Nat → Prop) (π : Pl) (n : Nat) (w : World) (m : Sem Next) (K : Kont) : Prop :=
  ∃ nx v w' π' x h' n', m.run P w = .ok nx w' ∧ nextVal nx = some v ∧ Go1 w0 pass own0 π n w π' h' n' w' ∧ Rel w' (ownOf own0 π') π' n' x v ∧ K x h' n'
theorem opDone_value {m : Sem Value} {K : Kont} (hd : Done P w0 pass own0 π n w m K) : OpDone P w0 pass own0 π n w (do pure (.value (← m))) K := by
  obtain ⟨v, w', π', x, h', n', h1, h2, h3, h4⟩ := hd
  exact ⟨.value v, v, w', π', x, h', n', by simp [h1], rfl, h2, h3, h4⟩
theorem opDone_pure (s : Sim w0 pass own0 π e h n a w) {K : Kont} {v : Value} {x : AV} (hx : Rel w (ownOf own0 π) π n x v) (hk : K x h n) : OpDone P w0 pass own0 π n w (pure (.value v)) K :=
  ⟨.value v, v, w, π, x, h, n, by simp, rfl, s.stay, hx, hk⟩
theorem free_cVals : ∀ (vs : List Value) (xs : List AV), cVals vs = some xs → ∀ x ∈ xs, x.free = true
  | [], xs, hc => by cases hc; simp
  | v :: r, xs, hc => by
    unfold cVals at hc
    split at hc
    · rename_i x y h1 h2
      cases hc
      intro z hz
      rcases List.mem_cons.1 hz with rfl | hz
      · unfold cVal1 at h1
        split at h1 <;> first | cases h1; rfl | cases h1
      · exact free_cVals r y h2 z hz
    · cases hc
theorem free_zero {t : TypeId} {z : List AV} (hz : cZero P t = some z) : ∀ x ∈ z, x.free = true := by
  obtain ⟨_, _, _, _, h⟩ := cZero_spec hz
  exact free_cVals _ _ h
theorem map_some {α β : Type} {f : α → β} {o : Option α} {b : β} (h : o.map f = some b) : ∃ x, o = some x ∧ f x = b := Option.map_eq_some_iff.1 h
theorem op_done (s : Sim w0 pass own0 π e h n a w) {o : Oper} {tag : Tag} {args : List Opd} (hc : cOp P o.op = some (tag, args)) {K : Kont} (hk : sem tag (args.map (Opd.ev e)) h n K) :
    OpDone P w0 pass own0 π n w (execOp a.eval o) K := by
  unfold execOp
  cases hop : o.op <;> simp only [hop, cOp] at hc ⊢ <;> first | (cases hc; done) | skip
  case move x =>
    obtain ⟨l, h1, h2⟩ := map_some hc
    cases h2
    obtain ⟨y, rfl, hy⟩ := cOpds1 h1
    simp only [List.map_cons, List.map_nil, sem] at hk
    exact opDone_pure s (rel_opd s hy) hk
  case assign x =>
    obtain ⟨l, h1, h2⟩ := map_some hc
    cases h2
    obtain ⟨y, rfl, hy⟩ := cOpds1 h1
    simp only [List.map_cons, List.map_nil, sem] at hk
    exact opDone_pure s (rel_opd s hy) hk
  case pick c x y =>
    obtain ⟨l, h1, h2⟩ := map_some hc
    cases h2
    obtain ⟨c', x', y', rfl, hc', hx', hy'⟩ := cOpds3 h1
    have r1 := rel_opd s hc'
    have r2 := rel_opd s hx'
    have r3 := rel_opd s hy'
    simp only [List.map_cons, List.map_nil] at hk
    generalize Opd.ev e c' = cc at r1 hk
    generalize a.eval c = cv at r1 ⊢
    cases cc <;> simp only [sem] at hk <;> first | exact hk.elim | skip
    rename_i b
    cases r1
    cases b with
    | true => exact ⟨.value (a.eval x), _, w, π, _, h, n, by simp [asBool], rfl, s.stay, r2, hk.1 rfl⟩
    | false => exact ⟨.value (a.eval y), _, w, π, _, h, n, by simp [asBool], rfl, s.stay, r3, hk.2 rfl⟩
  case alloc t =>
    obtain ⟨z, h1, h2⟩ := map_some hc
    cases h2
    obtain ⟨inf, zv, hi, hzv, hcv⟩ := cZero_spec h1
    simp only [List.map_nil, sem] at hk
    obtain ⟨g1, g2⟩ := rel_zero (w := w) (own := ownOf own0 π) (π := π) (n := n) hcv
    have := snd_var (P := P) s t (K := K) g1 g2 hk
    refine opDone_value ?_
    obtain ⟨v, w', π', x, h', n', q1, q2⟩ := this
    refine ⟨v, w', π', x, h', n', ?_, q2⟩
    simpa [Instr.alloc, zeroValue, typeInfo, hi, hzv] using q1
  case box t x =>
    split at hc
    · rename_i z hz
      obtain ⟨l, h1, h2⟩ := map_some hc
      cases h2
      obtain ⟨y, rfl, hy⟩ := cOpds1 h1
      simp only [List.map_cons, List.map_nil, sem] at hk
      obtain ⟨hl, hok, hk⟩ := hk
      obtain ⟨c1, c2, _⟩ := rel_cells (rel_opd s hy) hok
      refine opDone_value ?_
      simpa [Instr.box] using snd_var (P := P) s t (K := K) c1 c2 hk
    · cases hc
  case build t parts =>
    refine opDone_value ?_
    split at hc
    · rename_i fs z hu hz
      split at hc
      · rename_i all hall
        split at hc
        · rename_i ps hps
          obtain ⟨l, h1, h2⟩ := map_some hc
          cases h2
          refine snd_bld s hz hps h1 ?_ hk
          intro zv ps' cells hzv hf
          unfold Program.built
          cases hi : P.info? t with
          | none => simp [hi] at hzv
          | some inf =>
            simp only [hi, Option.bind_some] at hzv
            unfold cFields at hall
            simp only [hu, hzv, hall]
            simpa using hf
        · cases hc
      · cases hc
    · rename_i m el z hu hz
      split at hc
      · rename_i sz hsz
        split at hc
        · rename_i ps hps
          obtain ⟨l, h1, h2⟩ := map_some hc
          cases h2
          refine snd_bld s hz hps h1 ?_ hk
          intro zv ps' cells hzv hf
          unfold Program.built
          unfold cSize at hsz
          obtain ⟨ie, hie, rfl⟩ := map_some hsz
          cases hi : P.info? t with
          | none => simp [hi] at hzv
          | some inf =>
            simp only [hi, Option.bind_some] at hzv
            simp only [hu, hzv, hie]
            exact hf
        · cases hc
      · cases hc
    · cases hc
  case buildSlice t len parts =>
    refine opDone_value ?_
    split at hc
    · rename_i el hel
      split at hc
      · rename_i z hz
        split at hc
        · rename_i hcond
          obtain ⟨l, h1, h2⟩ := map_some hc
          cases h2
          exact snd_bsl s hel hz hcond.1 hcond.2.1 hcond.2.2.1 hcond.2.2.2 h1 hk
        · cases hc
      · cases hc
    · cases hc
  case load t x =>
    refine opDone_value ?_
    split at hc
    · rename_i z ha hz
      obtain ⟨l, h1, h2⟩ := map_some hc
      cases h2
      obtain ⟨y, rfl, hy⟩ := cOpds1 h1
      have r1 := rel_opd s hy
      simp only [List.map_cons, List.map_nil] at hk
      generalize Opd.ev e y = yy at r1 hk
      cases yy <;> simp only [sem] at hk <;> first | exact hk.elim | skip
      · rename_i id i off
        split at hk
        · rename_i row ho
          obtain ⟨rfl, hl, hk⟩ := hk
          exact snd_ldn s ha hz r1 (row := row) (off := off) (by simp [rowOf, ho, AObj.rowAt]) hl (by omega) (fun c hc => by simp [okRow, ho, AObj.plain]) hk
        · rename_i q rows ho
          split at hk
          · rename_i row hr
            exact snd_ldn s ha hz r1 (row := row) (off := off) (by simp [rowOf, ho, AObj.rowAt, hr]) hk.1 (by omega) (fun c hc => by simp [okRow, ho, AObj.plain]) hk.2
          · exact hk.elim
        · rename_i q rows ho
          split at hk
          · rename_i row hr
            refine snd_ldn s ha hz r1 (row := row) (off := off) (by simp [rowOf, ho, AObj.rowAt, hr]) hk.1 (by omega) (fun c hc => ?_) hk.2.2
            have hf := hk.2.1 c hc
            simp only [okRow, ho]
            exact .inr (by cases c <;> first | rfl | (simp [AV.free] at hf))
          · exact hk.elim
        · rename_i q rows ho
          split at hk
          · rename_i row hr
            exact snd_ldn s ha hz r1 (row := row) (off := off) (by simp [rowOf, ho, AObj.rowAt, hr]) hk.1 (by omega) (fun c hc => by simp only [okRow, ho]; exact .inr (hk.2.1 c hc)) hk.2.2
          · exact hk.elim
        · exact hk.elim
      · exact snd_ldn s ha hz r1 rfl hk.1 (by omega) (fun c hc => trivial) hk.2
    · rename_i z ha hz
      obtain ⟨l, h1, h2⟩ := map_some hc
      cases h2
      obtain ⟨y, rfl, hy⟩ := cOpds1 h1
      have r1 := rel_opd s hy
      simp only [List.map_cons, List.map_nil] at hk
      generalize Opd.ev e y = yy at r1 hk
      cases yy <;> simp only [sem] at hk <;> first | exact hk.elim | skip
      · rename_i id i off
        split at hk
        · rename_i row ho
          obtain ⟨rfl, hk⟩ := hk
          split at hk
          · rename_i c hcc
            exact snd_ld1 s ha r1 (row := row) (off := off) (by simp [rowOf, ho, AObj.rowAt]) hcc (by simp [okRow, ho, AObj.plain]) hk
          · exact hk.elim
        · rename_i q rows ho
          split at hk
          · rename_i row hr
            split at hk
            · rename_i c hcc
              exact snd_ld1 s ha r1 (row := row) (off := off) (by simp [rowOf, ho, AObj.rowAt, hr]) hcc (by simp [okRow, ho, AObj.plain]) hk
            · exact hk.elim
          · exact hk.elim
        · rename_i q rows ho
          split at hk
          · rename_i row hr
            split at hk
            · rename_i c hcc
              have hf := hk.1
              exact snd_ld1 s ha r1 (row := row) (off := off) (by simp [rowOf, ho, AObj.rowAt, hr]) hcc (by simp only [okRow, ho]; exact .inr (by cases c <;> first | rfl | (simp [AV.free] at hf))) hk.2
            · exact hk.elim
          · exact hk.elim
        · rename_i q rows ho
          split at hk
          · rename_i row hr
            split at hk
            · rename_i c hcc
              exact snd_ld1 s ha r1 (row := row) (off := off) (by simp [rowOf, ho, AObj.rowAt, hr]) hcc (by simp only [okRow, ho]; exact .inr hk.1) hk.2
            · exact hk.elim
          · exact hk.elim
        · exact hk.elim
      · split at hk
        · rename_i c hcc
          exact snd_ld1 s ha r1 rfl hcc trivial hk
        · exact hk.elim
    · cases hc
  case store t x v =>
    split at hc
    · rename_i z hz
      obtain ⟨l, h1, h2⟩ := map_some hc
      cases h2
      obtain ⟨y, y', rfl, hy, hy'⟩ := cOpds2 h1
      have r1 := rel_opd s hy
      have r2 := rel_opd s hy'
      simp only [List.map_cons, List.map_nil] at hk
      generalize Opd.ev e y = yy at r1 hk
      generalize Opd.ev e y' = yv at r2 hk
      cases yy <;> simp only [sem] at hk <;> first | exact hk.elim | skip
      rename_i id i off
      obtain ⟨hl, hok, hk⟩ := hk
      split at hk
      · rename_i row ho
        obtain ⟨rfl, hlen, hk⟩ := hk
        obtain ⟨w', q1, q2⟩ := snd_st s hz r1 r2 hl (by omega) hok ho (row := row) (by simp [AObj.rowAt]) hlen _ rfl trivial
        exact ⟨.skip, Go.undef, w', π, .undef, _, n, by simp [q1], rfl, q2, .undef, hk⟩
      · rename_i q rows ho
        split at hk
        · rename_i row hr
          obtain ⟨hlen, hfree, hk⟩ := hk
          obtain ⟨w', q1, q2⟩ := snd_st s hz r1 r2 hl (by omega) hok ho (row := row) hr hlen _ rfl hfree
          exact ⟨.skip, Go.undef, w', π, .undef, _, n, by simp [q1], rfl, q2, .undef, hk⟩
        · exact hk.elim
      · rename_i q rows ho
        split at hk
        · rename_i row hr
          obtain ⟨hlen, hfree, hk⟩ := hk
          obtain ⟨w', q1, q2⟩ := snd_st s hz r1 r2 hl (by omega) hok ho (row := row) hr hlen _ rfl hfree
          exact ⟨.skip, Go.undef, w', π, .undef, _, n, by simp [q1], rfl, q2, .undef, hk⟩
        · exact hk.elim
      · rename_i q rows ho
        split at hk
        · rename_i row hr
          obtain ⟨hlen, hk⟩ := hk
          obtain ⟨w', q1, q2⟩ := snd_st s hz r1 r2 hl (by omega) hok ho (row := row) hr hlen _ rfl trivial
          exact ⟨.skip, Go.undef, w', π, .undef, _, n, by simp [q1], rfl, q2, .undef, hk⟩
        · exact hk.elim
      · exact hk.elim
    · cases hc
  case nilCheck x =>
    obtain ⟨l, h1, h2⟩ := map_some hc
    cases h2
    obtain ⟨y, rfl, hy⟩ := cOpds1 h1
    have r1 := rel_opd s hy
    simp only [List.map_cons, List.map_nil] at hk
    generalize Opd.ev e y = yy at r1 hk
    generalize a.eval x = v at r1 ⊢
    cases yy <;> simp only [sem] at hk <;> first | exact hk.elim | skip
    · rename_i id i off
      cases r1 with
      | ptrLive _ _ _ b p' hp' hb => exact opDone_pure s (.ptrLive _ _ _ _ _ hp' hb) hk
      | ptrDead _ _ _ ad hd hn => exact opDone_pure s (.ptrDead _ _ _ ad hd hn) hk
    · cases r1 with
      | rptr row off g o us ho hg hf hu hh => exact opDone_pure s (.rptr _ _ g o us ho hg hf hu hh) hk
    · cases r1 with
      | fn f caps cs hl hh => exact opDone_pure s (.fn _ _ cs hl hh) hk
  case binOp op t x y t' =>
    split at hc
    · cases hc
    split at hc
    · cases hc
    split at hc
    · cases hc
    obtain ⟨l, h1, h2⟩ := map_some hc
    cases h2
    obtain ⟨x', y', rfl, hx', hy'⟩ := cOpds2 h1
    have r1 := rel_opd s hx'
    have r2 := rel_opd s hy'
    simp only [List.map_cons, List.map_nil, sem] at hk
    obtain ⟨r, z, q1, q2, q3⟩ := snd_bin (P := P) op r1 r2 hk t
    have hg : ∀ u v : Value, (∃ r, (binOp op t u v).run P w = .ok r w) → Rel w (ownOf own0 π) π n (x'.ev e) u → Rel w (ownOf own0 π) π n (y'.ev e) v → (eqGuard op t x y u v).run P w = .ok () w := by
      intro u v _ ru rv
      unfold semBin at hk
      split at hk
      · rename_i e1 e2
        rw [e1] at ru; rw [e2] at rv
        cases ru; cases rv
        cases op <;> simp [eqGuard]
      · rename_i e1 e2
        rw [e1] at ru; rw [e2] at rv
        cases ru; cases rv
        cases op <;> simp [eqGuard]
      · exact hk.elim
    refine opDone_value (done_same s (v := r) (x := z) ?_ (q2 _ _ _) q3)
    simp [hg _ _ ⟨r, q1⟩ r1 r2, q1]
  case unOp op t x =>
    refine opDone_value ?_
    cases op <;> simp only [] at hc <;> first | (cases hc; done) | skip
    all_goals
      obtain ⟨l, h1, h2⟩ := map_some hc
      cases h2
      obtain ⟨y, rfl, hy⟩ := cOpds1 h1
      have r1 := rel_opd s hy
      simp only [List.map_cons, List.map_nil] at hk
      generalize Opd.ev e y = yy at r1 hk
      generalize a.eval x = v at r1 ⊢
      cases yy <;> simp only [sem] at hk <;> first | exact hk.elim | skip
      cases r1
      first
        | (obtain ⟨_, rfl, hk⟩ := hk; exact done_same s (by simp [Op.unary, Op.intArith]) (.int _ _) hk)
        | exact done_same s (by simp [Op.unary]) (.bool _) hk
  case convert t t' x =>
    refine opDone_value ?_
    split at hc
    · rename_i k k' hu1 hu2
      obtain ⟨l, h1, h2⟩ := map_some hc
      cases h2
      obtain ⟨y, rfl, hy⟩ := cOpds1 h1
      have r1 := rel_opd s hy
      simp only [List.map_cons, List.map_nil] at hk
      generalize Opd.ev e y = yy at r1 hk
      generalize a.eval x = v at r1 ⊢
      cases yy <;> simp only [sem] at hk <;> first | exact hk.elim | skip
      cases r1
      obtain ⟨_, rfl, hk⟩ := hk
      exact done_same s (by simp [convert, run_underlying hu1, run_underlying hu2, Conv.intToInt]) (.int _ _) hk
    · cases hc
  case makeSlice t x y =>
    refine opDone_value ?_
    split at hc
    · rename_i el hel
      split at hc
      · rename_i z b zero hz hb hzero
        split at hc
        · rename_i hcond
          obtain ⟨l, h1, h2⟩ := map_some hc
          cases h2
          obtain ⟨x', y', rfl, hx', hy'⟩ := cOpds2 h1
          exact snd_mks s hel hz hb hzero hcond.1 hcond.2 (free_zero hzero) (rel_opd s hx') (rel_opd s hy') (by simpa using hk)
        · cases hc
      · cases hc
    · cases hc
  case slice t x lo hi mx =>
    refine opDone_value ?_
    cases mx with
    | some m =>
      cases lo with
      | some _ => cases hc
      | none => cases hi with
        | none => cases hc
        | some b =>
          simp only [] at hc
          split at hc
          · rename_i el hel
            split at hc
            · rename_i z hz
              obtain ⟨l, h1, h2⟩ := map_some hc
              cases h2
              simp only [cOpds] at h1
              cases hx : cOpd x with
              | none => simp [hx] at h1
              | some x' =>
                cases hb : cOpd b with
                | none => simp [hx, hb] at h1
                | some b' =>
                  cases hm : cOpd m with
                  | none => simp [hx, hb, hm] at h1
                  | some m' =>
                    simp [hx, hb, hm] at h1
                    subst h1
                    exact snd_slc3 s hel hz (rel_opd s hx) (rel_opd s hb) (rel_opd s hm) (by simpa using hk)
            · cases hc
          · cases hc
    | none =>
      simp only [] at hc
      split at hc
      · rename_i el hel
        split at hc
        · rename_i z hz
          obtain ⟨l, h1, h2⟩ := map_some hc
          cases h2
          simp only [cOpds] at h1
          cases hx : cOpd x with
          | none => simp [hx] at h1
          | some x' =>
            cases hr : cOpds (oList lo ++ oList hi) with
            | none => simp [hx, hr] at h1
            | some l' =>
              simp [hx, hr] at h1
              subst h1
              exact snd_slc s hel hz (rel_opd s hx) hr hk
        · cases hc
      · rename_i hel
        obtain ⟨l, h1, h2⟩ := map_some hc
        cases h2
        simp only [cOpds] at h1
        cases hx : cOpd x with
        | none => simp [hx] at h1
        | some x' =>
          cases hr : cOpds (oList lo ++ oList hi) with
          | none => simp [hx, hr] at h1
          | some l' =>
            simp [hx, hr] at h1
            subst h1
            exact snd_sls s hel (rel_opd s hx) hr hk
      · cases hc
  case fieldAddr t x i =>
    refine opDone_value ?_
    split at hc
    · rename_i fs hfs
      split at hc
      · rename_i f hf
        split at hc
        · rename_i m hm
          obtain ⟨l, h1, h2⟩ := map_some hc
          cases h2
          obtain ⟨y, rfl, hy⟩ := cOpds1 h1
          exact snd_fadr s hfs hf hm (rel_opd s hy) hk
        · cases hc
      · cases hc
    · cases hc
  case field t x i =>
    refine opDone_value ?_
    split at hc
    · rename_i fs hfs
      split at hc
      · rename_i f hf
        split at hc
        · rename_i z ha hz
          obtain ⟨l, h1, h2⟩ := map_some hc
          cases h2
          obtain ⟨y, rfl, hy⟩ := cOpds1 h1
          exact snd_fldn s hfs hf ha hz (rel_opd s hy) hk
        · rename_i z ha hz
          obtain ⟨l, h1, h2⟩ := map_some hc
          cases h2
          obtain ⟨y, rfl, hy⟩ := cOpds1 h1
          exact snd_fld1 s hfs hf ha (rel_opd s hy) hk
        · cases hc
      · cases hc
    · cases hc
  case indexAddr t x i =>
    refine opDone_value ?_
    split at hc
    · rename_i el hel
      split at hc
      · rename_i z hz
        obtain ⟨l, h1, h2⟩ := map_some hc
        cases h2
        obtain ⟨x', y', rfl, hx', hy'⟩ := cOpds2 h1
        exact snd_iadr s hel hz (rel_opd s hx') (rel_opd s hy') hk
      · cases hc
    · cases hc
  case index t x i =>
    refine opDone_value ?_
    split at hc
    · rename_i ht
      obtain ⟨l, h1, h2⟩ := map_some hc
      cases h2
      obtain ⟨x', y', rfl, hx', hy'⟩ := cOpds2 h1
      exact snd_idx s ht (rel_opd s hx') (rel_opd s hy') hk
    · cases hc
  case extract x i =>
    refine opDone_value ?_
    obtain ⟨l, h1, h2⟩ := map_some hc
    cases h2
    obtain ⟨y, rfl, hy⟩ := cOpds1 h1
    exact snd_ext s i (rel_opd s hy) hk
  case makeFunc fn first captured =>
    cases fn <;> simp only [] at hc <;> first | (cases hc; done) | skip
    rename_i f
    split at hc
    · rename_i hfirst
      obtain ⟨l, h1, h2⟩ := map_some hc
      cases h2
      obtain ⟨r1, r2⟩ := rel_opds s _ _ h1
      have he : first = #[] := by simpa using hfirst
      subst he
      have hk' : K (.fn f (args.map (Opd.ev e))) h n := by cases args <;> simpa [sem] using hk
      refine ⟨.value (.func (.func f) #[] (captured.map a.eval)), _, w, π, .fn f (args.map (Opd.ev e)), h, n, by simp [Instr.makeFunc], rfl, s.stay, ?_, hk'⟩
      exact .fn _ _ _ (by simpa using r1.symm) (fun i x u h1 h2 => r2 i x u h1 (by simpa using h2))
    · cases hc
  case call c =>
    obtain ⟨callee, cargs, ctys⟩ := c
    cases callee with
    | value f =>
      cases f <;> simp only [] at hc <;> first | (cases hc; done) | skip
      · obtain ⟨l, h1, h2⟩ := map_some hc
        cases h2
        cases l <;> simp [sem] at hk
      · obtain ⟨l, h1, h2⟩ := map_some hc
        cases h2
        cases args <;> simp [sem] at hk
    | invoke r m => cases hc
    | builtin b =>
      cases b <;> simp only [] at hc <;> first | (cases hc; done) | skip
      case append =>
        split at hc
        · rename_i t u x y ht hargs
          split at hc
          · rename_i htu
            subst htu
            split at hc
            · rename_i el hel
              split at hc
              · rename_i z b zero hz hb hzero
                split at hc
                · rename_i hcond
                  obtain ⟨l, h1, h2⟩ := map_some hc
                  cases h2
                  obtain ⟨x', y', rfl, hx', hy'⟩ := cOpds2 h1
                  have := snd_app (P := P) (ty := o.type) s hel hz hb hzero hcond.1 hcond.2 (rel_opd s hx') (rel_opd s hy') (K := K) (by simpa using hk)
                  have := opDone_value this
                  have e1 : ctys = #[t, t] := Array.toList_inj.1 (by simpa using ht)
                  have e2 : cargs = #[x, y] := Array.toList_inj.1 (by simpa using hargs)
                  subst e1; subst e2
                  simpa [resolve, invoke, builtin] using this
                · cases hc
              · cases hc
            · cases hc
          · cases hc
        · cases hc
      case len =>
        split at hc
        · rename_i t x ht hargs
          have e1 : ctys = #[t] := Array.toList_inj.1 (by simpa using ht)
          have e2 : cargs = #[x] := Array.toList_inj.1 (by simpa using hargs)
          subst e1; subst e2
          split at hc
          · rename_i hu
            obtain ⟨l, h1, h2⟩ := map_some hc
            cases h2
            obtain ⟨y, rfl, hy⟩ := cOpds1 h1
            have := opDone_value (snd_lens (P := P) s hu o.type (rel_opd s hy) (K := K) (by simpa using hk))
            simpa [resolve, invoke, builtin] using this
          · rename_i el hu
            obtain ⟨l, h1, h2⟩ := map_some hc
            cases h2
            obtain ⟨y, rfl, hy⟩ := cOpds1 h1
            have := opDone_value (snd_len (P := P) s hu o.type (rel_opd s hy) (K := K) (by simpa using hk))
            simpa [resolve, invoke, builtin] using this
          · cases hc
        · cases hc
      case max =>
        split at hc
        · rename_i x y hargs
          have e2 : cargs = #[x, y] := Array.toList_inj.1 (by simpa using hargs)
          subst e2
          obtain ⟨l, h1, h2⟩ := map_some hc
          cases h2
          obtain ⟨x', y', rfl, hx', hy'⟩ := cOpds2 h1
          have := opDone_value (snd_max (P := P) s ctys o.type (rel_opd s hx') (rel_opd s hy') (K := K) (by simpa using hk))
          simpa [resolve, invoke, builtin] using this
        · cases hc
      case min =>
        split at hc
        · rename_i x y hargs
          have e2 : cargs = #[x, y] := Array.toList_inj.1 (by simpa using hargs)
          subst e2
          obtain ⟨l, h1, h2⟩ := map_some hc
          cases h2
          obtain ⟨x', y', rfl, hx', hy'⟩ := cOpds2 h1
          have := opDone_value (snd_min (P := P) s ctys o.type (rel_opd s hx') (rel_opd s hy') (K := K) (by simpa using hk))
          simpa [resolve, invoke, builtin] using this
        · cases hc
end
end Go.Proofs.YthanhknkoikbfaaDoor.Av
