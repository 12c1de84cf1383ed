/- From the loaded code to the operations of AvBase: a function that the kernel runs. -/
import Derived.Test.YtpfbkblgefddlaaAvRel
namespace Go.Proofs.Ytpfbkblgefddlaa.Av
set_option linter.unusedSimpArgs false
set_option linter.unusedVariables false
open Go

def cVal1 : Value → Option AV
  | .int k n => some (.int k n)
  | .bool b => some (.bool b)
  | .string s => some (.str s.data.toList)
  | .slice none 0 0 => some .snil
  | .pointer none => some .pnil
  | .nilFunc => some .fnil
  | _ => none

def cVals : List Value → Option (List AV)
  | [] => some []
  | v :: r => match cVal1 v, cVals r with
    | some x, some y => some (x :: y)
    | _, _ => none

def cVal : Value → Option AV
  | .agg cs => (cVals cs.toList).map .agg
  | v => cVal1 v

def cOpd : Operand → Option Opd
  | .tmp t => some (.t t)
  | .const v => (cVal v).map .c
  | .func f => some (.c (.fn f []))
  | .global _ => none

def cOpds : List Operand → Option (List Opd)
  | [] => some []
  | v :: r => match cOpd v, cOpds r with
    | some x, some y => some (x :: y)
    | _, _ => none

def cSize (P : Program) (t : TypeId) : Option Nat := (P.info? t).map (·.size)
def cBytes (P : Program) (t : TypeId) : Option Nat := (P.info? t).map (·.bytes)
def cZero (P : Program) (t : TypeId) : Option (List AV) := match (P.info? t).bind (·.zero) with
  | some z => cVals z.cells.toList
  | none => none
def cAgg (P : Program) (t : TypeId) : Option Bool := match P.underlying t with
  | some (.struct _) | some (.array _ _) => some true
  | some _ => some false
  | none => none
def cElem (P : Program) (t : TypeId) : Option TypeId := match P.underlying t with
  | some (.slice e) => some e
  | _ => none

def oList (a : Option Operand) : List Operand := match a with | some x => [x] | none => []

/-- the parts of a literal: places in order -/
def cPlaces (place : Nat → Option (Nat × Nat)) : List (Nat × Operand) → Option (List (Nat × Nat))
  | [] => some []
  | (i, _) :: r => match place i, cPlaces place r with
    | some f, some y => some (f :: y)
    | _, _ => none

def cFields (P : Program) (fs : List Field) : Option (List (Nat × Nat)) := fs.mapM fun f => (P.info? f.type).map fun i => (f.offset, i.size)

def inOrder : List (Nat × Operand) → Nat → Bool
  | [], _ => true
  | (i, _) :: r, k => i == k && inOrder r (k + 1)

/-- a comparison of two truths -/
def cBoolEq (P : Program) (op : BinOp) (t : TypeId) : Bool := match op, P.underlying t with
  | .eql, some .bool | .neq, some .bool => true
  | _, _ => false

def cFieldKs (P : Program) : Nat → List Field → Option (List Nat)
  | _, [] => some []
  | i, f :: fs => if f.name = "_" ∨ f.offset ≠ i then none else match P.underlying f.type with
    | some (.int _) => (cFieldKs P (i + 1) fs).map (0 :: ·)
    | some .bool => (cFieldKs P (i + 1) fs).map (1 :: ·)
    | some .string => (cFieldKs P (i + 1) fs).map (2 :: ·)
    | _ => none

/-- a comparison of two structs of numbers, truths and texts -/
def cStructEq (P : Program) (op : BinOp) (t : TypeId) : Option (Bool × List Nat) := match P.underlying t with
  | some (.struct fs) => if P.stoodInHeld t = false ∧ P.eqGuardType P.depth t = false then (match op with
    | .eql => (cFieldKs P 0 fs.toList).map (false, ·)
    | .neq => (cFieldKs P 0 fs.toList).map (true, ·)
    | _ => none) else none
  | _ => none

/-- a slice compared with nil -/
def cNilEq (P : Program) (op : BinOp) (t : TypeId) (y : Operand) : Option Bool := match op, P.underlying t, y with
  | .eql, some (.slice _), .const (.slice none 0 0) => some false
  | .neq, some (.slice _), .const (.slice none 0 0) => some true
  | _, _, _ => none

def cOp (P : Program) (op : Op) : Option (Tag × List Opd) :=
  match op with
  | .move x | .assign x => (cOpds [x]).map (.mv, ·)
  | .pick c a b => (cOpds [c, a, b]).map (.pick, ·)
  | .alloc e => (cZero P e).map fun z => (.alc z, [])
  | .box e v => match cSize P e with
    | some s => (cOpds [v]).map (.box s, ·)
    | none => none
  | .build t parts => match P.underlying t, cZero P t with
    | some (.struct fs), some z => match cFields P fs.toList with
      | some all => match cPlaces (all.toArray[·]?) parts.toList with
        | some ps => (cOpds (parts.toList.map (·.2))).map (.bld z ps, ·)
        | none => none
      | none => none
    | some (.array _ e), some z => match cSize P e with
      | some s => match cPlaces (fun i => some (i * s, s)) parts.toList with
        | some ps => (cOpds (parts.toList.map (·.2))).map (.bld z ps, ·)
        | none => none
      | none => none
    | _, _ => none
  | .buildSlice t len parts => match cElem P t with
    | some e => match cSize P e with
      | some s => if parts.toList.length = len ∧ inOrder parts.toList 0 = true ∧ 0 < s ∧ ((P.info? e).bind (·.zero)).isSome = true then (cOpds (parts.toList.map (·.2))).map (.bsl s, ·) else none
      | none => none
    | none => none
  | .load t a => match cAgg P t, cSize P t with
    | some true, some (s + 1) => (cOpds [a]).map (.ldn (s + 1), ·)
    | some false, some _ => (cOpds [a]).map (.ld1, ·)
    | _, _ => none
  | .store t a v => match cSize P t with
    | some (s + 1) => (cOpds [a, v]).map (.st (s + 1), ·)
    | _ => none
  | .nilCheck x => (cOpds [x]).map (.nck, ·)
  | .binOp op t x y _ => if cBoolEq P op t = true then none else if (cStructEq P op t).isSome = true then none else if (cNilEq P op t y).isSome = true then none else (cOpds [x, y]).map (.bin op, ·)
  | .unOp .not _ x => (cOpds [x]).map (.not, ·)
  | .unOp .neg _ x => (cOpds [x]).map (.neg, ·)
  | .convert s d x => match P.underlying s, P.underlying d with
    | some (.int _), some (.int k) => (cOpds [x]).map (.cvt k, ·)
    | _, _ => none
  | .makeSlice t l c => match cElem P t with
    | some e => match cSize P e, cBytes P e, cZero P e with
      | some s, some b, some z => if z.length = s ∧ 0 < s then (cOpds [l, c]).map (.mks s b z, ·) else none
      | _, _, _ => none
    | none => none
  | .slice t x lo hi none => match P.underlying t with
    | some (.slice e) => match cSize P e with
      | some z => (cOpds (x :: (oList lo ++ oList hi))).map (.slc z lo.isSome hi.isSome, ·)
      | none => none
    | some .string => (cOpds (x :: (oList lo ++ oList hi))).map (.sls lo.isSome hi.isSome, ·)
    | _ => none
  | .slice t x none (some b) (some m) => match P.underlying t with
    | some (.slice e) => match cSize P e with
      | some z => (cOpds [x, b, m]).map (.slc3 z, ·)
      | none => none
    | _ => none
  | .fieldAddr t x i => match P.underlying t with
    | some (.struct fs) => match fs[i]? with
      | some f => match cSize P f.type with
        | some (_ + 1) => (cOpds [x]).map (.fadr f.offset, ·)
        | _ => none
      | none => none
    | _ => none
  | .field t x i => match P.underlying t with
    | some (.struct fs) => match fs[i]? with
      | some f => match cAgg P f.type, cSize P f.type with
        | some true, some s => (cOpds [x]).map (.fldn f.offset s, ·)
        | some false, some _ => (cOpds [x]).map (.fld1 f.offset, ·)
        | _, _ => none
      | none => none
    | _ => none
  | .indexAddr t x i => match cElem P t with
    | some e => match cSize P e with
      | some s => (cOpds [x, i]).map (.iadr s, ·)
      | none => none
    | none => none
  | .index t x i => match P.underlying t with
    | some .string => (cOpds [x, i]).map (.idx, ·)
    | _ => none
  | .extract x i => (cOpds [x]).map (.ext i, ·)
  | .makeFunc (.func f) first captured => if first.isEmpty then (cOpds captured.toList).map (.mkf f, ·) else none
  | .call c => match c.callee with
    | .value (.func f) => (cOpds c.args.toList).map (.call f, ·)
    | .value (.tmp t) => (cOpds c.args.toList).map fun l => (.dyn, .t t :: l)
    | .builtin .len => match c.argTypes.toList, c.args.toList with
      | [t], [x] => match P.underlying t with
        | some .string => (cOpds [x]).map (.lens, ·)
        | some (.slice _) => (cOpds [x]).map (.len, ·)
        | _ => none
      | _, _ => none
    | .builtin .append => match c.argTypes.toList, c.args.toList with
      | [t, u], [x, y] => if t = u then match cElem P t with
          | some e => match cSize P e, cBytes P e, cZero P e with
            | some s, some b, some z => if z.length = s ∧ 0 < s then (cOpds [x, y]).map (.app s b, ·) else none
            | _, _, _ => none
          | none => none
        else none
      | _, _ => none
    | .builtin .max => match c.args.toList with
      | [x, y] => (cOpds [x, y]).map (.max, ·)
      | _ => none
    | .builtin .min => match c.args.toList with
      | [x, y] => (cOpds [x, y]).map (.min, ·)
      | _ => none
    | _ => none
  | _ => none

/-- .. and the rest: what is not known is an operation that is never reached -/
def cOpE (P : Program) (op : Op) : Tag × List Opd :=
  match op with
  | .convert s d x => match P.underlying s, P.underlying d with
    | some (.slice e), some .string => match P.underlying e, cOpds [x] with
      | some (.int .u8), some l => (.b2s, l)
      | _, _ => (.no, [])
    | some .string, some (.slice e) => match P.underlying e, cOpds [x] with
      | some (.int .u8), some l => (.s2b, l)
      | _, _ => (.no, [])
    | _, _ => (.no, [])
  | .index t x i => match P.underlying t with
    | some (.array len e) => match cAgg P e, cSize P e, cOpds [x, i] with
      | some false, some 1, some l => (.aidx len, l)
      | _, _, _ => (.no, [])
    | _ => (.no, [])
  | .binOp op t x y _ => if cBoolEq P op t = true then (match op, cOpds [x, y] with
      | .eql, some l => (.beq false, l)
      | .neq, some l => (.beq true, l)
      | _, _ => (.no, [])) else match cStructEq P op t, cOpds [x, y] with
        | some (g, ks), some l => (.aeq g ks, l)
        | _, _ => (match cNilEq P op t y, cOpds [x] with
          | some g, some l => (.bnil g, l)
          | _, _ => (.no, []))
  | .call c => (match c.callee with
    | .builtin .cap => (match c.argTypes.toList, c.args.toList with
      | [t], [x] => (match P.underlying t, cOpds [x] with
        | some (.slice _), some l => (.cap, l)
        | _, _ => (.no, []))
      | _, _ => (.no, []))
    | .builtin .append => (match c.argTypes.toList, c.args.toList with
      | [t, u], [x, y] => (match cElem P t, P.underlying u, cOpds [x, y] with
        | some e, some (.int _), some l => (match cSize P e, cBytes P e, cZero P e with
          | some s, some b, some z => if z.length = s ∧ 0 < s then (.apz s b z, l) else (.no, [])
          | _, _, _ => (.no, []))
        | _, _, _ => (.no, []))
      | _, _ => (.no, []))
    | _ => (.no, []))
  | _ => (.no, [])

def cOpT (P : Program) (op : Op) : Option (Tag × List Opd) := match cOp P op with
  | some x => some x
  | none => some (cOpE P op)

/-- what is handed to append, and to nothing else that writes, needs no object of its own -/
def varArg (ops : Array Oper) (o : Oper) : Bool := match o.dst with
  | some d => ops.toList.any fun p => match p.op with
    | .call c => (match c.callee, c.args.toList with
      | .builtin .append, [_, .tmp t] => t == d
      | _, _ => false)
    | _ => false
  | none => false

def cTag (ops : Array Oper) (o : Oper) (tag : Tag) (args : List Opd) : Tag := match tag, args with
  | .bsl _, [] => .bsle
  | .bsl s, _ :: _ => if varArg ops o = true then .bslv s else .bsl s
  | t, _ => t

def cOper (P : Program) (ops : Array Oper) (o : Oper) : Option IOper :=
  match cOpT P o.op with
  | some (tag, args) => match o.guard with
    | none => some ⟨o.dst, cTag ops o tag args, args, none⟩
    | some (j, b) => match (ops[j]?).bind (·.dst) with
      | some d => some ⟨o.dst, cTag ops o tag args, args, some (d, b)⟩
      | none => none
  | none => none

def cOpers (P : Program) (ops : Array Oper) : List Oper → Option (List IOper)
  | [] => some []
  | o :: r => match cOper P ops o, cOpers P ops r with
    | some x, some y => some (x :: y)
    | _, _ => none

inductive ICode where
  | skip
  | reg (ops : List IOper)
  | drw (ops : List IOper) (us : List (List Nat)) (b1 b2 : Bool)
  | seq (a b : ICode)
  | cond (c : Opd) (t e : ICode)
  | block (id : Nat) (b : ICode)
  | loop (b : ICode)
  | exit (id : Nat)
  | ret
  deriving Inhabited

end Go.Proofs.Ytpfbkblgefddlaa.Av
