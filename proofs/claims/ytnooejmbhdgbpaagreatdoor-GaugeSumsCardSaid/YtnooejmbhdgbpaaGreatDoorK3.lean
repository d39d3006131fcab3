/- From the model's code to the abstract one. -/
import Derived.Test.YtnooejmbhdgbpaaGreatDoorK2
import GoSem.Dispatch
import GoSem.Core.Region
set_option linter.unusedVariables false
set_option linter.unusedSimpArgs false
namespace Go.Gz

def ofVal1 : Value → Option AV
  | .bool b => some (.bool b)
  | .int k n => some (.int k n)
  | .string s => some (.str s.data.toList)
  | .pointer none => some .nilptr
  | .slice none 0 0 => some .nilslice
  | .nilFunc => some .nilfunc
  | .nilIface => some .nilif
  | .map none => some .nilmap
  | _ => none

def ofVals : List Value → Option (List AV)
  | [] => some []
  | v :: r => match ofVal1 v, ofVals r with
    | some x, some xs => some (x :: xs)
    | _, _ => none

def ofVal : Value → Option AV
  | .agg cs => (ofVals cs.toList).map .agg
  | v => ofVal1 v

def cOpd (N : Nat) : Operand → Option Opd
  | .tmp t => if t < N then some (.t t) else none
  | .const v => (ofVal v).map .c
  | .func f => some (.c (.func f []))
  | .global _ => none

def cOpds (N : Nat) : List Operand → Option (List Opd)
  | [] => some []
  | x :: r => match cOpd N x, cOpds N r with
    | some y, some ys => some (y :: ys)
    | _, _ => none

def cOpt (N : Nat) : Option Operand → Option (Option Opd)
  | none => some none
  | some x => (cOpd N x).map some

def sizeT (P : Program) (t : TypeId) : Option Nat := (P.info? t).map (·.size)
def bytesT (P : Program) (t : TypeId) : Option Nat := (P.info? t).map (·.bytes)
/-- The cells of a type's zero value. -/
def zeroT (P : Program) (t : TypeId) : Option (List AV) :=
  ((P.info? t).bind (·.zero)).bind fun z => ofVals z.cells.toList
def isAggT (P : Program) (t : TypeId) : Option Bool :=
  match P.underlying t with
  | some (.struct _) | some (.array _ _) => some true
  | some _ => some false
  | none => none

def cParts (N : Nat) (place : Nat → Option (Nat × Nat)) : List (Nat × Operand) → Option (List (Nat × Nat × Opd))
  | [] => some []
  | (i, x) :: r => match place i, cOpd N x, cParts N place r with
    | some (o, s), some y, some ys => some ((o, s, y) :: ys)
    | _, _, _ => none

def fieldPlaces (P : Program) : List Field → Option (List (Nat × Nat))
  | [] => some []
  | f :: r => match sizeT P f.type, fieldPlaces P r with
    | some s, some l => some ((f.offset, s) :: l)
    | _, _ => none

/-- A struct whose fields are numbers, texts, truths, a cell each. -/
def flatFields (P : Program) : Nat → List Field → Option (List FK)
  | _, [] => some []
  | k, f :: r =>
    if f.name ≠ "_" ∧ f.offset = k then
      match P.underlying f.type, flatFields P (k + 1) r with
      | some .bool, some l => some (.b :: l)
      | some (.int _), some l => some (.i :: l)
      | some .string, some l => some (.s :: l)
      | _, _ => none
    else none

/-- The same, of whose fields some may be such structs. -/
def flatFields2 (P : Program) : Nat → List Field → Option (List FK)
  | _, [] => some []
  | k, f :: r =>
    if f.name ≠ "_" ∧ f.offset = k then
      match P.underlying f.type with
      | some (.struct gs) =>
        match flatFields P 0 gs.toList with
        | some l1 => if sizeT P f.type = some l1.length ∧ P.stoodInHeld f.type = false then (flatFields2 P (k + l1.length) r).map (l1 ++ ·) else none
        | none => none
      | some .bool => (flatFields2 P (k + 1) r).map (.b :: ·)
      | some (.int _) => (flatFields2 P (k + 1) r).map (.i :: ·)
      | some .string => (flatFields2 P (k + 1) r).map (.s :: ·)
      | _ => none
    else none

def eqKind (P : Program) (t : TypeId) : Option EqK :=
  match P.underlying t with
  | some .bool => some .bool
  | some (.int _) | some .string => some .num
  | some (.pointer e) => if (sizeT P e).isSome then some .nilp else none
  | some (.slice _) => some .nils
  | some (.func _ _ _) => some .nilf
  | some (.struct fs) => if !P.stoodInHeld t && !P.eqGuardType P.depth t then (flatFields2 P 0 fs.toList).map .flat else none
  | _ => none

def isIntD : TypeDesc → Bool
  | .int _ => true
  | _ => false

def cBuiltin (P : Program) (N : Nat) (b : Builtin) (tys : List TypeId) (args : List Operand) : Option MOp :=
  match b, tys, args with
  | .len, [t], [x] => match P.underlying t, cOpd N x with
    | some .string, some y => some (.lenStr y)
    | some (.slice _), some y => some (.lenSl y)
    | some (.array n _), _ => some (.lenArr n)
    | _, _ => none
  | .cap, [t], [x] => match P.underlying t, cOpd N x with
    | some (.slice _), some y => some (.capOf y)
    | _, _ => none
  | .append, [t, t2], [s, x] => match P.underlying t, P.underlying t2, cOpd N s, cOpd N x with
    | some (.slice e), some d, some s, some x =>
      match sizeT P e, bytesT P e, zeroT P e with
      | some sz, some by_, some z => if sz ≠ 0 ∧ z.length = sz ∧ by_ ≠ 0 ∧ isIntD d = false then some (.append sz by_ s x) else none
      | _, _, _ => none
    | _, _, _, _ => none
  | .clear, [t], [x] => match P.underlying t, cOpd N x with
    | some (.slice e), some x => match sizeT P e, zeroT P e with
      | some sz, some z => if z.length = sz then some (.copy sz x (.c (.agg z))) else none
      | _, _ => none
    | _, _ => none
  | .min, _, xs => (cOpds N xs).map (.minmax false)
  | .max, _, xs => (cOpds N xs).map (.minmax true)
  | _, _, _ => none

def cOp (P : Program) (N : Nat) (o : Op) : Option MOp :=
  match o with
  | .move x | .assign x => (cOpd N x).map .move
  | .nilCheck x => (cOpd N x).map .nilCheck
  | .pick c a b => match cOpd N c, cOpd N a, cOpd N b with
    | some c, some a, some b => some (.pick c a b)
    | _, _, _ => none
  | .alloc e => (zeroT P e).map .alloc
  | .box _ x => (cOpd N x).map .box
  | .build t ps => match P.underlying t with
    | some (.struct fs) => match fieldPlaces P fs.toList, zeroT P t with
      | some l, some z => (cParts N (l[·]?) ps.toList).map (.build z)
      | _, _ => none
    | some (.array _ e) => match sizeT P e, zeroT P t with
      | some s, some z => (cParts N (fun i => some (i * s, s)) ps.toList).map (.build z)
      | _, _ => none
    | _ => none
  | .buildSlice t len ps => match P.underlying t with
    | some (.slice e) => match sizeT P e, zeroT P e with
      | some s, some z => if z.length = s ∧ s ≠ 0 ∧ len * s ≤ 16777216 then (cParts N (fun i => some (i * s, s)) ps.toList).map (.buildSlice z s len) else none
      | _, _ => none
    | _ => none
  | .load t a => match isAggT P t, sizeT P t, cOpd N a with
    | some true, some s, some a => some (.loadN s a)
    | some false, _, some a => some (.load1 a)
    | _, _, _ => none
  | .store t a x => match sizeT P t, cOpd N a, cOpd N x with
    | some s, some a, some x => some (.store s a x)
    | _, _, _ => none
  | .binOp op t x y _ => match eqKind P t, cOpd N x, cOpd N y with
    | some k, some x, some y => some (.bin op k x y)
    | _, _, _ => none
  | .unOp op _ x => (cOpd N x).map (.un op)
  | .convert s d x => match P.underlying s, P.underlying d, cOpd N x with
    | some (.int _), some (.int k), some x => some (.convInt k x)
    | some .string, some .string, some x => some (.convSame x)
    | some .string, some (.slice e), some x => match P.underlying e with
      | some (.int .u8) => some (.toBytes x)
      | _ => none
    | some (.slice e), some .string, some x => match P.underlying e with
      | some (.int .u8) => some (.ofBytes x)
      | _ => none
    | some (.slice _), some (.slice e), some x => match P.underlying e with
      | some (.int .u8) => if s == d then some (.resame x) else none
      | _ => none
    | _, _, _ => none
  | .makeFunc (.func f) first caps => if first.isEmpty then (cOpds N caps.toList).map (.mkfunc f) else none
  | .makeSlice t l c => match P.underlying t with
    | some (.slice e) => match sizeT P e, bytesT P e, zeroT P e, cOpd N l, cOpd N c with
      | some s, some b, some z, some l, some c => if z.length = s ∧ s ≠ 0 then some (.makeSlice z s b l c) else none
      | _, _, _, _, _ => none
    | _ => none
  | .slice t x lo hi mx => match P.underlying t, cOpd N x, cOpt N lo, cOpt N hi, cOpt N mx with
    | some .string, some x, some lo, some hi, some none => some (.sliceStr x lo hi)
    | some (.slice e), some x, some lo, some hi, some mx => match sizeT P e with
      | some s => if s ≠ 0 ∧ (mx.isSome → hi.isSome) then some (.slice s x lo hi mx) else none
      | none => none
    | some (.array n e), some x, some lo, some hi, some mx => match sizeT P e with
      | some s => if s ≠ 0 ∧ (mx.isSome → hi.isSome) then some (.sliceArr n s x lo hi mx) else none
      | none => none
    | _, _, _, _, _ => none
  | .fieldAddr t x f => match P.underlying t, cOpd N x with
    | some (.struct fs), some x => match fs[f]? with
      | some fd => match sizeT P fd.type with
        | some s => if s ≠ 0 then some (.fieldAddr fd.offset x) else none
        | none => none
      | none => none
    | _, _ => none
  | .field t x f => match P.underlying t, cOpd N x with
    | some (.struct fs), some x => match fs[f]? with
      | some fd => match isAggT P fd.type, sizeT P fd.type with
        | some true, some s => some (.fieldN fd.offset s x)
        | some false, _ => some (.field1 fd.offset x)
        | _, _ => none
      | none => none
    | _, _ => none
  | .indexAddr t x i => match P.underlying t, cOpd N x, cOpd N i with
    | some (.slice e), some x, some i => match sizeT P e with
      | some s => if s ≠ 0 then some (.indexAddr s x i) else none
      | none => none
    | some (.array n e), some x, some i => match sizeT P e with
      | some s => if s ≠ 0 then some (.indexArrAddr n s x i) else none
      | none => none
    | _, _, _ => none
  | .index t x i => match P.underlying t, cOpd N x, cOpd N i with
    | some .string, some x, some i => some (.indexStr x i)
    | some (.array n e), some x, some i => match isAggT P e, sizeT P e with
      | some true, some s => some (.indexArrN n s x i)
      | some false, some s => if s = 1 then some (.indexArr1 n x i) else none
      | _, _ => none
    | _, _, _ => none
  | .extract x i => (cOpd N x).map (.extract · i)
  | .call c => match c.callee with
    | .value (.func f) => match P.funcs[f]?, cOpds N c.args.toList with
      | some fn, some xs => if fn.body.isSome ∧ fn.name ≠ "runtime.NumGoroutine" then some (.call f xs) else none
      | _, _ => none
    | .value f => match cOpd N f, cOpds N c.args.toList with
      | some f, some xs => some (.callv f xs)
      | _, _ => none
    | .builtin b => cBuiltin P N b c.argTypes.toList c.args.toList
    | _ => none
  | _ => none

/-- A call, or an operation that answers at once. -/
def callOf (m : MOp) : Bool :=
  match m with
  | .call _ _ | .callv _ _ => true
  | _ => false

def isCallOp : Op → Bool
  | .call _ => true
  | _ => false

/-- No answer. -/
def stopM : MOp := .capOf (.c (.bool false))

def isU8 (P : Program) (t : TypeId) : Bool :=
  match P.underlying t with
  | some (.int .u8) => true
  | _ => false

/-- A function without a body, by its name. -/
def bodyless (P : Program) (f : FuncId) (name : String) : Bool :=
  match P.funcs[f]? with
  | some fn => fn.body.isNone && fn.name == name && fn.origin == ""
  | none => false

/-- A struct that has a pointer to itself ahead. -/
def selfish (P : Program) (e : TypeId) : Bool :=
  match P.underlying e with
  | some (.struct fs) => match fs[0]? with
    | some f => match P.underlying f.type with
      | some (.pointer e') => e' == e
      | _ => false
    | none => false
  | _ => false

/-- The bytes of a text put behind a row of bytes. -/
def cPre (P : Program) (N : Nat) (o : Op) : Option MOp :=
  match o with
  | .alloc e => if selfish P e then (zeroT P e).map fun z => .ext (.allocT e z) [] else none
  | _ => none

/-- How keys of a type are compared; what a type's zero value is. -/
def keyKind (P : Program) (t : TypeId) : Option FK :=
  match P.underlying t with
  | some .bool => some .b
  | some (.int _) => some .i
  | some .string => some .s
  | _ => none

def zeroV (P : Program) (t : TypeId) : Option AV := ((P.info? t).bind (·.zero)).bind ofVal

/-- A map's key kind, and the zero of its values. -/
def mapT (P : Program) (t : TypeId) : Option (FK × AV) :=
  match P.underlying t with
  | some (.map k e) => match keyKind P k, zeroV P e with
    | some kk, some z => some (kk, z)
    | _, _ => none
  | _ => none

/-- Operations that only these pages know. -/
def cNew (P : Program) (N : Nat) (o : Op) : Option MOp :=
  match o with
  | .binOp op t x (.const .nilIface) _ => match P.underlying t, op, cOpd N x with
    | some (.interface _), .eql, some x => some (.bin .eql .nili x (.c .nilif))
    | some (.interface _), .neq, some x => some (.bin .neq .nili x (.c .nilif))
    | _, _, _ => none
  | .convert s d x => match P.underlying s, P.underlying d, cOpd N x with
    | some (.pointer t), some .unsafePointer, some x => (sizeT P t).map fun n => .ext (.cast t n) [x]
    | some .unsafePointer, some (.pointer t), some x => (sizeT P t).map fun n => .ext (.cast t n) [x]
    | _, _, _ => none
  | .makeMap t none => (mapT P t).map fun _ => .ext .mkMap []
  | .lookup t x i ok => match mapT P t, cOpd N x, cOpd N i with
    | some (kk, z), some x, some i => some (.ext (.look kk z ok) [x, i])
    | _, _, _ => none
  | .mapUpdate t m k x | .insert t m k x => match mapT P t, cOpd N m, cOpd N k, cOpd N x with
    | some (kk, _), some m, some k, some x => some (.ext (.mset kk) [m, k, x])
    | _, _, _, _ => none
  | .call c => match c.callee, cOpds N c.args.toList with
    | .value (.func f), some xs =>
      if bodyless P f "internal/abi.NoEscape" then some (.ext .noEsc xs)
      else none
    | .builtin .unsafeSliceData, some xs => some (.ext .sliceData xs)
    | .builtin .len, some xs => match c.argTypes.toList with
      | [t] => (mapT P t).map fun _ => .ext .mlen xs
      | _ => none
    | .builtin .unsafeString, some xs => match c.argTypes.toList with
      | [pt, _] => match P.underlying pt with
        | some (.pointer e) => if isU8 P e && P.cellsOf e == 1 then some (.ext (.uString e) xs) else none
        | _ => none
      | _ => none
    | _, _ => none
  | _ => none

def cOpX (P : Program) (N : Nat) (o : Op) : Option MOp :=
  match cPre P N o with
  | some m => some m
  | none => match cOp P N o with
    | some m => if callOf m && !isCallOp o then some stopM else some m
    | none => match cNew P N o with
      | some m => some m
      | none => some stopM

structure MOper where
  dst : Option Nat
  op : MOp
  guard : Option (Nat × Bool)
  deriving Inhabited

def cGuard (N : Nat) (ops : Array Oper) : Option (Nat × Bool) → Option (Option (Nat × Bool))
  | none => some none
  | some (j, want) => match (ops[j]?).bind (·.dst) with
    | some d => if d < N then some (some (d, want)) else none
    | none => none

def cOper (P : Program) (N : Nat) (ops : Array Oper) (o : Oper) : Option MOper :=
  match cOpX P N o.op, cGuard N ops o.guard with
  | some m, some g => match o.dst with
    | some d => if d < N then some ⟨some d, m, g⟩ else none
    | none => some ⟨none, m, g⟩
  | _, _ => none

def cOpers (P : Program) (N : Nat) (ops : Array Oper) : List Oper → Option (List MOper)
  | [] => some []
  | o :: r => match cOper P N ops o, cOpers P N ops r with
    | some m, some ms => some (m :: ms)
    | _, _ => none

end Go.Gz
