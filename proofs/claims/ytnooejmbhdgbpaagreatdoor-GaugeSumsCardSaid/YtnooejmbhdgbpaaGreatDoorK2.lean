/- The operations on abstract values: what they are made of, what they answer; how they come of the model's. -/
import Derived.Test.YtnooejmbhdgbpaaGreatDoorK1
import GoSem.Dispatch
set_option linter.unusedVariables false
set_option linter.unusedSimpArgs false
namespace Go.Gz

inductive Opd where
  | t (n : Nat)
  | c (v : AV)
  deriving Inhabited

abbrev Env := Nat → AV

def Opd.ev (e : Env) : Opd → AV
  | .t n => e n
  | .c v => v

inductive FK where
  | b | i | s
  deriving Inhabited

/-- How '==' goes at a type: numbers and texts; truths; what may be nil; structs of such. -/
inductive EqK where
  | num | bool | nilp | nils | nilf | nili | flat (ks : List FK)
  deriving Inhabited

/-- Operations of the library's own, on rows of bytes and texts. -/
inductive ExtK where
  | noEsc | cast (t : TypeId) (n : Nat) | allocT (t : TypeId) (zero : List AV) | bapp (t : TypeId) | sliceData | uString (t : TypeId)
  | mkMap | look (kk : FK) (zero : AV) (ok : Bool) | mset (kk : FK) | mlen
  deriving Inhabited

inductive MOp where
  | move (x : Opd)
  | nilCheck (x : Opd)
  | pick (c a b : Opd)
  | alloc (zero : List AV)
  | box (x : Opd)
  | build (zero : List AV) (parts : List (Nat × Nat × Opd))
  | buildSlice (zero : List AV) (esz len : Nat) (parts : List (Nat × Nat × Opd))
  | load1 (a : Opd)
  | loadN (n : Nat) (a : Opd)
  | store (n : Nat) (a x : Opd)
  | bin (op : BinOp) (k : EqK) (x y : Opd)
  | un (op : UnOp) (x : Opd)
  | convInt (k : IntKind) (x : Opd)
  | convSame (x : Opd)
  | resame (x : Opd)
  | toBytes (x : Opd)
  | ofBytes (x : Opd)
  | mkfunc (f : FuncId) (caps : List Opd)
  | makeSlice (zero : List AV) (esz ebytes : Nat) (len cap : Opd)
  | sliceStr (x : Opd) (lo hi : Option Opd)
  | slice (esz : Nat) (x : Opd) (lo hi mx : Option Opd)
  | sliceArr (n esz : Nat) (x : Opd) (lo hi mx : Option Opd)
  | fieldAddr (off : Nat) (x : Opd)
  | field1 (off : Nat) (x : Opd)
  | fieldN (off n : Nat) (x : Opd)
  | indexAddr (esz : Nat) (x i : Opd)
  | indexArrAddr (n esz : Nat) (x i : Opd)
  | indexStr (x i : Opd)
  | indexArr1 (n : Nat) (x i : Opd)
  | indexArrN (n esz : Nat) (x i : Opd)
  | extract (x : Opd) (i : Nat)
  | lenStr (x : Opd)
  | lenSl (x : Opd)
  | lenArr (n : Nat)
  | append (esz ebytes : Nat) (s x : Opd)
  | copy (esz : Nat) (d s : Opd)
  | minmax (mx : Bool) (xs : List Opd)
  | capOf (x : Opd)
  | call (f : FuncId) (args : List Opd)
  | callv (f : Opd) (args : List Opd)
  | ext (k : ExtK) (xs : List Opd)
  deriving Inhabited

def AV.cells? : AV → Option (List AV)
  | .agg cs => some cs
  | .unk => none
  | .tuple _ => none
  | x => some [x]

def AV.isCell : AV → Bool
  | .agg _ | .tuple _ | .unk => false
  | _ => true

def hget (σ : AHeap) (id : Nat) : Option (List AV) := (σ[id]?).join
def hset (σ : AHeap) (id : Nat) (cs : List AV) : AHeap := σ.set id (some cs)
def hkill (σ : AHeap) (id : Nat) : AHeap := σ.set id none
def hpush (σ : AHeap) (cs : List AV) : AHeap := σ ++ [some cs]

/-- Some cells, written over from one on. -/
def put (cs : List AV) (off : Nat) (xs : List AV) : Option (List AV) :=
  if off + xs.length ≤ cs.length then some (cs.take off ++ xs ++ cs.drop (off + xs.length)) else none

def sub (cs : List AV) (off n : Nat) : Option (List AV) :=
  if off + n ≤ cs.length then some ((cs.drop off).take n) else none

def byteAV (b : UInt8) : AV := .int .u8 (b.toNat : Int)

def bytesOf : List AV → Option (List UInt8)
  | [] => some []
  | .int .u8 n :: r => (bytesOf r).map (UInt8.ofNat n.toNat :: ·)
  | _ => none

def runesOf : List AV → Option (List Int)
  | [] => some []
  | .int .i32 n :: r => (runesOf r).map (n :: ·)
  | _ => none

def fillParts (cells : List AV) : List (Nat × Nat × AV) → Option (List AV)
  | [] => some cells
  | (off, size, v) :: rest =>
    match v.cells? with
    | some cs => if cs.length = size then (put cells off cs).bind (fillParts · rest) else none
    | none => none

abbrev lessBytes := Go.Op.bytesLess

def maxInt : Nat := 9223372036854775807

def intBin (op : BinOp) (k : IntKind) (x y : Int) : Option AV :=
  match op with
  | .add => some (.int k (k.wrap (x + y)))
  | .sub => some (.int k (k.wrap (x - y)))
  | .mul => some (.int k (k.wrap (x * y)))
  | .quo => if y = 0 then none else some (.int k (k.wrap (x.tdiv y)))
  | .rem => if y = 0 then none else some (.int k (x.tmod y))
  | .and => some (.int k (k.wrap ((BitVec.ofInt k.bits x &&& BitVec.ofInt k.bits y).toNat : Int)))
  | .or => some (.int k (k.wrap ((BitVec.ofInt k.bits x ||| BitVec.ofInt k.bits y).toNat : Int)))
  | .xor => some (.int k (k.wrap ((BitVec.ofInt k.bits x ^^^ BitVec.ofInt k.bits y).toNat : Int)))
  | .andNot => some (.int k (k.wrap ((BitVec.ofInt k.bits x &&& ~~~(BitVec.ofInt k.bits y)).toNat : Int)))
  | .eql => some (.bool (x == y))
  | .neq => some (.bool (x != y))
  | .lss => some (.bool (decide (x < y)))
  | .leq => some (.bool (decide (x ≤ y)))
  | .gtr => some (.bool (decide (x > y)))
  | .geq => some (.bool (decide (x ≥ y)))
  | .shl | .shr => none

def shiftBin (op : BinOp) (k : IntKind) (x y : Int) : Option AV :=
  if y < 0 then none
  else match op with
    | .shl => some (.int k (k.wrap (x * 2 ^ (min y.toNat k.bits))))
    | .shr => some (.int k (x.fdiv (2 ^ (min y.toNat k.bits))))
    | _ => none

def strBin (op : BinOp) (x y : List UInt8) : Option AV :=
  match op with
  | .add => if x.length + y.length ≤ maxInt then some (.str (x ++ y)) else none
  | .eql => some (.bool (x == y))
  | .neq => some (.bool (!(x == y)))
  | .lss => some (.bool (lessBytes x y))
  | .leq => some (.bool (lessBytes x y || x == y))
  | .gtr => some (.bool (!(lessBytes x y || x == y)))
  | .geq => some (.bool (!(lessBytes x y)))
  | _ => none

/-- Are two values (numbers, texts, truths) alike? -/
def baseEq : FK → AV → AV → Option Bool
  | .b, .bool a, .bool b => some (a == b)
  | .i, .int k a, .int k' b => if k = k' then some (a == b) else none
  | .s, .str a, .str b => some (a == b)
  | _, _, _ => none

def cellsEq : List FK → List AV → List AV → Option Bool
  | [], [], [] => some true
  | k :: ks, x :: xs, y :: ys =>
    match baseEq k x y, cellsEq ks xs ys with
    | some a, some b => some (a && b)
    | _, _ => none
  | _, _, _ => none

/-- Where a key lies among a map's entries, and its value. -/
def mfind (kk : FK) (k : AV) : List AV → Nat → Option (Option (Nat × AV))
  | [], _ => some none
  | .tuple [k', v] :: r, i => match baseEq kk k k' with
    | some true => some (some (i, v))
    | some false => mfind kk k r (i + 1)
    | none => none
  | _ :: _, _ => none

def found (z : AV) (ok : Bool) : Option (Nat × AV) → AV
  | some (_, v) => if ok then .tuple [v, .bool true] else v
  | none => if ok then .tuple [z, .bool false] else z

def minto (kk : FK) (k v : AV) (cs : List AV) : Option (List AV) :=
  match baseEq kk k k, mfind kk k cs 0 with
  | some _, some (some (i, _)) => some (cs.set i (.tuple [k, v]))
  | some _, some none => some (cs ++ [.tuple [k, v]])
  | _, _ => none

def nilEqP : AV → AV → Option Bool
  | .nilptr, .nilptr => some true
  | .ptr a b, .ptr a' b' => if a = a' ∧ b = b' then some true else none
  | .bptr a t, .bptr a' t' => if a = a' ∧ t = t' then some true else none
  | .ptr _ _, .nilptr | .nilptr, .ptr _ _ | .iptr _, .nilptr | .nilptr, .iptr _ | .bptr _ _, .nilptr | .nilptr, .bptr _ _ => some false
  | _, _ => none

def nilEqS : AV → AV → Option Bool
  | .nilslice, .nilslice => some true
  | .slice _ _ len _ _, .nilslice | .nilslice, .slice _ _ len _ _ => if 0 < len then some false else none
  | .imm rows _ nn, .nilslice | .nilslice, .imm rows _ nn => if nn || !rows.isEmpty then some false else none
  | _, _ => none

def nilEqF : AV → AV → Option Bool
  | .nilfunc, .nilfunc => some true
  | .func _ _, .nilfunc | .nilfunc, .func _ _ => some false
  | _, _ => none

def nilEqI : AV → AV → Option Bool
  | .nilif, .nilif => some true
  | .someif, .nilif | .nilif, .someif => some false
  | _, _ => none

def eqBin (k : EqK) (x y : AV) : Option Bool :=
  match k with
  | .num => none
  | .bool => baseEq .b x y
  | .nilp => nilEqP x y
  | .nils => nilEqS x y
  | .nilf => nilEqF x y
  | .nili => nilEqI x y
  | .flat ks => match x, y with
    | .agg xs, .agg ys => cellsEq ks xs ys
    | _, _ => none

def abin (op : BinOp) (k : EqK) (x y : AV) : Option AV :=
  match x, y with
  | .int k a, .int k' b =>
    match op with
    | .shl => shiftBin .shl k a b
    | .shr => shiftBin .shr k a b
    | op => if k = k' then intBin op k a b else none
  | .str a, .str b => strBin op a b
  | x, y =>
    match op with
    | .eql => (eqBin k x y).map .bool
    | .neq => (eqBin k x y).map fun b => .bool (!b)
    | _ => none

def aun (op : UnOp) (x : AV) : Option AV :=
  match op, x with
  | .neg, .int k n => some (.int k (k.wrap (0 - n)))
  | .xor, .int k n => some (.int k (k.wrap ((BitVec.ofInt k.bits (if k.signed then -1 else k.max) ^^^ BitVec.ofInt k.bits n).toNat : Int)))
  | .not, .bool b => some (.bool !b)
  | _, _ => none

/-- How many a text, a slice has. -/
def lenOf : AV → Option Nat
  | .str s => some s.length
  | .nilslice => some 0
  | .slice _ _ len _ _ => some len
  | .imm rows _ _ => some rows.length
  | .brow _ len _ => some len
  | _ => none

/-- The cells of a slice's elements. -/
def elemsOf (σ : AHeap) (esz : Nat) : AV → Option (List AV)
  | .nilslice => some []
  | .slice id off len _ e => if e = esz then (hget σ id).bind (sub · off (len * esz)) else none
  | .imm rows _ _ => if rows.all (fun r => r.length == esz) then some rows.flatten else none
  | .str s => if esz = 1 then some (s.map byteAV) else none
  | _ => none

def mayGrow (n ebytes : Nat) : Bool := decide ((2 * n + 768) * ebytes ≤ 281474976710656)

def grown (σ : AHeap) (esz n : Nat) (cs : List AV) : AV × AHeap := (.slice σ.length 0 n none esz, hpush σ cs)

def evAppend (esz ebytes : Nat) (s x : AV) (σ : AHeap) : Option (AV × AHeap) :=
  match elemsOf σ esz x, lenOf x, lenOf s with
  | some xs, some n, some m =>
    if mayGrow (m + n) ebytes && xs.all (·.isCell) then
      match s with
      | .nilslice => if n = 0 then some (.nilslice, σ) else some (grown σ esz n xs)
      | .imm rows full nn =>
        if full then
          if rows.isEmpty then some (grown σ esz n xs)
          else if n = 0 then some (s, σ)
          else (elemsOf σ esz s).map fun old => grown σ esz (m + n) (old ++ xs)
        else if n = 0 then some (s, σ) else none
      | .slice id off len (some c) e =>
        if c = 0 then some (grown σ esz n xs)
        else if len + n ≤ c then
          if e = esz then ((hget σ id).bind (put · (off + len * esz) xs)).map fun cs => (.slice id off (len + n) (some c) esz, hset σ id cs) else none
        else (elemsOf σ esz s).map fun old => grown σ esz (m + n) (old ++ xs)
      | .slice id off len none e =>
        (elemsOf σ esz s).map fun old => grown (hkill σ id) esz (m + n) (old ++ xs)
      | _ => none
    else none
  | _, _, _ => none

def ofInt? : AV → Option Int
  | .int _ n => some n
  | _ => none

/-- A bound of a slice expression: a number from 0 on, up to another one. -/
def bound? (x : Option AV) (dflt top : Nat) : Option Nat :=
  match x with
  | none => some dflt
  | some v => match ofInt? v with
    | some i => if 0 ≤ i ∧ i ≤ top then some i.toNat else none
    | none => none

def topOf (cap : Option Nat) (len : Nat) : Nat :=
  match cap with
  | some c => c
  | none => len

def evSlice (esz : Nat) (x : AV) (lo hi mx : Option AV) : Option AV :=
  match x with
  | .nilslice =>
    match bound? mx 0 0, bound? hi 0 0, bound? lo 0 0 with
    | some _, some _, some _ => some .nilslice
    | _, _, _ => none
  | .slice id off len cap e =>
    match bound? mx (topOf cap len) (topOf cap len) with
    | some m => match bound? hi len m with
      | some h => match bound? lo 0 h with
        | some l => if l ≤ h ∧ h ≤ m ∧ e = esz then some (.slice id (off + l * esz) (h - l) (if mx.isSome then some (m - l) else cap.map (· - l)) esz) else none
        | none => none
      | none => none
    | none => none
  | .imm rows full nn =>
    match bound? mx rows.length rows.length with
    | some m => match bound? hi rows.length m with
      | some h => match bound? lo 0 h with
        | some l => if l ≤ h ∧ h ≤ m ∧ rows.all (fun r => r.length == esz) then some (.imm ((rows.take h).drop l) (if mx.isSome then m == h else full && h == rows.length) nn) else none
        | none => none
      | none => none
    | none => none
  | _ => none

def evSliceStr (x : AV) (lo hi : Option AV) : Option AV :=
  match x with
  | .str s => match bound? hi s.length s.length with
    | some h => match bound? lo 0 h with
      | some l => some (.str ((s.take h).drop l))
      | none => none
    | none => none
  | _ => none

/-- `clear`: the cells of a slice become zero (s tells the zero cells of an element). -/
def evCopy (esz : Nat) (d s : AV) (σ : AHeap) : Option (AV × AHeap) :=
  match s with
  | .agg z =>
    if z.length = esz ∧ z.all (·.isCell) = true then
      match d with
      | .nilslice => some (.tuple [], σ)
      | .slice id off len _ e =>
        if e = esz then ((hget σ id).bind (put · off (List.replicate len z).flatten)).map fun cs => (.tuple [], hset σ id cs) else none
      | _ => none
    else none
  | _ => none

def minmax2 (mx : Bool) (x y : AV) : Option AV :=
  match x, y with
  | .int k a, .int k' b => if k = k' then some (.int k (if mx then (if b > a then b else a) else (if b < a then b else a))) else none
  | .str a, .str b => some (.str (if mx then (if !lessBytes a b then a else b) else (if lessBytes a b || a == b then a else b)))
  | _, _ => none

def foldMM (mx : Bool) : AV → List AV → Option AV
  | x, [] => some x
  | x, y :: r => (minmax2 mx x y).bind (foldMM mx · r)

def inRange (i : AV) (n : Nat) : Option Nat :=
  match i with
  | .int _ k => if 0 ≤ k ∧ k < n then some k.toNat else none
  | _ => none

/-- What lies at an address: a cell; so many. -/
def ldCell (σ : AHeap) : AV → Option AV
  | .ptr id off => (hget σ id).bind (·[off]?)
  | .iptr cs => cs[0]?
  | _ => none

def ldCells (σ : AHeap) (n : Nat) : AV → Option (List AV)
  | .ptr id off => (hget σ id).bind (sub · off n)
  | .iptr cs => sub cs 0 n
  | _ => none

def fAddr (off : Nat) : AV → Option AV
  | .ptr id o => some (.ptr id (o + off))
  | .iptr cs => some (.iptr (cs.drop off))
  | .bptr id _ => some (.ptr id off)
  | _ => none

def iAddr (esz : Nat) (x i : AV) : Option AV :=
  match x with
  | .slice id off len _ e => (inRange i len).bind fun k => if e = esz then some (.ptr id (off + k * esz)) else none
  | .imm rows _ _ => (inRange i rows.length).bind fun k => (rows[k]?).bind fun r => if r.length = esz then some (.iptr r) else none
  | _ => none

def aAddr (n esz : Nat) (x i : AV) : Option AV :=
  match x with
  | .ptr id off => (inRange i n).map fun k => .ptr id (off + k * esz)
  | .iptr cs => (inRange i n).map fun k => .iptr (cs.drop (k * esz))
  | _ => none

def capV : AV → Option Int
  | .nilslice => some 0
  | .slice _ _ _ (some c) _ => some (c : Int)
  | .imm rows true _ => some (rows.length : Int)
  | _ => none

def lenSl : AV → Option Nat
  | .str _ => none
  | x => lenOf x

def ofBytes (σ : AHeap) : AV → Option (List UInt8)
  | .str _ => none
  | x => (elemsOf σ 1 x).bind bytesOf

def evExt (σ : AHeap) (k : ExtK) (xs : List AV) : Option (AV × AHeap) :=
  match k, xs with
  | .noEsc, [x] => some (x, σ)
  | .cast t n, [.bptr id t'] => match hget σ id with
    | some cs => if t = t' ∧ n ≠ 0 ∧ n ≤ cs.length then some (.bptr id t, σ) else none
    | none => none
  | .allocT t zero, [] => some (.bptr σ.length t, hpush σ zero)
  | .bapp t, [.nilslice, .str s] => if s = [] then some (.nilslice, σ) else if mayGrow s.length 1 = true then some (.brow σ.length s.length t, hpush σ (s.map byteAV)) else none
  | .bapp t, [.brow id len t', .str s] => if t = t' ∧ mayGrow (len + s.length) 1 = true then ((hget σ id).bind (sub · 0 len)).map fun old => (.brow σ.length (len + s.length) t, hpush (hkill σ id) (old ++ s.map byteAV)) else none
  | .sliceData, [.nilslice] => some (.nilptr, σ)
  | .sliceData, [.brow id len t] => if 0 < len then some (.bptr id t, σ) else none
  | .uString _, [.nilptr, .int .i64 n] => if n = 0 then some (.str [], σ) else none
  | .uString t, [.bptr id t', .int .i64 n] => if t = t' ∧ 0 < n ∧ mayGrow n.toNat 1 = true then (((hget σ id).bind (sub · 0 n.toNat)).bind bytesOf).map fun s => (.str s, hkill σ id) else none
  | .mkMap, [] => some (.map σ.length, hpush σ [])
  | .look kk z ok, [.nilmap, k] => (baseEq kk k k).map fun _ => (found z ok none, σ)
  | .look kk z ok, [.map id, k] => (baseEq kk k k).bind fun _ => ((hget σ id).bind (mfind kk k · 0)).map fun r => (found z ok r, σ)
  | .mset kk, [.map id, k, v] => ((hget σ id).bind (minto kk k v)).map fun cs => (.unk, hset σ id cs)
  | .mlen, [.nilmap] => some (.int .i64 0, σ)
  | .mlen, [.map id] => (hget σ id).map fun cs => (.int .i64 (cs.length : Int), σ)
  | _, _ => none

def evOp (g : Opd → AV) (σ : AHeap) : MOp → Option (AV × AHeap)
  | .move x => some (g x, σ)
  | .nilCheck x => match g x with
    | .ptr id off => some (.ptr id off, σ)
    | .iptr cs => some (.iptr cs, σ)
    | .bptr id t => some (.bptr id t, σ)
    | .func f cs => some (.func f cs, σ)
    | _ => none
  | .pick c a b => match g c with
    | .bool true => some (g a, σ)
    | .bool false => some (g b, σ)
    | _ => none
  | .alloc zero => some (.ptr σ.length 0, hpush σ zero)
  | .box x => (g x).cells?.map fun cs => (.ptr σ.length 0, hpush σ cs)
  | .build zero parts => (fillParts zero (parts.map fun (o, s, x) => (o, s, g x))).map fun cs => (.agg cs, σ)
  | .buildSlice zero esz len parts => (fillParts ((List.replicate len zero).flatten) (parts.map fun (o, s, x) => (o, s, g x))).map fun cs => (.slice σ.length 0 len (some len) esz, hpush σ cs)
  | .load1 a => (ldCell σ (g a)).map (·, σ)
  | .loadN n a => (ldCells σ n (g a)).map (.agg ·, σ)
  | .store n a x => match g a, (g x).cells? with
    | .ptr id off, some cs => if cs.length = n ∧ cs.all (·.isCell) then ((hget σ id).bind (put · off cs)).map fun r => (.unk, hset σ id r) else none
    | _, _ => none
  | .bin op k x y => (abin op k (g x) (g y)).map (·, σ)
  | .un op x => (aun op (g x)).map (·, σ)
  | .convInt k x => match g x with
    | .int _ n => some (.int k (k.wrap n), σ)
    | _ => none
  | .convSame x => match g x with
    | .str s => some (.str s, σ)
    | _ => none
  | .resame x => match g x with
    | .slice id off len cap esz => if 0 < len ∧ (hget σ id).isSome then some (.slice id off len cap esz, σ) else none
    | _ => none
  | .toBytes x => match g x with
    | .str s => some (grown σ 1 s.length (s.map byteAV))
    | _ => none
  | .ofBytes x => (ofBytes σ (g x)).map fun s => (.str s, σ)
  | .mkfunc f caps => some (.func f (caps.map g), σ)
  | .makeSlice zero esz ebytes len cap => match g len, g cap with
    | .int .i64 l, .int .i64 c => if 0 ≤ l ∧ l ≤ c ∧ c ≤ 9223372036854775807 ∧ ebytes * c ≤ 281474976710656 then
        some (.slice σ.length 0 l.toNat (some c.toNat) esz, hpush σ ((List.replicate c.toNat zero).flatten)) else none
    | _, _ => none
  | .sliceStr x lo hi => (evSliceStr (g x) (lo.map g) (hi.map g)).map (·, σ)
  | .slice esz x lo hi mx => (evSlice esz (g x) (lo.map g) (hi.map g) (mx.map g)).map (·, σ)
  | .sliceArr n esz x lo hi mx => match g x with
    | .ptr id off => match hget σ id with
      | some cs => if off + n * esz ≤ cs.length then (evSlice esz (.slice id off n (some n) esz) (lo.map g) (hi.map g) (mx.map g)).map (·, σ) else none
      | none => none
    | _ => none
  | .fieldAddr off x => (fAddr off (g x)).map (·, σ)
  | .field1 off x => match g x with
    | .agg cs => (cs[off]?).map (·, σ)
    | _ => none
  | .fieldN off n x => match g x with
    | .agg cs => (sub cs off n).map (.agg ·, σ)
    | _ => none
  | .indexAddr esz x i => (iAddr esz (g x) (g i)).map (·, σ)
  | .indexArrAddr n esz x i => (aAddr n esz (g x) (g i)).map (·, σ)
  | .indexStr x i => match g x with
    | .str s => (inRange (g i) s.length).bind fun k => (s[k]?).map fun b => (byteAV b, σ)
    | _ => none
  | .indexArr1 n x i => match g x with
    | .agg cs => (inRange (g i) n).bind fun k => (cs[k]?).map (·, σ)
    | _ => none
  | .indexArrN n esz x i => match g x with
    | .agg cs => (inRange (g i) n).bind fun k => (sub cs (k * esz) esz).map (.agg ·, σ)
    | _ => none
  | .extract x i => match g x with
    | .tuple vs => (vs[i]?).map (·, σ)
    | _ => none
  | .lenStr x => match g x with
    | .str s => some (.int .i64 (s.length : Int), σ)
    | _ => none
  | .lenSl x => (lenSl (g x)).map fun (n : Nat) => (.int .i64 (n : Int), σ)
  | .lenArr n => some (.int .i64 (n : Int), σ)
  | .append esz ebytes s x => evAppend esz ebytes (g s) (g x) σ
  | .copy esz d s => evCopy esz (g d) (g s) σ
  | .minmax mx xs => match xs.map g with
    | [] => none
    | x :: r => (foldMM mx x r).map (·, σ)
  | .capOf x => (capV (g x)).map fun (n : Int) => (.int .i64 n, σ)
  | .call _ _ => none
  | .callv _ _ => none
  | .ext k xs => evExt σ k (xs.map g)

end Go.Gz
