/- Abstract values and heaps, and how they stand to the model's worlds. -/
import Derived.Calls
import Derived.Below
import Derived.Laws.Sem
import Derived.Test.YtnooejmbhdgbpaaGreatDoorK0
set_option linter.unusedVariables false
set_option linter.unusedSimpArgs false
namespace Go.Gz

/-- Abstract values. 'ptr', 'slice': into a block of the abstract heap (memory of the call's own). 'iptr', 'imm': memory that nobody writes, told by what it holds. 'unk': nothing is known. -/
inductive AV where
  | bool (b : Bool)
  | int (k : IntKind) (n : Int)
  | str (s : List UInt8)
  | nilptr
  | ptr (id off : Nat)
  | iptr (cells : List AV)
  | nilslice
  | slice (id off len : Nat) (cap : Option Nat) (esz : Nat)
  | imm (rows : List (List AV)) (full nn : Bool)
  | func (f : FuncId) (caps : List AV)
  | nilfunc
  | agg (cells : List AV)
  | tuple (vs : List AV)
  | unk
  | nilif
  | someif
  | brow (id len : Nat) (t : TypeId)
  | bptr (id : Nat) (t : TypeId)
  | map (id : Nat)
  | nilmap
  deriving Inhabited

/-- An abstract heap: a block is its cells, or gone. -/
abbrev AHeap := List (Option (List AV))

/-- Where a block lies: in which block of the world, from which cell on, how many cells may be used; or it is nil. -/
structure Place where
  blk : Nat
  off : Nat
  ext : Nat
  nil : Bool
  ty : TypeId
  deriving Inhabited

/-- A place that lies in the world: a row of cells, or (nil, of extent 1) a map. -/
def Place.live (p : Place) : Prop := p.nil = false ∨ p.ext = 1

structure Ctx where
  w : World
  ρ : Nat → Place
  n : Nat
  O : Nat → Prop

inductive VRel (C : Ctx) : AV → Value → Prop
  | bool (b : Bool) : VRel C (.bool b) (.bool b)
  | int (k : IntKind) (n : Int) : VRel C (.int k n) (.int k n)
  | str (s : List UInt8) : VRel C (.str s) (.string ⟨s.toArray⟩)
  | nilptr : VRel C .nilptr (.pointer none)
  | ptr (id off : Nat) : id < C.n → (C.ρ id).nil = false → VRel C (.ptr id off) (.pointer (some ⟨(C.ρ id).blk, (C.ρ id).off + off, none⟩))
  | iptr (cells : List AV) (b o : Nat) (f : Nat → Value) :
      (∀ (j : Nat) (x : AV), cells[j]? = some x → C.w.cell? ⟨b, o + j, none⟩ = some (f j) ∧ ¬ C.O b) →
      (∀ (j : Nat) (x : AV), cells[j]? = some x → VRel C x (f j)) → VRel C (.iptr cells) (.pointer (some ⟨b, o, none⟩))
  | nilslice : VRel C .nilslice (.slice none 0 0)
  | slice (id off len : Nat) (cap : Option Nat) (esz : Nat) (b o c : Nat) : id < C.n → (C.ρ id).nil = false → len ≤ c → (∀ k, cap = some k → c = k) →
      (0 < c → b = (C.ρ id).blk ∧ o = (C.ρ id).off + off ∧ off + c * esz ≤ (C.ρ id).ext) → VRel C (.slice id off len cap esz) (.slice (some ⟨b, o, none⟩) len c)
  | sliceNil (id off : Nat) (cap : Option Nat) (esz : Nat) (a : Option Addr) : id < C.n → (C.ρ id).nil = true → (∀ k, cap = some k → k = 0) → True → VRel C (.slice id off 0 cap esz) (.slice a 0 0)
  | imm (rows : List (List AV)) (full nn : Bool) (b o c esz : Nat) (f : Nat → Nat → Value) : rows.length ≤ c → (full = true → c = rows.length) →
      (∀ (i : Nat) (row : List AV), rows[i]? = some row → row.length = esz) →
      (∀ (i : Nat) (row : List AV) (j : Nat) (x : AV), rows[i]? = some row → row[j]? = some x → C.w.cell? ⟨b, o + i * esz + j, none⟩ = some (f i j) ∧ ¬ C.O b) →
      (∀ (i : Nat) (row : List AV) (j : Nat) (x : AV), rows[i]? = some row → row[j]? = some x → VRel C x (f i j)) → VRel C (.imm rows full nn) (.slice (some ⟨b, o, none⟩) rows.length c)
  | immNil (full : Bool) : VRel C (.imm [] full false) (.slice none 0 0)
  | immVoid (full nn : Bool) (a : Addr) : VRel C (.imm [] full nn) (.slice (some a) 0 0)
  | func (f : FuncId) (caps : List AV) (caps' : Array Value) : caps.length = caps'.size →
      (∀ (i : Nat) x v, caps[i]? = some x → caps'[i]? = some v → VRel C x v) → VRel C (.func f caps) (.func (.func f) #[] caps')
  | nilfunc : VRel C .nilfunc .nilFunc
  | nilif : VRel C .nilif .nilIface
  | someif (t : TypeId) (v : Value) : VRel C .someif (.iface t v)
  | brow (id len : Nat) (t : TypeId) (c : Nat) : id < C.n → (C.ρ id).nil = false → (C.ρ id).ty = t → len ≤ c → c ≤ (C.ρ id).ext → (C.ρ id).off = 0 → VRel C (.brow id len t) (.slice (some ⟨(C.ρ id).blk, 0, none⟩) len c)
  | bptr (id : Nat) (t : TypeId) : id < C.n → (C.ρ id).nil = false → (C.ρ id).ty = t → (C.ρ id).off = 0 → VRel C (.bptr id t) (.pointer (some ⟨(C.ρ id).blk, 0, none⟩))
  | map (id : Nat) : id < C.n → (C.ρ id).nil = true → (C.ρ id).ext = 1 → VRel C (.map id) (.map (some (C.ρ id).blk))
  | nilmap : VRel C .nilmap (.map none)
  | agg (cs : List AV) (cs' : Array Value) : cs.length = cs'.size → (∀ (i : Nat) x v, cs[i]? = some x → cs'[i]? = some v → VRel C x v) → VRel C (.agg cs) (.agg cs')
  | tuple (cs : List AV) (cs' : Array Value) : cs.length = cs'.size → (∀ (i : Nat) x v, cs[i]? = some x → cs'[i]? = some v → VRel C x v) → VRel C (.tuple cs) (.tuple cs')
  | unk (v : Value) : VRel C .unk v

def LRel (C : Ctx) (xs : List AV) (vs : List Value) : Prop := xs.length = vs.length ∧ ∀ (i : Nat) x v, xs[i]? = some x → vs[i]? = some v → VRel C x v

def owned (σ : AHeap) (ρ : Nat → Place) (b : Nat) : Prop := ∃ (id : Nat) (c : List AV), σ[id]? = some (some c) ∧ (ρ id).live ∧ (ρ id).blk = b

def ctx (σ : AHeap) (ρ : Nat → Place) (w : World) (G : Nat → Prop) : Ctx := ⟨w, ρ, σ.length, fun b => owned σ ρ b ∨ G b⟩

/-- What a live block's place in the world holds. -/
def BlkRel (C : Ctx) (p : Place) (cells : List AV) : Prop :=
  ∃ c t fr, C.w.heap[p.blk]? = some (.cells c t fr) ∧ p.off + p.ext ≤ c.size ∧ (cells.length ≤ p.ext ∧ p.ty = t) ∧ ((∀ i, i < c.size → ¬ (fr.1 ≤ i ∧ i < fr.2)) ∧ fr.1 ≤ fr.2) ∧
    (∀ (i : Nat) x, cells[i]? = some x → ∃ v, c[p.off + i]? = some v ∧ VRel C x v)

/-- What a map's place in the world holds: an entry each, told as the pair of its key and its value. -/
def MapBlk (C : Ctx) (p : Place) (cells : List AV) : Prop :=
  ∃ es clock, C.w.heap[p.blk]? = some (.map es clock) ∧ LRel C cells (es.toList.map fun e => .tuple #[e.key, e.val]) ∧
    (∀ (i : Nat) e, es[i]? = some e → e.born < clock) ∧ (∀ (i j : Nat) e f, es[i]? = some e → es[j]? = some f → e.born = f.born → i = j)

/-- What a place that is no row of cells holds: a map, or nothing. -/
def NilRel (C : Ctx) (p : Place) (cells : List AV) : Prop := (p.ext = 1 → MapBlk C p cells) ∧ (p.ext ≠ 1 → cells = [])

/-- The package variables hold what they held; their blocks are nobody's own. -/
def Glob (C : Ctx) : Prop := ∃ w0, Laid w0 ∧ ∀ b, b < w0.heap.size → ¬ C.O b ∧ C.w.heap[b]? = w0.heap[b]?

theorem Glob.mono' {C C' : Ctx} (hb : ∀ b, b < C.w.heap.size → ¬ C.O b → ¬ C'.O b ∧ C'.w.heap[b]? = C.w.heap[b]?) (h : Glob C) : Glob C' := by
  obtain ⟨w0, h0, h1⟩ := h
  refine ⟨w0, h0, fun b hlt => ?_⟩
  obtain ⟨h2, h3⟩ := h1 b hlt
  have hc : b < C.w.heap.size := by
    rcases Nat.lt_or_ge b C.w.heap.size with h' | h'
    · exact h'
    · rw [Array.getElem?_eq_none h', Array.getElem?_eq_getElem hlt] at h3; simp at h3
  obtain ⟨h4, h5⟩ := hb b hc h2
  exact ⟨h4, h5.trans h3⟩

theorem Glob.laid {C : Ctx} (h : Glob C) : Laid C.w := by
  obtain ⟨w0, h0, h1⟩ := h
  exact h0.keeps fun b hb => (h1 b hb).2

structure WRel (σ : AHeap) (ρ : Nat → Place) (w : World) (G : Nat → Prop) : Prop where
  blk : ∀ (id : Nat) cells, σ[id]? = some (some cells) → (ρ id).nil = false → BlkRel (ctx σ ρ w G) (ρ id) cells
  nil : ∀ (id : Nat) cells, σ[id]? = some (some cells) → (ρ id).nil = true → NilRel (ctx σ ρ w G) (ρ id) cells
  excl : ∀ (id id' : Nat) c c', σ[id]? = some (some c) → σ[id']? = some (some c') → (ρ id).live → (ρ id').live → (ρ id).blk = (ρ id').blk → id = id'
  sep : ∀ (id : Nat) c, σ[id]? = some (some c) → (ρ id).live → ¬ G (ρ id).blk
  gsz : ∀ b, G b → b < w.heap.size
  glob : Glob (ctx σ ρ w G)

structure Keeps (σ : AHeap) (ρ : Nat → Place) (w : World) (σ' : AHeap) (ρ' : Nat → Place) (w' : World) : Prop where
  os : w'.os = w.os
  tape : w'.tape = w.tape
  output : w'.output = w.output
  size : w.heap.size ≤ w'.heap.size
  frame : ∀ b, b < w.heap.size → ¬ owned σ ρ b → w'.heap[b]? = w.heap[b]?
  own : ∀ b, owned σ' ρ' b → owned σ ρ b ∨ w.heap.size ≤ b
  len : σ.length ≤ σ'.length
  rho : ∀ id, id < σ.length → ρ' id = ρ id

theorem Keeps.refl (σ : AHeap) (ρ : Nat → Place) (w : World) : Keeps σ ρ w σ ρ w :=
  ⟨rfl, rfl, rfl, Nat.le_refl _, fun _ _ _ => rfl, fun _ h => .inl h, Nat.le_refl _, fun _ _ => rfl⟩

theorem Keeps.trans {σ σ' σ'' : AHeap} {ρ ρ' ρ'' : Nat → Place} {w w' w'' : World} (h : Keeps σ ρ w σ' ρ' w') (k : Keeps σ' ρ' w' σ'' ρ'' w'') : Keeps σ ρ w σ'' ρ'' w'' where
  os := k.os.trans h.os
  tape := k.tape.trans h.tape
  output := k.output.trans h.output
  size := Nat.le_trans h.size k.size
  frame b hb hn := (k.frame b (Nat.lt_of_lt_of_le hb h.size) (fun ho => (h.own b ho).elim hn (fun hh => absurd hb (Nat.not_lt.2 hh)))).trans (h.frame b hb hn)
  own b hb := (k.own b hb).elim (h.own b) (fun hh => .inr (Nat.le_trans h.size hh))
  len := Nat.le_trans h.len k.len
  rho id hid := (k.rho id (Nat.lt_of_lt_of_le hid h.len)).trans (h.rho id hid)

theorem cell?_lt {w : World} {a : Addr} {v : Value} (h : w.cell? a = some v) : a.block < w.heap.size := by
  unfold World.cell? at h
  cases hb : w.heap[a.block]? with
  | none => simp [hb] at h
  | some o => exact (Array.getElem?_eq_some_iff.1 hb).1

theorem cell?_block {w w' : World} {a : Addr} (h : w'.heap[a.block]? = w.heap[a.block]?) : w'.cell? a = w.cell? a := by
  unfold World.cell?; rw [h]

/-- From one context to another: what is told stays told. -/
theorem VRel.mono' {C C' : Ctx} (hn : C.n ≤ C'.n) (hρ : ∀ id, id < C.n → C'.ρ id = C.ρ id)
    (hb : ∀ b, b < C.w.heap.size → ¬ C.O b → ¬ C'.O b ∧ C'.w.heap[b]? = C.w.heap[b]?) {x : AV} {v : Value} (h : VRel C x v) : VRel C' x v := by
  induction h with
  | bool b => exact .bool b
  | int k n => exact .int k n
  | str s => exact .str s
  | nilptr => exact .nilptr
  | ptr id off h1 h2 => have e := hρ id h1; rw [← e] at h2 ⊢; exact .ptr id off (Nat.lt_of_lt_of_le h1 hn) h2
  | iptr cells b o f hc hr ih =>
    refine .iptr cells b o f (fun j x hx => ?_) ih
    obtain ⟨h1, h2⟩ := hc j x hx
    obtain ⟨h3, h4⟩ := hb b (cell?_lt h1) h2
    exact ⟨by rw [cell?_block (w' := C'.w) (w := C.w) h4]; exact h1, h3⟩
  | nilslice => exact .nilslice
  | slice id off len cap esz b o c h1 h2 h3 h4 h6 =>
    have e := hρ id h1; rw [← e] at h2 h6
    exact .slice id off len cap esz b o c (Nat.lt_of_lt_of_le h1 hn) h2 h3 h4 h6
  | sliceNil id off cap esz a h1 h2 h3 h4 => have e := hρ id h1; rw [← e] at h2; exact .sliceNil id off cap esz a (Nat.lt_of_lt_of_le h1 hn) h2 h3 h4
  | imm rows full nn b o c esz f h1 h2 h3 hc hr ih =>
    refine .imm rows full nn b o c esz f h1 h2 h3 (fun i row j x hx hy => ?_) ih
    obtain ⟨k1, k2⟩ := hc i row j x hx hy
    obtain ⟨k3, k4⟩ := hb b (cell?_lt k1) k2
    exact ⟨by rw [cell?_block (w' := C'.w) (w := C.w) k4]; exact k1, k3⟩
  | immNil full => exact .immNil full
  | immVoid full nn a => exact .immVoid full nn a
  | func f caps caps' h1 h2 ih => exact .func f caps caps' h1 ih
  | nilfunc => exact .nilfunc
  | nilif => exact .nilif
  | someif t v => exact .someif t v
  | brow id len t c h1 h2 h3 h4 h5 h6 => have e := hρ id h1; rw [← e] at h2 h3 h5 h6 ⊢; exact .brow id len t c (Nat.lt_of_lt_of_le h1 hn) h2 h3 h4 h5 h6
  | bptr id t h1 h2 h3 h4 => have e := hρ id h1; rw [← e] at h2 h3 h4 ⊢; exact .bptr id t (Nat.lt_of_lt_of_le h1 hn) h2 h3 h4
  | map id h1 h2 h3 => have e := hρ id h1; rw [← e] at h2 h3 ⊢; exact .map id (Nat.lt_of_lt_of_le h1 hn) h2 h3
  | nilmap => exact .nilmap
  | agg cs cs' h1 h2 ih => exact .agg cs cs' h1 ih
  | tuple cs cs' h1 h2 ih => exact .tuple cs cs' h1 ih
  | unk v => exact .unk v

theorem Glob.keeps {σ σ' : AHeap} {ρ ρ' : Nat → Place} {w w' : World} {G : Nat → Prop} (h : Glob (ctx σ ρ w G)) (k : Keeps σ ρ w σ' ρ' w') : Glob (ctx σ' ρ' w' G) :=
  Glob.mono' (C := ctx σ ρ w G) (C' := ctx σ' ρ' w' G) (fun b hb hn => ⟨fun ho => Or.elim ho (fun ho => (k.own b ho).elim (fun h => hn (Or.inl h)) (fun hh => absurd hb (Nat.not_lt.2 hh))) (fun hg => hn (Or.inr hg)),
    k.frame b hb (fun ho => hn (Or.inl ho))⟩) h

theorem VRel.keeps {σ σ' : AHeap} {ρ ρ' : Nat → Place} {w w' : World} {G : Nat → Prop} (hw : WRel σ ρ w G) (k : Keeps σ ρ w σ' ρ' w') {x : AV} {v : Value}
    (h : VRel (ctx σ ρ w G) x v) : VRel (ctx σ' ρ' w' G) x v :=
  VRel.mono' (C := ctx σ ρ w G) (C' := ctx σ' ρ' w' G) k.len k.rho (fun b hb hn => ⟨fun ho => Or.elim ho (fun ho => (k.own b ho).elim (fun h => hn (Or.inl h)) (fun hh => absurd hb (Nat.not_lt.2 hh))) (fun hg => hn (Or.inr hg)),
    k.frame b hb (fun ho => hn (Or.inl ho))⟩) h

theorem LRel.keeps {σ σ' : AHeap} {ρ ρ' : Nat → Place} {w w' : World} {G : Nat → Prop} (hw : WRel σ ρ w G) (k : Keeps σ ρ w σ' ρ' w') {xs : List AV} {vs : List Value}
    (h : LRel (ctx σ ρ w G) xs vs) : LRel (ctx σ' ρ' w' G) xs vs := ⟨h.1, fun i x v hx hv => (h.2 i x v hx hv).keeps hw k⟩

theorem LRel.nil (C : Ctx) : LRel C [] [] := ⟨rfl, fun i x v h => by simp at h⟩
theorem LRel.cons {C : Ctx} {x : AV} {v : Value} {xs : List AV} {vs : List Value} (h : VRel C x v) (t : LRel C xs vs) : LRel C (x :: xs) (v :: vs) :=
  ⟨by simp [t.1], fun i y u hy hu => by
    cases i with
    | zero => simp at hy hu; subst hy; subst hu; exact h
    | succ i => simp at hy hu; exact t.2 i y u hy hu⟩
theorem LRel.head {C : Ctx} {x : AV} {v : Value} {xs : List AV} {vs : List Value} (h : LRel C (x :: xs) (v :: vs)) : VRel C x v := h.2 0 x v rfl rfl
theorem LRel.tail {C : Ctx} {x : AV} {v : Value} {xs : List AV} {vs : List Value} (h : LRel C (x :: xs) (v :: vs)) : LRel C xs vs :=
  ⟨by simpa using h.1, fun i y u hy hu => h.2 (i + 1) y u (by simpa using hy) (by simpa using hu)⟩
theorem LRel.append {C : Ctx} {xs ys : List AV} {vs us : List Value} (h : LRel C xs vs) (k : LRel C ys us) : LRel C (xs ++ ys) (vs ++ us) := by
  induction xs generalizing vs with
  | nil => have := h.1; cases vs with | nil => exact k | cons => simp at this
  | cons x xs ih =>
    have := h.1
    cases vs with
    | nil => simp at this
    | cons v vs => exact .cons h.head (ih h.tail)
theorem LRel.take {C : Ctx} {xs : List AV} {vs : List Value} (h : LRel C xs vs) (n : Nat) : LRel C (xs.take n) (vs.take n) :=
  ⟨by simp [h.1], fun i x v hx hv => by
    rw [List.getElem?_take] at hx hv
    split at hx
    · rename_i hi; rw [if_pos hi] at hv; exact h.2 i x v hx hv
    · cases hx⟩
theorem LRel.drop {C : Ctx} {xs : List AV} {vs : List Value} (h : LRel C xs vs) (n : Nat) : LRel C (xs.drop n) (vs.drop n) :=
  ⟨by simp [h.1], fun i x v hx hv => by rw [List.getElem?_drop] at hx hv; exact h.2 _ x v hx hv⟩
theorem LRel.unks (C : Ctx) (vs : List Value) : LRel C (List.replicate vs.length .unk) vs :=
  ⟨by simp, fun i x v hx _ => by
    rw [List.getElem?_replicate] at hx
    split at hx
    · cases hx; exact .unk v
    · cases hx⟩

end Go.Gz
