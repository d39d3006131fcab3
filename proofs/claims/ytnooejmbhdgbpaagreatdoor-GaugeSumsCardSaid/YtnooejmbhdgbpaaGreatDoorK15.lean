/- Code, functions. -/
import Derived.Test.YtnooejmbhdgbpaaGreatDoorK14
import Derived.LoopN
set_option linter.unusedVariables false
set_option linter.unusedSimpArgs false
namespace Go.Gz

/-- The orders of a region that draws: operations that leave the heap alone as soon as may be; at each other one a choice which is next ('again': what is read again behind it; the last: what else may be next). -/
inductive DTree where
  | leaf
  | stop
  | quiet (i : Nat) (t : DTree)
  | loud (i : Nat) (again : List Nat) (t other : DTree)
  deriving Inhabited

inductive MCode where
  | skip
  | region (ops : List MOper)
  | draw (ops : List MOper) (t : DTree)
  | seq (a b : MCode)
  | cond (c : Opd) (a b : MCode)
  | block (id : Nat) (a : MCode)
  | loop (a : MCode)
  | exit (id : Nat)
  | ret
  deriving Inhabited

inductive MExit where
  | normal
  | exit (id : Nat)
  | ret

/-- What is read again behind each operation of a region that draws its order. -/
structure Pend where
  i : Nat
  op : MOp
  v : AV

def isRead (m : MOp) : Bool :=
  match m with
  | .load1 _ | .loadN _ _ | .ofBytes _ | .sliceArr _ _ _ _ _ _ => true
  | _ => false

/-- An operation with what its operands are. -/
def fixOp (e : Env) : MOp → MOp
  | .load1 a => .load1 (.c (a.ev e))
  | .loadN n a => .loadN n (.c (a.ev e))
  | .ofBytes a => .ofBytes (.c (a.ev e))
  | .sliceArr n s x lo hi mx => .sliceArr n s (.c (x.ev e)) (lo.map fun y => .c (y.ev e)) (hi.map fun y => .c (y.ev e)) (mx.map fun y => .c (y.ev e))
  | m => m

/-- Readings that a later operation must leave as they were. -/
def still (σ : AHeap) (ps : List Pend) (again : List Nat) : Prop := ∀ p ∈ ps, p.i ∈ again → evOp (Opd.ev fun _ => .unk) σ p.op = some (p.v, σ)

/-- An operation of a region that draws, if its guard wants it. -/
def wpG (P : Program) (o : MOper) (e : Env) (σ : AHeap) (K : AV → AHeap → Prop) (skip : Prop) : Prop :=
  match o.guard with
  | none => wpOp P o.op e σ K
  | some (t, want) => match guardVal (e t) with
    | some (some b) => if b = want then wpOp P o.op e σ K else skip
    | some none => skip
    | none => False

def wpTree (P : Program) (ops : List MOper) (K : Env → AHeap → Prop) : DTree → List Pend → Env → AHeap → Prop
  | .leaf, _, e, σ => K e σ
  | .stop, _, _, _ => True
  | .quiet i t, ps, e, σ =>
    match ops[i]? with
    | none => False
    | some o => wpG P o e σ (fun v σ' => wpTree P ops K t (if isRead o.op then ⟨i, fixOp e o.op, v⟩ :: ps else ps) (putD e o.dst v) σ') (wpTree P ops K t ps (putD e o.dst .und) σ)
  | .loud i again t other, ps, e, σ =>
    (match ops[i]? with
    | none => False
    | some o => wpG P o e σ (fun v σ' => still σ' ps again ∧ wpTree P ops K t ps (putD e o.dst v) σ') (wpTree P ops K t ps (putD e o.dst .und) σ)) ∧ wpTree P ops K other ps e σ

/-- The same state, or one told with less. -/
def WkR (n0 : Nat) (e : Env) (σ : AHeap) (e1 : Env) (σ1 : AHeap) : Prop := (e1 = e ∧ σ1 = σ) ∨ WkS n0 e σ e1 σ1

theorem WkR.here {N : Nat} {G : Nat → Prop} {σ σ1 σ0 : AHeap} {ρ ρ0 : Nat → Place} {w w0 : World} {n0 : Nat} {e e1 : Env} {a : Act} (h : Here N σ0 ρ0 w0 G e σ ρ a w) (k : WkR n0 e σ e1 σ1) (hn : σ0.length ≤ n0) : ∃ ρ1, Here N σ0 ρ0 w0 G e1 σ1 ρ1 a w := by
  rcases k with ⟨rfl, rfl⟩ | k
  · exact ⟨ρ, h⟩
  · exact k.here h hn

theorem WkR.refl (n0 : Nat) (e : Env) (σ : AHeap) : WkR n0 e σ e σ := .inl ⟨rfl, rfl⟩

def wpC (P : Program) (n0 : Nat) : MCode → (MExit → Env → AHeap → Prop) → Env → AHeap → Prop
  | .skip, Q, e, σ => Q .normal e σ
  | .region ops, Q, e, σ => wpOps P ops (Q .normal) e σ
  | .draw ops t, Q, e, σ => wpTree P ops (Q .normal) t [] e σ
  | .seq a b, Q, e, σ => wpC P n0 a (fun x e' σ' => match x with | .normal => wpC P n0 b Q e' σ' | x => Q x e' σ') e σ
  | .cond c a b, Q, e, σ => match c.ev e with
    | .bool t => if t then wpC P n0 a Q e σ else wpC P n0 b Q e σ
    | _ => False
  | .block id a, Q, e, σ => wpC P n0 a (fun x e' σ' => match x with | .exit i => if i = id then Q .normal e' σ' else Q (.exit i) e' σ' | x => Q x e' σ') e σ
  | .loop a, Q, e, σ => ∃ I : Nat → Env → AHeap → Prop, (∃ n e1 σ1, WkR n0 e σ e1 σ1 ∧ I n e1 σ1) ∧
      ∀ n e σ, I n e σ → wpC P n0 a (fun x e' σ' => match x with | .normal => ∃ m e1 σ1, m < n ∧ WkR n0 e' σ' e1 σ1 ∧ I m e1 σ1 | x => Q x e' σ') e σ
  | .exit id, Q, e, σ => Q (.exit id) e σ
  | .ret, Q, e, σ => Q .ret e σ

def toExit : MExit → Exit
  | .normal => .normal
  | .exit id => .exit id
  | .ret => .ret

/-- The code of the model that an abstract one is. -/
def CodeOk (P : Program) (N : Nat) (c : Code) (m : MCode) : Prop :=
  ∀ (σ0 : AHeap) (ρ0 : Nat → Place) (w0 : World) (G : Nat → Prop) (n0 : Nat) (Q : MExit → Env → AHeap → Prop) (Q' : Exit → Act → World → Prop), σ0.length ≤ n0 →
    (∀ x e σ ρ a w, Q x e σ → Here N σ0 ρ0 w0 G e σ ρ a w → Q' (toExit x) a w) →
    ∀ e σ ρ a w, Here N σ0 ρ0 w0 G e σ ρ a w → wpC P n0 m Q e σ → c.wp P Q' a w

section
variable {P : Program} {N : Nat}

theorem ok_skip : CodeOk P N .skip .skip := fun σ0 ρ0 w0 G n0 Q Q' hn hQ e σ ρ a w h hk => wp_skip (hQ .normal e σ ρ a w hk h)
theorem ok_exit (id : Nat) : CodeOk P N (.exit id) (.exit id) := fun σ0 ρ0 w0 G n0 Q Q' hn hQ e σ ρ a w h hk => wp_exit (hQ (.exit id) e σ ρ a w hk h)
theorem ok_ret : CodeOk P N .ret .ret := fun σ0 ρ0 w0 G n0 Q Q' hn hQ e σ ρ a w h hk => wp_ret (hQ .ret e σ ρ a w hk h)

theorem cOpers_some {ops : Array Oper} : ∀ {l : List Oper} {ms : List MOper}, cOpers P N ops l = some ms → l.length = ms.length ∧ ∀ (i : Nat) o m, l[i]? = some o → ms[i]? = some m → cOper P N ops o = some m
  | [], ms, h => by simp [cOpers] at h; subst h; simp
  | o :: l, ms, h => by
    simp only [cOpers] at h
    split at h
    · rename_i m ms' h1 h2
      cases h
      obtain ⟨k1, k2⟩ := cOpers_some h2
      refine ⟨by simpa using k1, fun i o' m' ho hm => ?_⟩
      cases i with
      | zero => simp at ho hm; subst ho; subst hm; exact h1
      | succ i => exact k2 i o' m' (by simpa using ho) (by simpa using hm)
    · cases h

theorem ok_region {id : Nat} {ops : Array Oper} {ms : List MOper} (hc : cOpers P N ops ops.toList = some ms) : CodeOk P N (.region id ops false) (.region ms) := by
  intro σ0 ρ0 w0 G n0 Q Q' hn hQ e σ ρ a w h hk
  obtain ⟨h1, h2⟩ := cOpers_some hc
  refine wp_region (opers_ok (fun e σ ρ a w hK hh => hQ .normal e σ ρ a w hK hh) (List.range ops.size) ms (by simpa using h1) (fun i j m hj hm => ?_) h hk)
  have hi : i < ops.size := by have := idx_lt hj; simpa using this
  simp [hi] at hj
  subst hj
  exact ⟨ops[i], by simp [hi], h2 i ops[i] m (by simp [hi]) hm⟩

theorem ok_seq {c d : Code} {m k : MCode} (hc : CodeOk P N c m) (hd : CodeOk P N d k) : CodeOk P N (.seq c d) (.seq m k) := by
  intro σ0 ρ0 w0 G n0 Q Q' hn hQ e σ ρ a w h hk
  refine wp_seq (hc σ0 ρ0 w0 G n0 _ _ hn ?_ e σ ρ a w h hk)
  intro x e σ ρ a w hx hh
  cases x with
  | normal => exact hd σ0 ρ0 w0 G n0 Q Q' hn hQ e σ ρ a w hh hx
  | exit id => exact hQ (.exit id) e σ ρ a w hx hh
  | ret => exact hQ .ret e σ ρ a w hx hh

theorem ok_cond {x : Operand} {y : Opd} {c d : Code} {m k : MCode} (hx : cOpd N x = some y) (hc : CodeOk P N c m) (hd : CodeOk P N d k) : CodeOk P N (.cond x c d) (.cond y m k) := by
  intro σ0 ρ0 w0 G n0 Q Q' hn hQ e σ ρ a w h hk
  have hv := cOpd_rel hx h.env
  simp only [wpC] at hk
  split at hk
  · rename_i t ht
    rw [ht] at hv
    generalize hev : a.eval x = v at hv
    cases hv
    refine wp_cond hev ?_
    cases t
    · exact hd σ0 ρ0 w0 G n0 Q Q' hn hQ e σ ρ a w h hk
    · exact hc σ0 ρ0 w0 G n0 Q Q' hn hQ e σ ρ a w h hk
  · exact hk.elim

theorem ok_block {id : Nat} {c : Code} {m : MCode} (hc : CodeOk P N c m) : CodeOk P N (.block id c) (.block id m) := by
  intro σ0 ρ0 w0 G n0 Q Q' hn hQ e σ ρ a w h hk
  refine wp_block (hc σ0 ρ0 w0 G n0 _ _ hn ?_ e σ ρ a w h hk)
  intro x e σ ρ a w hx hh
  cases x with
  | normal => exact hQ .normal e σ ρ a w hx hh
  | exit i =>
    simp only at hx
    simp only [toExit, Exit.inBlock]
    split at hx
    · rename_i hi
      rw [if_pos hi]; exact hQ .normal e σ ρ a w hx hh
    · rename_i hi
      rw [if_neg hi]; exact hQ (.exit i) e σ ρ a w hx hh
  | ret => exact hQ .ret e σ ρ a w hx hh

theorem ok_loop {c : Code} {m : MCode} (hc : CodeOk P N c m) : CodeOk P N (.loop c) (.loop m) := by
  intro σ0 ρ0 w0 G n0 Q Q' hn hQ e σ ρ a w h hk
  obtain ⟨I, ⟨n, e1, σ1, hw, hI⟩, hround⟩ := hk
  have key : ∀ M n e σ ρ a w, n ≤ M → I n e σ → Here N σ0 ρ0 w0 G e σ ρ a w → Code.rounds P c Q' (M + 1) a w := by
    intro M
    induction M with
    | zero =>
      intro n e σ ρ a w hnM hI hh
      rw [rounds_succ]
      refine hc σ0 ρ0 w0 G n0 _ _ hn ?_ e σ ρ a w hh (hround n e σ hI)
      intro x e σ ρ a w hx hh
      cases x with
      | normal => obtain ⟨m, _, _, hm, _⟩ := hx; omega
      | exit i => exact hQ (.exit i) e σ ρ a w hx hh
      | ret => exact hQ .ret e σ ρ a w hx hh
    | succ M ih =>
      intro n e σ ρ a w hnM hI hh
      rw [rounds_succ]
      refine hc σ0 ρ0 w0 G n0 _ _ hn ?_ e σ ρ a w hh (hround n e σ hI)
      intro x e σ ρ a w hx hh
      cases x with
      | normal =>
        obtain ⟨m, e2, σ2, hm, hwk, hI2⟩ := hx
        obtain ⟨ρ2, hh2⟩ := hwk.here hh hn
        exact ih m e2 σ2 ρ2 a w (by omega) hI2 hh2
      | exit i => exact hQ (.exit i) e σ ρ a w hx hh
      | ret => exact hQ .ret e σ ρ a w hx hh
  obtain ⟨ρ1, hh1⟩ := hw.here h hn
  exact wp_loop_rounds (n + 1) (key n n e1 σ1 ρ1 a w (Nat.le_refl _) hI hh1)

end
end Go.Gz
