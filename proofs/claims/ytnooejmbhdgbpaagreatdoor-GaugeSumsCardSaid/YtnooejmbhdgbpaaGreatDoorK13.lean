/- What a call does, told on abstract values; operations one behind the other. -/
import Derived.Test.YtnooejmbhdgbpaaGreatDoorK40
set_option linter.unusedVariables false
set_option linter.unusedSimpArgs false
namespace Go.Gz

/-- A function that has a text of its own. -/
def FnOk (P : Program) (f : FuncId) : Prop := ∃ fn, P.funcs[f]? = some fn ∧ fn.body.isSome ∧ fn.name ≠ "runtime.NumGoroutine"

/-- Called with such arguments in such a heap it returns, and what it returns, with the heap behind it, is as Q says. -/
def Tri (P : Program) (f : FuncId) (args : List AV) (σ : AHeap) (Q : AV → AHeap → Prop) : Prop :=
  FnOk P f ∧ ∀ (ρ : Nat → Place) (w : World) (G : Nat → Prop) (args' : Array Value), WRel σ ρ w G → LRel (ctx σ ρ w G) args args'.toList →
    Calls P f args' w fun e w' => ∃ v ρ' r σ', e = .returned v ∧ Q r σ' ∧ Keeps σ ρ w σ' ρ' w' ∧ WRel σ' ρ' w' G ∧ VRel (ctx σ' ρ' w' G) r v

theorem Tri.mono {P : Program} {f : FuncId} {args : List AV} {σ : AHeap} {Q Q' : AV → AHeap → Prop} (h : Tri P f args σ Q) (hq : ∀ r σ', Q r σ' → Q' r σ') : Tri P f args σ Q' :=
  ⟨h.1, fun ρ w G args' hw ha => (h.2 ρ w G args' hw ha).mono fun e w' ⟨v, ρ', r, σ', h1, h2, h3⟩ => ⟨v, ρ', r, σ', h1, hq r σ' h2, h3⟩⟩

def wpOp (P : Program) (m : MOp) (e : Env) (σ : AHeap) (K : AV → AHeap → Prop) : Prop :=
  match m with
  | .call f args => Tri P f (args.map (·.ev e)) σ K
  | .callv f args => match f.ev e with
    | .func g caps => Tri P g (args.map (·.ev e) ++ caps) σ K
    | _ => False
  | m => match evOp (Opd.ev e) σ m with
    | some (v, σ') => K v σ'
    | none => False

def putD (e : Env) (d : Option Nat) (v : AV) : Env :=
  match d with
  | some t => fun k => if k = t then v else e k
  | none => e

/-- What is in the slot of an operation that was not wanted. -/
abbrev AV.und : AV := .tuple []

/-- What a guard tells: a truth, or that there is none. -/
def guardVal : AV → Option (Option Bool)
  | .bool b => some (some b)
  | .tuple _ => some none
  | _ => none

def wpOps (P : Program) : List MOper → (Env → AHeap → Prop) → Env → AHeap → Prop
  | [], K, e, σ => K e σ
  | o :: os, K, e, σ =>
    match o.guard with
    | none => wpOp P o.op e σ fun v σ' => wpOps P os K (putD e o.dst v) σ'
    | some (t, want) => match guardVal (e t) with
      | some (some b) => if b = want then wpOp P o.op e σ fun v σ' => wpOps P os K (putD e o.dst v) σ' else wpOps P os K (putD e o.dst .und) σ
      | some none => wpOps P os K (putD e o.dst .und) σ
      | none => False

/-- The model's own. -/
abbrev wpOps' := Go.wpOps

theorem wpOp_ev {P : Program} {m : MOp} {e : Env} {σ : AHeap} {K : AV → AHeap → Prop} (hm : callOf m = false) (h : wpOp P m e σ K) : ∃ v σ', evOp (Opd.ev e) σ m = some (v, σ') ∧ K v σ' := by
  unfold wpOp at h
  split at h
  · simp [callOf] at hm
  · simp [callOf] at hm
  · split at h
    · exact ⟨_, _, ‹_›, h⟩
    · exact h.elim

/-- Where the run stands, beside the abstract one; since a beginning. -/
structure Here (N : Nat) (σ0 : AHeap) (ρ0 : Nat → Place) (w0 : World) (G : Nat → Prop) (e : Env) (σ : AHeap) (ρ : Nat → Place) (a : Act) (w : World) : Prop where
  rel : WRel σ ρ w G
  env : EnvRel (ctx σ ρ w G) N e a
  keeps : Keeps σ0 ρ0 w0 σ ρ w

theorem env_put {C : Ctx} {N : Nat} {e : Env} {a : Act} {x : AV} {v : Value} (h : EnvRel C N e a) (hv : VRel C x v) (d : Option Nat) : EnvRel C N (putD e d x) (a.put d v) := by
  cases d with
  | none => exact h
  | some t =>
    obtain ⟨h1, h2, h3⟩ := h
    refine ⟨by simp [Act.put, h1], by simp [Act.put, h2], fun k hk => ?_⟩
    simp only [putD, Act.put]
    by_cases hkt : k = t
    · subst hkt
      rw [if_pos rfl]
      simpa [Array.getD, Array.size_setIfInBounds, h1, hk] using hv
    · rw [if_neg hkt]
      have := h3 k hk
      have e1 : (a.tmps.setIfInBounds t v).getD k undef = a.tmps.getD k undef := by
        simp only [Array.getD, Array.size_setIfInBounds]
        split
        · simp only [Array.getInternal_eq_getElem]
          rw [Array.getElem_setIfInBounds_ne _ (by omega)]
        · rfl
      rw [e1]; exact this

theorem EnvRel.keeps {σ σ' : AHeap} {ρ ρ' : Nat → Place} {w w' : World} {G : Nat → Prop} {N : Nat} {e : Env} {a : Act} (hw : WRel σ ρ w G) (k : Keeps σ ρ w σ' ρ' w') (h : EnvRel (ctx σ ρ w G) N e a) : EnvRel (ctx σ' ρ' w' G) N e a :=
  ⟨h.1, h.2.1, fun t ht => (h.2.2 t ht).keeps hw k⟩

section
variable {P : Program} {N : Nat} {σ0 : AHeap} {ρ0 : Nat → Place} {w0 : World} {G : Nat → Prop}

theorem run_callFunc {f : FuncId} (hf : FnOk P f) (args : Array Value) (w : World) : (callFunc f args).run P w = .ok (.enter f args) w := by
  obtain ⟨fn, h1, h2, h3⟩ := hf
  have h4 : fn.body.isNone = false := by cases hb : fn.body <;> simp_all
  have h5 : (fn.name == "runtime.NumGoroutine") = false := by simpa using h3
  simp only [callFunc, Sem.run_bind, run_program, Result.andThen_ok, h1, h4, h5, Bool.false_eq_true, if_false, Sem.run_pure]

/-- An operation, a call among them: the run goes on as the abstract one does. -/
theorem oper_ok {o : Oper} {m : MOp} {e : Env} {σ : AHeap} {ρ : Nat → Place} {a : Act} {w : World} {K : AV → AHeap → Prop} {next : Act → World → Prop} {Q : Exit → Act → World → Prop}
    (hc : cOpX P N o.op = some m) (h : Here N σ0 ρ0 w0 G e σ ρ a w) (hk : wpOp P m e σ K)
    (hn : ∀ x σ' ρ' v w', K x σ' → Keeps σ ρ w σ' ρ' w' → WRel σ' ρ' w' G → VRel (ctx σ' ρ' w' G) x v → next (a.put o.dst v) w') :
    o.wp P a w next Q := by
  have calls : ∀ f (args : Array Value) (xs : List AV), Tri P f xs σ K → LRel (ctx σ ρ w G) xs args.toList → (execOp a.eval o).run P w = .ok (.enter f args) w → o.wp P a w next Q := by
    intro f args xs ht hl hr
    unfold Oper.wp
    rw [hr]
    show Calls P f args w _
    refine (ht.2 ρ w G args h.rel hl).mono ?_
    rintro e' w' ⟨v, ρ', r, σ', rfl, hq, k1, k2, k3⟩
    exact hn r σ' ρ' v w' hq k1 k2 k3
  have flat : ∀ {m : MOp}, callOf m = false → wpOp P m e σ K → (∀ x σ', evOp (Opd.ev e) σ m = some (x, σ') → OpOk P (execOp a.eval o) σ ρ w G x σ') → o.wp P a w next Q := by
    intro m hcall hk hok
    obtain ⟨x, σ', hev, hK⟩ := wpOp_ev hcall hk
    obtain ⟨v, w', ρ', hr, k1, k2, k3⟩ := hok x σ' hev
    unfold Oper.wp
    rcases hr with hr | ⟨hr, rfl⟩
    · rw [hr]; exact hn x σ' ρ' v w' hK k1 k2 k3
    · rw [hr]; exact hn x σ' ρ' _ w' hK k1 k2 k3
  have stop : wpOp P stopM e σ K → False := fun h => by
    have := wpOp_ev (m := stopM) rfl h
    obtain ⟨v, σ', h1, _⟩ := this
    simp [stopM, evOp, Opd.ev, capV] at h1
  unfold cOpX at hc
  split at hc
  · rename_i m' hp
    cases hc
    refine flat ?_ hk (fun x σ' hev => pre_ok hp h.rel h.env hev)
    unfold cPre at hp
    (repeat' split at hp) <;> first
      | (cases hp; rfl)
      | (simp at hp; done)
      | (obtain ⟨_, _, rfl⟩ := Option.map_eq_some_iff.1 hp; rfl)
  rename_i hpn
  split at hc
  case h_2 =>
    split at hc
    · rename_i m' hp
      cases hc
      refine flat ?_ hk (fun x σ' hev => new_ok hp h.rel h.env hev)
      unfold cNew at hp
      (repeat' split at hp) <;> first
        | (cases hp; rfl)
        | (simp at hp; done)
        | (obtain ⟨_, _, rfl⟩ := Option.map_eq_some_iff.1 hp; rfl)
    · cases hc; exact (stop hk).elim
  rename_i m' hc0
  split at hc
  · cases hc; exact (stop hk).elim
  rename_i hcd
  cases hc
  obtain ⟨hc', hcc⟩ : cOp P N o.op = some m ∧ (callOf m = true → isCallOp o.op = true) := ⟨hc0, fun h3 => by simpa [h3] using hcd⟩
  cases hcall : callOf m with
  | false =>
    obtain ⟨x, σ', hev, hK⟩ := wpOp_ev hcall hk
    obtain ⟨v, w', ρ', hr, k1, k2, k3⟩ := op_ok hc' h.rel h.env hev
    unfold Oper.wp
    rcases hr with hr | ⟨hr, rfl⟩
    · rw [hr]; exact hn x σ' ρ' v w' hK k1 k2 k3
    · rw [hr]; exact hn x σ' ρ' _ w' hK k1 k2 k3
  | true =>
    have hic := hcc hcall
    obtain ⟨dst, op, ty, pos, after, guard⟩ := o
    simp only at hc' hic
    cases op <;> simp [isCallOp] at hic
    rename_i c
    unfold cOp at hc'
    simp only at hc'
    split at hc'
    · rename_i f hcal
      split at hc'
      · rename_i fn xs hfn hxs
        split at hc'
        · rename_i hh
          cases hc'
          simp only [wpOp] at hk
          refine calls f (c.args.map a.eval) _ hk ?_ ?_
          · have := cOpds_rel h.env hxs; simpa using this
          · have hF : FnOk P f := ⟨fn, hfn, hh.1, hh.2⟩
            simp only [execOp, resolve, hcal, Act.eval, Deferred.ofValue, Sem.run_bind, Sem.run_pure, Result.andThen_ok, invoke]
            have := run_callFunc hF (c.args.map a.eval) w
            simpa [Act.eval] using this
        · cases hc'
      · cases hc'
    · rename_i fo hnf hcal
      split at hc'
      · rename_i f' xs hfo hxs
        cases hc'
        simp only [wpOp] at hk
        split at hk
        · rename_i g caps heq
          have hv := cOpd_rel hfo h.env
          rw [heq] at hv
          generalize hev : a.eval fo = vf at hv
          cases hv with
          | func _ _ caps' hl hcaps =>
            refine calls g (c.args.map a.eval ++ caps') _ hk ?_ ?_
            · have := (cOpds_rel h.env hxs).append (⟨by simpa using hl, fun i x v hx hv => hcaps i x v hx (by simpa using hv)⟩ : LRel (ctx σ ρ w G) caps caps'.toList)
              simpa using this
            · simp only [execOp, resolve, hcal, hev, Deferred.ofValue, Sem.run_bind, Sem.run_pure, Result.andThen_ok, invoke]
              have := run_callFunc hk.1 (c.args.map a.eval ++ caps') w
              simpa using this
        · exact hk.elim
      · cases hc'
    · rename_i b hb
      exfalso
      unfold cBuiltin at hc'
      (repeat' split at hc') <;> first
        | (cases hc'; simp [callOf] at hcall; done)
        | (simp at hc'; done)
        | (cases hh : cOpds N c.args.toList <;> simp [hh] at hc' <;> subst hc' <;> simp [callOf] at hcall; done)
    · cases hc'

theorem cOper_some {ops : Array Oper} {o : Oper} {m : MOper} (h : cOper P N ops o = some m) : cOpX P N o.op = some m.op ∧ cGuard N ops o.guard = some m.guard ∧ m.dst = o.dst := by
  unfold cOper at h
  split at h
  · rename_i x g h1 h2
    split at h
    · split at h
      · cases h; rename_i hd _; exact ⟨h1, h2, hd.symm⟩
      · cases h
    · cases h; rename_i hd; exact ⟨h1, h2, hd.symm⟩
  · cases h

theorem und_rel (C : Ctx) : VRel C .und undef := .tuple [] #[] rfl (fun i x v h => by simp at h)

/-- Is an operation wanted, by its guard? -/
theorem guard_ok {ops : Array Oper} {o : Oper} {g : Option (Nat × Bool)} {C : Ctx} {e : Env} {a : Act} (h : cGuard N ops o.guard = some g) (he : EnvRel C N e a) :
    (g = none → Region.wanted o (yielded ops a.tmps) = true) ∧ (∀ t want b, g = some (t, want) → e t = .bool b → Region.wanted o (yielded ops a.tmps) = decide (b = want)) ∧
    (∀ t want vs, g = some (t, want) → e t = .tuple vs → Region.wanted o (yielded ops a.tmps) = false) := by
  unfold cGuard at h
  split at h
  · rename_i hg
    cases h
    exact ⟨fun _ => by simp [Region.wanted, hg], by simp, by simp⟩
  · rename_i j want hg
    split at h
    · rename_i d hd
      split at h
      · rename_i hdN
        cases h
        refine ⟨by simp, fun t want' b h1 h2 => ?_, fun t want' vs h1 h2 => ?_⟩
        rotate_left
        · simp at h1
          obtain ⟨rfl, rfl⟩ := h1
          have hv := he.2.2 d hdN
          rw [h2] at hv
          have hlt : d < a.tmps.size := Nat.lt_of_lt_of_eq hdN he.1.symm
          have hget : ∃ cs, a.tmps[d]? = some (.tuple cs) := by
            generalize hq : a.tmps.getD d undef = q at hv
            cases hv with
            | tuple _ cs' _ _ =>
              refine ⟨cs', ?_⟩
              rw [Array.getElem?_eq_getElem hlt, ← hq]
              simp [Array.getD, hlt]
          obtain ⟨cs, hget⟩ := hget
          simp only [Region.wanted, hg, yielded, hd, Option.bind_some, hget]
          cases want <;> rfl
        simp at h1
        obtain ⟨rfl, rfl⟩ := h1
        have hv := he.2.2 d hdN
        rw [h2] at hv
        have hsz := he.1
        have hget : a.tmps[d]? = some (.bool b) := by
          generalize hq : a.tmps.getD d undef = q at hv
          cases hv
          have hlt : d < a.tmps.size := Nat.lt_of_lt_of_eq hdN hsz.symm
          rw [Array.getElem?_eq_getElem hlt]
          rw [← hq]
          simp [Array.getD, hlt]
        simp only [Region.wanted, hg, yielded, hd, Option.bind_some, hget]
        cases b <;> cases want <;> rfl
      · cases h
    · cases h

theorem Here.step {e : Env} {σ : AHeap} {ρ : Nat → Place} {a : Act} {w : World} (h : Here N σ0 ρ0 w0 G e σ ρ a w) {x : AV} {σ' : AHeap} {ρ' : Nat → Place} {v : Value} {w' : World} (d : Option Nat)
    (k1 : Keeps σ ρ w σ' ρ' w') (k2 : WRel σ' ρ' w' G) (k3 : VRel (ctx σ' ρ' w' G) x v) : Here N σ0 ρ0 w0 G (putD e d x) σ' ρ' (a.put d v) w' :=
  ⟨k2, env_put (h.env.keeps h.rel k1) k3 d, h.keeps.trans k1⟩

/-- Operations in the order in which they stand. -/
theorem opers_ok {ops : Array Oper} {Q : Exit → Act → World → Prop} {K : Env → AHeap → Prop} (hQ : ∀ e σ ρ a w, K e σ → Here N σ0 ρ0 w0 G e σ ρ a w → Q .normal a w) :
    ∀ (l : List Nat) (ms : List MOper) {e : Env} {σ : AHeap} {ρ : Nat → Place} {a : Act} {w : World}, l.length = ms.length → (∀ (i : Nat) j m, l[i]? = some j → ms[i]? = some m → ∃ o, ops[j]? = some o ∧ cOper P N ops o = some m) →
    Here N σ0 ρ0 w0 G e σ ρ a w → wpOps P ms K e σ → wpOps' P ops Q l a w
  | [], [], e, σ, ρ, a, w, _, _, h, hk => hQ e σ ρ a w hk h
  | [], _ :: _, _, _, _, _, _, hl, _, _, _ => by simp at hl
  | _ :: _, [], _, _, _, _, _, hl, _, _, _ => by simp at hl
  | j :: l, m :: ms, e, σ, ρ, a, w, hl, hm, h, hk => by
    obtain ⟨o, ho, hco⟩ := hm 0 j m rfl rfl
    have ih := fun {e σ ρ a w} => opers_ok hQ l ms (e := e) (σ := σ) (ρ := ρ) (a := a) (w := w) (by simpa using hl) (fun i j m h1 h2 => hm (i + 1) j m (by simpa using h1) (by simpa using h2))
    obtain ⟨c1, c2, c3⟩ := cOper_some hco
    obtain ⟨g1, g2, g3⟩ := guard_ok c2 h.env
    simp only [wpOps', Go.wpOps, ho]
    simp only [Go.Gz.wpOps] at hk
    split at hk
    · rename_i hg
      rw [if_pos (g1 hg)]
      left
      refine oper_ok c1 h hk fun x σ' ρ' v w' hK k1 k2 k3 => ?_
      rw [c3] at hK
      exact ih (h.step o.dst k1 k2 k3) hK
    · rename_i t want hg
      split at hk
      · rename_i b hb
        have hb : e t = .bool b := by
          cases he : e t <;> rw [he] at hb <;> simp [guardVal] at hb
          rw [hb]
        have := g2 t want b hg hb
        split at hk
        · rename_i hbw
          rw [if_pos (by rw [this]; simpa using hbw)]
          left
          refine oper_ok c1 h hk fun x σ' ρ' v w' hK k1 k2 k3 => ?_
          rw [c3] at hK
          exact ih (h.step o.dst k1 k2 k3) hK
        · rename_i hbw
          rw [if_neg (by rw [this]; simpa using hbw)]
          rw [c3] at hk
          exact ih (h.step o.dst (Keeps.refl _ _ _) h.rel (und_rel _)) hk
      · rename_i hb
        have hb : ∃ vs, e t = .tuple vs := by
          cases he : e t <;> rw [he] at hb <;> simp [guardVal] at hb
          exact ⟨_, rfl⟩
        obtain ⟨vs, hb⟩ := hb
        rw [if_neg (by rw [g3 t want vs hg hb]; simp)]
        rw [c3] at hk
        exact ih (h.step o.dst (Keeps.refl _ _ _) h.rel (und_rel _)) hk
      · exact hk.elim

end
end Go.Gz
