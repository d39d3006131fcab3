/- From a function's text to what is to be shown of it. -/
import Derived.Test.YtnooejmbhdgbpaaGreatDoorK18
set_option linter.unusedVariables false
set_option linter.unusedSimpArgs false
namespace Go.Gz

def masks (ops : List Oper) : List Nat :=
  ops.foldl (fun acc o => acc ++ [(depsOf o).foldl (fun s d => s ||| 2 ^ d ||| acc.getD d 0) 0]) []

def ancIn (A : List Nat) (n i : Nat) (done : List Nat) : Bool := (List.range n).all fun j => !anc A i j || done.contains j

mutual
def genTree (ms : List MOper) (A : List Nat) : Nat → List Nat → DTree
  | 0, _ => .stop
  | fuel + 1, done =>
    match (List.range ms.length).find? fun i => !done.contains i && !loudAt ms i && ancIn A ms.length i done with
    | some i => .quiet i (genTree ms A fuel (i :: done))
    | none =>
      match (List.range ms.length).filter fun l => !done.contains l && loudAt ms l && ancIn A ms.length l done with
      | [] => .leaf
      | c :: cs => genAlts ms A fuel done (c :: cs)
def genAlts (ms : List MOper) (A : List Nat) : Nat → List Nat → List Nat → DTree
  | 0, _, _ => .stop
  | _ + 1, _, [] => .stop
  | fuel + 1, done, l :: cs => .loud l ((List.range ms.length).filter fun j => done.contains j && readAt ms j && !anc A l j) (genTree ms A fuel (l :: done)) (genAlts ms A fuel done cs)
end

def cDraw (P : Program) (N : Nat) (ops : Array Oper) : Option (List MOper × DTree) :=
  match cOpers P N ops ops.toList with
  | some ms =>
    if P.follows .mixedOrders && maskOk ops (masks ops.toList) && slotOk ms (masks ops.toList) && treeOk ms (masks ops.toList) (genTree ms (masks ops.toList) (2 * ms.length + 2) []) [] false then some (ms, genTree ms (masks ops.toList) (2 * ms.length + 2) []) else none
  | none => none

def cCode (P : Program) (N : Nat) : Code → Option MCode
  | .skip => some .skip
  | .region _ ops false => (cOpers P N ops ops.toList).map .region
  | .region _ ops true => (cDraw P N ops).map fun (ms, t) => .draw ms t
  | .seq a b => match cCode P N a, cCode P N b with
    | some x, some y => some (.seq x y)
    | _, _ => none
  | .cond c a b => match cOpd N c, cCode P N a, cCode P N b with
    | some c, some x, some y => some (.cond c x y)
    | _, _, _ => none
  | .block id a => (cCode P N a).map (.block id)
  | .loop a => (cCode P N a).map .loop
  | .exit id => some (.exit id)
  | .ret => some .ret
  | .refuse _ => some (.region [⟨none, stopM, none⟩])
  | _ => none

inductive MRes where
  | t (n : Nat)
  | c1 (n : Nat)
  | cN (n size : Nat)
  deriving Inhabited

structure MFunc where
  n : Nat
  results : List MRes
  body : MCode
  deriving Inhabited

def cRes (P : Program) (N : Nat) : List ResultVar → Option (List MRes)
  | [] => some []
  | .tmp t :: r => if t < N then (cRes P N r).map (.t t :: ·) else none
  | .cell a ty :: r => if a < N then (match isAggT P ty, sizeT P ty, cRes P N r with
    | some true, some s, some l => some (.cN a s :: l)
    | some false, _, some l => some (.c1 a :: l)
    | _, _, _ => none) else none

def cFn (P : Program) (f : FuncId) : Option MFunc :=
  match P.funcs[f]? with
  | some fn =>
    if fn.name ≠ "runtime.NumGoroutine" then
      match fn.body with
      | some c => match cCode P fn.ntmps c, cRes P fn.ntmps fn.results.toList with
        | some m, some r => some ⟨fn.ntmps, r, m⟩
        | _, _ => none
      | none => none
    else none
  | none => none

def resVal (e : Env) (σ : AHeap) : MRes → Option AV
  | .t t => some (e t)
  | .c1 a => ldCell σ (e a)
  | .cN a n => (ldCells σ n (e a)).map .agg

def resVals (e : Env) (σ : AHeap) : List MRes → Option (List AV)
  | [] => some []
  | r :: rs => match resVal e σ r, resVals e σ rs with
    | some v, some vs => some (v :: vs)
    | _, _ => none

def retOf : List AV → AV
  | [v] => v
  | vs => .tuple vs

def argEnv (args : List AV) : Env := fun t => args.getD t .unk

/-- What is to be shown at a function's end. -/
def RetQ (rs : List MRes) (Q : AV → AHeap → Prop) : MExit → Env → AHeap → Prop := fun x e σ =>
  match x with
  | .exit _ => False
  | _ => match resVals e σ rs with
    | some vs => Q (retOf vs) σ
    | none => False

section
variable {P : Program} {N : Nat}

theorem Here.drew {σ0 : AHeap} {ρ0 : Nat → Place} {w0 : World} {G : Nat → Prop} {e : Env} {σ : AHeap} {ρ : Nat → Place} {a : Act} {w : World} (h : Here N σ0 ρ0 w0 G e σ ρ a w) : Here N σ0 ρ0 w0 G e σ ρ a { w with drawn := w.drawn + 1 } := by
  have k : Keeps σ ρ w σ ρ { w with drawn := w.drawn + 1 } := ⟨rfl, rfl, rfl, Nat.le_refl _, fun _ _ _ => rfl, fun _ h => .inl h, Nat.le_refl _, fun _ _ => rfl⟩
  refine ⟨⟨fun id c h1 h2 => (h.rel.blk id c h1 h2).of (fun x v hx => hx.keeps h.rel k) rfl, fun id c h1 h2 => (h.rel.nil id c h1 h2).of (fun x v hx => hx.keeps h.rel k) (fun _ => rfl), h.rel.excl, h.rel.sep, h.rel.gsz, h.rel.glob.keeps k⟩, h.env.keeps h.rel k, h.keeps.trans k⟩

theorem ok_draw {id : Nat} {ops : Array Oper} {ms : List MOper} {t : DTree} (hc : cDraw P N ops = some (ms, t)) : CodeOk P N (.region id ops true) (.draw ms t) := by
  intro σ0 ρ0 w0 G n0 Q Q' hn hQ e σ ρ a w h hk
  unfold cDraw at hc
  split at hc
  case h_2 => cases hc
  rename_i ms' hms
  split at hc
  case isFalse => cases hc
  rename_i hh
  cases hc
  simp only [Bool.and_eq_true] at hh
  obtain ⟨⟨⟨h1, h2⟩, h3⟩, h4⟩ := hh
  generalize hA : masks ops.toList = A at h2 h3 h4 hk
  generalize ht : genTree ms A (2 * ms.length + 2) [] = t at h4 hk
  have hl0 : ∀ i, lst (Array.replicate ops.size false) i = false := by
    intro i
    unfold lst
    simp only [Array.getD]
    split
    · simp
    · rfl
  have hdi : DI P ms A (Q .normal) e (lst (Array.replicate ops.size false)) [] t [] e σ :=
    ⟨by simp, fun i hi => absurd hi (by rw [hl0 i]; simp), by simp, by simp, fun _ _ => rfl, by simp, h4, hk⟩
  obtain ⟨done, t', ps, e', g1, g2, g3, g4, g5⟩ := advance h3 t hdi hdi.sub
  have hmix : mixE ms done (lst (Array.replicate ops.size false)) e' e = e := by
    funext s
    unfold mixE
    split
    · rfl
    · rename_i hno
      refine g5 s fun j hj _ => ?_
      cases hb : dstB ms j s with
      | false => rfl
      | true => exact absurd (List.any_eq_true.2 ⟨j, hj, by simp [hl0 j, hb]⟩) hno
  refine wp_region_any h1 (any_ok h3 h2 hms (fun e σ ρ a w hK hh => hQ .normal e σ ρ a w hK hh) ops.size _ done t' ps e' σ ρ a _ (by simp) ?_ (fun i hi => absurd hi (by rw [hl0 i]; simp)) g1 ?_ ?_)
  · unfold left
    exact Nat.le_trans (List.length_filter_le _ _) (by simp)
  · rcases g2 with rfl | ⟨_, _, _, _, rfl⟩ <;> trivial
  · rw [hmix]; exact h.drew

theorem cCode_ok : ∀ {c : Code} {m : MCode}, cCode P N c = some m → CodeOk P N c m
  | .skip, m, h => by simp [cCode] at h; subst h; exact ok_skip
  | .region _ ops false, m, h => by
    simp only [cCode] at h
    cases hh : cOpers P N ops ops.toList with
    | none => simp [hh] at h
    | some ms => simp [hh] at h; subst h; exact ok_region hh
  | .region _ ops true, m, h => by
    simp only [cCode] at h
    cases hh : cDraw P N ops with
    | none => simp [hh] at h
    | some p => obtain ⟨ms, t⟩ := p; simp [hh] at h; subst h; exact ok_draw hh
  | .seq a b, m, h => by
    simp only [cCode] at h
    split at h
    · rename_i x y h1 h2; cases h; exact ok_seq (cCode_ok h1) (cCode_ok h2)
    · cases h
  | .cond c a b, m, h => by
    simp only [cCode] at h
    split at h
    · rename_i c' x y h0 h1 h2; cases h; exact ok_cond h0 (cCode_ok h1) (cCode_ok h2)
    · cases h
  | .block id a, m, h => by
    simp only [cCode] at h
    cases hh : cCode P N a with
    | none => simp [hh] at h
    | some x => simp [hh] at h; subst h; exact ok_block (cCode_ok hh)
  | .loop a, m, h => by
    simp only [cCode] at h
    cases hh : cCode P N a with
    | none => simp [hh] at h
    | some x => simp [hh] at h; subst h; exact ok_loop (cCode_ok hh)
  | .exit id, m, h => by simp [cCode] at h; subst h; exact ok_exit id
  | .ret, m, h => by simp [cCode] at h; subst h; exact ok_ret
  | .rangeFunc _ _ _ _, m, h => by simp [cCode] at h
  | .scope _, m, h => by simp [cCode] at h
  | .label _, m, h => by simp [cCode] at h
  | .goto _, m, h => by simp [cCode] at h
  | .refuse _, m, h => by
    simp [cCode] at h; subst h
    intro σ0 ρ0 w0 G n0 Q Q' hn hQ e σ ρ a w hh hk
    simp only [wpC, wpOps, wpOp, stopM, evOp, Opd.ev, capV, Option.map_none] at hk

theorem run_cell {t : TypeId} {a : Addr} (w : World) : (do loadVar t (← asAddr (.pointer (some a))) : Sem Value).run P w = (Instr.loadAt t (.pointer (some a))).run P w := by
  simp [asAddr, Instr.loadAt, run_sureAddr]

theorem res_ok {σ : AHeap} {ρ : Nat → Place} {w : World} {G : Nat → Prop} {e : Env} {a : Act} (hw : WRel σ ρ w G) (he : EnvRel (ctx σ ρ w G) N e a) : ∀ {rs : List ResultVar} {ms : List MRes} {vs : List AV}, cRes P N rs = some ms → resVals e σ ms = some vs →
    ∃ us, (rs.mapM (fun | .tmp t => pure (a.tmps.getD t undef) | .cell ad t => do loadVar t (← asAddr (a.tmps.getD ad undef)) : ResultVar → Sem Value)).run P w = .ok us w ∧ LRel (ctx σ ρ w G) vs us
  | [], ms, vs, h, hv => by
    simp [cRes] at h; subst h
    simp [resVals] at hv; subst hv
    exact ⟨[], by simp, .nil _⟩
  | .tmp t :: rs, ms, vs, h, hv => by
    simp only [cRes] at h
    split at h
    case isFalse => cases h
    rename_i ht
    cases hh : cRes P N rs with
    | none => simp [hh] at h
    | some l =>
      simp [hh] at h; subst h
      simp only [resVals, resVal] at hv
      split at hv
      · rename_i v vs' h1 h2
        cases hv; cases h1
        obtain ⟨us, k1, k2⟩ := res_ok hw he hh h2
        exact ⟨a.tmps.getD t undef :: us, by rw [List.mapM_cons, Sem.run_bind, Sem.run_pure, Result.andThen_ok, Sem.run_bind, k1]; rfl, .cons (he.2.2 t ht) k2⟩
      · cases hv
  | .cell ad ty :: rs, ms, vs, h, hv => by
    simp only [cRes] at h
    split at h
    case isFalse => cases h
    rename_i hlt
    have hva := he.2.2 ad hlt
    have fin : ∀ (x : AV) (l : List MRes) (b : Addr) (v : Value), cRes P N rs = some l → a.tmps.getD ad undef = .pointer (some b) → (Instr.loadAt ty (a.tmps.getD ad undef)).run P w = .ok v w → VRel (ctx σ ρ w G) x v →
        (∀ vs', resVals e σ l = some vs' → ∃ us, ((ResultVar.cell ad ty :: rs).mapM (fun | .tmp t => pure (a.tmps.getD t undef) | .cell ad t => do loadVar t (← asAddr (a.tmps.getD ad undef)) : ResultVar → Sem Value)).run P w = .ok us w ∧ LRel (ctx σ ρ w G) (x :: vs') us) := by
      intro x l b v hl hb hr hx vs' hv'
      obtain ⟨us, k1, k2⟩ := res_ok hw he hl hv'
      refine ⟨v :: us, ?_, .cons hx k2⟩
      have e1 : (do loadVar ty (← asAddr (a.tmps.getD ad undef)) : Sem Value).run P w = .ok v w := by rw [hb, run_cell, ← hb]; exact hr
      rw [List.mapM_cons, Sem.run_bind]
      simp only [e1, Result.andThen_ok, Sem.run_bind, k1, Sem.run_pure]
    split at h
    · rename_i s l h1 h2 h3
      cases h
      simp only [resVals, resVal] at hv
      cases hld : ldCells σ s (e ad) with
      | none => simp [hld] at hv
      | some xs =>
        cases hrv : resVals e σ l with
        | none => simp [hld, hrv] at hv
        | some vs' =>
          simp [hld, hrv] at hv; subst hv
          obtain ⟨b, v, k1, k2, k3⟩ := loadN_at (P := P) hw h1 h2 hva hld
          exact fin _ l b v h3 k1 k2 k3 vs' hrv
    · rename_i l h1 h3
      cases h
      simp only [resVals, resVal] at hv
      cases hld : ldCell σ (e ad) with
      | none => simp [hld] at hv
      | some xs =>
        cases hrv : resVals e σ l with
        | none => simp [hld, hrv] at hv
        | some vs' =>
          simp [hld, hrv] at hv; subst hv
          obtain ⟨b, v, k1, k2, k3⟩ := load1_at (P := P) hw h1 hva hld
          exact fin _ l b v h3 k1 k2 k3 vs' hrv
    · cases h

theorem retOf_rel {C : Ctx} {vs : List AV} {us : List Value} (h : LRel C vs us) : VRel C (retOf vs) (if h : us.toArray.size = 1 then us.toArray[0] else .tuple us.toArray) := by
  cases vs with
  | nil =>
    have := h.1
    cases us with
    | nil => exact LRel.tuple h
    | cons => simp at this
  | cons v vs =>
    have hl := h.1
    cases us with
    | nil => simp at hl
    | cons u us =>
      cases vs with
      | nil =>
        cases us with
        | nil => exact h.head
        | cons => simp at hl
      | cons v' vs =>
        cases us with
        | nil => simp at hl
        | cons u' us =>
          have e : ¬ ((u :: u' :: us).toArray.size = 1) := by simp
          rw [dif_neg e]
          exact LRel.tuple h

/-- A function, by its text. -/
theorem Tri.intro {f : FuncId} {mf : MFunc} {args : List AV} {σ : AHeap} {Q : AV → AHeap → Prop} (hc : cFn P f = some mf) (hl : args.length ≤ mf.n) (h : wpC P σ.length mf.body (RetQ mf.results Q) (argEnv args) σ) : Tri P f args σ Q := by
  unfold cFn at hc
  split at hc
  case h_2 => cases hc
  rename_i fn hfn
  split at hc
  case isFalse => cases hc
  rename_i hname
  split at hc
  case h_2 => cases hc
  rename_i c hbody
  split at hc
  case h_2 => cases hc
  rename_i m r hm hr
  cases hc
  refine ⟨⟨fn, hfn, by simp [hbody], hname⟩, fun ρ w G args' hw ha => ?_⟩
  have hal := ha.1
  have hsz : args'.size ≤ fn.ntmps := by simp at hal; simp at hl; omega
  have here : Here fn.ntmps σ ρ w G (argEnv args) σ ρ { tmps := args' ++ Array.replicate (fn.ntmps - args'.size) undef, defers := [] } w := by
    refine ⟨hw, ⟨by simp; omega, rfl, fun t ht => ?_⟩, Keeps.refl _ _ _⟩
    unfold argEnv
    by_cases hta : t < args.length
    · have htv : t < args'.size := by simp at hal; omega
      have e1 : args.getD t .unk = args[t] := by simp [List.getD, hta]
      have e2 : (args' ++ Array.replicate (fn.ntmps - args'.size) undef).getD t undef = args'[t] := by
        simp [Array.getD, Array.getElem_append_left htv]; omega
      rw [e1]
      show VRel _ _ ((args' ++ Array.replicate (fn.ntmps - args'.size) undef).getD t undef)
      rw [e2]
      exact ha.2 t _ _ (List.getElem?_eq_getElem hta) (by simp [htv])
    · have e1 : args.getD t .unk = .unk := by simp [List.getD, List.getElem?_eq_none (Nat.le_of_not_lt hta)]
      rw [e1]; exact .unk _
  refine calls_of_wp hfn hbody (cCode_ok hm σ ρ w G σ.length _ _ (Nat.le_refl _) ?_ _ _ ρ _ w here h)
  intro x e σ' ρ' a w' hx hh
  have key : (∃ vs, resVals e σ' r = some vs ∧ Q (retOf vs) σ') → a.defers = [] ∧ ∃ v, (results fn a.tmps).run P w' = .ok v w' ∧ ∃ v1 ρ1 r1 σ1, Ending.returned v = .returned v1 ∧ Q r1 σ1 ∧ Keeps σ ρ w σ1 ρ1 w' ∧ WRel σ1 ρ1 w' G ∧ VRel (ctx σ1 ρ1 w' G) r1 v1 := by
    rintro ⟨vs, h1, h2⟩
    obtain ⟨us, k1, k2⟩ := res_ok (P := P) hh.rel hh.env hr h1
    refine ⟨hh.env.2.1, _, ?_, _, ρ', _, σ', rfl, h2, hh.keeps, hh.rel, retOf_rel k2⟩
    unfold results
    rw [Array.mapM_eq_mapM_toList]
    simp only [Sem.run_bind, Sem.run_map, Sem.run_pure]
    erw [k1]
    rfl
  have key2 : (match resVals e σ' r with | some vs => Q (retOf vs) σ' | none => False) → ∃ vs, resVals e σ' r = some vs ∧ Q (retOf vs) σ' := by
    intro h
    split at h
    · exact ⟨_, ‹_›, h⟩
    · exact h.elim
  cases x with
  | normal => exact key (key2 hx)
  | exit i => exact hx.elim
  | ret => exact key (key2 hx)

end
end Go.Gz
