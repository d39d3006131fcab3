/- The abstract machine over a table of what calls do, in a form that rewriting can step: what it comes to holds. -/
import Derived.Test.YtnooejmbhdgbpaaGreatDoorK19
set_option linter.unusedVariables false
set_option linter.unusedSimpArgs false
namespace Go.Gz

theorem wpG_mono {P : Program} {o : MOper} {e : Env} {σ : AHeap} {K K' : AV → AHeap → Prop} {s s' : Prop} (h : wpG P o e σ K s) (hk : ∀ v σ', K v σ' → K' v σ') (hs : s → s') : wpG P o e σ K' s' := by
  have key : wpOp P o.op e σ K → wpOp P o.op e σ K' := by
    intro h
    unfold wpOp at h ⊢
    split at h
    · exact h.mono hk
    · split at h
      · rename_i hf; exact h.mono hk
      · exact h.elim
    · split at h
      · rename_i hf; exact hk _ _ h
      · exact h.elim
  unfold wpG at h ⊢
  split at h
  · rename_i hg; exact key h
  · rename_i hg; 
    split at h
    · rename_i hb;
      split at h
      · rename_i hw; rw [if_pos hw]; exact key h
      · rename_i hw; rw [if_neg hw]; exact hs h
    · exact hs h
    · exact h.elim
abbrev PCall := FuncId → List AV → AHeap → (AV → AHeap → Prop) → Prop
inductive LTree where
  | leaf
  | stop
  | bad
  | quiet (o : MOper) (i : Nat) (t : LTree)
  | loud (o : MOper) (again : List Nat) (t other : LTree)
  deriving Inhabited
inductive SCode where
  | skip
  | region (ops : List MOper)
  | draw (t : LTree)
  | seq (a b : SCode)
  | cond (c : Opd) (a b : SCode)
  | block (id : Nat) (a : SCode)
  | loop (a : SCode)
  | exit (id : Nat)
  | ret
  deriving Inhabited
def toL (ops : List MOper) : DTree → LTree
  | .leaf => .leaf
  | .stop => .stop
  | .quiet i t => match ops[i]? with
    | some o => .quiet o i (toL ops t)
    | none => .bad
  | .loud i again t other => match ops[i]? with
    | some o => .loud o again (toL ops t) (toL ops other)
    | none => .bad
def toS : MCode → SCode
  | .skip => .skip
  | .region ops => .region ops
  | .draw ops t => .draw (toL ops t)
  | .seq a b => .seq (toS a) (toS b)
  | .cond c a b => .cond c (toS a) (toS b)
  | .block id a => .block id (toS a)
  | .loop a => .loop (toS a)
  | .exit id => .exit id
  | .ret => .ret
structure SFunc where
  n : Nat
  results : List MRes
  body : SCode
  deriving Inhabited
def sFn (P : Program) (f : FuncId) : Option SFunc := (cFn P f).map fun m => ⟨m.n, m.results, toS m.body⟩
def goO (o : Option (AV × AHeap)) (K : AV → AHeap → Prop) : Prop :=
  match o with
  | some (v, σ') => K v σ'
  | none => False
def sOp (C : PCall) (m : MOp) (e : Env) (σ : AHeap) (K : AV → AHeap → Prop) : Prop :=
  match m with
  | .call f args => C f (args.map (·.ev e)) σ K
  | .callv f args => match f.ev e with
    | .func g caps => C g (args.map (·.ev e) ++ caps) σ K
    | _ => False
  | m => goO (evOp (Opd.ev e) σ m) K
def sG (C : PCall) (o : MOper) (e : Env) (σ : AHeap) (K : AV → AHeap → Prop) (skip : Prop) : Prop :=
  match o.guard with
  | none => sOp C o.op e σ K
  | some (t, want) => match guardVal (e t) with
    | some (some b) => if b = want then sOp C o.op e σ K else skip
    | some none => skip
    | none => False
def sOps (C : PCall) : List MOper → (Env → AHeap → Prop) → Env → AHeap → Prop
  | [], K, e, σ => K e σ
  | o :: os, K, e, σ => sG C o e σ (fun v σ' => sOps C os K (putD e o.dst v) σ') (sOps C os K (putD e o.dst .und) σ)
def sTree (C : PCall) (K : Env → AHeap → Prop) : LTree → List Pend → Env → AHeap → Prop
  | .leaf, _, e, σ => K e σ
  | .stop, _, _, _ => True
  | .bad, _, _, _ => False
  | .quiet o i t, ps, e, σ => sG C o e σ (fun v σ' => sTree C K t (if isRead o.op then ⟨i, fixOp e o.op, v⟩ :: ps else ps) (putD e o.dst v) σ') (sTree C K t ps (putD e o.dst .und) σ)
  | .loud o again t other, ps, e, σ => sG C o e σ (fun v σ' => still σ' ps again ∧ sTree C K t ps (putD e o.dst v) σ') (sTree C K t ps (putD e o.dst .und) σ) ∧ sTree C K other ps e σ
def sC (C : PCall) (n0 : Nat) : SCode → (MExit → Env → AHeap → Prop) → Env → AHeap → Prop
  | .skip, Q, e, σ => Q .normal e σ
  | .region ops, Q, e, σ => sOps C ops (Q .normal) e σ
  | .draw t, Q, e, σ => sTree C (Q .normal) t [] e σ
  | .seq a b, Q, e, σ => sC C n0 a (fun x e' σ' => match x with | .normal => sC C n0 b Q e' σ' | x => Q x e' σ') e σ
  | .cond c a b, Q, e, σ => match c.ev e with
    | .bool t => if t then sC C n0 a Q e σ else sC C n0 b Q e σ
    | _ => False
  | .block id a, Q, e, σ => sC C n0 a (fun x e' σ' => match x with | .exit i => if i = id then Q .normal e' σ' else Q (.exit i) e' σ' | x => Q x e' σ') e σ
  | .loop a, Q, e, σ => ∃ I : Nat → Env → AHeap → Prop, (∃ n e1 σ1, WkR n0 e σ e1 σ1 ∧ I n e1 σ1) ∧
      ∀ n e σ, I n e σ → sC C n0 a (fun x e' σ' => match x with | .normal => ∃ m e1 σ1, m < n ∧ WkR n0 e' σ' e1 σ1 ∧ I m e1 σ1 | x => Q x e' σ') e σ
  | .exit id, Q, e, σ => Q (.exit id) e σ
  | .ret, Q, e, σ => Q .ret e σ
def sF (C : PCall) (mf : SFunc) (args : List AV) (σ : AHeap) (Q : AV → AHeap → Prop) : Prop :=
  args.length ≤ mf.n ∧ sC C σ.length mf.body (RetQ mf.results Q) (argEnv args) σ
def Sound (P : Program) (C : PCall) : Prop := ∀ f args σ K, C f args σ K → Tri P f args σ K
section
variable {P : Program} {C : PCall}
theorem sOp_ok (hc : Sound P C) {m : MOp} {e : Env} {σ : AHeap} {K : AV → AHeap → Prop} (h : sOp C m e σ K) : wpOp P m e σ K := by
  unfold sOp at h
  unfold wpOp
  split at h
  · exact hc _ _ _ _ h
  · simp only
    split at h
    · rename_i hf; simp only [hf]; exact hc _ _ _ _ h
    · exact h.elim
  · unfold goO at h
    split at h
    · simp_all
    · exact h.elim
theorem sG_ok (hc : Sound P C) {o : MOper} {e : Env} {σ : AHeap} {K : AV → AHeap → Prop} {s : Prop} (h : sG C o e σ K s) : wpG P o e σ K s := by
  unfold sG at h
  unfold wpG
  split at h
  · rename_i hg; simp only [hg]; exact sOp_ok hc h
  · rename_i hg; simp only [hg]
    split at h
    · rename_i hb; simp only [hb]
      split at h
      · rename_i hw; rw [if_pos hw]; exact sOp_ok hc h
      · rename_i hw; rw [if_neg hw]; exact h
    · rename_i hb; simp only [hb]; exact h
    · exact h.elim
theorem wpOps_cons (P : Program) (o : MOper) (os : List MOper) (K : Env → AHeap → Prop) (e : Env) (σ : AHeap) :
    wpOps P (o :: os) K e σ = wpG P o e σ (fun v σ' => wpOps P os K (putD e o.dst v) σ') (wpOps P os K (putD e o.dst .und) σ) := by
  unfold wpG
  conv => lhs; unfold wpOps
  rfl
theorem sOps_ok (hc : Sound P C) {K K' : Env → AHeap → Prop} (hk : ∀ e σ, K e σ → K' e σ) : ∀ {ops : List MOper} {e : Env} {σ : AHeap}, sOps C ops K e σ → wpOps P ops K' e σ
  | [], e, σ, h => hk _ _ h
  | o :: os, e, σ, h => by
    rw [wpOps_cons]
    exact wpG_mono (sG_ok hc h) (fun v σ' h => sOps_ok hc hk h) (fun h => sOps_ok hc hk h)
theorem sTree_ok (hc : Sound P C) {ops : List MOper} {K K' : Env → AHeap → Prop} (hk : ∀ e σ, K e σ → K' e σ) : ∀ {t : DTree} {ps : List Pend} {e : Env} {σ : AHeap}, sTree C K (toL ops t) ps e σ → wpTree P ops K' t ps e σ
  | .leaf, _, e, σ, h => hk _ _ h
  | .stop, _, e, σ, h => trivial
  | .quiet i t, ps, e, σ, h => by
    unfold toL at h
    unfold wpTree
    split at h
    · rename_i o ho
      simp only [ho]
      exact wpG_mono (sG_ok hc h) (fun v σ' h => sTree_ok hc hk h) (fun h => sTree_ok hc hk h)
    · exact h.elim
  | .loud i again t other, ps, e, σ, h => by
    unfold toL at h
    unfold wpTree
    split at h
    · rename_i o ho
      simp only [ho]
      refine ⟨wpG_mono (sG_ok hc h.1) (fun v σ' h => ⟨h.1, sTree_ok hc hk h.2⟩) (fun h => sTree_ok hc hk h), sTree_ok hc hk h.2⟩
    · exact h.elim
theorem sC_ok (hc : Sound P C) {n0 : Nat} : ∀ {m : MCode} {Q Q' : MExit → Env → AHeap → Prop} {e : Env} {σ : AHeap}, (∀ x e σ, Q x e σ → Q' x e σ) → sC C n0 (toS m) Q e σ → wpC P n0 m Q' e σ
  | .skip, Q, Q', e, σ, hq, h => hq _ _ _ h
  | .region ops, Q, Q', e, σ, hq, h => sOps_ok hc (fun _ _ h => hq _ _ _ h) h
  | .draw ops t, Q, Q', e, σ, hq, h => sTree_ok hc (fun _ _ h => hq _ _ _ h) h
  | .seq a b, Q, Q', e, σ, hq, h => by
    refine sC_ok hc (m := a) ?_ h
    intro x e σ h
    cases x with
    | normal => exact sC_ok hc (m := b) hq h
    | exit i => exact hq _ _ _ h
    | ret => exact hq _ _ _ h
  | .cond c a b, Q, Q', e, σ, hq, h => by
    unfold toS sC at h
    unfold wpC
    split at h
    · rename_i hcc; simp only [hcc]
      split at h
      · rename_i h2; rw [if_pos h2]; exact sC_ok hc hq h
      · rename_i h2; rw [if_neg h2]; exact sC_ok hc hq h
    · exact h.elim
  | .block id a, Q, Q', e, σ, hq, h => by
    refine sC_ok hc (m := a) ?_ h
    intro x e σ h
    cases x with
    | normal => exact hq _ _ _ h
    | exit i =>
      simp only at h ⊢
      split at h
      · rename_i h2; rw [if_pos h2]; exact hq _ _ _ h
      · rename_i h2; rw [if_neg h2]; exact hq _ _ _ h
    | ret => exact hq _ _ _ h
  | .loop a, Q, Q', e, σ, hq, h => by
    obtain ⟨I, h1, h2⟩ := h
    refine ⟨I, h1, fun n e σ hI => sC_ok hc (m := a) ?_ (h2 n e σ hI)⟩
    intro x e σ h
    cases x with
    | normal => exact h
    | exit i => exact hq _ _ _ h
    | ret => exact hq _ _ _ h
  | .exit id, Q, Q', e, σ, hq, h => hq _ _ _ h
  | .ret, Q, Q', e, σ, hq, h => hq _ _ _ h
/-- A function by its text, over a table of what its calls do. -/
theorem Tri.of_s {f : FuncId} {mf : SFunc} {args : List AV} {σ : AHeap} {Q : AV → AHeap → Prop} (hf : sFn P f = some mf) (hc : Sound P C) (h : sF C mf args σ Q) : Tri P f args σ Q := by
  unfold sFn at hf
  cases hm : cFn P f with
  | none => rw [hm] at hf; cases hf
  | some m =>
    rw [hm] at hf
    cases hf
    exact Tri.intro hm h.1 (sC_ok hc (fun _ _ _ h => h) h.2)
end
/-- What is still to be done behind a piece of code. -/
inductive Cont where
  | fin
  | seq (b : SCode) (k : Cont)
  | block (id : Nat) (k : Cont)
  | lp (n : Nat) (a : SCode) (k : Cont)
def lpQ (C : PCall) (n0 : Nat) (a : SCode) (T : MExit → Env → AHeap → Prop) : Nat → MExit → Env → AHeap → Prop
  | 0, .normal, _, _ => False
  | n + 1, .normal, e, σ => sC C n0 a (lpQ C n0 a T n) e σ
  | _, .exit i, e, σ => T (.exit i) e σ
  | _, .ret, e, σ => T .ret e σ
def unw (C : PCall) (n0 : Nat) (R : MExit → Env → AHeap → Prop) : Cont → MExit → Env → AHeap → Prop
  | .fin => R
  | .seq b k => fun x e σ => match x with | .normal => sC C n0 b (unw C n0 R k) e σ | x => unw C n0 R k x e σ
  | .block id k => fun x e σ => match x with | .exit i => if i = id then unw C n0 R k .normal e σ else unw C n0 R k (.exit i) e σ | x => unw C n0 R k x e σ
  | .lp n a k => lpQ C n0 a (unw C n0 R k) n
section
variable {C : PCall} {n0 : Nat} {R : MExit → Env → AHeap → Prop} {e : Env} {σ : AHeap}
theorem goO_mono {o : Option (AV × AHeap)} {K K' : AV → AHeap → Prop} (hk : ∀ v σ, K v σ → K' v σ) (h : goO o K) : goO o K' := by
  unfold goO at *; split at h
  · exact hk _ _ h
  · exact h
theorem sOp_mono (hm : ∀ f args σ (K K' : AV → AHeap → Prop), (∀ v σ, K v σ → K' v σ) → C f args σ K → C f args σ K') {m : MOp} {e : Env} {σ : AHeap} {K K' : AV → AHeap → Prop} (hk : ∀ v σ, K v σ → K' v σ) (h : sOp C m e σ K) : sOp C m e σ K' := by
  unfold sOp at h ⊢
  split at h
  · exact hm _ _ _ _ _ hk h
  · split at h
    · exact hm _ _ _ _ _ hk h
    · exact h.elim
  · exact goO_mono hk h
theorem sG_mono (hm : ∀ f args σ (K K' : AV → AHeap → Prop), (∀ v σ, K v σ → K' v σ) → C f args σ K → C f args σ K') {o : MOper} {e : Env} {σ : AHeap} {K K' : AV → AHeap → Prop} {s s' : Prop} (hk : ∀ v σ, K v σ → K' v σ) (hs : s → s') (h : sG C o e σ K s) : sG C o e σ K' s' := by
  unfold sG at h ⊢
  split at h
  · exact sOp_mono hm hk h
  · split at h
    · split at h
      · rename_i hw; rw [if_pos hw]; exact sOp_mono hm hk h
      · rename_i hw; rw [if_neg hw]; exact hs h
    · exact hs h
    · exact h.elim
def MonoC (C : PCall) : Prop := ∀ f args σ (K K' : AV → AHeap → Prop), (∀ v σ, K v σ → K' v σ) → C f args σ K → C f args σ K'
theorem sOps_mono (hm : MonoC C) {K K' : Env → AHeap → Prop} (hk : ∀ e σ, K e σ → K' e σ) : ∀ {ops : List MOper} {e : Env} {σ : AHeap}, sOps C ops K e σ → sOps C ops K' e σ
  | [], e, σ, h => hk _ _ h
  | o :: os, e, σ, h => sG_mono hm (fun v σ' h => sOps_mono hm hk h) (fun h => sOps_mono hm hk h) h
theorem sTree_mono (hm : MonoC C) {K K' : Env → AHeap → Prop} (hk : ∀ e σ, K e σ → K' e σ) : ∀ {t : LTree} {ps : List Pend} {e : Env} {σ : AHeap}, sTree C K t ps e σ → sTree C K' t ps e σ
  | .leaf, _, e, σ, h => hk _ _ h
  | .stop, _, e, σ, h => trivial
  | .bad, _, _, _, h => h.elim
  | .quiet o i t, ps, e, σ, h => sG_mono hm (fun v σ' h => sTree_mono hm hk h) (fun h => sTree_mono hm hk h) h
  | .loud o again t other, ps, e, σ, h => ⟨sG_mono hm (fun v σ' h => ⟨h.1, sTree_mono hm hk h.2⟩) (fun h => sTree_mono hm hk h) h.1, sTree_mono hm hk h.2⟩
theorem sC_mono (hm : MonoC C) {n0 : Nat} : ∀ {m : SCode} {Q Q' : MExit → Env → AHeap → Prop} {e : Env} {σ : AHeap}, (∀ x e σ, Q x e σ → Q' x e σ) → sC C n0 m Q e σ → sC C n0 m Q' e σ
  | .skip, Q, Q', e, σ, hq, h => hq _ _ _ h
  | .region ops, Q, Q', e, σ, hq, h => sOps_mono hm (fun _ _ h => hq _ _ _ h) h
  | .draw t, Q, Q', e, σ, hq, h => sTree_mono hm (fun _ _ h => hq _ _ _ h) h
  | .seq a b, Q, Q', e, σ, hq, h => by
    refine sC_mono hm (m := a) ?_ h
    intro x e σ h
    cases x with
    | normal => exact sC_mono hm (m := b) hq h
    | exit i => exact hq _ _ _ h
    | ret => exact hq _ _ _ h
  | .cond c a b, Q, Q', e, σ, hq, h => by
    unfold sC at h ⊢
    split at h
    · split at h
      · rename_i h2; rw [if_pos h2]; exact sC_mono hm hq h
      · rename_i h2; rw [if_neg h2]; exact sC_mono hm hq h
    · exact h.elim
  | .block id a, Q, Q', e, σ, hq, h => by
    refine sC_mono hm (m := a) ?_ h
    intro x e σ h
    cases x with
    | normal => exact hq _ _ _ h
    | exit i =>
      simp only at h ⊢
      split at h
      · rename_i h2; rw [if_pos h2]; exact hq _ _ _ h
      · rename_i h2; rw [if_neg h2]; exact hq _ _ _ h
    | ret => exact hq _ _ _ h
  | .loop a, Q, Q', e, σ, hq, h => by
    obtain ⟨I, h1, h2⟩ := h
    refine ⟨I, h1, fun n e σ hI => sC_mono hm (m := a) ?_ (h2 n e σ hI)⟩
    intro x e σ h
    cases x with
    | normal => exact h
    | exit i => exact hq _ _ _ h
    | ret => exact hq _ _ _ h
  | .exit id, Q, Q', e, σ, hq, h => hq _ _ _ h
  | .ret, Q, Q', e, σ, hq, h => hq _ _ _ h
theorem sF_mono (hm : MonoC C) {mf : SFunc} {args : List AV} {σ : AHeap} {K K' : AV → AHeap → Prop} (hk : ∀ v σ, K v σ → K' v σ) (h : sF C mf args σ K) : sF C mf args σ K' := by
  refine ⟨h.1, sC_mono hm ?_ h.2⟩
  have key : ∀ e σ, (match resVals e σ mf.results with | some vs => K (retOf vs) σ | none => False) → (match resVals e σ mf.results with | some vs => K' (retOf vs) σ | none => False) := by
    intro e σ h
    cases hr : resVals e σ mf.results with
    | none => simp [hr] at h
    | some vs => simp [hr] at h ⊢; exact hk _ _ h
  intro x e σ h
  cases x with
  | normal => exact key e σ h
  | exit i => exact h
  | ret => exact key e σ h
/-- A loop, so many times at most. -/
theorem sC_unroll (hm : MonoC C) {n : Nat} {a : SCode} {k : Cont} (h : sC C n0 a (unw C n0 R (.lp n a k)) e σ) : sC C n0 (.loop a) (unw C n0 R k) e σ := by
  refine ⟨fun m e σ => sC C n0 a (lpQ C n0 a (unw C n0 R k) m) e σ, ⟨n, e, σ, .refl _ _ _, h⟩, fun m e σ hI => sC_mono hm ?_ hI⟩
  intro x e σ h
  cases x with
  | normal =>
    cases m with
    | zero => exact h.elim
    | succ m => exact ⟨m, e, σ, Nat.lt_succ_self m, .refl _ _ _, h⟩
  | exit i => cases m <;> exact h
  | ret => cases m <;> exact h
/-- A loop, by what holds at its head. -/
theorem sC_loop {a : SCode} {k : Cont} (I : Nat → Env → AHeap → Prop) (n : Nat) (e1 : Env) (σ1 : AHeap) (h0 : WkR n0 e σ e1 σ1) (h1 : I n e1 σ1)
    (h2 : ∀ n e σ, I n e σ → sC C n0 a (unw C n0 (fun x e' σ' => match x with | .normal => ∃ m e1 σ1, m < n ∧ WkR n0 e' σ' e1 σ1 ∧ I m e1 σ1 | x => unw C n0 R k x e' σ') .fin) e σ) : sC C n0 (.loop a) (unw C n0 R k) e σ :=
  ⟨I, ⟨n, e1, σ1, h0, h1⟩, h2⟩
theorem sC_skip {k : Cont} : sC C n0 .skip (unw C n0 R k) e σ = unw C n0 R k .normal e σ := _root_.id rfl
theorem sC_region {ops : List MOper} {k : Cont} : sC C n0 (.region ops) (unw C n0 R k) e σ = sOps C ops (unw C n0 R k .normal) e σ := _root_.id rfl
theorem sC_draw {t : LTree} {k : Cont} : sC C n0 (.draw t) (unw C n0 R k) e σ = sTree C (unw C n0 R k .normal) t [] e σ := _root_.id rfl
theorem sC_seq {a b : SCode} {k : Cont} : sC C n0 (.seq a b) (unw C n0 R k) e σ = sC C n0 a (unw C n0 R (.seq b k)) e σ := _root_.id rfl
theorem sC_block {id : Nat} {a : SCode} {k : Cont} : sC C n0 (.block id a) (unw C n0 R k) e σ = sC C n0 a (unw C n0 R (.block id k)) e σ := _root_.id rfl
theorem sC_exit {id : Nat} {k : Cont} : sC C n0 (.exit id) (unw C n0 R k) e σ = unw C n0 R k (.exit id) e σ := _root_.id rfl
theorem sC_ret {k : Cont} : sC C n0 .ret (unw C n0 R k) e σ = unw C n0 R k .ret e σ := _root_.id rfl
/-- A branch that is not taken before it is known which. -/
def condK (C : PCall) (n0 : Nat) (R : MExit → Env → AHeap → Prop) (v : AV) (a b : SCode) (k : Cont) (e : Env) (σ : AHeap) : Prop :=
  match v with
  | .bool true => sC C n0 a (unw C n0 R k) e σ
  | .bool false => sC C n0 b (unw C n0 R k) e σ
  | _ => False
theorem condK_true {a b : SCode} {k : Cont} : condK C n0 R (.bool true) a b k e σ = sC C n0 a (unw C n0 R k) e σ := _root_.id rfl
theorem condK_false {a b : SCode} {k : Cont} : condK C n0 R (.bool false) a b k e σ = sC C n0 b (unw C n0 R k) e σ := _root_.id rfl
theorem sC_cond {c : Opd} {a b : SCode} {k : Cont} : sC C n0 (.cond c a b) (unw C n0 R k) e σ = condK C n0 R (c.ev e) a b k e σ := by
  show (match c.ev e with | .bool t => if t then sC C n0 a (unw C n0 R k) e σ else sC C n0 b (unw C n0 R k) e σ | _ => False) = _
  unfold condK
  cases c.ev e <;> try rfl
  rename_i t
  cases t <;> simp
theorem unw_seq_normal {b : SCode} {k : Cont} : unw C n0 R (.seq b k) .normal e σ = sC C n0 b (unw C n0 R k) e σ := _root_.id rfl
theorem unw_seq_exit {b : SCode} {k : Cont} {i : Nat} : unw C n0 R (.seq b k) (.exit i) e σ = unw C n0 R k (.exit i) e σ := _root_.id rfl
theorem unw_seq_ret {b : SCode} {k : Cont} : unw C n0 R (.seq b k) .ret e σ = unw C n0 R k .ret e σ := _root_.id rfl
theorem unw_block_normal {id : Nat} {k : Cont} : unw C n0 R (.block id k) .normal e σ = unw C n0 R k .normal e σ := _root_.id rfl
theorem unw_block_exit {id i : Nat} {k : Cont} : unw C n0 R (.block id k) (.exit i) e σ = if i = id then unw C n0 R k .normal e σ else unw C n0 R k (.exit i) e σ := _root_.id rfl
theorem unw_block_ret {id : Nat} {k : Cont} : unw C n0 R (.block id k) .ret e σ = unw C n0 R k .ret e σ := _root_.id rfl
theorem unw_lp_succ {n : Nat} {a : SCode} {k : Cont} : unw C n0 R (.lp (n + 1) a k) .normal e σ = sC C n0 a (unw C n0 R (.lp n a k)) e σ := _root_.id rfl
theorem unw_lp_zero {a : SCode} {k : Cont} : unw C n0 R (.lp 0 a k) .normal e σ = False := _root_.id rfl
theorem unw_lp_exit {n i : Nat} {a : SCode} {k : Cont} : unw C n0 R (.lp n a k) (.exit i) e σ = unw C n0 R k (.exit i) e σ := by cases n <;> rfl
theorem unw_lp_ret {n : Nat} {a : SCode} {k : Cont} : unw C n0 R (.lp n a k) .ret e σ = unw C n0 R k .ret e σ := by cases n <;> rfl
theorem unw_fin {x : MExit} : unw C n0 R .fin x e σ = R x e σ := _root_.id rfl
theorem retQ_ret {rs : List MRes} {Q : AV → AHeap → Prop} : RetQ rs Q .ret e σ = (match resVals e σ rs with | some vs => Q (retOf vs) σ | none => False) := _root_.id rfl
theorem retQ_normal {rs : List MRes} {Q : AV → AHeap → Prop} : RetQ rs Q .normal e σ = (match resVals e σ rs with | some vs => Q (retOf vs) σ | none => False) := _root_.id rfl
theorem retQ_exit {rs : List MRes} {Q : AV → AHeap → Prop} {i : Nat} : RetQ rs Q (.exit i) e σ = False := _root_.id rfl
theorem sF_eq {mf : SFunc} {args : List AV} {Q : AV → AHeap → Prop} : sF C mf args σ Q = (args.length ≤ mf.n ∧ sC C σ.length mf.body (unw C σ.length (RetQ mf.results Q) .fin) (argEnv args) σ) := _root_.id rfl
/-- Going on with the operations behind one; with a tree. -/
def nxt (C : PCall) (d : Option Nat) (os : List MOper) (K : Env → AHeap → Prop) (e : Env) : AV → AHeap → Prop := fun v σ' => sOps C os K (putD e d v) σ'
def nxtQ (C : PCall) (o : MOper) (i : Nat) (t : LTree) (K : Env → AHeap → Prop) (ps : List Pend) (e : Env) : AV → AHeap → Prop := fun v σ' => sTree C K t (if isRead o.op then ⟨i, fixOp e o.op, v⟩ :: ps else ps) (putD e o.dst v) σ'
def nxtL (C : PCall) (d : Option Nat) (again : List Nat) (t : LTree) (K : Env → AHeap → Prop) (ps : List Pend) (e : Env) : AV → AHeap → Prop := fun v σ' => still σ' ps again ∧ sTree C K t ps (putD e d v) σ'
theorem nxt_app {d : Option Nat} {os : List MOper} {K : Env → AHeap → Prop} {v : AV} : nxt C d os K e v σ = sOps C os K (putD e d v) σ := _root_.id rfl
theorem nxtQ_app {o : MOper} {i : Nat} {t : LTree} {K : Env → AHeap → Prop} {ps : List Pend} {v : AV} : nxtQ C o i t K ps e v σ = sTree C K t (if isRead o.op then ⟨i, fixOp e o.op, v⟩ :: ps else ps) (putD e o.dst v) σ := _root_.id rfl
theorem nxtL_app {d : Option Nat} {again : List Nat} {t : LTree} {K : Env → AHeap → Prop} {ps : List Pend} {v : AV} : nxtL C d again t K ps e v σ = (still σ ps again ∧ sTree C K t ps (putD e d v) σ) := _root_.id rfl
/-- A guard that is not passed before it is known whether. -/
def guardK (C : PCall) (v : AV) (want : Bool) (d : Option Nat) (m : MOp) (os : List MOper) (K : Env → AHeap → Prop) (e : Env) (σ : AHeap) : Prop :=
  match guardVal v with
  | some (some p) => if p = want then sOp C m e σ (nxt C d os K e) else sOps C os K (putD e d .und) σ
  | some none => sOps C os K (putD e d .und) σ
  | none => False
def guardQ (C : PCall) (v : AV) (want : Bool) (o : MOper) (i : Nat) (t : LTree) (K : Env → AHeap → Prop) (ps : List Pend) (e : Env) (σ : AHeap) : Prop :=
  match guardVal v with
  | some (some p) => if p = want then sOp C o.op e σ (nxtQ C o i t K ps e) else sTree C K t ps (putD e o.dst .und) σ
  | some none => sTree C K t ps (putD e o.dst .und) σ
  | none => False
def guardL (C : PCall) (v : AV) (want : Bool) (d : Option Nat) (m : MOp) (again : List Nat) (t : LTree) (K : Env → AHeap → Prop) (ps : List Pend) (e : Env) (σ : AHeap) : Prop :=
  match guardVal v with
  | some (some p) => if p = want then sOp C m e σ (nxtL C d again t K ps e) else sTree C K t ps (putD e d .und) σ
  | some none => sTree C K t ps (putD e d .und) σ
  | none => False
theorem guardK_u {vs : List AV} {w : Bool} {d : Option Nat} {m : MOp} {os : List MOper} {K : Env → AHeap → Prop} : guardK C (.tuple vs) w d m os K e σ = sOps C os K (putD e d .und) σ := _root_.id rfl
theorem guardQ_u {vs : List AV} {w : Bool} {o : MOper} {i : Nat} {t : LTree} {K : Env → AHeap → Prop} {ps : List Pend} : guardQ C (.tuple vs) w o i t K ps e σ = sTree C K t ps (putD e o.dst .und) σ := _root_.id rfl
theorem guardL_u {vs : List AV} {w : Bool} {d : Option Nat} {m : MOp} {again : List Nat} {t : LTree} {K : Env → AHeap → Prop} {ps : List Pend} : guardL C (.tuple vs) w d m again t K ps e σ = sTree C K t ps (putD e d .und) σ := _root_.id rfl
theorem guardK_tt {d : Option Nat} {m : MOp} {os : List MOper} {K : Env → AHeap → Prop} : guardK C (.bool true) true d m os K e σ = sOp C m e σ (nxt C d os K e) := _root_.id rfl
theorem guardK_ff {d : Option Nat} {m : MOp} {os : List MOper} {K : Env → AHeap → Prop} : guardK C (.bool false) false d m os K e σ = sOp C m e σ (nxt C d os K e) := _root_.id rfl
theorem guardK_tf {d : Option Nat} {m : MOp} {os : List MOper} {K : Env → AHeap → Prop} : guardK C (.bool true) false d m os K e σ = sOps C os K (putD e d .und) σ := _root_.id rfl
theorem guardK_ft {d : Option Nat} {m : MOp} {os : List MOper} {K : Env → AHeap → Prop} : guardK C (.bool false) true d m os K e σ = sOps C os K (putD e d .und) σ := _root_.id rfl
theorem guardQ_tt {o : MOper} {i : Nat} {t : LTree} {K : Env → AHeap → Prop} {ps : List Pend} : guardQ C (.bool true) true o i t K ps e σ = sOp C o.op e σ (nxtQ C o i t K ps e) := _root_.id rfl
theorem guardQ_ff {o : MOper} {i : Nat} {t : LTree} {K : Env → AHeap → Prop} {ps : List Pend} : guardQ C (.bool false) false o i t K ps e σ = sOp C o.op e σ (nxtQ C o i t K ps e) := _root_.id rfl
theorem guardQ_tf {o : MOper} {i : Nat} {t : LTree} {K : Env → AHeap → Prop} {ps : List Pend} : guardQ C (.bool true) false o i t K ps e σ = sTree C K t ps (putD e o.dst .und) σ := _root_.id rfl
theorem guardQ_ft {o : MOper} {i : Nat} {t : LTree} {K : Env → AHeap → Prop} {ps : List Pend} : guardQ C (.bool false) true o i t K ps e σ = sTree C K t ps (putD e o.dst .und) σ := _root_.id rfl
theorem guardL_tt {d : Option Nat} {m : MOp} {again : List Nat} {t : LTree} {K : Env → AHeap → Prop} {ps : List Pend} : guardL C (.bool true) true d m again t K ps e σ = sOp C m e σ (nxtL C d again t K ps e) := _root_.id rfl
theorem guardL_ff {d : Option Nat} {m : MOp} {again : List Nat} {t : LTree} {K : Env → AHeap → Prop} {ps : List Pend} : guardL C (.bool false) false d m again t K ps e σ = sOp C m e σ (nxtL C d again t K ps e) := _root_.id rfl
theorem guardL_tf {d : Option Nat} {m : MOp} {again : List Nat} {t : LTree} {K : Env → AHeap → Prop} {ps : List Pend} : guardL C (.bool true) false d m again t K ps e σ = sTree C K t ps (putD e d .und) σ := _root_.id rfl
theorem guardL_ft {d : Option Nat} {m : MOp} {again : List Nat} {t : LTree} {K : Env → AHeap → Prop} {ps : List Pend} : guardL C (.bool false) true d m again t K ps e σ = sTree C K t ps (putD e d .und) σ := _root_.id rfl
theorem sOps_nil {K : Env → AHeap → Prop} : sOps C [] K e σ = K e σ := _root_.id rfl
theorem sOps_cons {d : Option Nat} {m : MOp} {os : List MOper} {K : Env → AHeap → Prop} : sOps C (⟨d, m, none⟩ :: os) K e σ = sOp C m e σ (nxt C d os K e) := _root_.id rfl
theorem sOps_guard {d : Option Nat} {m : MOp} {t : Nat} {w : Bool} {os : List MOper} {K : Env → AHeap → Prop} : sOps C (⟨d, m, some (t, w)⟩ :: os) K e σ = guardK C (e t) w d m os K e σ := _root_.id rfl
theorem sTree_leaf {K : Env → AHeap → Prop} {ps : List Pend} : sTree C K .leaf ps e σ = K e σ := _root_.id rfl
theorem sTree_stop {K : Env → AHeap → Prop} {ps : List Pend} : sTree C K .stop ps e σ = True := _root_.id rfl
theorem sTree_quiet {d : Option Nat} {m : MOp} {i : Nat} {t : LTree} {K : Env → AHeap → Prop} {ps : List Pend} : sTree C K (.quiet ⟨d, m, none⟩ i t) ps e σ = sOp C m e σ (nxtQ C ⟨d, m, none⟩ i t K ps e) := _root_.id rfl
theorem sTree_loud {d : Option Nat} {m : MOp} {again : List Nat} {t o : LTree} {K : Env → AHeap → Prop} {ps : List Pend} : sTree C K (.loud ⟨d, m, none⟩ again t o) ps e σ = (sOp C m e σ (nxtL C d again t K ps e) ∧ sTree C K o ps e σ) := _root_.id rfl
theorem sTree_quietG {d : Option Nat} {m : MOp} {i q : Nat} {w : Bool} {t : LTree} {K : Env → AHeap → Prop} {ps : List Pend} : sTree C K (.quiet ⟨d, m, some (q, w)⟩ i t) ps e σ = guardQ C (e q) w ⟨d, m, some (q, w)⟩ i t K ps e σ := _root_.id rfl
theorem sTree_loudG {d : Option Nat} {m : MOp} {again : List Nat} {q : Nat} {w : Bool} {t o : LTree} {K : Env → AHeap → Prop} {ps : List Pend} : sTree C K (.loud ⟨d, m, some (q, w)⟩ again t o) ps e σ = (guardL C (e q) w d m again t K ps e σ ∧ sTree C K o ps e σ) := _root_.id rfl
theorem goO_some {v : AV} {K : AV → AHeap → Prop} : goO (some (v, σ)) K = K v σ := _root_.id rfl
theorem goO_none {K : AV → AHeap → Prop} : goO none K = False := _root_.id rfl
theorem sOp_call {f : FuncId} {args : List Opd} {K : AV → AHeap → Prop} : sOp C (.call f args) e σ K = C f (args.map (Opd.ev e)) σ K := _root_.id rfl
def callvP (C : PCall) (v : AV) (args : List AV) (σ : AHeap) (K : AV → AHeap → Prop) : Prop :=
  match v with
  | .func g caps => C g (args ++ caps) σ K
  | _ => False
theorem callvP_func {g : FuncId} {caps args : List AV} {K : AV → AHeap → Prop} : callvP C (.func g caps) args σ K = C g (args ++ caps) σ K := _root_.id rfl
theorem sOp_callv {f : Opd} {args : List Opd} {K : AV → AHeap → Prop} : sOp C (.callv f args) e σ K = callvP C (f.ev e) (args.map (Opd.ev e)) σ K := _root_.id rfl
theorem putD_some {d n : Nat} {v : AV} : putD e (some d) v n = if n = d then v else e n := _root_.id rfl
theorem putD_none {v : AV} : putD e none v = e := _root_.id rfl
theorem still_nil {ps : List Pend} : still σ ps [] = True := by simp [still]
theorem still_none {again : List Nat} : still σ [] again = True := by simp [still]
theorem still_cons {p : Pend} {ps : List Pend} {again : List Nat} : still σ (p :: ps) again = ((p.i ∈ again → evOp (Opd.ev fun _ => .unk) σ p.op = some (p.v, σ)) ∧ still σ ps again) := by
  simp [still]
end
section
variable {C : PCall} {e : Env} {σ : AHeap} {K : AV → AHeap → Prop}
theorem sOp_move (x : Opd) : sOp C (.move x) e σ K = goO (evOp (Opd.ev e) σ (.move x)) K := _root_.id rfl
theorem sOp_nilCheck (x : Opd) : sOp C (.nilCheck x) e σ K = goO (evOp (Opd.ev e) σ (.nilCheck x)) K := _root_.id rfl
theorem sOp_pick (c a b : Opd) : sOp C (.pick c a b) e σ K = goO (evOp (Opd.ev e) σ (.pick c a b)) K := _root_.id rfl
theorem sOp_alloc (z : List AV) : sOp C (.alloc z) e σ K = goO (evOp (Opd.ev e) σ (.alloc z)) K := _root_.id rfl
theorem sOp_box (x : Opd) : sOp C (.box x) e σ K = goO (evOp (Opd.ev e) σ (.box x)) K := _root_.id rfl
theorem sOp_build (z : List AV) (ps : List (Nat × Nat × Opd)) : sOp C (.build z ps) e σ K = goO (evOp (Opd.ev e) σ (.build z ps)) K := _root_.id rfl
theorem sOp_buildSlice (z : List AV) (s l : Nat) (ps : List (Nat × Nat × Opd)) : sOp C (.buildSlice z s l ps) e σ K = goO (evOp (Opd.ev e) σ (.buildSlice z s l ps)) K := _root_.id rfl
theorem sOp_load1 (x : Opd) : sOp C (.load1 x) e σ K = goO (evOp (Opd.ev e) σ (.load1 x)) K := _root_.id rfl
theorem sOp_loadN (n : Nat) (x : Opd) : sOp C (.loadN n x) e σ K = goO (evOp (Opd.ev e) σ (.loadN n x)) K := _root_.id rfl
theorem sOp_store (n : Nat) (a x : Opd) : sOp C (.store n a x) e σ K = goO (evOp (Opd.ev e) σ (.store n a x)) K := _root_.id rfl
theorem sOp_bin (o : BinOp) (k : EqK) (x y : Opd) : sOp C (.bin o k x y) e σ K = goO (evOp (Opd.ev e) σ (.bin o k x y)) K := _root_.id rfl
theorem sOp_un (o : UnOp) (x : Opd) : sOp C (.un o x) e σ K = goO (evOp (Opd.ev e) σ (.un o x)) K := _root_.id rfl
theorem sOp_convInt (k : IntKind) (x : Opd) : sOp C (.convInt k x) e σ K = goO (evOp (Opd.ev e) σ (.convInt k x)) K := _root_.id rfl
theorem sOp_convSame (x : Opd) : sOp C (.convSame x) e σ K = goO (evOp (Opd.ev e) σ (.convSame x)) K := _root_.id rfl
theorem sOp_resame (x : Opd) : sOp C (.resame x) e σ K = goO (evOp (Opd.ev e) σ (.resame x)) K := _root_.id rfl
theorem sOp_toBytes (x : Opd) : sOp C (.toBytes x) e σ K = goO (evOp (Opd.ev e) σ (.toBytes x)) K := _root_.id rfl
theorem sOp_ofBytes (x : Opd) : sOp C (.ofBytes x) e σ K = goO (evOp (Opd.ev e) σ (.ofBytes x)) K := _root_.id rfl
theorem sOp_mkfunc (f : FuncId) (cs : List Opd) : sOp C (.mkfunc f cs) e σ K = goO (evOp (Opd.ev e) σ (.mkfunc f cs)) K := _root_.id rfl
theorem sOp_makeSlice (z : List AV) (s b : Nat) (l c : Opd) : sOp C (.makeSlice z s b l c) e σ K = goO (evOp (Opd.ev e) σ (.makeSlice z s b l c)) K := _root_.id rfl
theorem sOp_sliceStr (x : Opd) (lo hi : Option Opd) : sOp C (.sliceStr x lo hi) e σ K = goO (evOp (Opd.ev e) σ (.sliceStr x lo hi)) K := _root_.id rfl
theorem sOp_slice (s : Nat) (x : Opd) (lo hi mx : Option Opd) : sOp C (.slice s x lo hi mx) e σ K = goO (evOp (Opd.ev e) σ (.slice s x lo hi mx)) K := _root_.id rfl
theorem sOp_sliceArr (n s : Nat) (x : Opd) (lo hi mx : Option Opd) : sOp C (.sliceArr n s x lo hi mx) e σ K = goO (evOp (Opd.ev e) σ (.sliceArr n s x lo hi mx)) K := _root_.id rfl
theorem sOp_fieldAddr (o : Nat) (x : Opd) : sOp C (.fieldAddr o x) e σ K = goO (evOp (Opd.ev e) σ (.fieldAddr o x)) K := _root_.id rfl
theorem sOp_field1 (o : Nat) (x : Opd) : sOp C (.field1 o x) e σ K = goO (evOp (Opd.ev e) σ (.field1 o x)) K := _root_.id rfl
theorem sOp_fieldN (o n : Nat) (x : Opd) : sOp C (.fieldN o n x) e σ K = goO (evOp (Opd.ev e) σ (.fieldN o n x)) K := _root_.id rfl
theorem sOp_indexAddr (s : Nat) (x i : Opd) : sOp C (.indexAddr s x i) e σ K = goO (evOp (Opd.ev e) σ (.indexAddr s x i)) K := _root_.id rfl
theorem sOp_indexArrAddr (n s : Nat) (x i : Opd) : sOp C (.indexArrAddr n s x i) e σ K = goO (evOp (Opd.ev e) σ (.indexArrAddr n s x i)) K := _root_.id rfl
theorem sOp_indexStr (x i : Opd) : sOp C (.indexStr x i) e σ K = goO (evOp (Opd.ev e) σ (.indexStr x i)) K := _root_.id rfl
theorem sOp_indexArr1 (n : Nat) (x i : Opd) : sOp C (.indexArr1 n x i) e σ K = goO (evOp (Opd.ev e) σ (.indexArr1 n x i)) K := _root_.id rfl
theorem sOp_indexArrN (n s : Nat) (x i : Opd) : sOp C (.indexArrN n s x i) e σ K = goO (evOp (Opd.ev e) σ (.indexArrN n s x i)) K := _root_.id rfl
theorem sOp_extract (x : Opd) (i : Nat) : sOp C (.extract x i) e σ K = goO (evOp (Opd.ev e) σ (.extract x i)) K := _root_.id rfl
theorem sOp_lenStr (x : Opd) : sOp C (.lenStr x) e σ K = goO (evOp (Opd.ev e) σ (.lenStr x)) K := _root_.id rfl
theorem sOp_lenSl (x : Opd) : sOp C (.lenSl x) e σ K = goO (evOp (Opd.ev e) σ (.lenSl x)) K := _root_.id rfl
theorem sOp_lenArr (n : Nat) : sOp C (.lenArr n) e σ K = goO (evOp (Opd.ev e) σ (.lenArr n)) K := _root_.id rfl
theorem sOp_append (s b : Nat) (x y : Opd) : sOp C (.append s b x y) e σ K = goO (evOp (Opd.ev e) σ (.append s b x y)) K := _root_.id rfl
theorem sOp_copy (s : Nat) (x y : Opd) : sOp C (.copy s x y) e σ K = goO (evOp (Opd.ev e) σ (.copy s x y)) K := _root_.id rfl
theorem sOp_minmax (m : Bool) (xs : List Opd) : sOp C (.minmax m xs) e σ K = goO (evOp (Opd.ev e) σ (.minmax m xs)) K := _root_.id rfl
theorem sOp_ext (k : ExtK) (xs : List Opd) : sOp C (.ext k xs) e σ K = goO (evOp (Opd.ev e) σ (.ext k xs)) K := _root_.id rfl
theorem sOp_capOf (x : Opd) : sOp C (.capOf x) e σ K = goO (evOp (Opd.ev e) σ (.capOf x)) K := _root_.id rfl
end
end Go.Gz
