/- A run of the abstract machine that a kernel can do: what it comes to holds. -/
import Derived.Test.YtmjnmnhpmbbmgaaK19
set_option linter.unusedVariables false
set_option linter.unusedSimpArgs false
namespace Go.Gz
abbrev BCall := FuncId → List AV → AHeap → (AV → AHeap → Bool) → Bool
def bOp (call : BCall) (m : MOp) (e : Env) (σ : AHeap) (K : AV → AHeap → Bool) : Bool :=
  match m with
  | .call f args => call f (args.map (·.ev e)) σ K
  | .callv f args => match f.ev e with
    | .func g caps => call g (args.map (·.ev e) ++ caps) σ K
    | _ => false
  | m => match evOp (Opd.ev e) σ m with
    | some (v, σ') => K v σ'
    | none => false
def bG (call : BCall) (o : MOper) (e : Env) (σ : AHeap) (K : AV → AHeap → Bool) (skip : Bool) : Bool :=
  match o.guard with
  | none => bOp call o.op e σ K
  | some (t, want) => match e t with
    | .bool b => if b = want then bOp call o.op e σ K else skip
    | _ => false
def bOps (call : BCall) (K : Env → AHeap → Bool) : List MOper → Env → AHeap → Bool
  | [], e, σ => K e σ
  | o :: os, e, σ => bG call o e σ (fun v σ' => bOps call K os (putD e o.dst v) σ') (bOps call K os (putD e o.dst .unk) σ)
/-- A tree without a choice. -/
def bTree (call : BCall) (ops : List MOper) (K : Env → AHeap → Bool) : DTree → Env → AHeap → Bool
  | .leaf, e, σ => K e σ
  | .stop, _, _ => true
  | .quiet i t, e, σ =>
    match ops[i]? with
    | none => false
    | some o => bG call o e σ (fun v σ' => bTree call ops K t (putD e o.dst v) σ') (bTree call ops K t (putD e o.dst .unk) σ)
  | .loud _ _ _ _, _, _ => false
mutual
def AV.same : AV → AV → Bool
  | .bool a, .bool b => a == b
  | .int k a, .int l b => k == l && a == b
  | .str a, .str b => a == b
  | .nilptr, .nilptr => true
  | .nilslice, .nilslice => true
  | .nilfunc, .nilfunc => true
  | .unk, .unk => true
  | .ptr a b, .ptr c d => a == c && b == d
  | .iptr a, .iptr b => AV.sames a b
  | .slice a b c d e, .slice a' b' c' d' e' => a == a' && b == b' && c == c' && d == d' && e == e'
  | .imm a b c, .imm a' b' c' => AV.samess a a' && b == b' && c == c'
  | .func a b, .func a' b' => a == a' && AV.sames b b'
  | .agg a, .agg b => AV.sames a b
  | .tuple a, .tuple b => AV.sames a b
  | _, _ => false
def AV.sames : List AV → List AV → Bool
  | [], [] => true
  | a :: as, b :: bs => AV.same a b && AV.sames as bs
  | _, _ => false
def AV.samess : List (List AV) → List (List AV) → Bool
  | [], [] => true
  | a :: as, b :: bs => AV.sames a b && AV.samess as bs
  | _, _ => false
end
mutual
theorem AV.same_eq : ∀ {a b : AV}, AV.same a b = true → a = b
  | .bool a, b, h => by cases b <;> simp [AV.same] at h ⊢; exact h
  | .int k a, b, h => by cases b <;> simp [AV.same] at h ⊢; exact h
  | .str a, b, h => by cases b <;> simp [AV.same] at h ⊢; exact h
  | .nilptr, b, h => by cases b <;> simp [AV.same] at h ⊢
  | .nilslice, b, h => by cases b <;> simp [AV.same] at h ⊢
  | .nilfunc, b, h => by cases b <;> simp [AV.same] at h ⊢
  | .unk, b, h => by cases b <;> simp [AV.same] at h ⊢
  | .ptr _ _, b, h => by cases b <;> simp [AV.same] at h ⊢; exact h
  | .iptr a, b, h => by cases b <;> simp [AV.same] at h ⊢; exact AV.sames_eq h
  | .slice _ _ _ _ _, b, h => by cases b <;> simp [AV.same] at h ⊢; simp_all
  | .imm a _ _, b, h => by cases b <;> simp [AV.same] at h ⊢; exact ⟨AV.samess_eq h.1.1, h.1.2, h.2⟩
  | .func _ a, b, h => by cases b <;> simp [AV.same] at h ⊢; exact ⟨h.1, AV.sames_eq h.2⟩
  | .agg a, b, h => by cases b <;> simp [AV.same] at h ⊢; exact AV.sames_eq h
  | .tuple a, b, h => by cases b <;> simp [AV.same] at h ⊢; exact AV.sames_eq h
theorem AV.sames_eq : ∀ {a b : List AV}, AV.sames a b = true → a = b
  | [], b, h => by cases b <;> simp [AV.sames] at h ⊢
  | a :: as, b, h => by
    cases b with
    | nil => simp [AV.sames] at h
    | cons b bs => simp [AV.sames] at h; rw [AV.same_eq h.1, AV.sames_eq h.2]
theorem AV.samess_eq : ∀ {a b : List (List AV)}, AV.samess a b = true → a = b
  | [], b, h => by cases b <;> simp [AV.samess] at h ⊢
  | a :: as, b, h => by
    cases b with
    | nil => simp [AV.samess] at h
    | cons b bs => simp [AV.samess] at h; rw [AV.sames_eq h.1, AV.samess_eq h.2]
end
def sameHeap : AHeap → AHeap → Bool
  | [], [] => true
  | none :: a, none :: b => sameHeap a b
  | some x :: a, some y :: b => AV.sames x y && sameHeap a b
  | _, _ => false
def quietTree : DTree → Bool
  | .leaf => true
  | .stop => true
  | .quiet _ t => quietTree t
  | .loud _ _ _ _ => false
def sameRead (σ : AHeap) (v : AV) (m : MOp) : Bool :=
  match evOp (Opd.ev fun _ => .unk) σ m with
  | some (x, _) => AV.same x v
  | none => false
/-- A tree with choices: what was read is read again. -/
def bTreeC (call : BCall) (ops : List MOper) (K : Env → AHeap → Bool) : DTree → List Pend → Env → AHeap → Bool
  | .leaf, _, e, σ => K e σ
  | .stop, _, _, _ => true
  | .quiet i t, ps, e, σ =>
    match ops[i]? with
    | none => false
    | some o => bG call o e σ (fun v σ' => bTreeC call ops K t (if isRead o.op then ⟨i, fixOp e o.op, v⟩ :: ps else ps) (putD e o.dst v) σ') (bTreeC call ops K t ps (putD e o.dst .unk) σ)
  | .loud i again t other, ps, e, σ =>
    (match ops[i]? with
    | none => false
    | some o => bG call o e σ (fun v σ' => (ps.all fun p => !again.contains p.i || sameRead σ' p.v p.op) && bTreeC call ops K t ps (putD e o.dst v) σ') (bTreeC call ops K t ps (putD e o.dst .unk) σ)) && bTreeC call ops K other ps e σ
def bLoop (body : (MExit → Env → AHeap → Bool) → Env → AHeap → Bool) (Q : MExit → Env → AHeap → Bool) : Nat → Env → AHeap → Bool
  | 0, _, _ => false
  | n + 1, e, σ => body (fun x e' σ' => match x with | .normal => bLoop body Q n e' σ' | x => Q x e' σ') e σ
def bC (call : BCall) (L : Nat) : MCode → (MExit → Env → AHeap → Bool) → Env → AHeap → Bool
  | .skip, Q, e, σ => Q .normal e σ
  | .region ops, Q, e, σ => bOps call (Q .normal) ops e σ
  | .draw ops t, Q, e, σ => if quietTree t then bTree call ops (Q .normal) t e σ else bTreeC call ops (Q .normal) t [] e σ
  | .seq a b, Q, e, σ => bC call L a (fun x e' σ' => match x with | .normal => bC call L b Q e' σ' | x => Q x e' σ') e σ
  | .cond c a b, Q, e, σ => match c.ev e with
    | .bool t => if t then bC call L a Q e σ else bC call L b Q e σ
    | _ => false
  | .block id a, Q, e, σ => bC call L a (fun x e' σ' => match x with | .exit i => if i = id then Q .normal e' σ' else Q (.exit i) e' σ' | x => Q x e' σ') e σ
  | .loop a, Q, e, σ => bLoop (bC call L a) Q L e σ
  | .exit id, Q, e, σ => Q (.exit id) e σ
  | .ret, Q, e, σ => Q .ret e σ
def bRet (rs : List MRes) (K : AV → AHeap → Bool) : MExit → Env → AHeap → Bool := fun x e σ =>
  match x with
  | .exit _ => false
  | _ => match resVals e σ rs with
    | some vs => K (retOf vs) σ
    | none => false
def bF (T : FuncId → Option MFunc) (L : Nat) : Nat → BCall
  | 0 => fun _ _ _ _ => false
  | n + 1 => fun f args σ K =>
    match T f with
    | some mf => Nat.ble args.length mf.n && bC (bF T L n) L mf.body (bRet mf.results K) (argEnv args) σ
    | none => false
section
variable {P : Program}
def CallOk (P : Program) (call : BCall) : Prop := ∀ f args σ K, call f args σ K = true → Tri P f args σ fun r σ' => K r σ' = true
variable {call : BCall}
theorem bOp_ok (hc : CallOk P call) {m : MOp} {e : Env} {σ : AHeap} {K : AV → AHeap → Bool} (h : bOp call m e σ K = true) : wpOp P m e σ fun v σ' => K v σ' = true := by
  unfold bOp at h
  unfold wpOp
  split at h
  · exact hc _ _ _ _ h
  · simp only
    split at h
    · rename_i hf; simp only [hf]; exact hc _ _ _ _ h
    · cases h
  · split at h
    · simp_all
    · cases h
theorem bG_ok (hc : CallOk P call) {o : MOper} {e : Env} {σ : AHeap} {K : AV → AHeap → Bool} {s : Bool} (h : bG call o e σ K s = true) : wpG P o e σ (fun v σ' => K v σ' = true) (s = true) := by
  unfold bG at h
  unfold wpG
  split at h
  · rename_i hg; simp only [hg]; exact bOp_ok hc h
  · rename_i hg; simp only [hg]
    split at h
    · rename_i hb; simp only [hb]
      split at h
      · rename_i hw; rw [if_pos hw]; exact bOp_ok hc h
      · rename_i hw; rw [if_neg hw]; exact h
    · cases h
theorem wpG_mono {o : MOper} {e : Env} {σ : AHeap} {K K' : AV → AHeap → Prop} {s s' : Prop} (h : wpG P o e σ K s) (hk : ∀ v σ', K v σ' → K' v σ') (hs : s → s') : wpG P o e σ K' s' := by
  have key : wpOp P o.op e σ K → wpOp P o.op e σ K' := by
    intro h
    unfold wpOp at h ⊢
    split at h
    · exact h.mono hk
    · split at h
      · rename_i hf; exact h.mono hk
      · exact h.elim
    · split at h
      · rename_i hf; exact hk _ _ h
      · exact h.elim
  unfold wpG at h ⊢
  split at h
  · rename_i hg; exact key h
  · rename_i hg; 
    split at h
    · rename_i hb;
      split at h
      · rename_i hw; rw [if_pos hw]; exact key h
      · rename_i hw; rw [if_neg hw]; exact hs h
    · exact h.elim
theorem bOps_ok (hc : CallOk P call) {K : Env → AHeap → Bool} : ∀ {ops : List MOper} {e : Env} {σ : AHeap}, bOps call K ops e σ = true → wpOps P ops (fun e σ => K e σ = true) e σ
  | [], e, σ, h => h
  | o :: os, e, σ, h => by
    have := bG_ok hc (show bG call o e σ _ _ = true from h)
    have := wpG_mono this (K' := fun v σ' => wpOps P os (fun e σ => K e σ = true) (putD e o.dst v) σ') (s' := wpOps P os (fun e σ => K e σ = true) (putD e o.dst .unk) σ) (fun v σ' h => bOps_ok hc h) (fun h => bOps_ok hc h)
    exact this
theorem evOp_read {g : Opd → AV} {σ σ' : AHeap} {m : MOp} {v : AV} (hm : isRead m = true) (h : evOp g σ m = some (v, σ')) : σ' = σ := by
  cases m <;> simp [isRead] at hm <;> simp only [evOp] at h
  all_goals
    first
      | (simp only [Option.map_eq_some_iff] at h; obtain ⟨_, _, h⟩ := h; cases h; rfl)
      | skip
  all_goals (repeat' split at h) <;> first | (cases h; rfl) | (cases h) | skip
  all_goals
    simp only [Option.map_eq_some_iff] at h; obtain ⟨_, _, h⟩ := h; cases h; rfl
theorem isRead_fix {e : Env} {m : MOp} (h : isRead m = true) : isRead (fixOp e m) = true := by
  cases m <;> simp_all [isRead, fixOp]
theorem bTreeC_ok (hc : CallOk P call) {ops : List MOper} {K : Env → AHeap → Bool} : ∀ {t : DTree} {ps : List Pend} {e : Env} {σ : AHeap}, (∀ p ∈ ps, isRead p.op = true) → bTreeC call ops K t ps e σ = true → wpTree P ops (fun e σ => K e σ = true) t ps e σ
  | .leaf, _, e, σ, _, h => h
  | .stop, _, e, σ, _, h => trivial
  | .quiet i t, ps, e, σ, hp, h => by
    unfold bTreeC at h
    unfold wpTree
    split at h
    · cases h
    · rename_i o ho
      simp only [ho]
      refine wpG_mono (bG_ok hc h) (fun v σ' h => bTreeC_ok hc ?_ h) (fun h => bTreeC_ok hc hp h)
      intro p hp'
      split at hp'
      · rename_i hr
        rcases List.mem_cons.1 hp' with rfl | hp'
        · exact isRead_fix hr
        · exact hp p hp'
      · exact hp p hp'
  | .loud i again t other, ps, e, σ, hp, h => by
    unfold bTreeC at h
    unfold wpTree
    rw [Bool.and_eq_true] at h
    refine ⟨?_, bTreeC_ok hc hp h.2⟩
    have h := h.1
    split at h
    · cases h
    · rename_i o ho
      simp only [ho]
      refine wpG_mono (bG_ok hc h) (fun v σ' h => ?_) (fun h => bTreeC_ok hc hp h)
      rw [Bool.and_eq_true] at h
      refine ⟨fun p hp' ha => ?_, bTreeC_ok hc hp h.2⟩
      have := List.all_eq_true.1 h.1 p hp'
      have ha' : again.contains p.i = true := by simpa using ha
      rw [ha'] at this
      simp only [Bool.not_true, Bool.false_or, sameRead] at this
      split at this
      · rename_i x σ'' hx
        rw [hx, AV.same_eq this, evOp_read (hp p hp') hx]
      · cases this
theorem bTree_ok (hc : CallOk P call) {ops : List MOper} {K : Env → AHeap → Bool} : ∀ {t : DTree} {ps : List Pend} {e : Env} {σ : AHeap}, bTree call ops K t e σ = true → wpTree P ops (fun e σ => K e σ = true) t ps e σ
  | .leaf, _, e, σ, h => h
  | .stop, _, e, σ, h => trivial
  | .quiet i t, ps, e, σ, h => by
    unfold bTree at h
    unfold wpTree
    split at h
    · cases h
    · rename_i o ho
      simp only [ho]
      exact wpG_mono (bG_ok hc h) (fun v σ' h => bTree_ok hc h) (fun h => bTree_ok hc h)
  | .loud _ _ _ _, _, _, _, h => by simp [bTree] at h
theorem wpOp_mono {m : MOp} {e : Env} {σ : AHeap} {K K' : AV → AHeap → Prop} (h : wpOp P m e σ K) (hk : ∀ v σ', K v σ' → K' v σ') : wpOp P m e σ K' :=
  wpG_mono (o := ⟨none, m, none⟩) (s := True) (s' := True) h hk id
theorem wpOps_mono {K K' : Env → AHeap → Prop} (hk : ∀ e σ, K e σ → K' e σ) : ∀ {ops : List MOper} {e : Env} {σ : AHeap}, wpOps P ops K e σ → wpOps P ops K' e σ
  | [], e, σ, h => hk e σ h
  | o :: os, e, σ, h => wpG_mono (o := o) (s := wpOps P os K (putD e o.dst .unk) σ) h (fun v σ' h => wpOps_mono hk h) (fun h => wpOps_mono hk h)
theorem wpTree_mono {ops : List MOper} {K K' : Env → AHeap → Prop} (hk : ∀ e σ, K e σ → K' e σ) : ∀ {t : DTree} {ps : List Pend} {e : Env} {σ : AHeap}, wpTree P ops K t ps e σ → wpTree P ops K' t ps e σ
  | .leaf, _, e, σ, h => hk e σ h
  | .stop, _, e, σ, h => trivial
  | .quiet i t, ps, e, σ, h => by
    unfold wpTree at h ⊢
    split at h
    · exact h.elim
    · rename_i o ho
      exact wpG_mono h (fun v σ' h => wpTree_mono hk h) (fun h => wpTree_mono hk h)
  | .loud i again t other, ps, e, σ, h => by
    unfold wpTree at h ⊢
    refine ⟨?_, wpTree_mono hk h.2⟩
    have h := h.1
    split at h
    · exact h.elim
    · rename_i o ho
      exact wpG_mono h (fun v σ' h => ⟨h.1, wpTree_mono hk h.2⟩) (fun h => wpTree_mono hk h)
theorem wpC_mono {n0 : Nat} : ∀ {m : MCode} {Q Q' : MExit → Env → AHeap → Prop} {e : Env} {σ : AHeap}, (∀ x e σ, Q x e σ → Q' x e σ) → wpC P n0 m Q e σ → wpC P n0 m Q' e σ
  | .skip, Q, Q', e, σ, hq, h => hq _ _ _ h
  | .region ops, Q, Q', e, σ, hq, h => wpOps_mono (fun e σ h => hq _ _ _ h) h
  | .draw ops t, Q, Q', e, σ, hq, h => wpTree_mono (fun e σ h => hq _ _ _ h) h
  | .seq a b, Q, Q', e, σ, hq, h => by
    refine wpC_mono (m := a) ?_ h
    intro x e σ h
    cases x with
    | normal => exact wpC_mono (m := b) hq h
    | exit i => exact hq _ _ _ h
    | ret => exact hq _ _ _ h
  | .cond c a b, Q, Q', e, σ, hq, h => by
    unfold wpC at h ⊢
    split at h
    · rename_i hc; 
      split at h
      · rename_i h2; rw [if_pos h2]; exact wpC_mono hq h
      · rename_i h2; rw [if_neg h2]; exact wpC_mono hq h
    · exact h.elim
  | .block id a, Q, Q', e, σ, hq, h => by
    refine wpC_mono (m := a) ?_ h
    intro x e σ h
    cases x with
    | normal => exact hq _ _ _ h
    | exit i =>
      simp only at h ⊢
      split at h
      · rename_i h2; rw [if_pos h2]; exact hq _ _ _ h
      · rename_i h2; rw [if_neg h2]; exact hq _ _ _ h
    | ret => exact hq _ _ _ h
  | .loop a, Q, Q', e, σ, hq, h => by
    obtain ⟨I, h1, h2⟩ := h
    refine ⟨I, h1, fun n e σ hI => wpC_mono (m := a) ?_ (h2 n e σ hI)⟩
    intro x e σ h
    cases x with
    | normal => exact h
    | exit i => exact hq _ _ _ h
    | ret => exact hq _ _ _ h
  | .exit id, Q, Q', e, σ, hq, h => hq _ _ _ h
  | .ret, Q, Q', e, σ, hq, h => hq _ _ _ h
theorem bC_ok (hc : CallOk P call) {L n0 : Nat} : ∀ {m : MCode} {Q : MExit → Env → AHeap → Bool} {e : Env} {σ : AHeap}, bC call L m Q e σ = true → wpC P n0 m (fun x e σ => Q x e σ = true) e σ
  | .skip, Q, e, σ, h => h
  | .region ops, Q, e, σ, h => bOps_ok hc h
  | .draw ops t, Q, e, σ, h => by
    unfold bC at h
    split at h
    · exact bTree_ok hc h
    · exact bTreeC_ok hc (by simp) h
  | .seq a b, Q, e, σ, h => by
    unfold bC at h
    refine wpC_mono (m := a) ?_ (bC_ok hc (m := a) h)
    intro x e σ h
    cases x with
    | normal => exact bC_ok hc (m := b) h
    | exit i => exact h
    | ret => exact h
  | .cond c a b, Q, e, σ, h => by
    unfold bC at h
    unfold wpC
    split at h
    · rename_i hcc; simp only [hcc]
      split at h
      · rename_i h2; rw [if_pos h2]; exact bC_ok hc h
      · rename_i h2; rw [if_neg h2]; exact bC_ok hc h
    · cases h
  | .block id a, Q, e, σ, h => by
    unfold bC at h
    refine wpC_mono (m := a) ?_ (bC_ok hc (m := a) h)
    intro x e σ h
    cases x with
    | normal => exact h
    | exit i =>
      simp only at h ⊢
      split at h
      · rename_i h2; rw [if_pos h2]; exact h
      · rename_i h2; rw [if_neg h2]; exact h
    | ret => exact h
  | .loop a, Q, e, σ, h => by
    unfold bC at h
    refine ⟨fun n e σ => bLoop (bC call L a) Q n e σ = true, ⟨L, e, σ, .refl _ _ _, h⟩, fun n e σ hI => ?_⟩
    cases n with
    | zero => cases hI
    | succ n =>
      unfold bLoop at hI
      refine wpC_mono (m := a) ?_ (bC_ok hc (m := a) hI)
      intro x e σ h
      cases x with
      | normal => exact ⟨n, e, σ, Nat.lt_succ_self n, .refl _ _ _, h⟩
      | exit i => exact h
      | ret => exact h
  | .exit id, Q, e, σ, h => h
  | .ret, Q, e, σ, h => h
theorem bF_ok {T : FuncId → Option MFunc} {L : Nat} (hT : ∀ f mf, T f = some mf → cFn P f = some mf) : ∀ n, CallOk P (bF T L n)
  | 0 => fun f args σ K h => by cases h
  | n + 1 => fun f args σ K h => by
    unfold bF at h
    split at h
    · rename_i mf hmf
      rw [Bool.and_eq_true] at h
      refine Tri.intro (hT f mf hmf) (Nat.le_of_ble_eq_true h.1) (wpC_mono ?_ (bC_ok (bF_ok hT n) h.2))
      intro x e σ h
      unfold bRet at h
      unfold RetQ
      split at h
      · cases h
      · split at h
        · rename_i hx _ vs hvs
          cases x with
          | normal => simp [hvs]; exact h
          | exit i => exact absurd rfl (hx i)
          | ret => simp [hvs]; exact h
        · cases h
    · cases h
/-- A run that a kernel did. -/
theorem Tri.run {f : FuncId} {args : List AV} {σ : AHeap} (L n : Nat) (K : AV → AHeap → Bool) (h : bF (cFn P) L n f args σ K = true) : Tri P f args σ fun r σ' => K r σ' = true :=
  bF_ok (T := cFn P) (fun _ _ h => h) n f args σ K h
end
end Go.Gz
