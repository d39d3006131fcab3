/- The beginning of a function's text run by the kernel, the rest walked. No condition. -/
import Derived.Test.YtnooejmbhdgbpaaGreatDoorK30
import Derived.Test.YtnooejmbhdgbpaaGreatDoorK35
set_option linter.unusedVariables false
set_option linter.unusedSimpArgs false
namespace Go.Gz
def headS : Nat → MCode → MCode
  | 0, _ => .skip
  | k + 1, .seq a b => .seq a (headS k b)
  | _ + 1, m => m
def restS : Nat → MCode → MCode
  | 0, m => m
  | k + 1, .seq _ b => restS k b
  | _ + 1, _ => .skip
theorem head_rest {P : Program} {n0 : Nat} : ∀ (k : Nat) (m : MCode) {Q : MExit → Env → AHeap → Prop} {e : Env} {σ : AHeap}, wpC P n0 (headS k m) (fun x e σ => match x with | .normal => wpC P n0 (restS k m) Q e σ | x => Q x e σ) e σ → wpC P n0 m Q e σ
  | 0, m, Q, e, σ, h => h
  | k + 1, .seq a b, Q, e, σ, h => by
    unfold headS at h
    unfold wpC at h ⊢
    refine wpC_mono (fun x e σ hx => ?_) h
    cases x with
    | normal => exact head_rest k b hx
    | exit i => exact hx
    | ret => exact hx
  | k + 1, .skip, Q, e, σ, h => h
  | k + 1, .region ops, Q, e, σ, h => wpC_mono (fun x e σ hx => by cases x <;> exact hx) h
  | k + 1, .draw ops t, Q, e, σ, h => wpC_mono (fun x e σ hx => by cases x <;> exact hx) h
  | k + 1, .cond c a b, Q, e, σ, h => wpC_mono (fun x e σ hx => by cases x <;> exact hx) h
  | k + 1, .block i a, Q, e, σ, h => wpC_mono (fun x e σ hx => by cases x <;> exact hx) h
  | k + 1, .loop a, Q, e, σ, h => wpC_mono (fun x e σ hx => by cases x <;> exact hx) h
  | k + 1, .exit i, Q, e, σ, h => h
  | k + 1, .ret, Q, e, σ, h => h
/-- What the kernel runs of the first k parts of a function's text. -/
noncomputable def runHead (P : Program) (L n k : Nat) (f : FuncId) (args : List AV) (K : Env → AHeap → Bool) : Bool :=
  Option.rec (motive := fun _ => Bool) false (fun mf => Bool.rec (motive := fun _ => Bool) false ((zC (zDepth mf.n) (zF (cFn P) L n) L (headS k mf.body)).r (fun x T H => MExit.rec (motive := fun _ => Bool) (K T.get H.toL) (fun _ => false) false x) (T4.full (zDepth mf.n) (zArg args)) TH.new) (Nat.ble (zLen args) mf.n)) (cFn P f)
theorem Tri.head {P : Program} {f : FuncId} {args : List AV} {Q : AV → AHeap → Prop} {C : PCall} {rs : List MRes} {rest : SCode} (L n k : Nat) (K : Env → AHeap → Bool) (h : runHead P L n k f args K = true)
    (hs : (cFn P f).map (fun m => (m.results, toS (restS k m.body))) = some (rs, rest)) (hc : Sound P C) (hK : ∀ e σ, K e σ = true → sC C 0 rest (unw C 0 (RetQ rs Q) .fin) e σ) : Tri P f args [] Q := by
  unfold runHead at h
  cases hm : cFn P f with
  | none => rw [hm] at hs; cases hs
  | some mf =>
    rw [hm] at h hs
    simp only [Option.map_some, Option.some.injEq, Prod.mk.injEq] at hs
    obtain ⟨rfl, rfl⟩ := hs
    have h : @Bool.rec (fun _ => Bool) false ((zC (zDepth mf.n) (zF (cFn P) L n) L (headS k mf.body)).r (fun x T H => MExit.rec (motive := fun _ => Bool) (K T.get H.toL) (fun _ => false) false x) (T4.full (zDepth mf.n) (zArg args)) TH.new) (Nat.ble (zLen args) mf.n) = true := h
    rw [zLen_eq] at h
    cases hl : Nat.ble args.length mf.n with
    | false => rw [hl] at h; cases h
    | true =>
      rw [hl] at h
      have h : (zC (zDepth mf.n) (zF (cFn P) L n) L (headS k mf.body)).r (fun x T H => MExit.rec (motive := fun _ => Bool) (K T.get H.toL) (fun _ => false) false x) (T4.full (zDepth mf.n) (zArg args)) TH.new = true := h
      rw [zC_eq (zDepth mf.n) (zF_eq (cFn P) L n) (headS k mf.body) (Q := fun x e σ => MExit.rec (motive := fun _ => Bool) (K e σ) (fun _ => false) false x) (fun x T H => rfl), TH.new_eq,
        show (T4.full (zDepth mf.n) (zArg args)).get = argEnv args from funext fun k => (T4.get_full _ _ k).trans (zArg_eq args k)] at h
      refine Tri.intro hm (Nat.le_of_ble_eq_true hl) (head_rest k mf.body (wpC_mono ?_ (bC_ok (bF_ok (fun _ _ h => h) n) h)))
      intro x e σ hx
      cases x with
      | normal => exact sC_ok hc (fun _ _ _ h => h) (hK e σ hx)
      | exit i => cases hx
      | ret => cases hx
end Go.Gz
