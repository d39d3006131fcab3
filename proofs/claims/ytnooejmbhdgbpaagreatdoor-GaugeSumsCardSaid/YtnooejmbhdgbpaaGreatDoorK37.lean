/- What is said of some answer is said of one: the abstract machine has one answer where no order is drawn. No condition. -/
import Derived.Test.YtnooejmbhdgbpaaGreatDoorK26
set_option linter.unusedVariables false
set_option linter.unusedSimpArgs false
namespace Go.Gz
def DisjC (C : PCall) : Prop := ∀ (ι : Type) f args σ (K : ι → AV → AHeap → Prop), C f args σ (fun v σ' => ∃ i, K i v σ') → ∃ i, C f args σ (K i)
def DisjD (D : List AV → AHeap → (AV → AHeap → Prop) → Prop) : Prop := ∀ (ι : Type) args σ (K : ι → AV → AHeap → Prop), D args σ (fun v σ' => ∃ i, K i v σ') → ∃ i, D args σ (K i)
theorem disj_none : DisjC noCall := fun _ _ _ _ _ h => h.elim
theorem disj_row {f : FuncId} {D : List AV → AHeap → (AV → AHeap → Prop) → Prop} {C : PCall} (hd : DisjD D) (hc : DisjC C) : DisjC (rowQ f D C) := fun ι g args σ K h => by
  unfold rowQ at h ⊢
  split at h
  · rename_i e
    obtain ⟨i, hi⟩ := hd ι args σ K h
    exact ⟨i, by rw [if_pos e]; exact hi⟩
  · rename_i e
    obtain ⟨i, hi⟩ := hc ι g args σ K h
    exact ⟨i, by rw [if_neg e]; exact hi⟩
def MonoD (D : List AV → AHeap → (AV → AHeap → Prop) → Prop) : Prop := ∀ args σ (K K' : AV → AHeap → Prop), (∀ v σ, K v σ → K' v σ) → D args σ K → D args σ K'
theorem mono_row {f : FuncId} {D : List AV → AHeap → (AV → AHeap → Prop) → Prop} {C : PCall} (hd : MonoD D) (hc : MonoC C) : MonoC (rowQ f D C) := fun g args σ K K' hk h => by
  unfold rowQ at h ⊢
  split at h
  · rename_i e
    rw [if_pos e]; exact hd args σ K K' hk h
  · rename_i e
    rw [if_neg e]; exact hc g args σ K K' hk h
/-- Monotone, and of one answer. -/
structure OneC (C : PCall) : Prop where
  mono : MonoC C
  dj : DisjC C
structure OneD (D : List AV → AHeap → (AV → AHeap → Prop) → Prop) : Prop where
  mono : MonoD D
  dj : DisjD D
theorem one_none : OneC noCall := ⟨noCall_mono, disj_none⟩
theorem one_row {f : FuncId} {D : List AV → AHeap → (AV → AHeap → Prop) → Prop} {C : PCall} (hd : OneD D) (hc : OneC C) : OneC (rowQ f D C) := ⟨mono_row hd.mono hc.mono, disj_row hd.dj hc.dj⟩
/-- No order is drawn. -/
def oneT : LTree → Bool
  | .leaf => true
  | .stop => false
  | .bad => false
  | .quiet _ _ t => oneT t
  | .loud _ _ t .stop => oneT t
  | .loud _ _ _ _ => false
def oneS : SCode → Bool
  | .draw t => oneT t
  | .seq a b => oneS a && oneS b
  | .cond _ a b => oneS a && oneS b
  | .block _ a => oneS a
  | .loop a => oneS a
  | _ => true
section
variable {C : PCall}
theorem goO_dj {ι : Type} {o : Option (AV × AHeap)} {K : ι → AV → AHeap → Prop} (h : goO o fun v σ => ∃ i, K i v σ) : ∃ i, goO o (K i) := by
  cases o with
  | none => exact h.elim
  | some p => exact h
theorem sOp_or (m : MOp) (e : Env) (σ : AHeap) : (∃ f args, m = .call f args) ∨ (∃ f args, m = .callv f args) ∨ (∀ K, sOp C m e σ K = goO (evOp (Opd.ev e) σ m) K) := by
  cases m <;> first | exact .inr (.inr fun K => rfl) | exact .inl ⟨_, _, rfl⟩ | exact .inr (.inl ⟨_, _, rfl⟩)
theorem sOp_dj (hc : DisjC C) {ι : Type} {m : MOp} {e : Env} {σ : AHeap} {K : ι → AV → AHeap → Prop} (h : sOp C m e σ fun v σ => ∃ i, K i v σ) : ∃ i, sOp C m e σ (K i) := by
  rcases sOp_or (C := C) m e σ with ⟨f, args, rfl⟩ | ⟨f, args, rfl⟩ | hk
  · exact hc ι _ _ _ K h
  · rw [sOp_callv] at h
    simp only [sOp_callv]
    unfold callvP at h ⊢
    cases hv : f.ev e with
    | func g caps =>
      rw [hv] at h
      exact hc ι _ _ _ K h
    | _ => rw [hv] at h; exact h.elim
  · rw [hk] at h
    obtain ⟨i, hi⟩ := goO_dj h
    exact ⟨i, by rw [hk]; exact hi⟩
theorem sG_dj (hc : DisjC C) {ι : Type} {o : MOper} {e : Env} {σ : AHeap} {K : ι → AV → AHeap → Prop} {s : ι → Prop} (h : sG C o e σ (fun v σ => ∃ i, K i v σ) (∃ i, s i)) : ∃ i, sG C o e σ (K i) (s i) := by
  unfold sG at h ⊢
  cases hg : o.guard with
  | none => rw [hg] at h; exact sOp_dj hc h
  | some p =>
    obtain ⟨t, want⟩ := p
    rw [hg] at h
    simp only at h ⊢
    cases hv : guardVal (e t) with
    | none => rw [hv] at h; exact h.elim
    | some q =>
      cases q with
      | none => rw [hv] at h; exact h
      | some b =>
        rw [hv] at h
        simp only at h ⊢
        by_cases hb : b = want
        · rw [if_pos hb] at h
          simp only [if_pos hb]
          exact sOp_dj hc h
        · rw [if_neg hb] at h
          simp only [if_neg hb]
          exact h
theorem sG_mono' (hm : MonoC C) {o : MOper} {e : Env} {σ : AHeap} {K K' : AV → AHeap → Prop} {s s' : Prop} (hk : ∀ v σ, K v σ → K' v σ) (hs : s → s') (h : sG C o e σ K s) : sG C o e σ K' s' := sG_mono hm hk hs h
theorem sOps_dj (hm : MonoC C) (hc : DisjC C) {ι : Type} {K : ι → Env → AHeap → Prop} : ∀ {ops : List MOper} {e : Env} {σ : AHeap}, sOps C ops (fun e σ => ∃ i, K i e σ) e σ → ∃ i, sOps C ops (K i) e σ
  | [], e, σ, h => h
  | o :: os, e, σ, h => sG_dj hc (sG_mono' hm (fun v σ' h => sOps_dj hm hc h) (fun h => sOps_dj hm hc h) h)
theorem sTree_dj (hm : MonoC C) (hc : DisjC C) {ι : Type} {K : ι → Env → AHeap → Prop} : ∀ {t : LTree} {ps : List Pend} {e : Env} {σ : AHeap}, oneT t = true → sTree C (fun e σ => ∃ i, K i e σ) t ps e σ → ∃ i, sTree C (K i) t ps e σ
  | .leaf, ps, e, σ, _, h => h
  | .stop, ps, e, σ, h1, _ => by cases h1
  | .bad, ps, e, σ, h1, _ => by cases h1
  | .quiet o i t, ps, e, σ, h1, h => sG_dj hc (sG_mono' hm (fun v σ' h => sTree_dj hm hc (t := t) h1 h) (fun h => sTree_dj hm hc (t := t) h1 h) h)
  | .loud o again t .stop, ps, e, σ, h1, h => by
    obtain ⟨i, hi⟩ := sG_dj hc (K := fun i v σ' => still σ' ps again ∧ sTree C (K i) t ps (putD e o.dst v) σ') (sG_mono' hm (fun v σ' ⟨h2, h⟩ => by
      obtain ⟨i, hi⟩ := sTree_dj hm hc (t := t) h1 h
      exact ⟨i, h2, hi⟩) (fun h => sTree_dj hm hc (t := t) h1 h) h.1)
    exact ⟨i, hi, trivial⟩
  | .loud o again t .leaf, ps, e, σ, h1, h => by cases h1
  | .loud o again t .bad, ps, e, σ, h1, h => by cases h1
  | .loud o again t (.quiet _ _ _), ps, e, σ, h1, h => by cases h1
  | .loud o again t (.loud _ _ _ _), ps, e, σ, h1, h => by cases h1
theorem sC_dj (hm : MonoC C) (hc : DisjC C) {n0 : Nat} : ∀ {m : SCode} {ι : Type} {Q : ι → MExit → Env → AHeap → Prop} {e : Env} {σ : AHeap}, oneS m = true → sC C n0 m (fun x e σ => ∃ i, Q i x e σ) e σ → ∃ i, sC C n0 m (Q i) e σ
  | .skip, ι, Q, e, σ, _, h => h
  | .region ops, ι, Q, e, σ, _, h => sOps_dj hm hc h
  | .draw t, ι, Q, e, σ, h1, h => sTree_dj hm hc h1 h
  | .seq a b, ι, Q, e, σ, h1, h => by
    simp only [oneS, Bool.and_eq_true] at h1
    refine sC_dj hm hc (m := a) (Q := fun i x e' σ' => match x with | .normal => sC C n0 b (Q i) e' σ' | x => Q i x e' σ') h1.1 (sC_mono hm (fun x e' σ' hx => ?_) h)
    cases x with
    | normal => exact sC_dj hm hc h1.2 hx
    | exit i => exact hx
    | ret => exact hx
  | .cond c a b, ι, Q, e, σ, h1, h => by
    simp only [oneS, Bool.and_eq_true] at h1
    unfold sC at h ⊢
    split at h
    · rename_i t ht
      cases t with
      | true =>
        obtain ⟨i, hi⟩ := sC_dj hm hc (m := a) (Q := Q) h1.1 h
        exact ⟨i, by first | exact hi | (rw [ht]; exact hi)⟩
      | false =>
        obtain ⟨i, hi⟩ := sC_dj hm hc (m := b) (Q := Q) h1.2 h
        exact ⟨i, by first | exact hi | (rw [ht]; exact hi)⟩
    · exact h.elim
  | .block id a, ι, Q, e, σ, h1, h => by
    refine sC_dj hm hc (m := a) (Q := fun i x e' σ' => match x with | .exit j => if j = id then Q i .normal e' σ' else Q i (.exit j) e' σ' | x => Q i x e' σ') h1 (sC_mono hm (fun x e' σ' hx => ?_) h)
    cases x with
    | normal => exact hx
    | exit j =>
      simp only at hx ⊢
      by_cases hj : j = id
      · simp only [if_pos hj] at hx ⊢; exact hx
      · simp only [if_neg hj] at hx ⊢; exact hx
    | ret => exact hx
  | .loop a, ι, Q, e, σ, h1, h => by
    obtain ⟨I, ⟨n, e1, σ1, hw, hI⟩, hs⟩ := h
    have key : ∀ n e σ, I n e σ → ∃ (i : ι) (J : Nat → Env → AHeap → Prop) (k : Nat), J k e σ ∧ ∀ n e σ, J n e σ → sC C n0 a (fun x e' σ' => match x with | .normal => ∃ m e1 σ1, m < n ∧ WkR n0 e' σ' e1 σ1 ∧ J m e1 σ1 | x => Q i x e' σ') e σ := by
      intro n
      induction n using Nat.strongRecOn with
      | ind n ih =>
        intro e σ hI
        have h2 := sC_dj hm hc (m := a) (ι := ι × (Nat → Env → AHeap → Prop) × Nat × Env × AHeap)
          (Q := fun p x e' σ' => match x with
            | .normal => WkR n0 e' σ' p.2.2.2.1 p.2.2.2.2 ∧ p.2.1 p.2.2.1 p.2.2.2.1 p.2.2.2.2 ∧ ∀ n e σ, p.2.1 n e σ → sC C n0 a (fun x e' σ' => match x with | .normal => ∃ m e1 σ1, m < n ∧ WkR n0 e' σ' e1 σ1 ∧ p.2.1 m e1 σ1 | x => Q p.1 x e' σ') e σ
            | x => Q p.1 x e' σ') h1 (sC_mono hm (fun x e' σ' hx => ?_) (hs n e σ hI))
        · obtain ⟨⟨i, J, k, e2, σ2⟩, hb⟩ := h2
          by_cases hJ : J k e2 σ2 ∧ ∀ n e σ, J n e σ → sC C n0 a (fun x e' σ' => match x with | .normal => ∃ m e1 σ1, m < n ∧ WkR n0 e' σ' e1 σ1 ∧ J m e1 σ1 | x => Q i x e' σ') e σ
          · refine ⟨i, fun m e0 σ0 => (m = k + 1 ∧ e0 = e ∧ σ0 = σ) ∨ (m ≤ k ∧ J m e0 σ0), k + 1, .inl ⟨rfl, rfl, rfl⟩, ?_⟩
            rintro m e0 σ0 (⟨rfl, rfl, rfl⟩ | ⟨hm', hJm⟩)
            · refine sC_mono hm (fun x e' σ' hx => ?_) hb
              cases x with
              | normal => exact ⟨k, e2, σ2, Nat.lt_succ_self _, hx.1, .inr ⟨Nat.le_refl _, hx.2.1⟩⟩
              | exit j => exact hx
              | ret => exact hx
            · refine sC_mono hm (fun x e' σ' hx => ?_) (hJ.2 m e0 σ0 hJm)
              cases x with
              | normal =>
                obtain ⟨m', e3, σ3, h3, h4, h5⟩ := hx
                exact ⟨m', e3, σ3, h3, h4, .inr ⟨by omega, h5⟩⟩
              | exit j => exact hx
              | ret => exact hx
          · refine ⟨i, fun m e0 σ0 => e0 = e ∧ σ0 = σ, 0, ⟨rfl, rfl⟩, ?_⟩
            rintro m e0 σ0 ⟨rfl, rfl⟩
            refine sC_mono hm (fun x e' σ' hx => ?_) hb
            cases x with
            | normal => exact absurd ⟨hx.2.1, hx.2.2⟩ hJ
            | exit j => exact hx
            | ret => exact hx
        · cases x with
          | normal =>
            obtain ⟨m, e2, σ2, h3, h4, h5⟩ := hx
            obtain ⟨i, J, k, h6, h7⟩ := ih m h3 e2 σ2 h5
            exact ⟨⟨i, J, k, e2, σ2⟩, h4, h6, h7⟩
          | exit j =>
            obtain ⟨i, hi⟩ := hx
            exact ⟨⟨i, fun _ _ _ => False, 0, e', σ'⟩, hi⟩
          | ret =>
            obtain ⟨i, hi⟩ := hx
            exact ⟨⟨i, fun _ _ _ => False, 0, e', σ'⟩, hi⟩
    obtain ⟨i, J, k, h3, h4⟩ := key n e1 σ1 hI
    exact ⟨i, J, ⟨k, e1, σ1, hw, h3⟩, h4⟩
  | .exit id, ι, Q, e, σ, _, h => h
  | .ret, ι, Q, e, σ, _, h => h
/-- One answer. -/
theorem Tri.one {P : Program} {f : FuncId} {mf : SFunc} {args : List AV} {σ : AHeap} {ι : Type} {Q : ι → AV → AHeap → Prop} (hf : sFn P f = some mf) (hs : Sound P C) (ho : OneC C) (h1 : oneS mf.body = true) (h : sF C mf args σ fun r σ' => ∃ i, Q i r σ') : ∃ i, Tri P f args σ (Q i) := by
  obtain ⟨hm, hc⟩ := ho
  obtain ⟨ha, hb⟩ := h
  obtain ⟨i, hi⟩ := sC_dj hm hc (Q := fun i => RetQ mf.results (Q i)) h1 (sC_mono hm (fun x e σ hx => by
    unfold RetQ at hx ⊢
    cases x with
    | exit j => exact hx.elim
    | normal => simp only at hx ⊢; split at hx <;> first | exact hx.elim | (rename_i vs hv; obtain ⟨i, hi⟩ := hx; exact ⟨i, by first | exact hi | (rw [hv]; exact hi)⟩)
    | ret => simp only at hx ⊢; split at hx <;> first | exact hx.elim | (rename_i vs hv; obtain ⟨i, hi⟩ := hx; exact ⟨i, by first | exact hi | (rw [hv]; exact hi)⟩)) hb)
  exact ⟨i, Tri.of_s hf hs ⟨ha, hi⟩⟩
end
end Go.Gz
