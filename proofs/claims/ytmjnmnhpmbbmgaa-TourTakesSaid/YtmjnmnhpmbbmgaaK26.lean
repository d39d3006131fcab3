/- What a call does in an empty heap it does in any; tables of calls; loops. -/
import Derived.Test.YtmjnmnhpmbbmgaaK25
set_option linter.unusedVariables false
set_option linter.unusedSimpArgs false
namespace Go.Gz
theorem flat_rel {C C' : Ctx} {x : AV} {v : Value} (hx : x.flat = true) (h : VRel C x v) : VRel C' x v := by
  cases x <;> simp [AV.flat] at hx <;> cases h <;> constructor
theorem owned_lt {σ : AHeap} {ρ : Nat → Place} {w : World} {G : Nat → Prop} (hw : WRel σ ρ w G) {b : Nat} (h : owned σ ρ b) : b < w.heap.size := by
  obtain ⟨id, c, h1, h2, rfl⟩ := h
  obtain ⟨c', t, fr, k1, _⟩ := hw.blk id c h1 h2
  exact (Array.getElem?_eq_some_iff.1 k1).1
/-- A call whose arguments and whose answer name no place: the heap is as it was. -/
theorem Tri.frame {P : Program} {f : FuncId} {args : List AV} {Q : AV → Prop} (ha : flatL args) (h : Tri P f args [] fun r _ => r.flat = true ∧ Q r) (σ : AHeap) : Tri P f args σ fun r σ' => Q r ∧ σ' = σ := by
  refine ⟨h.1, fun ρ w G args' hw hargs => ?_⟩
  have hw0 : WRel [] ρ w (fun b => owned σ ρ b ∨ G b) := ⟨fun id c h => by simp at h, fun id c h => by simp at h, fun id id' c c' h => by simp at h, fun id c h => by simp at h, fun b hb => hb.elim (owned_lt hw) (hw.gsz b)⟩
  refine (h.2 ρ w _ args' hw0 ⟨hargs.1, fun i x v hx hv => flat_rel (ha x (List.mem_of_getElem? hx)) (hargs.2 i x v hx hv)⟩).mono ?_
  rintro e w' ⟨v, ρ', r, σ', h1, ⟨hr, hq⟩, k, k2, k3⟩
  have hk : Keeps σ ρ w σ ρ w' := ⟨k.os, k.tape, k.output, k.size, fun b hb _ => k.frame b hb (by rintro ⟨id, c, h, _⟩; simp at h), fun b hb => .inl hb, Nat.le_refl _, fun _ _ => rfl⟩
  refine ⟨v, ρ, r, σ, h1, ⟨hq, rfl⟩, hk, ⟨fun id cells hi hn => ?_, hw.nil, hw.excl, hw.sep, fun b hb => Nat.lt_of_lt_of_le (hw.gsz b hb) k.size⟩, flat_rel hr k3⟩
  exact (hw.blk id cells hi hn).of (fun x v hx => hx.keeps hw hk) (k.frame _ (owned_lt hw ⟨id, cells, hi, hn, rfl⟩) (by rintro ⟨id, c, h, _⟩; simp at h))
/-- Of a call nothing but what the table's other rows say. -/
def noCall : PCall := fun _ _ _ _ => False
theorem noCall_sound (P : Program) : Sound P noCall := fun _ _ _ _ h => h.elim
theorem noCall_mono : MonoC noCall := fun _ _ _ _ _ _ h => h
/-- A row of a table: a function that is done where it is called. -/
def rowF (f : FuncId) (C0 : PCall) (mf : SFunc) (C : PCall) : PCall := fun g args σ K => if g = f then sF C0 mf args σ K else C g args σ K
def rowQ (f : FuncId) (D : List AV → AHeap → (AV → AHeap → Prop) → Prop) (C : PCall) : PCall := fun g args σ K => if g = f then D args σ K else C g args σ K
theorem rowF_sound {P : Program} {f : FuncId} {C0 C : PCall} {mf : SFunc} (hf : sFn P f = some mf) (h0 : Sound P C0) (hc : Sound P C) : Sound P (rowF f C0 mf C) := by
  intro g args σ K h
  unfold rowF at h
  split at h
  · rename_i hg; subst hg; exact Tri.of_s hf h0 h
  · exact hc _ _ _ _ h
theorem rowQ_sound {P : Program} {f : FuncId} {C : PCall} {D : List AV → AHeap → (AV → AHeap → Prop) → Prop} (hd : ∀ args σ K, D args σ K → Tri P f args σ K) (hc : Sound P C) : Sound P (rowQ f D C) := by
  intro g args σ K h
  unfold rowQ at h
  split at h
  · rename_i hg; subst hg; exact hd _ _ _ h
  · exact hc _ _ _ _ h
theorem rowF_mono {f : FuncId} {C0 C : PCall} {mf : SFunc} (h0 : MonoC C0) (hc : MonoC C) : MonoC (rowF f C0 mf C) := by
  intro g args σ K K' hk h
  unfold rowF at h ⊢
  split at h
  · rename_i hg; rw [if_pos hg]; exact sF_mono h0 hk h
  · rename_i hg; rw [if_neg hg]; exact hc _ _ _ _ _ hk h
theorem rowQ_mono {f : FuncId} {C : PCall} {D : List AV → AHeap → (AV → AHeap → Prop) → Prop} (hd : ∀ args σ (K K' : AV → AHeap → Prop), (∀ v σ, K v σ → K' v σ) → D args σ K → D args σ K') (hc : MonoC C) : MonoC (rowQ f D C) := by
  intro g args σ K K' hk h
  unfold rowQ at h ⊢
  split at h
  · rename_i hg; rw [if_pos hg]; exact hd _ _ _ _ hk h
  · rename_i hg; rw [if_neg hg]; exact hc _ _ _ _ _ hk h
theorem rowF_eq {f g : FuncId} {C0 C : PCall} {mf : SFunc} {args : List AV} {σ : AHeap} {K : AV → AHeap → Prop} : rowF f C0 mf C g args σ K = if g = f then sF C0 mf args σ K else C g args σ K := _root_.id rfl
theorem rowQ_eq {f g : FuncId} {D : List AV → AHeap → (AV → AHeap → Prop) → Prop} {C : PCall} {args : List AV} {σ : AHeap} {K : AV → AHeap → Prop} : rowQ f D C g args σ K = if g = f then D args σ K else C g args σ K := _root_.id rfl
end Go.Gz
