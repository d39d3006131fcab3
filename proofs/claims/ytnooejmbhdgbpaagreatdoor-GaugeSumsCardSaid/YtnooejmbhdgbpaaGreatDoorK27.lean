/- A call that is handed functions that hold nothing. -/
import Derived.Test.YtnooejmbhdgbpaaGreatDoorK26
set_option linter.unusedVariables false
set_option linter.unusedSimpArgs false
namespace Go.Gz
/-- A function that holds nothing. -/
def AV.bare : AV → Prop
  | .func _ cs => cs = []
  | _ => False
theorem bare_rel {C C' : Ctx} {x : AV} {v : Value} (hx : x.bare) (h : VRel C x v) : VRel C' x v := by
  cases x with
  | func f cs =>
    have hc : cs = [] := hx
    subst hc
    cases h with
    | func _ _ bs h1 h2 =>
      refine .func _ _ bs h1 fun i y u hy hu => ?_
      simp at hy
  | _ => exact absurd hx (by intro h; exact h)
/-- As pureF; it may be handed functions that hold nothing. -/
theorem Tri.pureG {P : Program} {f : FuncId} {args : List AV} {Q : AV → Prop} (ha : ∀ x ∈ args, x.cleanD ∨ x.bare) (h : Tri P f args [] fun r _ => r.cleanD ∧ Q r) (σ : AHeap) : Tri P f args σ fun r σ' => Q r ∧ σ' = σ := by
  refine ⟨h.1, fun ρ w G args' hw hargs => ?_⟩
  have hw0 : WRel [] ρ w (fun b => owned σ ρ b ∨ G b) := ⟨fun id c h => by simp at h, fun id c h => by simp at h, fun id id' c c' h => by simp at h, fun id c h => by simp at h, fun b hb => hb.elim (owned_lt hw) (hw.gsz b), hw.glob.framed⟩
  have hm1 : ∀ b, b < (ctx σ ρ w G).w.heap.size → ¬ (ctx σ ρ w G).O b → ¬ (ctx [] ρ w (fun b => owned σ ρ b ∨ G b)).O b ∧ (ctx [] ρ w (fun b => owned σ ρ b ∨ G b)).w.heap[b]? = (ctx σ ρ w G).w.heap[b]? := by
    intro b _ hb
    refine ⟨?_, rfl⟩
    rintro (⟨id, c, h, _⟩ | h)
    · simp at h
    · exact hb h
  refine (h.2 ρ w _ args' hw0 ⟨hargs.1, fun i x v hx hv => (ha x (List.mem_of_getElem? hx)).elim (fun hc => cleanD_rel hm1 hc (hargs.2 i x v hx hv)) (fun hb => bare_rel hb (hargs.2 i x v hx hv))⟩).mono ?_
  rintro e w' ⟨v, ρ', r, σ', h1, ⟨hr, hq⟩, k, k2, k3⟩
  have hk : Keeps σ ρ w σ ρ w' := ⟨k.os, k.tape, k.output, k.size, fun b hb _ => k.frame b hb (by rintro ⟨id, c, h, _⟩; simp at h), fun b hb => .inl hb, Nat.le_refl _, fun _ _ => rfl⟩
  refine ⟨v, ρ, r, σ, h1, ⟨hq, rfl⟩, hk, ⟨fun id cells hi hn => ?_, fun id cells hi hn => (hw.nil id cells hi hn).of (fun x v hx => hx.keeps hw hk) (fun he => k.frame _ (owned_lt hw ⟨id, cells, hi, .inr he, rfl⟩) (by rintro ⟨id, c, h, _⟩; simp at h)), hw.excl, hw.sep, fun b hb => Nat.lt_of_lt_of_le (hw.gsz b hb) k.size, hw.glob.keeps hk⟩, cleanD_rel (C := ctx σ' ρ' w' (fun b => owned σ ρ b ∨ G b)) (C' := ctx σ ρ w' G) (fun b _ hb => ⟨fun h => hb (Or.inr h), rfl⟩) hr k3⟩
  exact (hw.blk id cells hi hn).of (fun x v hx => hx.keeps hw hk) (k.frame _ (owned_lt hw ⟨id, cells, hi, .inl hn, rfl⟩) (by rintro ⟨id, c, h, _⟩; simp at h))
end Go.Gz
