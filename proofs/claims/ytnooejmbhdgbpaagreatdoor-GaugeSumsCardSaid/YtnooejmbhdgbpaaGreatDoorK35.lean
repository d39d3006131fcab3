/- A slice whose capacity is not told may be taken with the one that it has; an answer may be told with less. No condition. -/
import Derived.Test.YtnooejmbhdgbpaaGreatDoorK34
set_option linter.unusedVariables false
set_option linter.unusedSimpArgs false
namespace Go.Gz
theorem Tri.ofCap {P : Program} {f : FuncId} {id off len esz : Nat} {rest : List AV} {σ : AHeap} {Q : AV → AHeap → Prop} (h : ∀ c, len ≤ c → Tri P f (.slice id off len (some c) esz :: rest) σ Q) : Tri P f (.slice id off len none esz :: rest) σ Q := by
  refine ⟨(h len (Nat.le_refl _)).1, fun ρ w G args' hw hargs => ?_⟩
  obtain ⟨v, hv⟩ : ∃ v, args'.toList[0]? = some v := by
    have := hargs.1
    cases hh : args'.toList with
    | nil => rw [hh] at this; simp at this
    | cons v vs => exact ⟨v, rfl⟩
  have h0 := hargs.2 0 _ v rfl hv
  have key : ∀ c, len ≤ c → VRel (ctx σ ρ w G) (.slice id off len (some c) esz) v → LRel (ctx σ ρ w G) (.slice id off len (some c) esz :: rest) args'.toList := by
    intro c _ hr
    refine ⟨by simpa using hargs.1, fun i x u hx hu => ?_⟩
    cases i with
    | zero => rw [hv] at hu; cases hu; simp at hx; subst hx; exact hr
    | succ n => exact hargs.2 (n + 1) x u (by simpa using hx) hu
  cases h0 with
  | slice _ _ _ _ _ b o c k1 k2 k3 k4 k5 => exact (h c k3).2 ρ w G _ hw (key c k3 (.slice _ _ _ _ _ b o c k1 k2 k3 (by intro k hk; cases hk; rfl) k5))
  | sliceNil _ _ _ _ a k1 k2 k3 k4 => exact (h 0 (Nat.le_refl _)).2 ρ w G _ hw (key 0 (Nat.le_refl _) (.sliceNil _ _ _ _ a k1 k2 (by intro k hk; cases hk; rfl) k4))
theorem Tri.tell {P : Program} {f : FuncId} {args : List AV} {σ : AHeap} {Q Q' : AV → AHeap → Prop} (h : Tri P f args σ Q) (hq : ∀ r σ', Q r σ' → ∃ r', (∀ (C : Ctx) v, VRel C r v → VRel C r' v) ∧ Q' r' σ') : Tri P f args σ Q' := by
  refine ⟨h.1, fun ρ w G args' hw ha => (h.2 ρ w G args' hw ha).mono ?_⟩
  rintro e w' ⟨v, ρ', r, σ', h1, h2, k1, k2, k3⟩
  obtain ⟨r', g1, g2⟩ := hq r σ' h2
  exact ⟨v, ρ', r', σ', h1, g2, k1, k2, g1 _ _ k3⟩
theorem uncap {C : Ctx} {id off len esz : Nat} {c : Option Nat} {v : Value} (h : VRel C (.slice id off len c esz) v) : VRel C (.slice id off len none esz) v := by
  cases h with
  | slice _ _ _ _ _ b o c k1 k2 k3 k4 k5 => exact .slice _ _ _ _ _ b o c k1 k2 k3 (by intro k hk; cases hk) k5
  | sliceNil _ _ _ _ a k1 k2 k3 k4 => exact .sliceNil _ _ _ _ a k1 k2 (by intro k hk; cases hk) k4
end Go.Gz
