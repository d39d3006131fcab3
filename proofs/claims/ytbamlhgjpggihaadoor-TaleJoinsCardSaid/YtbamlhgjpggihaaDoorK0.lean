/- What the package variables of this seat hold: facts that stay as long as their blocks do. -/
import Derived.Test.YtbamlhgjpggihaaDoorProg
import Derived.Lib.LaidTab
set_option linter.unusedVariables false
namespace Go.Gz

/-- The variables that the library's functions read. -/
structure Laid (w : World) : Prop where
  maxLen : ∃ m : Int, w.cell? ⟨0, 0, none⟩ = some (.int .i64 m)
  tab : Go.Lib.TabIs Go.Proofs.Tryd.prog w "internal/strconv.uint64pow10" .u64 ((List.range 20).map fun i => ((10 ^ i : Nat) : Int))
  err : ∃ (t : TypeId) (p : Value), w.var? Go.Proofs.Tryd.prog "strconv.ErrSyntax" = some #[.iface t p]

theorem Laid.keeps {w w' : World} (h : Laid w) (hb : ∀ b, b < w.heap.size → w'.heap[b]? = w.heap[b]?) : Laid w' := by
  have hv : ∀ name cs, w.var? Go.Proofs.Tryd.prog name = some cs → w'.var? Go.Proofs.Tryd.prog name = some cs := by
    intro name cs hc
    unfold World.var? at hc ⊢
    cases hg : Go.Proofs.Tryd.prog.globalNamed name with
    | none => rw [hg] at hc; simp at hc
    | some g =>
      rw [hg] at hc
      simp only [Option.bind_some] at hc ⊢
      have hlt : g < w.heap.size := by
        rcases Nat.lt_or_ge g w.heap.size with h' | h'
        · exact h'
        · rw [Array.getElem?_eq_none h'] at hc; simp at hc
      rw [hb g hlt]; exact hc
  refine ⟨?_, hv _ _ h.tab, ?_⟩
  · obtain ⟨m, hm⟩ := h.maxLen
    refine ⟨m, ?_⟩
    have hlt : 0 < w.heap.size := by
      rcases Nat.lt_or_ge 0 w.heap.size with h' | h'
      · exact h'
      · unfold World.cell? at hm; rw [Array.getElem?_eq_none h'] at hm; simp at hm
    unfold World.cell? at hm ⊢
    rw [hb 0 hlt]; exact hm
  · obtain ⟨t, p, he⟩ := h.err
    exact ⟨t, p, hv _ _ he⟩

end Go.Gz
