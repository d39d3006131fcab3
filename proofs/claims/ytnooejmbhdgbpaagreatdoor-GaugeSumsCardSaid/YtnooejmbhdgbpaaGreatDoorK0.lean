/- What the package variables of this seat hold: nothing is asked of them. -/
import Derived.Calls
set_option linter.unusedVariables false
namespace Go.Gz

/-- The variables that the library's functions read. -/
structure Laid (w : World) : Prop where
  ok : True

theorem Laid.keeps {w w' : World} (h : Laid w) (hb : ∀ b, b < w.heap.size → w'.heap[b]? = w.heap[b]?) : Laid w' := ⟨trivial⟩

end Go.Gz
