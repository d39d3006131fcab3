/- The keepers' first sentence, run by the kernel. No condition. -/
import Derived.Test.YtgaopohogdinhaaGreatDoorKpC
set_option linter.unusedVariables false
set_option linter.unusedSimpArgs false
namespace Go.Proofs.YtgaopohogdinhaaGreatDoor.keep
open Go.ChangeShapes Go.WideShapes Go.ChangeAt Go.RowKit Go.Gz Go.Proofs.YtgaopohogdinhaaGreatDoor.note
set_option maxHeartbeats 4000000
set_option maxRecDepth 10000
theorem awake_run : @Bool.rec (fun _ => Bool) false true ((zF (cFn Tryz.prog) 100 30 5).r [] TH.new (fun v _ => yesZ v)) = true := by kernel_rfl
theorem awake_ok : Tri Tryz.prog 5 [] [] fun r _ => r.pure = true ∧ r = .bool true :=
  (@Tri.runZ Tryz.prog 5 [] 100 30 yesZ awake_run).mono fun r σ h => by have := yesZ_ok h; subst this; exact ⟨rfl, rfl⟩
def awakeD (args : List AV) (σ : AHeap) (K : AV → AHeap → Prop) : Prop := args = [] ∧ K (.bool true) σ
theorem awakeD_ok (args : List AV) (σ : AHeap) (K : AV → AHeap → Prop) (h : awakeD args σ K) : Tri Tryz.prog 5 args σ K := by
  obtain ⟨rfl, h⟩ := h
  exact (Tri.pureD rfl awake_ok σ).mono fun x σ' hr => by rw [hr.1, hr.2]; exact h
theorem awakeD_eq {σ : AHeap} {K : AV → AHeap → Prop} : awakeD [] σ K = K (.bool true) σ := by
  apply propext; exact ⟨fun h => h.2, fun h => ⟨rfl, h⟩⟩
end Go.Proofs.YtgaopohogdinhaaGreatDoor.keep
