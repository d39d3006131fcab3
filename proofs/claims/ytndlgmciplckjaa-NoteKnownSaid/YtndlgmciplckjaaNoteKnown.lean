/- The law gazetteerlaw16.NoteKnown, which takes no argument, returns true: by a run of an abstract machine that the kernel does (K1 to K30 show that such a run is one of the program's, in any heap and by any order of evaluation). No condition. -/
import Derived.Test.YtndlgmciplckjaaRows
import Derived.Test.YtndlgmciplckjaaK22
import Derived.Test.YtndlgmciplckjaaK30
namespace Go.Proofs.Ytndlgmciplckjaa.noteKnown
open Go.ChangeShapes Go.WideShapes Go.ChangeAt Go.RowKit Go.Gz
set_option linter.unusedVariables false
theorem own : ownKnob Try.prog.godebug = none := by kernel_rfl
theorem laidOut : laidOutB Try.prog = true := by kernel_rfl
noncomputable def yesZ (v : AV) : Bool := AV.rec (motive_1 := fun _ => Bool) (motive_2 := fun _ => Unit) (motive_3 := fun _ => Unit) (fun b => b) (fun _ _ => false) (fun _ => false) false (fun _ _ => false) (fun _ _ => false) false (fun _ _ _ _ _ => false) (fun _ _ _ _ => false) (fun _ _ _ => false) false (fun _ _ => false) (fun _ _ => false) false () (fun _ _ _ _ => ()) () (fun _ _ _ _ => ()) v
theorem yesZ_ok {v : AV} {σ : AHeap} (h : yesZ v = true) : Yes v σ := by
  cases v <;> first | (cases h; done) | (have h : _ = true := h; subst h; rfl)
theorem run : @Bool.rec (fun _ => Bool) false true ((zF (cFn Try.prog) 100 50 4).r [] TH.new (fun v _ => yesZ v)) = true := by kernel_rfl
theorem ran : Tri Try.prog 4 [] [] (fun r _ => yesZ r = true) := @Tri.runZ Try.prog 4 [] 100 50 yesZ run
theorem comes (y : Unit) (_ : True) : Tri Try.prog 4 [] [] Yes := Tri.mono ran (fun r σ h => yesZ_ok (v := r) (σ := σ) h)
set_option maxRecDepth 100000 in
theorem lifted (os : Os) (started : os.Started) (H : Type) (enc : TypeId × Value → H) :
    ReturnsInHanded {} Try.checked os 4 .any (Rows.noteKnownSpec.pre6 enc Try.prog Try.f4 Rows.noteKnownRow.domain false) (Rows.noteKnownSpec.post enc Try.prog Try.f4 false true false false) := by
  refine returnsInHanded_of_change_sized (C := Try.checked) own started (by kernel_rfl) Try.func4
    (ChangeSpec.witness6 (enc := enc) (C := Try.checked) false ⟨#[], #[], []⟩ 8 (by kernel_rfl) (by kernel_rfl) (by kernel_rfl) (by kernel_rfl)) ?_
  intro W base args0 ds gs before hval hW _ hz _
  refine calls_post (avs := fun _ : Unit => []) (oks := fun _ => True) laidOut ?_ (by kernel_rfl) (tb := 4) (by kernel_rfl) rfl ?_ ?_ comes hval hW hz
  · have : Try.f4.params.toList = [] := by kernel_rfl
    rw [this]; intro t ht; cases ht
  · intro ds h
    have : Try.f4.params.toList = [] := by kernel_rfl
    rw [this] at h
    cases ds with
    | nil => rfl
    | cons => cases h
  · have : Try.f4.params.toList = [] := by kernel_rfl
    rw [this]; exact .nil
end Go.Proofs.Ytndlgmciplckjaa.noteKnown
namespace Go.Proofs.Ytndlgmciplckjaa
open Go.ChangeShapes Go.WideShapes Go.ChangeAt Go.RowKit
theorem noteKnown_holds : Rows.NoteKnownSaid :=
  OpenClaim.holds_of_wide 4 Try.f4 rfl rfl rfl rfl rfl rfl rfl ⟨rfl, rfl, rfl, rfl, rfl⟩ rfl rfl rfl rfl rfl (by kernel_rfl) Try.func4 (by kernel_rfl)
    (of_decide_eq_true (by kernel_rfl)) (by unfold Func.isWrapper; first | (rw [if_pos (by decide +kernel)]; kernel_rfl) | (rw [if_neg (by decide +kernel)]; exact ⟨rfl, rfl⟩))
    (fun os started H enc _ => noteKnown.lifted os started H enc)
end Go.Proofs.Ytndlgmciplckjaa
