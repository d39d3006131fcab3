/- KeeperQuiet: notes that are for another one, or that may not be, change nothing, and are answered by nothing. Condition: none but the card's own. -/
import Derived.Test.YtgaopohogdinhaaGreatDoorKpQ
import Derived.Test.YtgaopohogdinhaaGreatDoorNRd
import Derived.Test.YtgaopohogdinhaaGreatDoorKpW
import Derived.Test.YtgaopohogdinhaaGreatDoorCards
import Derived.Test.YtgaopohogdinhaaGreatDoorTie
import Derived.SevenTiedAt
set_option linter.unusedVariables false
set_option linter.unusedSimpArgs false
namespace Go.Proofs.YtgaopohogdinhaaGreatDoor.keep
open Go.ChangeShapes Go.WideShapes Go.ChangeAt Go.RowKit Go.Gz Go.Proofs.YtgaopohogdinhaaGreatDoor.note
abbrev InpQ := List RowV × Unit
def avsQ (p : InpQ) : List AV := [.imm (p.1.map RowV.cells) false false]
def oksQ (p : InpQ) : Prop := (p.1.length * Tryz.prog.bytesOf 64 ≤ reachBytes ∧ ∀ y ∈ p.1, y.okS) ∧ True
theorem argsQ : Args Tryz.prog Tryz.f4.params.toList avsQ oksQ := by
  have hp : Tryz.f4.params.toList = [60] := by kernel_rfl
  rw [hp]
  exact .cons (arg_slice (P := Tryz.prog) (t := 60) (e := 64) (by kernel_rfl) (by decide +kernel) rdRow) .nil
theorem comesQ (y : InpQ) (h : oksQ y) : Tri Tryz.prog 4 (avsQ y) [] Yes := kquiet_ok y.1 h.1.2
set_option maxRecDepth 100000 in
theorem liftedQ (os : Os) (started : os.Started) (H : Type) (enc : TypeId × Value → H) :
    ReturnsInHanded {} Tryz.checked os 4 .any (fun w args => (Rows.keeperQuietSpec.pre enc Tryz.prog Tryz.f4 [] false w args ∧ laidMetH Tryz.prog laidL w) ∧ sizedMet enc Tryz.prog Tryz.f4 (OpenSpec.ofChange Rows.keeperQuietSpec) false w args)
      (Rows.keeperQuietSpec.post enc Tryz.prog Tryz.f4 false true false false) := by
  refine returns_shaped_and (C := Tryz.checked) (X := fun w _ => laidMetH Tryz.prog laidL w) (fun _ _ _ hh h => h.of_heap hh) own started (by kernel_rfl) Tryz.func4
    (ChangeSpec.witness_shaped (enc := enc) (C := Tryz.checked) (os := os) (X := fun w _ => laidMetH Tryz.prog laidL w) false (wit os) #[.slice none 0 0] 8 rfl (wit_shaped os _) (by kernel_rfl) (by kernel_rfl) (by kernel_rfl) (wit_met os _)) ?_
  intro W base args0 ds gs before hval hW hz hL hsh
  have hp : Tryz.f4.params.toList = [60] := by kernel_rfl
  refine calls_post (avs := avsQ) (oks := oksQ) laidOut ?_ (by kernel_rfl) (tb := 4) (by kernel_rfl) rfl ?_ argsQ comesQ hval hW hz
  · rw [hp]; intro t ht
    have h3 : ([60].all fun t => Tryz.prog.readableRec t && Nat.blt t Tryz.prog.types.size) = true := by kernel_rfl
    have := List.all_eq_true.1 h3 t ht
    rw [Bool.and_eq_true, Nat.blt_eq] at this
    exact this
  · intro ds h
    rw [hp] at h
    match ds, h with
    | [_], _ => rfl
theorem rowQ4 : Rows.KeeperQuietSaid :=
  OpenClaim.holds_of_wide 4 Tryz.f4 rfl rfl rfl rfl rfl rfl rfl ⟨rfl, rfl, rfl, rfl, rfl⟩ rfl rfl rfl rfl rfl (by kernel_rfl) Tryz.func4 (by kernel_rfl)
    (of_decide_eq_true (by kernel_rfl)) (by unfold Func.isWrapper; first | (rw [if_pos (by decide +kernel)]; kernel_rfl) | (rw [if_neg (by decide +kernel)]; exact ⟨rfl, rfl⟩))
    (fun os started H enc _ => liftedQ os started H enc)
end Go.Proofs.YtgaopohogdinhaaGreatDoor.keep
namespace Go.Proofs.YtgaopohogdinhaaGreatDoor
open Go
theorem keeperQuiet_holds : Rows.KeeperQuietCardSaid :=
  Claim7.holds_tied_plain_at .later [] [.data, .pinned] true (true, "70cf8522c0e21461407f4efb4af6705df801419077760b847706c87ecf4986a5") false
    keep.rowQ4 (fun _ h => by cases h) (by kernel_rfl) (fun _ h => by cases h) keeperQuiet_row_tie rfl ⟨rfl, rfl⟩ (by kernel_rfl) rfl
    (fun f fn hf hfn => by
      obtain rfl : f = 4 := Option.some.inj ((show Tryz.prog.funcNamed "gazetteer/gazetteerlaw18.KeeperQuiet" = some 4 by kernel_rfl).symm.trans hf) |>.symm
      obtain rfl : fn = Tryz.f4 := (Option.some.inj (Tryz.func4.symm.trans hfn)).symm
      exact ⟨by kernel_rfl, fun j t ht => by
        have hm : t ∈ Tryz.f4.params.toList := by simpa using Array.mem_of_getElem? ht
        have hp : Tryz.f4.params.toList = [60] := by kernel_rfl
        rw [hp] at hm
        have hall : ([60].all fun u => !Tryz.prog.wantsStandIn u) = true := by kernel_rfl
        exact (show Tryz.prog.wantsStandIn t = false by simpa using List.all_eq_true.1 hall t hm)⟩)
    (by kernel_rfl)
end Go.Proofs.YtgaopohogdinhaaGreatDoor
