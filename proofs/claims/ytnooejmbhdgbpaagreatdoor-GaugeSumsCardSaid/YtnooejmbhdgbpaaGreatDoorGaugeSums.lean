/- GaugeSums: groups of any items by any keys have all items together; grouped by themselves each group is of one sort. Condition: none but the card's own. -/
import Derived.Test.YtnooejmbhdgbpaaGreatDoorGSum
import Derived.Test.YtnooejmbhdgbpaaGreatDoorGW
import Derived.Test.YtnooejmbhdgbpaaGreatDoorCards
import Derived.Test.YtnooejmbhdgbpaaGreatDoorTie
import Derived.SevenTiedAt
set_option linter.unusedVariables false
set_option linter.unusedSimpArgs false
namespace Go.Proofs.YtnooejmbhdgbpaaGreatDoor.gauge
open Go.ChangeShapes Go.WideShapes Go.ChangeAt Go.RowKit Go.Gz
abbrev InpQ := List Txt × Unit
def avsQ (p : InpQ) : List AV := [.imm (rowsT p.1) false false]
def oksQ (p : InpQ) : Prop := (p.1.length * Tryz.prog.bytesOf 9 ≤ reachBytes ∧ ∀ y ∈ p.1, y.length ≤ 140737488351232) ∧ True
theorem argsQ : Args Tryz.prog Tryz.f4.params.toList avsQ oksQ := by
  have hp : Tryz.f4.params.toList = [30] := by kernel_rfl
  rw [hp]
  exact .cons (arg_slice (P := Tryz.prog) (t := 30) (e := 9) (by kernel_rfl) (by decide +kernel) (rd_str (by kernel_rfl))) .nil
theorem comesQ (y : InpQ) (h : oksQ y) : Tri Tryz.prog 4 (avsQ y) [] Yes := sums_ok y.1
set_option maxRecDepth 100000 in
theorem liftedQ (os : Os) (started : os.Started) (H : Type) (enc : TypeId × Value → H) :
    ReturnsInHanded {} Tryz.checked os 4 .any (fun w args => (Rows.gaugeSumsSpec.pre enc Tryz.prog Tryz.f4 [] false w args ∧ laidMetH Tryz.prog laidL w) ∧ sizedMet enc Tryz.prog Tryz.f4 (OpenSpec.ofChange Rows.gaugeSumsSpec) false w args)
      (Rows.gaugeSumsSpec.post enc Tryz.prog Tryz.f4 false true false false) := by
  refine returns_shaped_and (C := Tryz.checked) (X := fun w _ => laidMetH Tryz.prog laidL w) (fun _ _ _ hh h => h.of_heap hh) own started (by kernel_rfl) Tryz.func4
    (ChangeSpec.witness_shaped (enc := enc) (C := Tryz.checked) (os := os) (X := fun w _ => laidMetH Tryz.prog laidL w) false (wit os) #[.slice none 0 0] 8 rfl (wit_shaped os _) (by kernel_rfl) (by kernel_rfl) (by kernel_rfl) (wit_met os _)) ?_
  intro W base args0 ds gs before hval hW hz hL hsh
  have hp : Tryz.f4.params.toList = [30] := by kernel_rfl
  refine calls_post (avs := avsQ) (oks := oksQ) laidOut ?_ (by kernel_rfl) (tb := 4) (by kernel_rfl) rfl ?_ argsQ comesQ hval hW hz ⟨trivial⟩
  · rw [hp]; intro t ht
    have h3 : ([30].all fun t => Tryz.prog.readableRec t && Nat.blt t Tryz.prog.types.size) = true := by kernel_rfl
    have := List.all_eq_true.1 h3 t ht
    rw [Bool.and_eq_true, Nat.blt_eq] at this
    exact this
  · intro ds h
    rw [hp] at h
    match ds, h with
    | [_], _ => rfl
theorem rowQ4 : Rows.GaugeSumsSaid :=
  OpenClaim.holds_of_wide 4 Tryz.f4 rfl rfl rfl rfl rfl rfl rfl ⟨rfl, rfl, rfl, rfl, rfl⟩ rfl rfl rfl rfl rfl (by kernel_rfl) Tryz.func4 (by kernel_rfl)
    (of_decide_eq_true (by kernel_rfl)) (by unfold Func.isWrapper; first | (rw [if_pos (by decide +kernel)]; kernel_rfl) | (rw [if_neg (by decide +kernel)]; exact ⟨rfl, rfl⟩))
    (fun os started H enc _ => liftedQ os started H enc)
end Go.Proofs.YtnooejmbhdgbpaaGreatDoor.gauge
namespace Go.Proofs.YtnooejmbhdgbpaaGreatDoor
open Go
theorem gaugeSums_holds : Rows.GaugeSumsCardSaid :=
  Claim7.holds_tied_plain_at .later [] [.data, .pinned] true (true, "b11f6e01221e0b7fe73063e6ac33a0e32e278b4e12e94e6ead460126d278ff0c") false
    gauge.rowQ4 (fun _ h => by cases h) (by kernel_rfl) (fun _ h => by cases h) gaugeSums_row_tie rfl ⟨rfl, rfl⟩ (by kernel_rfl) rfl
    (fun f fn hf hfn => by
      obtain rfl : f = 4 := Option.some.inj ((show Tryz.prog.funcNamed "gazetteer/gazetteerlaw25.GaugeSums" = some 4 by kernel_rfl).symm.trans hf) |>.symm
      obtain rfl : fn = Tryz.f4 := (Option.some.inj (Tryz.func4.symm.trans hfn)).symm
      exact ⟨by kernel_rfl, fun j t ht => by
        have hm : t ∈ Tryz.f4.params.toList := by simpa using Array.mem_of_getElem? ht
        have hp : Tryz.f4.params.toList = [30] := by kernel_rfl
        rw [hp] at hm
        have hall : ([30].all fun u => !Tryz.prog.wantsStandIn u) = true := by kernel_rfl
        exact (show Tryz.prog.wantsStandIn t = false by simpa using List.all_eq_true.1 hall t hm)⟩)
    (by kernel_rfl)
end Go.Proofs.YtnooejmbhdgbpaaGreatDoor
