/- TaleTexts: any events: their text, line by line; it is read as those that have one. Condition: none but the card's own. -/
import Derived.Test.YtbamlhgjpggihaaDoorTE
import Derived.Test.YtbamlhgjpggihaaDoorCards
import Derived.Test.YtbamlhgjpggihaaDoorTie
import Derived.SevenTiedAt
set_option linter.unusedVariables false
set_option linter.unusedSimpArgs false
namespace Go.Proofs.YtbamlhgjpggihaaDoor.tale
open Go.ChangeShapes Go.WideShapes Go.ChangeAt Go.RowKit Go.Gz Go.Gz.H
abbrev InpT := List Ev × Unit
def avsT (p : InpT) : List AV := [.imm (p.1.map Ev.cells) false false]
def oksT (p : InpT) : Prop := (p.1.length * Tryd.prog.bytesOf 27 ≤ reachBytes ∧ ∀ y ∈ p.1, EvIn y) ∧ True
theorem argsT : Args Tryd.prog Tryd.f3.params.toList avsT oksT := by
  have hp : Tryd.f3.params.toList = [22] := by kernel_rfl
  rw [hp]
  exact .cons argEvs .nil
theorem comesT (y : InpT) (h : oksT y) : Tri Tryd.prog 3 (avsT y) [] Yes := tt_ok y.1 (len_in h.1.1) h.1.2
set_option maxRecDepth 100000 in
theorem liftedT (os : Os) (started : os.Started) (H : Type) (enc : TypeId × Value → H) :
    ReturnsInHanded {} Tryd.checked os 3 .any (fun w args => (Rows.taleTextsSpec.pre enc Tryd.prog Tryd.f3 [] false w args ∧ laidMetH Tryd.prog laidL w) ∧ sizedMet enc Tryd.prog Tryd.f3 (OpenSpec.ofChange Rows.taleTextsSpec) false w args)
      (Rows.taleTextsSpec.post enc Tryd.prog Tryd.f3 false true false false) := by
  refine returns_shaped_and (C := Tryd.checked) (X := fun w _ => laidMetH Tryd.prog laidL w) (fun _ _ _ hh h => h.of_heap hh) own started (by kernel_rfl) Tryd.func3
    (ChangeSpec.witness_shaped (enc := enc) (C := Tryd.checked) (os := os) (X := fun w _ => laidMetH Tryd.prog laidL w) false (wit os) #[.slice none 0 0] 8 rfl (wit_shaped os _) (by kernel_rfl) (by kernel_rfl) (by kernel_rfl) (wit_met os _)) ?_
  intro W base args0 ds gs before hval hW hz hL hsh
  have hp : Tryd.f3.params.toList = [22] := by kernel_rfl
  refine calls_post (avs := avsT) (oks := oksT) laidOut ?_ (by kernel_rfl) (tb := 4) (by kernel_rfl) rfl ?_ argsT comesT hval hW hz (laid_of hL hsh)
  · rw [hp]; intro t ht
    have h3 : ([22].all fun t => Tryd.prog.readableRec t && Nat.blt t Tryd.prog.types.size) = true := by kernel_rfl
    have := List.all_eq_true.1 h3 t ht
    rw [Bool.and_eq_true, Nat.blt_eq] at this
    exact this
  · intro ds h
    rw [hp] at h
    match ds, h with
    | [_], _ => rfl
theorem rowT : Rows.TaleTextsSaid :=
  OpenClaim.holds_of_wide 3 Tryd.f3 rfl rfl rfl rfl rfl rfl rfl ⟨rfl, rfl, rfl, rfl, rfl⟩ rfl rfl rfl rfl rfl (by kernel_rfl) Tryd.func3 (by kernel_rfl)
    (of_decide_eq_true (by kernel_rfl)) (by unfold Func.isWrapper; first | (rw [if_pos (by decide +kernel)]; kernel_rfl) | (rw [if_neg (by decide +kernel)]; exact ⟨rfl, rfl⟩))
    (fun os started H enc _ => liftedT os started H enc)
end Go.Proofs.YtbamlhgjpggihaaDoor.tale
namespace Go.Proofs.YtbamlhgjpggihaaDoor
open Go
theorem taleTexts_holds : Rows.TaleTextsCardSaid :=
  Claim7.holds_tied_plain_at .later [] [.data, .data, .data, .data, .sentinel, .sentinel, .pinned] true (true, "cc9511e120e8d383a951d071bfd489a3ec0a5b8930d357b60bea8a924ba140f7") true
    tale.rowT (fun _ h => by cases h) (by kernel_rfl) (fun _ h => by cases h) taleTexts_row_tie rfl ⟨rfl, rfl⟩ (by kernel_rfl) rfl
    (fun f fn hf hfn => by
      obtain rfl : f = 3 := Option.some.inj ((show Tryd.prog.funcNamed "gazetteer/gazetteerlaw24.TaleTexts" = some 3 by kernel_rfl).symm.trans hf) |>.symm
      obtain rfl : fn = Tryd.f3 := (Option.some.inj (Tryd.func3.symm.trans hfn)).symm
      exact ⟨by kernel_rfl, fun j t ht => by
        have hm : t ∈ Tryd.f3.params.toList := by simpa using Array.mem_of_getElem? ht
        have hp : Tryd.f3.params.toList = [22] := by kernel_rfl
        rw [hp] at hm
        have hall : ([22].all fun u => !Tryd.prog.wantsStandIn u) = true := by kernel_rfl
        exact (show Tryd.prog.wantsStandIn t = false by simpa using List.all_eq_true.1 hall t hm)⟩)
    (by kernel_rfl)
end Go.Proofs.YtbamlhgjpggihaaDoor
