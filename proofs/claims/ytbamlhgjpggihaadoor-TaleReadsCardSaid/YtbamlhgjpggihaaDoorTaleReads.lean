/- TaleReads: any text: events whose text it is, or no form. Condition: none but the card's own. -/
import Derived.Test.YtbamlhgjpggihaaDoorTE
import Derived.Test.YtbamlhgjpggihaaDoorCards
import Derived.Test.YtbamlhgjpggihaaDoorTie
import Derived.SevenTiedAt
set_option linter.unusedVariables false
set_option linter.unusedSimpArgs false
namespace Go.Proofs.YtbamlhgjpggihaaDoor.tale
open Go.ChangeShapes Go.WideShapes Go.ChangeAt Go.RowKit Go.Gz
abbrev InpR := List UInt8 × Unit
def avsR (p : InpR) : List AV := [.str p.1]
def oksR (p : InpR) : Prop := p.1.length ≤ reachBytes ∧ True
theorem argsR : Args Tryd.prog Tryd.f4.params.toList avsR oksR := by
  have hp : Tryd.f4.params.toList = [9] := by kernel_rfl
  rw [hp]
  exact .cons (arg_str (by kernel_rfl)) .nil
theorem comesR (y : InpR) (_ : oksR y) : Tri Tryd.prog 4 (avsR y) [] Yes := reads_ok y.1
set_option maxRecDepth 100000 in
theorem liftedR (os : Os) (started : os.Started) (H : Type) (enc : TypeId × Value → H) :
    ReturnsInHanded {} Tryd.checked os 4 .any (fun w args => (Rows.taleReadsSpec.pre enc Tryd.prog Tryd.f4 [] false w args ∧ laidMetH Tryd.prog laidL w) ∧ sizedMet enc Tryd.prog Tryd.f4 (OpenSpec.ofChange Rows.taleReadsSpec) false w args)
      (Rows.taleReadsSpec.post enc Tryd.prog Tryd.f4 false true false false) := by
  refine returns_shaped_and (C := Tryd.checked) (X := fun w _ => laidMetH Tryd.prog laidL w) (fun _ _ _ hh h => h.of_heap hh) own started (by kernel_rfl) Tryd.func4
    (ChangeSpec.witness_shaped (enc := enc) (C := Tryd.checked) (os := os) (X := fun w _ => laidMetH Tryd.prog laidL w) false (wit os) #[.string ⟨#[]⟩] 8 rfl (wit_shaped os _) (by kernel_rfl) (by kernel_rfl) (by kernel_rfl) (wit_met os _)) ?_
  intro W base args0 ds gs before hval hW hz hL hsh
  have hp : Tryd.f4.params.toList = [9] := by kernel_rfl
  refine calls_post (avs := avsR) (oks := oksR) laidOut ?_ (by kernel_rfl) (tb := 4) (by kernel_rfl) rfl ?_ argsR comesR hval hW hz (laid_of hL hsh)
  · rw [hp]; intro t ht
    have h3 : ([9].all fun t => Tryd.prog.readableRec t && Nat.blt t Tryd.prog.types.size) = true := by kernel_rfl
    have := List.all_eq_true.1 h3 t ht
    rw [Bool.and_eq_true, Nat.blt_eq] at this
    exact this
  · intro ds h
    rw [hp] at h
    match ds, h with
    | [_], _ => rfl
theorem rowR : Rows.TaleReadsSaid :=
  OpenClaim.holds_of_wide 4 Tryd.f4 rfl rfl rfl rfl rfl rfl rfl ⟨rfl, rfl, rfl, rfl, rfl⟩ rfl rfl rfl rfl rfl (by kernel_rfl) Tryd.func4 (by kernel_rfl)
    (of_decide_eq_true (by kernel_rfl)) (by unfold Func.isWrapper; first | (rw [if_pos (by decide +kernel)]; kernel_rfl) | (rw [if_neg (by decide +kernel)]; exact ⟨rfl, rfl⟩))
    (fun os started H enc _ => liftedR os started H enc)
end Go.Proofs.YtbamlhgjpggihaaDoor.tale
namespace Go.Proofs.YtbamlhgjpggihaaDoor
open Go
theorem taleReads_holds : Rows.TaleReadsCardSaid :=
  Claim7.holds_tied_plain_at .later [] [.data, .data, .data, .data, .sentinel, .sentinel, .pinned] true (true, "cc9511e120e8d383a951d071bfd489a3ec0a5b8930d357b60bea8a924ba140f7") true
    tale.rowR (fun _ h => by cases h) (by kernel_rfl) (fun _ h => by cases h) taleReads_row_tie rfl ⟨rfl, rfl⟩ (by kernel_rfl) rfl
    (fun f fn hf hfn => by
      obtain rfl : f = 4 := Option.some.inj ((show Tryd.prog.funcNamed "gazetteer/gazetteerlaw24.TaleReads" = some 4 by kernel_rfl).symm.trans hf) |>.symm
      obtain rfl : fn = Tryd.f4 := (Option.some.inj (Tryd.func4.symm.trans hfn)).symm
      exact ⟨by kernel_rfl, fun j t ht => by
        have hm : t ∈ Tryd.f4.params.toList := by simpa using Array.mem_of_getElem? ht
        have hp : Tryd.f4.params.toList = [9] := by kernel_rfl
        rw [hp] at hm
        have hall : ([9].all fun u => !Tryd.prog.wantsStandIn u) = true := by kernel_rfl
        exact (show Tryd.prog.wantsStandIn t = false by simpa using List.all_eq_true.1 hall t hm)⟩)
    (by kernel_rfl)
end Go.Proofs.YtbamlhgjpggihaaDoor
