/- TaleJoins: two scripts, one behind the other, have both texts one behind the other; what is cut within a line is no script. Condition: none but the card's own. -/
import Derived.Test.YtbamlhgjpggihaaDoorTE
import Derived.Test.YtbamlhgjpggihaaDoorCards
import Derived.Test.YtbamlhgjpggihaaDoorTie
import Derived.SevenTiedAt
set_option linter.unusedVariables false
set_option linter.unusedSimpArgs false
namespace Go.Proofs.YtbamlhgjpggihaaDoor.tale
open Go.ChangeShapes Go.WideShapes Go.ChangeAt Go.RowKit Go.Gz Go.Gz.H
abbrev InpJ := List Ev × (List Ev × (Int × Unit))
def avsJ (p : InpJ) : List AV := [.imm (p.1.map Ev.cells) false false, .imm (p.2.1.map Ev.cells) false false, .int .u16 p.2.2.1]
def oksJ (p : InpJ) : Prop := (p.1.length * Tryd.prog.bytesOf 27 ≤ reachBytes ∧ ∀ y ∈ p.1, EvIn y) ∧ ((p.2.1.length * Tryd.prog.bytesOf 27 ≤ reachBytes ∧ ∀ y ∈ p.2.1, EvIn y) ∧ ((IntKind.u16.min ≤ p.2.2.1 ∧ p.2.2.1 ≤ IntKind.u16.max) ∧ True))
theorem argsJ : Args Tryd.prog Tryd.f5.params.toList avsJ oksJ := by
  have hp : Tryd.f5.params.toList = [22, 22, 37] := by kernel_rfl
  rw [hp]
  exact .cons argEvs (.cons argEvs (.cons (arg_int (k := .u16) (by kernel_rfl)) .nil))
theorem comesJ (y : InpJ) (h : oksJ y) : Tri Tryd.prog 5 (avsJ y) [] Yes := by
  obtain ⟨a, b, c, u⟩ := y
  obtain ⟨h1, h2, ⟨h3, h4⟩, _⟩ := h
  have g3 : (0 : Int) ≤ c := h3
  have g4 : c ≤ (65535 : Int) := h4
  obtain ⟨n, rfl⟩ : ∃ n : Nat, c = (n : Int) := ⟨c.toNat, by omega⟩
  exact tj_ok a b n (len_in h1.1) h1.2 (len_in h2.1) h2.2 (by omega)
set_option maxRecDepth 100000 in
theorem liftedJ (os : Os) (started : os.Started) (H : Type) (enc : TypeId × Value → H) :
    ReturnsInHanded {} Tryd.checked os 5 .any (fun w args => (Rows.taleJoinsSpec.pre enc Tryd.prog Tryd.f5 [] false w args ∧ laidMetH Tryd.prog laidL w) ∧ sizedMet enc Tryd.prog Tryd.f5 (OpenSpec.ofChange Rows.taleJoinsSpec) false w args)
      (Rows.taleJoinsSpec.post enc Tryd.prog Tryd.f5 false true false false) := by
  refine returns_shaped_and (C := Tryd.checked) (X := fun w _ => laidMetH Tryd.prog laidL w) (fun _ _ _ hh h => h.of_heap hh) own started (by kernel_rfl) Tryd.func5
    (ChangeSpec.witness_shaped (enc := enc) (C := Tryd.checked) (os := os) (X := fun w _ => laidMetH Tryd.prog laidL w) false (wit os) #[.slice none 0 0, .slice none 0 0, .int .u16 0] 8 rfl (wit_shaped os _) (by kernel_rfl) (by kernel_rfl) (by kernel_rfl) (wit_met os _)) ?_
  intro W base args0 ds gs before hval hW hz hL hsh
  have hp : Tryd.f5.params.toList = [22, 22, 37] := by kernel_rfl
  refine calls_post (avs := avsJ) (oks := oksJ) laidOut ?_ (by kernel_rfl) (tb := 4) (by kernel_rfl) rfl ?_ argsJ comesJ hval hW hz (laid_of hL hsh)
  · rw [hp]; intro t ht
    have h3 : ([22, 22, 37].all fun t => Tryd.prog.readableRec t && Nat.blt t Tryd.prog.types.size) = true := by kernel_rfl
    have := List.all_eq_true.1 h3 t ht
    rw [Bool.and_eq_true, Nat.blt_eq] at this
    exact this
  · intro ds h
    rw [hp] at h
    match ds, h with
    | [_, _, _], _ => rfl
theorem rowJ : Rows.TaleJoinsSaid :=
  OpenClaim.holds_of_wide 5 Tryd.f5 rfl rfl rfl rfl rfl rfl rfl ⟨rfl, rfl, rfl, rfl, rfl⟩ rfl rfl rfl rfl rfl (by kernel_rfl) Tryd.func5 (by kernel_rfl)
    (of_decide_eq_true (by kernel_rfl)) (by unfold Func.isWrapper; first | (rw [if_pos (by decide +kernel)]; kernel_rfl) | (rw [if_neg (by decide +kernel)]; exact ⟨rfl, rfl⟩))
    (fun os started H enc _ => liftedJ os started H enc)
end Go.Proofs.YtbamlhgjpggihaaDoor.tale
namespace Go.Proofs.YtbamlhgjpggihaaDoor
open Go
theorem taleJoins_holds : Rows.TaleJoinsCardSaid :=
  Claim7.holds_tied_plain_at .later [] [.data, .data, .data, .data, .sentinel, .sentinel, .pinned] true (true, "cc9511e120e8d383a951d071bfd489a3ec0a5b8930d357b60bea8a924ba140f7") true
    tale.rowJ (fun _ h => by cases h) (by kernel_rfl) (fun _ h => by cases h) taleJoins_row_tie rfl ⟨rfl, rfl⟩ (by kernel_rfl) rfl
    (fun f fn hf hfn => by
      obtain rfl : f = 5 := Option.some.inj ((show Tryd.prog.funcNamed "gazetteer/gazetteerlaw24.TaleJoins" = some 5 by kernel_rfl).symm.trans hf) |>.symm
      obtain rfl : fn = Tryd.f5 := (Option.some.inj (Tryd.func5.symm.trans hfn)).symm
      exact ⟨by kernel_rfl, fun j t ht => by
        have hm : t ∈ Tryd.f5.params.toList := by simpa using Array.mem_of_getElem? ht
        have hp : Tryd.f5.params.toList = [22, 22, 37] := by kernel_rfl
        rw [hp] at hm
        have hall : ([22, 22, 37].all fun u => !Tryd.prog.wantsStandIn u) = true := by kernel_rfl
        exact (show Tryd.prog.wantsStandIn t = false by simpa using List.all_eq_true.1 hall t hm)⟩)
    (by kernel_rfl)
end Go.Proofs.YtbamlhgjpggihaaDoor
