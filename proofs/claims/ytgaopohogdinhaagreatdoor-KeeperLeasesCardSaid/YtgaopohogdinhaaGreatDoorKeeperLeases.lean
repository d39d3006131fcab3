/- KeeperLeases: of Grants that come in any order the latest counts; a Grant of a tick that has not come yet, or of the nought, is nothing. Condition: none but the card's own. -/
import Derived.Test.YtgaopohogdinhaaGreatDoorKpH
import Derived.Test.YtgaopohogdinhaaGreatDoorKpW
import Derived.Test.YtgaopohogdinhaaGreatDoorCards
import Derived.Test.YtgaopohogdinhaaGreatDoorTie
import Derived.SevenTiedAt
set_option linter.unusedVariables false
set_option linter.unusedSimpArgs false
namespace Go.Proofs.YtgaopohogdinhaaGreatDoor.keep
open Go.ChangeShapes Go.WideShapes Go.ChangeAt Go.RowKit Go.Gz
theorem rd_byte {t : TypeId} (ht : Tryz.prog.underlying t = some (.int .u8)) : Rd Tryz.prog t (fun b : UInt8 => [AV.int .u8 (b.toNat : Int)]) (fun _ => True) := by
  intro H enc W fuel cs x h hz
  obtain ⟨n, ⟨h1, h2⟩, hr⟩ := rd_int (k := .u8) ht H enc W fuel cs x h hz
  have h1 : 0 ≤ n := h1
  have h2 : n ≤ 255 := h2
  refine ⟨UInt8.ofNat n.toNat, trivial, fun C hC hO => ?_⟩
  have e : ((UInt8.ofNat n.toNat).toNat : Int) = n := by
    have : (UInt8.ofNat n.toNat).toNat = n.toNat % 256 := by first | rfl | simp
    rw [this]; omega
  show LRel C [AV.int .u8 ((UInt8.ofNat n.toNat).toNat : Int)] cs
  rw [e]; exact hr C hC hO
abbrev InpL := List UInt8 × Int × Unit
def avsL (p : InpL) : List AV := [.imm (grC p.1) false false, .int .u8 p.2.1]
def oksL (p : InpL) : Prop := (p.1.length * Tryz.prog.bytesOf 5 ≤ reachBytes ∧ ∀ y ∈ p.1, True) ∧ (IntKind.min .u8 ≤ p.2.1 ∧ p.2.1 ≤ IntKind.max .u8) ∧ True
theorem argsL : Args Tryz.prog Tryz.f3.params.toList avsL oksL := by
  have hp : Tryz.f3.params.toList = [22, 5] := by kernel_rfl
  rw [hp]
  exact .cons (arg_slice (P := Tryz.prog) (t := 22) (e := 5) (by kernel_rfl) (by decide +kernel) (rd_byte (t := 5) (by kernel_rfl))) (.cons (arg_int (k := .u8) (by kernel_rfl)) .nil)
theorem comesL (y : InpL) (h : oksL y) : Tri Tryz.prog 3 (avsL y) [] Yes := by
  obtain ⟨l, z, u⟩ := y
  obtain ⟨_, ⟨h1, h2⟩, _⟩ := h
  have e1 : IntKind.min .u8 = 0 := by decide
  have e2 : IntKind.max .u8 = 255 := by decide
  rw [e1] at h1
  rw [e2] at h2
  exact leases_ok l z h1 h2
set_option maxRecDepth 100000 in
theorem liftedL (os : Os) (started : os.Started) (H : Type) (enc : TypeId × Value → H) :
    ReturnsInHanded {} Tryz.checked os 3 .any (fun w args => (Rows.keeperLeasesSpec.pre enc Tryz.prog Tryz.f3 [] false w args ∧ laidMetH Tryz.prog laidL w) ∧ sizedMet enc Tryz.prog Tryz.f3 (OpenSpec.ofChange Rows.keeperLeasesSpec) false w args)
      (Rows.keeperLeasesSpec.post enc Tryz.prog Tryz.f3 false true false false) := by
  refine returns_shaped_and (C := Tryz.checked) (X := fun w _ => laidMetH Tryz.prog laidL w) (fun _ _ _ hh h => h.of_heap hh) own started (by kernel_rfl) Tryz.func3
    (ChangeSpec.witness_shaped (enc := enc) (C := Tryz.checked) (os := os) (X := fun w _ => laidMetH Tryz.prog laidL w) false (wit os) #[.slice none 0 0, .int .u8 0] 8 rfl (wit_shaped os _) (by kernel_rfl) (by kernel_rfl) (by kernel_rfl) (wit_met os _)) ?_
  intro W base args0 ds gs before hval hW hz hL hsh
  have hp : Tryz.f3.params.toList = [22, 5] := by kernel_rfl
  refine calls_post (avs := avsL) (oks := oksL) laidOut ?_ (by kernel_rfl) (tb := 4) (by kernel_rfl) rfl ?_ argsL comesL hval hW hz
  · rw [hp]; intro t ht
    have h3 : ([22, 5].all fun t => Tryz.prog.readableRec t && Nat.blt t Tryz.prog.types.size) = true := by kernel_rfl
    have := List.all_eq_true.1 h3 t ht
    rw [Bool.and_eq_true, Nat.blt_eq] at this
    exact this
  · intro ds h
    rw [hp] at h
    match ds, h with
    | [_, _], _ => rfl
theorem rowL : Rows.KeeperLeasesSaid :=
  OpenClaim.holds_of_wide 3 Tryz.f3 rfl rfl rfl rfl rfl rfl rfl ⟨rfl, rfl, rfl, rfl, rfl⟩ rfl rfl rfl rfl rfl (by kernel_rfl) Tryz.func3 (by kernel_rfl)
    (of_decide_eq_true (by kernel_rfl)) (by unfold Func.isWrapper; first | (rw [if_pos (by decide +kernel)]; kernel_rfl) | (rw [if_neg (by decide +kernel)]; exact ⟨rfl, rfl⟩))
    (fun os started H enc _ => liftedL os started H enc)
end Go.Proofs.YtgaopohogdinhaaGreatDoor.keep
namespace Go.Proofs.YtgaopohogdinhaaGreatDoor
open Go
theorem keeperLeases_holds : Rows.KeeperLeasesCardSaid :=
  Claim7.holds_tied_plain_at .later [] [.data, .pinned] true (true, "70cf8522c0e21461407f4efb4af6705df801419077760b847706c87ecf4986a5") false
    keep.rowL (fun _ h => by cases h) (by kernel_rfl) (fun _ h => by cases h) keeperLeases_row_tie rfl ⟨rfl, rfl⟩ (by kernel_rfl) rfl
    (fun f fn hf hfn => by
      obtain rfl : f = 3 := Option.some.inj ((show Tryz.prog.funcNamed "gazetteer/gazetteerlaw18.KeeperLeases" = some 3 by kernel_rfl).symm.trans hf) |>.symm
      obtain rfl : fn = Tryz.f3 := (Option.some.inj (Tryz.func3.symm.trans hfn)).symm
      exact ⟨by kernel_rfl, fun j t ht => by
        have hm : t ∈ Tryz.f3.params.toList := by simpa using Array.mem_of_getElem? ht
        have hp : Tryz.f3.params.toList = [22, 5] := by kernel_rfl
        rw [hp] at hm
        have hall : ([22, 5].all fun u => !Tryz.prog.wantsStandIn u) = true := by kernel_rfl
        exact (show Tryz.prog.wantsStandIn t = false by simpa using List.all_eq_true.1 hall t hm)⟩)
    (by kernel_rfl)
end Go.Proofs.YtgaopohogdinhaaGreatDoor
