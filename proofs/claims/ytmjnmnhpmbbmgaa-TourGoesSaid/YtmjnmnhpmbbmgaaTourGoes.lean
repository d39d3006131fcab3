/- The law gazetteerlaw23.TourGoes returns true for every input: what is put into spans and into one map; pages of a span in the light of all rows; a tour ends. No condition. -/
import Derived.Test.YtmjnmnhpmbbmgaaTK
set_option linter.unusedVariables false
set_option linter.unusedSimpArgs false
namespace Go.Proofs.Ytmjnmnhpmbbmgaa.tour
open Go.ChangeShapes Go.WideShapes Go.ChangeAt Go.RowKit Go.Gz Go.Gz.H
abbrev r3_0 : List MOper := [⟨(some 3), .box (.t 0), none⟩,
  ⟨(some 4), .box (.t 1), none⟩,
  ⟨(some 6), .move (.c (.bool false)), none⟩]
def b3_0 : SCode := .region r3_0
abbrev r3_1 : List MOper := [⟨(some 7), .call 9 [], none⟩,
  ⟨(some 8), .un .not (.t 7), none⟩]
def b3_1 : SCode := .region r3_1
abbrev r3_2 : List MOper := [⟨(some 6), .move (.c (.bool false)), none⟩]
def b3_2 : SCode := .region r3_2
def b3_3 : SCode := .seq b3_2 .ret
def b3_4 : SCode := .cond (.t 8) b3_3 .skip
def b3_5 : SCode := .seq b3_1 b3_4
abbrev r3_6 : List MOper := [⟨(some 9), .indexArrAddr 2 1 (.t 3) (.c (.int .i64 0)), none⟩,
  ⟨(some 10), .load1 (.t 9), none⟩,
  ⟨(some 11), .indexArrAddr 2 1 (.t 3) (.c (.int .i64 1)), none⟩,
  ⟨(some 12), .load1 (.t 11), none⟩,
  ⟨(some 13), .loadN 2 (.t 4), none⟩,
  ⟨(some 14), .move (.t 2), none⟩,
  ⟨(some 15), .convInt .i64 (.t 14), none⟩,
  ⟨(some 16), .bin .rem .num (.t 15) (.c (.int .i64 16)), none⟩,
  ⟨(some 17), .bin .add .num (.c (.int .i64 1)) (.t 16), none⟩,
  ⟨(some 18), .call 10 [(.t 10), (.t 12), (.t 13), (.t 17)], none⟩,
  ⟨(some 6), .move (.t 18), none⟩]
def b3_6 : SCode := .region r3_6
def b3_7 : SCode := .seq b3_6 .ret
def b3_8 : SCode := .seq b3_5 b3_7
def b3_9 : SCode := .seq b3_0 b3_8
def s3 : SFunc := ⟨19, [.t 6], b3_9⟩
theorem c3 : sFn Try.prog 3 = some s3 := by kernel_rfl
theorem Z3 : XR b3_0 r3_0 ∧ XR b3_1 r3_1 ∧ XR b3_2 r3_2 ∧ XS b3_3 b3_2 .ret ∧ XC b3_4 (.t 8) b3_3 .skip ∧ XS b3_5 b3_1 b3_4 ∧ XR b3_6 r3_6 ∧ XS b3_7 b3_6 .ret ∧ XS b3_8 b3_5 b3_7 ∧ XS b3_9 b3_0 b3_8 ∧ XY s3 19 b3_9 [.t 6] := ⟨rfl, rfl, rfl, rfl, sC_cond, rfl, rfl, rfl, rfl, rfl, rfl⟩

set_option maxHeartbeats 4000000
set_option maxRecDepth 10000
theorem strs_pure (l : List Bs) : pureLL (l.map fun s => [AV.str s]) = true := pureLL_of fun r hr => by
  obtain ⟨b, _, rfl⟩ := List.mem_map.1 hr
  rfl
def goesD (args : List AV) (σ : AHeap) (K : AV → AHeap → Prop) : Prop := ∃ (texts cuts : List Bs) (a b : Bs) (n : Nat), args = [.imm (texts.map fun s => [.str s]) false false, .imm (cuts.map fun s => [.str s]) false false, .agg [.str a, .str b], .int .i64 (n : Int)] ∧ 1 ≤ n ∧ n ≤ 16 ∧ (∀ s ∈ texts, s.length ≤ 140737488351232) ∧ K (.bool true) σ
theorem goesD_ok (args : List AV) (σ : AHeap) (K : AV → AHeap → Prop) (h : goesD args σ K) : Tri Try.prog 10 args σ K := by
  obtain ⟨texts, cuts, a, b, n, rfl, h1, h2, h3, h⟩ := h
  have ht : Tri Try.prog 10 [.imm (texts.map fun s => [.str s]) false false, .imm (cuts.map fun s => [.str s]) false false, .agg [.str a, .str b], .int .i64 (n : Int)] [] fun r _ => r.pure = true ∧ r = .bool true :=
    Tri.of_s c10 U10_sound (goes_s texts cuts a b n h1 h2 h3 _ fun _ => ⟨rfl, rfl⟩)
  exact (Tri.pureD (by simp only [pureL, AV.pure, strs_pure]; rfl) ht σ).mono fun x σ' hr => by rw [hr.1, hr.2]; exact h
def U3 : PCall := rowQ 9 awakeD (rowQ 10 goesD noCall)
theorem U3_app {f : FuncId} {args : List AV} {σ : AHeap} {K : AV → AHeap → Prop} : U3 f args σ K = rowQ 9 awakeD (rowQ 10 goesD noCall) f args σ K := _root_.id rfl
theorem U3_sound : Sound Try.prog U3 := rowQ_sound awakeD_ok (rowQ_sound goesD_ok (noCall_sound _))
theorem law_goes (texts cuts : List Bs) (a b : Bs) (w : Int) (h0 : 0 ≤ w) (h255 : w ≤ 255) (hsz : ∀ s ∈ texts, s.length ≤ 140737488351232) : sF U3 s3 [.agg [.imm (texts.map fun s => [.str s]) false false, .imm (cuts.map fun s => [.str s]) false false], .agg [.str a, .str b], .int .u8 w] [] Yes := by
  have hw0 : IntKind.wrap .i64 w = w := Gz.wrap64 (by omega)
  simp only [U3_app, awakeD_eq, Z3, base1, ↓reduceIte, Nat.reduceAdd, Nat.reduceSub, Nat.reduceMul, Nat.reduceEqDiff, Nat.reduceLeDiff, Nat.reduceLT, Int.reduceLT, Int.reduceLE, Int.reduceEq, Int.reduceNe, Int.reduceToNat, Int.reduceAdd, Int.reduceSub, reduceCtorEq, Nat.reduceBEq, Nat.reduceBNe, hw0]
  have hm : w.tmod 16 = w % 16 := Int.tmod_eq_emod_of_nonneg h0
  obtain ⟨n, hn⟩ : ∃ n : Nat, (n : Int) = IntKind.wrap .i64 (1 + w.tmod 16) := by
    refine ⟨(1 + w % 16).toNat, ?_⟩
    rw [hm, Gz.wrap64 (by omega)]
    omega
  have h1 : (n : Int) = 1 + w % 16 := by rw [hn, hm, Gz.wrap64 (by omega)]
  refine ⟨texts, cuts, a, b, n, by rw [hn], by omega, by omega, hsz, ?_⟩
  simp only [U3_app, awakeD_eq, Z3, base1, ↓reduceIte, Nat.reduceAdd, Nat.reduceSub, Nat.reduceMul, Nat.reduceEqDiff, Nat.reduceLeDiff, Nat.reduceLT, Int.reduceLT, Int.reduceLE, Int.reduceEq, Int.reduceNe, Int.reduceToNat, Int.reduceAdd, Int.reduceSub, reduceCtorEq, Nat.reduceBEq, Nat.reduceBNe]
  first | rfl | trivial
abbrev InpG := List (List (List UInt8)) × (List (List UInt8) × (Int × Unit))
def avsG (p : InpG) : List AV := [.agg (p.1.flatMap fun l => [.imm (l.map fun s => [.str s]) false false]), .agg (p.2.1.flatMap fun s => [.str s]), .int .u8 p.2.2.1]
def oksG (p : InpG) : Prop := (p.1.length = 2 ∧ ∀ l ∈ p.1, l.length * Try.prog.bytesOf 9 ≤ reachBytes ∧ ∀ s ∈ l, s.length ≤ reachBytes) ∧ ((p.2.1.length = 2 ∧ ∀ s ∈ p.2.1, s.length ≤ reachBytes) ∧ ((IntKind.min .u8 ≤ p.2.2.1 ∧ p.2.2.1 ≤ IntKind.max .u8) ∧ True))
theorem argsG : Args Try.prog Try.f3.params.toList avsG oksG := by
  have hp : Try.f3.params.toList = [23, 24, 5] := by kernel_rfl
  rw [hp]
  exact .cons (arg_agg (rd_array (e := 22) (by kernel_rfl) (by kernel_rfl) (rd_slice (e := 9) (by kernel_rfl) (by decide +kernel) (rd_str (by kernel_rfl)))) (.inr ⟨2, 22, by kernel_rfl⟩)) (.cons (arg_agg (rd_array (e := 9) (by kernel_rfl) (by kernel_rfl) (rd_str (by kernel_rfl))) (.inr ⟨2, 9, by kernel_rfl⟩)) (.cons (arg_int (by kernel_rfl)) .nil))
theorem comesG (y : InpG) (hy : oksG y) : Tri Try.prog 3 (avsG y) [] Yes := by
  obtain ⟨ls, l, w, u⟩ := y
  obtain ⟨⟨h1, h2⟩, ⟨h3, _⟩, ⟨h4, h5⟩, _⟩ := hy
  match ls, h1, l, h3 with
  | [texts, cuts], _, [a, b], _ => exact Tri.of_s c3 U3_sound (law_goes texts cuts a b w h4 h5 (h2 texts (by simp)).2)
theorem ownG : ownKnob Try.prog.godebug = none := by kernel_rfl
theorem laidOutG : laidOutB Try.prog = true := by kernel_rfl
set_option maxRecDepth 100000 in
theorem liftedG (os : Os) (started : os.Started) (H : Type) (enc : TypeId × Value → H) :
    ReturnsInHanded {} Try.checked os 3 .any (Rows.tourGoesSpec.pre6 enc Try.prog Try.f3 Rows.tourGoesRow.domain false) (Rows.tourGoesSpec.post enc Try.prog Try.f3 false true false false) := by
  refine returnsInHanded_of_change_sized (C := Try.checked) ownG started (by kernel_rfl) Try.func3
    (ChangeSpec.witness6 (enc := enc) (C := Try.checked) false ⟨#[], #[.agg #[.slice none 0 0, .slice none 0 0], .agg #[.string ⟨#[]⟩, .string ⟨#[]⟩], .int .u8 0], []⟩ 8 (by kernel_rfl) (by kernel_rfl) (by kernel_rfl) (by kernel_rfl)) ?_
  intro W base args0 ds gs before hval hW _ hz _
  have hp : Try.f3.params.toList = [23, 24, 5] := by kernel_rfl
  refine calls_post (avs := avsG) (oks := oksG) laidOutG ?_ (by kernel_rfl) (tb := 4) (by kernel_rfl) rfl ?_ argsG comesG hval hW hz
  · rw [hp]; intro t ht
    have h3 : ([23, 24, 5].all fun t => Try.prog.readableRec t && Nat.blt t Try.prog.types.size) = true := by kernel_rfl
    have := List.all_eq_true.1 h3 t ht
    rw [Bool.and_eq_true, Nat.blt_eq] at this
    exact this
  · intro ds h
    rw [hp] at h
    match ds, h with
    | [_, _, _], _ => rfl
end Go.Proofs.Ytmjnmnhpmbbmgaa.tour
namespace Go.Proofs.Ytmjnmnhpmbbmgaa
open Go.ChangeShapes Go.WideShapes Go.ChangeAt Go.RowKit
theorem tourGoes_holds : Rows.TourGoesSaid :=
  OpenClaim.holds_of_wide 3 Try.f3 rfl rfl rfl rfl rfl rfl rfl ⟨rfl, rfl, rfl, rfl, rfl⟩ rfl rfl rfl rfl rfl (by kernel_rfl) Try.func3 (by kernel_rfl)
    (of_decide_eq_true (by kernel_rfl)) (by unfold Func.isWrapper; first | (rw [if_pos (by decide +kernel)]; kernel_rfl) | (rw [if_neg (by decide +kernel)]; exact ⟨rfl, rfl⟩))
    (fun os started H enc _ => tour.liftedG os started H enc)
end Go.Proofs.Ytmjnmnhpmbbmgaa
