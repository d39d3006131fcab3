/- event, Read: what they answer. Condition: texts of no more than a hundred million bytes. -/
import Derived.Test.YtbamlhgjpggihaaDoorTA
import Derived.Lib.CutLaws
import Derived.Lib.IndexLaws
set_option linter.unusedVariables false
set_option linter.unusedSimpArgs false
namespace Go.Proofs.YtbamlhgjpggihaaDoor.tale
open Go.RowKit Go.Gz Go.Gz.H
abbrev r23_0 : List MOper := [⟨(some 2), .alloc [.int .i64 0, .int .i64 0, .int .i64 0, .str [], .str [], .str []], none⟩,
  ⟨(some 3), .move (.c (.bool false)), none⟩]
def b23_0 : SCode := .region r23_0
abbrev r23_1 : List MOper := [⟨(some 15), .move (.t 0), none⟩,
  ⟨(some 16), .call 28 [(.t 15), (.c (.str [32]))], none⟩,
  ⟨(some 4), .move (.t 16), none⟩]
def b23_1 : SCode := .region r23_1
abbrev r23_2 : List MOper := [⟨(some 17), .move (.t 4), none⟩,
  ⟨(some 18), .lenSl (.t 17), none⟩,
  ⟨(some 19), .bin .neq .num (.t 18) (.c (.int .i64 6)), none⟩]
def b23_2 : SCode := .region r23_2
abbrev r23_3 : List MOper := [⟨(some 20), .build [.int .i64 0, .int .i64 0, .int .i64 0, .str [], .str [], .str []] [], none⟩,
  ⟨none, .store 6 (.t 2) (.t 20), none⟩,
  ⟨(some 3), .move (.c (.bool false)), none⟩]
def b23_3 : SCode := .region r23_3
def b23_4 : SCode := .seq b23_3 .ret
def b23_5 : SCode := .cond (.t 19) b23_4 .skip
def b23_6 : SCode := .seq b23_2 b23_5
abbrev r23_7 : List MOper := [⟨(some 21), .move (.t 4), none⟩,
  ⟨(some 22), .indexAddr 1 (.t 21) (.c (.int .i64 0)), none⟩,
  ⟨(some 23), .load1 (.t 22), none⟩,
  ⟨(some 24), .call 29 [(.t 23)], none⟩,
  ⟨(some 25), .build [.int .i64 0, .int .i64 0, .int .i64 0, .str [], .str [], .str []] [(0, 1, (.t 24))], none⟩,
  ⟨(some 5), .alloc [.int .i64 0, .int .i64 0, .int .i64 0, .str [], .str [], .str []], none⟩,
  ⟨none, .store 6 (.t 5) (.t 25), none⟩]
def b23_7 : SCode := .region r23_7
abbrev r23_8 : List MOper := [⟨(some 26), .fieldAddr 0 (.t 5), none⟩,
  ⟨(some 27), .load1 (.t 26), none⟩,
  ⟨(some 28), .bin .gtr .num (.t 27) (.c (.int .i64 0)), none⟩,
  ⟨(some 6), .move (.t 28), none⟩]
def b23_8 : SCode := .region r23_8
abbrev r23_9 : List MOper := [⟨(some 29), .fieldAddr 1 (.t 5), none⟩,
  ⟨(some 30), .fieldAddr 2 (.t 5), none⟩,
  ⟨(some 31), .buildSlice [.nilptr] 1 2 [(0, 1, (.t 29)), (1, 1, (.t 30))], none⟩,
  ⟨(some 32), .lenSl (.t 31), none⟩,
  ⟨(some 33), .move (.c (.int .i64 0)), none⟩]
def b23_9 : SCode := .region r23_9
abbrev r23_10 : List MOper := [⟨(some 34), .bin .lss .num (.t 33) (.t 32), none⟩]
def b23_10 : SCode := .region r23_10
def b23_11 : SCode := .cond (.t 34) .skip (.exit 0)
abbrev r23_12 : List MOper := [⟨(some 35), .move (.t 33), none⟩,
  ⟨(some 36), .indexAddr 1 (.t 31) (.t 33), none⟩,
  ⟨(some 37), .load1 (.t 36), none⟩,
  ⟨(some 7), .move (.t 35), none⟩,
  ⟨(some 8), .move (.t 37), none⟩]
def b23_12 : SCode := .region r23_12
abbrev r23_13 : List MOper := [⟨(some 39), .move (.t 4), none⟩,
  ⟨(some 40), .move (.t 7), none⟩,
  ⟨(some 41), .bin .add .num (.c (.int .i64 1)) (.t 40), none⟩,
  ⟨(some 42), .indexAddr 1 (.t 39) (.t 41), none⟩,
  ⟨(some 43), .load1 (.t 42), none⟩,
  ⟨(some 44), .call 30 [(.t 43)], none⟩,
  ⟨(some 38), .move (.t 44), none⟩,
  ⟨(some 45), .extract (.t 38) 0, none⟩,
  ⟨(some 46), .extract (.t 38) 1, none⟩,
  ⟨(some 9), .move (.t 45), none⟩,
  ⟨(some 10), .move (.t 46), none⟩]
def b23_13 : SCode := .region r23_13
abbrev r23_14 : List MOper := [⟨(some 47), .move (.t 8), none⟩,
  ⟨(some 48), .move (.t 9), none⟩,
  ⟨(some 49), .move (.t 6), none⟩,
  ⟨(some 50), .move (.t 49), none⟩,
  ⟨(some 51), .move (.t 10), (some (50, true))⟩,
  ⟨(some 52), .pick (.t 50) (.t 51) (.c (.bool false)), none⟩,
  ⟨(some 53), .nilCheck (.t 47), none⟩,
  ⟨none, .store 1 (.t 53) (.t 48), none⟩,
  ⟨(some 6), .move (.t 52), none⟩]
def b23_14 : SCode := .region r23_14
def b23_15 : SCode := .seq b23_13 b23_14
def b23_16 : SCode := .seq b23_12 b23_15
def b23_17 : SCode := .block 1 b23_16
abbrev r23_18 : List MOper := [⟨(some 54), .bin .add .num (.t 33) (.c (.int .i64 1)), none⟩,
  ⟨(some 33), .move (.t 54), none⟩]
def b23_18 : SCode := .region r23_18
def b23_19 : SCode := .seq b23_17 b23_18
def b23_20 : SCode := .seq b23_11 b23_19
def b23_21 : SCode := .seq b23_10 b23_20
def b23_22 : SCode := .loop b23_21
def b23_23 : SCode := .block 0 b23_22
def b23_24 : SCode := .seq b23_9 b23_23
abbrev r23_25 : List MOper := [⟨(some 55), .fieldAddr 3 (.t 5), none⟩,
  ⟨(some 56), .fieldAddr 4 (.t 5), none⟩,
  ⟨(some 57), .fieldAddr 5 (.t 5), none⟩,
  ⟨(some 58), .buildSlice [.nilptr] 1 3 [(0, 1, (.t 55)), (1, 1, (.t 56)), (2, 1, (.t 57))], none⟩,
  ⟨(some 59), .lenSl (.t 58), none⟩,
  ⟨(some 60), .move (.c (.int .i64 0)), none⟩]
def b23_25 : SCode := .region r23_25
abbrev r23_26 : List MOper := [⟨(some 61), .bin .lss .num (.t 60) (.t 59), none⟩]
def b23_26 : SCode := .region r23_26
def b23_27 : SCode := .cond (.t 61) .skip (.exit 2)
abbrev r23_28 : List MOper := [⟨(some 62), .move (.t 60), none⟩,
  ⟨(some 63), .indexAddr 1 (.t 58) (.t 60), none⟩,
  ⟨(some 64), .load1 (.t 63), none⟩,
  ⟨(some 11), .move (.t 62), none⟩,
  ⟨(some 12), .move (.t 64), none⟩]
def b23_28 : SCode := .region r23_28
abbrev r23_29 : List MOper := [⟨(some 66), .move (.t 4), none⟩,
  ⟨(some 67), .move (.t 11), none⟩,
  ⟨(some 68), .bin .add .num (.c (.int .i64 3)) (.t 67), none⟩,
  ⟨(some 69), .indexAddr 1 (.t 66) (.t 68), none⟩,
  ⟨(some 70), .load1 (.t 69), none⟩,
  ⟨(some 71), .call 31 [(.t 70)], none⟩,
  ⟨(some 65), .move (.t 71), none⟩,
  ⟨(some 72), .extract (.t 65) 0, none⟩,
  ⟨(some 73), .extract (.t 65) 1, none⟩,
  ⟨(some 13), .move (.t 72), none⟩,
  ⟨(some 14), .move (.t 73), none⟩]
def b23_29 : SCode := .region r23_29
abbrev r23_30 : List MOper := [⟨(some 74), .move (.t 12), none⟩,
  ⟨(some 75), .move (.t 13), none⟩,
  ⟨(some 76), .move (.t 6), none⟩,
  ⟨(some 77), .move (.t 76), none⟩,
  ⟨(some 78), .move (.t 14), (some (77, true))⟩,
  ⟨(some 79), .pick (.t 77) (.t 78) (.c (.bool false)), none⟩,
  ⟨(some 80), .nilCheck (.t 74), none⟩,
  ⟨none, .store 1 (.t 80) (.t 75), none⟩,
  ⟨(some 6), .move (.t 79), none⟩]
def b23_30 : SCode := .region r23_30
def b23_31 : SCode := .seq b23_29 b23_30
def b23_32 : SCode := .seq b23_28 b23_31
def b23_33 : SCode := .block 3 b23_32
abbrev r23_34 : List MOper := [⟨(some 81), .bin .add .num (.t 60) (.c (.int .i64 1)), none⟩,
  ⟨(some 60), .move (.t 81), none⟩]
def b23_34 : SCode := .region r23_34
def b23_35 : SCode := .seq b23_33 b23_34
def b23_36 : SCode := .seq b23_27 b23_35
def b23_37 : SCode := .seq b23_26 b23_36
def b23_38 : SCode := .loop b23_37
def b23_39 : SCode := .block 2 b23_38
def b23_40 : SCode := .seq b23_25 b23_39
abbrev r23_41 : List MOper := [⟨(some 82), .loadN 6 (.t 5), none⟩,
  ⟨(some 83), .move (.t 6), none⟩,
  ⟨none, .store 6 (.t 2) (.t 82), none⟩,
  ⟨(some 3), .move (.t 83), none⟩]
def b23_41 : SCode := .region r23_41
def b23_42 : SCode := .seq b23_41 .ret
def b23_43 : SCode := .seq b23_40 b23_42
def b23_44 : SCode := .seq b23_24 b23_43
def b23_45 : SCode := .seq b23_8 b23_44
def b23_46 : SCode := .seq b23_7 b23_45
def b23_47 : SCode := .seq b23_6 b23_46
def b23_48 : SCode := .seq b23_1 b23_47
def b23_49 : SCode := .seq b23_0 b23_48
def s23 : SFunc := ⟨84, [.cN 2 6, .t 3], b23_49⟩
theorem c23 : sFn Tryd.prog 23 = some s23 := by kernel_rfl
theorem Z23 : XR b23_0 r23_0 ∧ XR b23_1 r23_1 ∧ XR b23_2 r23_2 ∧ XR b23_3 r23_3 ∧ XS b23_4 b23_3 .ret ∧ XC b23_5 (.t 19) b23_4 .skip ∧ XS b23_6 b23_2 b23_5 ∧ XR b23_7 r23_7 ∧ XR b23_8 r23_8 ∧ XR b23_9 r23_9 ∧ XR b23_10 r23_10 ∧ XC b23_11 (.t 34) .skip (.exit 0) ∧ XR b23_12 r23_12 ∧ XR b23_13 r23_13 ∧ XR b23_14 r23_14 ∧ XS b23_15 b23_13 b23_14 ∧ XS b23_16 b23_12 b23_15 ∧ XB b23_17 1 b23_16 ∧ XR b23_18 r23_18 ∧ XS b23_19 b23_17 b23_18 ∧ XS b23_20 b23_11 b23_19 ∧ XS b23_21 b23_10 b23_20 ∧ XB b23_23 0 b23_22 ∧ XS b23_24 b23_9 b23_23 ∧ XR b23_25 r23_25 ∧ XR b23_26 r23_26 ∧ XC b23_27 (.t 61) .skip (.exit 2) ∧ XR b23_28 r23_28 ∧ XR b23_29 r23_29 ∧ XR b23_30 r23_30 ∧ XS b23_31 b23_29 b23_30 ∧ XS b23_32 b23_28 b23_31 ∧ XB b23_33 3 b23_32 ∧ XR b23_34 r23_34 ∧ XS b23_35 b23_33 b23_34 ∧ XS b23_36 b23_27 b23_35 ∧ XS b23_37 b23_26 b23_36 ∧ XB b23_39 2 b23_38 ∧ XS b23_40 b23_25 b23_39 ∧ XR b23_41 r23_41 ∧ XS b23_42 b23_41 .ret ∧ XS b23_43 b23_40 b23_42 ∧ XS b23_44 b23_24 b23_43 ∧ XS b23_45 b23_8 b23_44 ∧ XS b23_46 b23_7 b23_45 ∧ XS b23_47 b23_6 b23_46 ∧ XS b23_48 b23_1 b23_47 ∧ XS b23_49 b23_0 b23_48 ∧ XY s23 84 b23_49 [.cN 2 6, .t 3] := ⟨rfl, rfl, rfl, rfl, rfl, sC_cond, rfl, rfl, rfl, rfl, rfl, sC_cond, rfl, rfl, rfl, rfl, rfl, rfl, rfl, rfl, rfl, rfl, rfl, rfl, rfl, rfl, sC_cond, rfl, rfl, rfl, rfl, rfl, rfl, rfl, rfl, rfl, rfl, rfl, rfl, rfl, rfl, rfl, rfl, rfl, rfl, rfl, rfl, rfl, rfl⟩

set_option maxHeartbeats 4000000
set_option maxRecDepth 10000
structure Ev where
  act : Int
  who : Int
  n : Int
  text : List UInt8
  val : List UInt8
  into : List UInt8
def Ev.cells (e : Ev) : List AV := [.int .i64 e.act, .int .i64 e.who, .int .i64 e.n, .str e.text, .str e.val, .str e.into]
def ev0 : Ev := ⟨0, 0, 0, [], [], []⟩
theorem Ev.pure (e : Ev) : (AV.agg e.cells).pure = true := rfl
/-- An event of a line's parts. -/
def evL : List (List UInt8) → Ev × Bool
  | [a, b, c, d, e, f] => (⟨doS a, (numS b).1, (numS c).1, (unS d).1, (unS e).1, (unS f).1⟩, ((((decide (0 < doS a) && (numS b).2) && (numS c).2) && (unS d).2) && (unS e).2) && (unS f).2)
  | _ => (ev0, false)
def evR (s : List UInt8) : AV := .tuple [.agg (evL (pieces s [32])).1.cells, .bool (evL (pieces s [32])).2]
def splitD (args : List AV) (σ : AHeap) (K : AV → AHeap → Prop) : Prop := ∃ s : List UInt8, args = [.str s, .str [32]] ∧ s.length < 4294967281 ∧ K (.imm ((pieces s [32]).map fun p => [.str p]) true true) σ
theorem splitD_ok (args : List AV) (σ : AHeap) (K : AV → AHeap → Prop) (h : splitD args σ K) : Tri Tryd.prog 28 args σ K := by
  obtain ⟨s, rfl, hs, h⟩ := h
  exact (lib_split hs (by simp)).mono fun x σ' hr => by rw [hr.1, hr.2]; exact h
def U23 : PCall := rowQ 28 splitD (rowQ 29 doD (rowQ 30 numD (rowQ 31 unD noCall)))
theorem U23_app {f : FuncId} {args : List AV} {σ : AHeap} {K : AV → AHeap → Prop} : U23 f args σ K = rowQ 28 splitD (rowQ 29 doD (rowQ 30 numD (rowQ 31 unD noCall))) f args σ K := _root_.id rfl
theorem U23_sound : Sound Tryd.prog U23 := rowQ_sound splitD_ok (rowQ_sound doD_ok (rowQ_sound numD_ok (rowQ_sound unD_ok (noCall_sound _))))
theorem U23_mono : MonoC U23 := mono_row (fun args σ K K' hk ⟨s, h1, h2, h3⟩ => ⟨s, h1, h2, hk _ _ h3⟩) (mono_row (fun args σ K K' hk ⟨s, h1, h2⟩ => ⟨s, h1, hk _ _ h2⟩) (mono_row (fun args σ K K' hk ⟨s, h1, h2⟩ => ⟨s, h1, hk _ _ h2⟩) (mono_row (fun args σ K K' hk ⟨s, h1, h2, h3⟩ => ⟨s, h1, h2, hk _ _ h3⟩) noCall_mono)))
theorem wl0 : IntKind.wrap .i64 0 = 0 := Gz.wrap64 (by omega)
theorem wl1 : IntKind.wrap .i64 1 = 1 := Gz.wrap64 (by omega)
theorem wl2 : IntKind.wrap .i64 2 = 2 := Gz.wrap64 (by omega)
theorem wl3 : IntKind.wrap .i64 3 = 3 := Gz.wrap64 (by omega)
theorem wl4 : IntKind.wrap .i64 4 = 4 := Gz.wrap64 (by omega)
theorem wl5 : IntKind.wrap .i64 5 = 5 := Gz.wrap64 (by omega)
theorem wl6 : IntKind.wrap .i64 6 = 6 := Gz.wrap64 (by omega)
theorem event_ok (s : List UInt8) (hs : s.length ≤ 100000000) (hp : ∀ p ∈ pieces s [32], p.length ≤ 100000000) : Tri Tryd.prog 23 [.str s] [] fun x _ => x.pure = true ∧ x = evR s := by
  refine Tri.of_s c23 U23_sound ?_
  simp only [U23_app, Z23, base1, baseX, baseY, ↓reduceIte, Nat.reduceAdd, Nat.reduceSub, Nat.reduceMul, Nat.reduceEqDiff, Nat.reduceLeDiff, Nat.reduceLT, Int.reduceLT, Int.reduceLE, Int.reduceEq, Int.reduceNe, Int.reduceToNat, Int.reduceAdd, Int.reduceSub, reduceCtorEq, Nat.reduceBEq, Nat.reduceBNe]
  refine ⟨s, rfl, by omega, ?_⟩
  unfold evR
  generalize hL : pieces s [32] = L at hp
  by_cases h6 : L.length = 6
  · obtain ⟨a, b, c, d, e, f, rfl⟩ : ∃ a b c d e f, L = [a, b, c, d, e, f] := by
      match L, h6 with
      | [a, b, c, d, e, f], _ => exact ⟨a, b, c, d, e, f, rfl⟩
    simp only [U23_app, Z23, base1, baseX, baseY, ↓reduceIte, Nat.reduceAdd, Nat.reduceSub, Nat.reduceMul, Nat.reduceEqDiff, Nat.reduceLeDiff, Nat.reduceLT, Int.reduceLT, Int.reduceLE, Int.reduceEq, Int.reduceNe, Int.reduceToNat, Int.reduceAdd, Int.reduceSub, reduceCtorEq, Nat.reduceBEq, Nat.reduceBNe, lenOf_imm, lenOf_sl, List.map_cons, List.map_nil, List.length_cons, List.length_nil]
    refine ⟨a, rfl, ?_⟩
    cases h0 : decide (0 < doS a) with
    | false =>
      simp only [U23_app, Z23, base1, baseX, baseY, ↓reduceIte, Nat.reduceAdd, Nat.reduceSub, Nat.reduceMul, Nat.reduceEqDiff, Nat.reduceLeDiff, Nat.reduceLT, Int.reduceLT, Int.reduceLE, Int.reduceEq, Int.reduceNe, Int.reduceToNat, Int.reduceAdd, Int.reduceSub, reduceCtorEq, Nat.reduceBEq, Nat.reduceBNe, lenOf_imm, lenOf_sl, List.map_cons, List.map_nil, List.length_cons, List.length_nil, unw_lp_succ, wl0, wl1, wl2, wl3, wl4, wl5, wl6, numR, unR, h0]
      refine sC_unroll U23_mono (n := 2) ?_
      simp only [U23_app, Z23, base1, baseX, baseY, ↓reduceIte, Nat.reduceAdd, Nat.reduceSub, Nat.reduceMul, Nat.reduceEqDiff, Nat.reduceLeDiff, Nat.reduceLT, Int.reduceLT, Int.reduceLE, Int.reduceEq, Int.reduceNe, Int.reduceToNat, Int.reduceAdd, Int.reduceSub, reduceCtorEq, Nat.reduceBEq, Nat.reduceBNe, lenOf_imm, lenOf_sl, List.map_cons, List.map_nil, List.length_cons, List.length_nil, unw_lp_succ, wl0, wl1, wl2, wl3, wl4, wl5, wl6, numR, unR, h0]
      refine ⟨b, rfl, ?_⟩
      simp only [U23_app, Z23, base1, baseX, baseY, ↓reduceIte, Nat.reduceAdd, Nat.reduceSub, Nat.reduceMul, Nat.reduceEqDiff, Nat.reduceLeDiff, Nat.reduceLT, Int.reduceLT, Int.reduceLE, Int.reduceEq, Int.reduceNe, Int.reduceToNat, Int.reduceAdd, Int.reduceSub, reduceCtorEq, Nat.reduceBEq, Nat.reduceBNe, lenOf_imm, lenOf_sl, List.map_cons, List.map_nil, List.length_cons, List.length_nil, unw_lp_succ, wl0, wl1, wl2, wl3, wl4, wl5, wl6, numR, unR, h0]
      refine ⟨c, rfl, ?_⟩
      simp only [U23_app, Z23, base1, baseX, baseY, ↓reduceIte, Nat.reduceAdd, Nat.reduceSub, Nat.reduceMul, Nat.reduceEqDiff, Nat.reduceLeDiff, Nat.reduceLT, Int.reduceLT, Int.reduceLE, Int.reduceEq, Int.reduceNe, Int.reduceToNat, Int.reduceAdd, Int.reduceSub, reduceCtorEq, Nat.reduceBEq, Nat.reduceBNe, lenOf_imm, lenOf_sl, List.map_cons, List.map_nil, List.length_cons, List.length_nil, unw_lp_succ, wl0, wl1, wl2, wl3, wl4, wl5, wl6, numR, unR, h0]
      refine sC_unroll U23_mono (n := 3) ?_
      simp only [U23_app, Z23, base1, baseX, baseY, ↓reduceIte, Nat.reduceAdd, Nat.reduceSub, Nat.reduceMul, Nat.reduceEqDiff, Nat.reduceLeDiff, Nat.reduceLT, Int.reduceLT, Int.reduceLE, Int.reduceEq, Int.reduceNe, Int.reduceToNat, Int.reduceAdd, Int.reduceSub, reduceCtorEq, Nat.reduceBEq, Nat.reduceBNe, lenOf_imm, lenOf_sl, List.map_cons, List.map_nil, List.length_cons, List.length_nil, unw_lp_succ, wl0, wl1, wl2, wl3, wl4, wl5, wl6, numR, unR, h0]
      refine ⟨d, rfl, hp d (by simp), ?_⟩
      simp only [U23_app, Z23, base1, baseX, baseY, ↓reduceIte, Nat.reduceAdd, Nat.reduceSub, Nat.reduceMul, Nat.reduceEqDiff, Nat.reduceLeDiff, Nat.reduceLT, Int.reduceLT, Int.reduceLE, Int.reduceEq, Int.reduceNe, Int.reduceToNat, Int.reduceAdd, Int.reduceSub, reduceCtorEq, Nat.reduceBEq, Nat.reduceBNe, lenOf_imm, lenOf_sl, List.map_cons, List.map_nil, List.length_cons, List.length_nil, unw_lp_succ, wl0, wl1, wl2, wl3, wl4, wl5, wl6, numR, unR, h0]
      refine ⟨e, rfl, hp e (by simp), ?_⟩
      simp only [U23_app, Z23, base1, baseX, baseY, ↓reduceIte, Nat.reduceAdd, Nat.reduceSub, Nat.reduceMul, Nat.reduceEqDiff, Nat.reduceLeDiff, Nat.reduceLT, Int.reduceLT, Int.reduceLE, Int.reduceEq, Int.reduceNe, Int.reduceToNat, Int.reduceAdd, Int.reduceSub, reduceCtorEq, Nat.reduceBEq, Nat.reduceBNe, lenOf_imm, lenOf_sl, List.map_cons, List.map_nil, List.length_cons, List.length_nil, unw_lp_succ, wl0, wl1, wl2, wl3, wl4, wl5, wl6, numR, unR, h0]
      refine ⟨f, rfl, hp f (by simp), ?_⟩
      simp only [U23_app, Z23, base1, baseX, baseY, ↓reduceIte, Nat.reduceAdd, Nat.reduceSub, Nat.reduceMul, Nat.reduceEqDiff, Nat.reduceLeDiff, Nat.reduceLT, Int.reduceLT, Int.reduceLE, Int.reduceEq, Int.reduceNe, Int.reduceToNat, Int.reduceAdd, Int.reduceSub, reduceCtorEq, Nat.reduceBEq, Nat.reduceBNe, lenOf_imm, lenOf_sl, List.map_cons, List.map_nil, List.length_cons, List.length_nil, unw_lp_succ, wl0, wl1, wl2, wl3, wl4, wl5, wl6, numR, unR, h0]
      refine ⟨rfl, ?_⟩
      simp only [evL, Ev.cells, h0, Bool.true_and, Bool.false_and, Bool.and_false, Bool.and_true]
    | true =>
      cases h1 : (numS b).2 with
      | false =>
        simp only [U23_app, Z23, base1, baseX, baseY, ↓reduceIte, Nat.reduceAdd, Nat.reduceSub, Nat.reduceMul, Nat.reduceEqDiff, Nat.reduceLeDiff, Nat.reduceLT, Int.reduceLT, Int.reduceLE, Int.reduceEq, Int.reduceNe, Int.reduceToNat, Int.reduceAdd, Int.reduceSub, reduceCtorEq, Nat.reduceBEq, Nat.reduceBNe, lenOf_imm, lenOf_sl, List.map_cons, List.map_nil, List.length_cons, List.length_nil, unw_lp_succ, wl0, wl1, wl2, wl3, wl4, wl5, wl6, numR, unR, h0, h1]
        refine sC_unroll U23_mono (n := 2) ?_
        simp only [U23_app, Z23, base1, baseX, baseY, ↓reduceIte, Nat.reduceAdd, Nat.reduceSub, Nat.reduceMul, Nat.reduceEqDiff, Nat.reduceLeDiff, Nat.reduceLT, Int.reduceLT, Int.reduceLE, Int.reduceEq, Int.reduceNe, Int.reduceToNat, Int.reduceAdd, Int.reduceSub, reduceCtorEq, Nat.reduceBEq, Nat.reduceBNe, lenOf_imm, lenOf_sl, List.map_cons, List.map_nil, List.length_cons, List.length_nil, unw_lp_succ, wl0, wl1, wl2, wl3, wl4, wl5, wl6, numR, unR, h0, h1]
        refine ⟨b, rfl, ?_⟩
        simp only [U23_app, Z23, base1, baseX, baseY, ↓reduceIte, Nat.reduceAdd, Nat.reduceSub, Nat.reduceMul, Nat.reduceEqDiff, Nat.reduceLeDiff, Nat.reduceLT, Int.reduceLT, Int.reduceLE, Int.reduceEq, Int.reduceNe, Int.reduceToNat, Int.reduceAdd, Int.reduceSub, reduceCtorEq, Nat.reduceBEq, Nat.reduceBNe, lenOf_imm, lenOf_sl, List.map_cons, List.map_nil, List.length_cons, List.length_nil, unw_lp_succ, wl0, wl1, wl2, wl3, wl4, wl5, wl6, numR, unR, h0, h1]
        refine ⟨c, rfl, ?_⟩
        simp only [U23_app, Z23, base1, baseX, baseY, ↓reduceIte, Nat.reduceAdd, Nat.reduceSub, Nat.reduceMul, Nat.reduceEqDiff, Nat.reduceLeDiff, Nat.reduceLT, Int.reduceLT, Int.reduceLE, Int.reduceEq, Int.reduceNe, Int.reduceToNat, Int.reduceAdd, Int.reduceSub, reduceCtorEq, Nat.reduceBEq, Nat.reduceBNe, lenOf_imm, lenOf_sl, List.map_cons, List.map_nil, List.length_cons, List.length_nil, unw_lp_succ, wl0, wl1, wl2, wl3, wl4, wl5, wl6, numR, unR, h0, h1]
        refine sC_unroll U23_mono (n := 3) ?_
        simp only [U23_app, Z23, base1, baseX, baseY, ↓reduceIte, Nat.reduceAdd, Nat.reduceSub, Nat.reduceMul, Nat.reduceEqDiff, Nat.reduceLeDiff, Nat.reduceLT, Int.reduceLT, Int.reduceLE, Int.reduceEq, Int.reduceNe, Int.reduceToNat, Int.reduceAdd, Int.reduceSub, reduceCtorEq, Nat.reduceBEq, Nat.reduceBNe, lenOf_imm, lenOf_sl, List.map_cons, List.map_nil, List.length_cons, List.length_nil, unw_lp_succ, wl0, wl1, wl2, wl3, wl4, wl5, wl6, numR, unR, h0, h1]
        refine ⟨d, rfl, hp d (by simp), ?_⟩
        simp only [U23_app, Z23, base1, baseX, baseY, ↓reduceIte, Nat.reduceAdd, Nat.reduceSub, Nat.reduceMul, Nat.reduceEqDiff, Nat.reduceLeDiff, Nat.reduceLT, Int.reduceLT, Int.reduceLE, Int.reduceEq, Int.reduceNe, Int.reduceToNat, Int.reduceAdd, Int.reduceSub, reduceCtorEq, Nat.reduceBEq, Nat.reduceBNe, lenOf_imm, lenOf_sl, List.map_cons, List.map_nil, List.length_cons, List.length_nil, unw_lp_succ, wl0, wl1, wl2, wl3, wl4, wl5, wl6, numR, unR, h0, h1]
        refine ⟨e, rfl, hp e (by simp), ?_⟩
        simp only [U23_app, Z23, base1, baseX, baseY, ↓reduceIte, Nat.reduceAdd, Nat.reduceSub, Nat.reduceMul, Nat.reduceEqDiff, Nat.reduceLeDiff, Nat.reduceLT, Int.reduceLT, Int.reduceLE, Int.reduceEq, Int.reduceNe, Int.reduceToNat, Int.reduceAdd, Int.reduceSub, reduceCtorEq, Nat.reduceBEq, Nat.reduceBNe, lenOf_imm, lenOf_sl, List.map_cons, List.map_nil, List.length_cons, List.length_nil, unw_lp_succ, wl0, wl1, wl2, wl3, wl4, wl5, wl6, numR, unR, h0, h1]
        refine ⟨f, rfl, hp f (by simp), ?_⟩
        simp only [U23_app, Z23, base1, baseX, baseY, ↓reduceIte, Nat.reduceAdd, Nat.reduceSub, Nat.reduceMul, Nat.reduceEqDiff, Nat.reduceLeDiff, Nat.reduceLT, Int.reduceLT, Int.reduceLE, Int.reduceEq, Int.reduceNe, Int.reduceToNat, Int.reduceAdd, Int.reduceSub, reduceCtorEq, Nat.reduceBEq, Nat.reduceBNe, lenOf_imm, lenOf_sl, List.map_cons, List.map_nil, List.length_cons, List.length_nil, unw_lp_succ, wl0, wl1, wl2, wl3, wl4, wl5, wl6, numR, unR, h0, h1]
        refine ⟨rfl, ?_⟩
        simp only [evL, Ev.cells, h0, h1, Bool.true_and, Bool.false_and, Bool.and_false, Bool.and_true]
      | true =>
        cases h2 : (numS c).2 with
        | false =>
          simp only [U23_app, Z23, base1, baseX, baseY, ↓reduceIte, Nat.reduceAdd, Nat.reduceSub, Nat.reduceMul, Nat.reduceEqDiff, Nat.reduceLeDiff, Nat.reduceLT, Int.reduceLT, Int.reduceLE, Int.reduceEq, Int.reduceNe, Int.reduceToNat, Int.reduceAdd, Int.reduceSub, reduceCtorEq, Nat.reduceBEq, Nat.reduceBNe, lenOf_imm, lenOf_sl, List.map_cons, List.map_nil, List.length_cons, List.length_nil, unw_lp_succ, wl0, wl1, wl2, wl3, wl4, wl5, wl6, numR, unR, h0, h1, h2]
          refine sC_unroll U23_mono (n := 2) ?_
          simp only [U23_app, Z23, base1, baseX, baseY, ↓reduceIte, Nat.reduceAdd, Nat.reduceSub, Nat.reduceMul, Nat.reduceEqDiff, Nat.reduceLeDiff, Nat.reduceLT, Int.reduceLT, Int.reduceLE, Int.reduceEq, Int.reduceNe, Int.reduceToNat, Int.reduceAdd, Int.reduceSub, reduceCtorEq, Nat.reduceBEq, Nat.reduceBNe, lenOf_imm, lenOf_sl, List.map_cons, List.map_nil, List.length_cons, List.length_nil, unw_lp_succ, wl0, wl1, wl2, wl3, wl4, wl5, wl6, numR, unR, h0, h1, h2]
          refine ⟨b, rfl, ?_⟩
          simp only [U23_app, Z23, base1, baseX, baseY, ↓reduceIte, Nat.reduceAdd, Nat.reduceSub, Nat.reduceMul, Nat.reduceEqDiff, Nat.reduceLeDiff, Nat.reduceLT, Int.reduceLT, Int.reduceLE, Int.reduceEq, Int.reduceNe, Int.reduceToNat, Int.reduceAdd, Int.reduceSub, reduceCtorEq, Nat.reduceBEq, Nat.reduceBNe, lenOf_imm, lenOf_sl, List.map_cons, List.map_nil, List.length_cons, List.length_nil, unw_lp_succ, wl0, wl1, wl2, wl3, wl4, wl5, wl6, numR, unR, h0, h1, h2]
          refine ⟨c, rfl, ?_⟩
          simp only [U23_app, Z23, base1, baseX, baseY, ↓reduceIte, Nat.reduceAdd, Nat.reduceSub, Nat.reduceMul, Nat.reduceEqDiff, Nat.reduceLeDiff, Nat.reduceLT, Int.reduceLT, Int.reduceLE, Int.reduceEq, Int.reduceNe, Int.reduceToNat, Int.reduceAdd, Int.reduceSub, reduceCtorEq, Nat.reduceBEq, Nat.reduceBNe, lenOf_imm, lenOf_sl, List.map_cons, List.map_nil, List.length_cons, List.length_nil, unw_lp_succ, wl0, wl1, wl2, wl3, wl4, wl5, wl6, numR, unR, h0, h1, h2]
          refine sC_unroll U23_mono (n := 3) ?_
          simp only [U23_app, Z23, base1, baseX, baseY, ↓reduceIte, Nat.reduceAdd, Nat.reduceSub, Nat.reduceMul, Nat.reduceEqDiff, Nat.reduceLeDiff, Nat.reduceLT, Int.reduceLT, Int.reduceLE, Int.reduceEq, Int.reduceNe, Int.reduceToNat, Int.reduceAdd, Int.reduceSub, reduceCtorEq, Nat.reduceBEq, Nat.reduceBNe, lenOf_imm, lenOf_sl, List.map_cons, List.map_nil, List.length_cons, List.length_nil, unw_lp_succ, wl0, wl1, wl2, wl3, wl4, wl5, wl6, numR, unR, h0, h1, h2]
          refine ⟨d, rfl, hp d (by simp), ?_⟩
          simp only [U23_app, Z23, base1, baseX, baseY, ↓reduceIte, Nat.reduceAdd, Nat.reduceSub, Nat.reduceMul, Nat.reduceEqDiff, Nat.reduceLeDiff, Nat.reduceLT, Int.reduceLT, Int.reduceLE, Int.reduceEq, Int.reduceNe, Int.reduceToNat, Int.reduceAdd, Int.reduceSub, reduceCtorEq, Nat.reduceBEq, Nat.reduceBNe, lenOf_imm, lenOf_sl, List.map_cons, List.map_nil, List.length_cons, List.length_nil, unw_lp_succ, wl0, wl1, wl2, wl3, wl4, wl5, wl6, numR, unR, h0, h1, h2]
          refine ⟨e, rfl, hp e (by simp), ?_⟩
          simp only [U23_app, Z23, base1, baseX, baseY, ↓reduceIte, Nat.reduceAdd, Nat.reduceSub, Nat.reduceMul, Nat.reduceEqDiff, Nat.reduceLeDiff, Nat.reduceLT, Int.reduceLT, Int.reduceLE, Int.reduceEq, Int.reduceNe, Int.reduceToNat, Int.reduceAdd, Int.reduceSub, reduceCtorEq, Nat.reduceBEq, Nat.reduceBNe, lenOf_imm, lenOf_sl, List.map_cons, List.map_nil, List.length_cons, List.length_nil, unw_lp_succ, wl0, wl1, wl2, wl3, wl4, wl5, wl6, numR, unR, h0, h1, h2]
          refine ⟨f, rfl, hp f (by simp), ?_⟩
          simp only [U23_app, Z23, base1, baseX, baseY, ↓reduceIte, Nat.reduceAdd, Nat.reduceSub, Nat.reduceMul, Nat.reduceEqDiff, Nat.reduceLeDiff, Nat.reduceLT, Int.reduceLT, Int.reduceLE, Int.reduceEq, Int.reduceNe, Int.reduceToNat, Int.reduceAdd, Int.reduceSub, reduceCtorEq, Nat.reduceBEq, Nat.reduceBNe, lenOf_imm, lenOf_sl, List.map_cons, List.map_nil, List.length_cons, List.length_nil, unw_lp_succ, wl0, wl1, wl2, wl3, wl4, wl5, wl6, numR, unR, h0, h1, h2]
          refine ⟨rfl, ?_⟩
          simp only [evL, Ev.cells, h0, h1, h2, Bool.true_and, Bool.false_and, Bool.and_false, Bool.and_true]
        | true =>
          cases h3 : (unS d).2 with
          | false =>
            simp only [U23_app, Z23, base1, baseX, baseY, ↓reduceIte, Nat.reduceAdd, Nat.reduceSub, Nat.reduceMul, Nat.reduceEqDiff, Nat.reduceLeDiff, Nat.reduceLT, Int.reduceLT, Int.reduceLE, Int.reduceEq, Int.reduceNe, Int.reduceToNat, Int.reduceAdd, Int.reduceSub, reduceCtorEq, Nat.reduceBEq, Nat.reduceBNe, lenOf_imm, lenOf_sl, List.map_cons, List.map_nil, List.length_cons, List.length_nil, unw_lp_succ, wl0, wl1, wl2, wl3, wl4, wl5, wl6, numR, unR, h0, h1, h2, h3]
            refine sC_unroll U23_mono (n := 2) ?_
            simp only [U23_app, Z23, base1, baseX, baseY, ↓reduceIte, Nat.reduceAdd, Nat.reduceSub, Nat.reduceMul, Nat.reduceEqDiff, Nat.reduceLeDiff, Nat.reduceLT, Int.reduceLT, Int.reduceLE, Int.reduceEq, Int.reduceNe, Int.reduceToNat, Int.reduceAdd, Int.reduceSub, reduceCtorEq, Nat.reduceBEq, Nat.reduceBNe, lenOf_imm, lenOf_sl, List.map_cons, List.map_nil, List.length_cons, List.length_nil, unw_lp_succ, wl0, wl1, wl2, wl3, wl4, wl5, wl6, numR, unR, h0, h1, h2, h3]
            refine ⟨b, rfl, ?_⟩
            simp only [U23_app, Z23, base1, baseX, baseY, ↓reduceIte, Nat.reduceAdd, Nat.reduceSub, Nat.reduceMul, Nat.reduceEqDiff, Nat.reduceLeDiff, Nat.reduceLT, Int.reduceLT, Int.reduceLE, Int.reduceEq, Int.reduceNe, Int.reduceToNat, Int.reduceAdd, Int.reduceSub, reduceCtorEq, Nat.reduceBEq, Nat.reduceBNe, lenOf_imm, lenOf_sl, List.map_cons, List.map_nil, List.length_cons, List.length_nil, unw_lp_succ, wl0, wl1, wl2, wl3, wl4, wl5, wl6, numR, unR, h0, h1, h2, h3]
            refine ⟨c, rfl, ?_⟩
            simp only [U23_app, Z23, base1, baseX, baseY, ↓reduceIte, Nat.reduceAdd, Nat.reduceSub, Nat.reduceMul, Nat.reduceEqDiff, Nat.reduceLeDiff, Nat.reduceLT, Int.reduceLT, Int.reduceLE, Int.reduceEq, Int.reduceNe, Int.reduceToNat, Int.reduceAdd, Int.reduceSub, reduceCtorEq, Nat.reduceBEq, Nat.reduceBNe, lenOf_imm, lenOf_sl, List.map_cons, List.map_nil, List.length_cons, List.length_nil, unw_lp_succ, wl0, wl1, wl2, wl3, wl4, wl5, wl6, numR, unR, h0, h1, h2, h3]
            refine sC_unroll U23_mono (n := 3) ?_
            simp only [U23_app, Z23, base1, baseX, baseY, ↓reduceIte, Nat.reduceAdd, Nat.reduceSub, Nat.reduceMul, Nat.reduceEqDiff, Nat.reduceLeDiff, Nat.reduceLT, Int.reduceLT, Int.reduceLE, Int.reduceEq, Int.reduceNe, Int.reduceToNat, Int.reduceAdd, Int.reduceSub, reduceCtorEq, Nat.reduceBEq, Nat.reduceBNe, lenOf_imm, lenOf_sl, List.map_cons, List.map_nil, List.length_cons, List.length_nil, unw_lp_succ, wl0, wl1, wl2, wl3, wl4, wl5, wl6, numR, unR, h0, h1, h2, h3]
            refine ⟨d, rfl, hp d (by simp), ?_⟩
            simp only [U23_app, Z23, base1, baseX, baseY, ↓reduceIte, Nat.reduceAdd, Nat.reduceSub, Nat.reduceMul, Nat.reduceEqDiff, Nat.reduceLeDiff, Nat.reduceLT, Int.reduceLT, Int.reduceLE, Int.reduceEq, Int.reduceNe, Int.reduceToNat, Int.reduceAdd, Int.reduceSub, reduceCtorEq, Nat.reduceBEq, Nat.reduceBNe, lenOf_imm, lenOf_sl, List.map_cons, List.map_nil, List.length_cons, List.length_nil, unw_lp_succ, wl0, wl1, wl2, wl3, wl4, wl5, wl6, numR, unR, h0, h1, h2, h3]
            refine ⟨e, rfl, hp e (by simp), ?_⟩
            simp only [U23_app, Z23, base1, baseX, baseY, ↓reduceIte, Nat.reduceAdd, Nat.reduceSub, Nat.reduceMul, Nat.reduceEqDiff, Nat.reduceLeDiff, Nat.reduceLT, Int.reduceLT, Int.reduceLE, Int.reduceEq, Int.reduceNe, Int.reduceToNat, Int.reduceAdd, Int.reduceSub, reduceCtorEq, Nat.reduceBEq, Nat.reduceBNe, lenOf_imm, lenOf_sl, List.map_cons, List.map_nil, List.length_cons, List.length_nil, unw_lp_succ, wl0, wl1, wl2, wl3, wl4, wl5, wl6, numR, unR, h0, h1, h2, h3]
            refine ⟨f, rfl, hp f (by simp), ?_⟩
            simp only [U23_app, Z23, base1, baseX, baseY, ↓reduceIte, Nat.reduceAdd, Nat.reduceSub, Nat.reduceMul, Nat.reduceEqDiff, Nat.reduceLeDiff, Nat.reduceLT, Int.reduceLT, Int.reduceLE, Int.reduceEq, Int.reduceNe, Int.reduceToNat, Int.reduceAdd, Int.reduceSub, reduceCtorEq, Nat.reduceBEq, Nat.reduceBNe, lenOf_imm, lenOf_sl, List.map_cons, List.map_nil, List.length_cons, List.length_nil, unw_lp_succ, wl0, wl1, wl2, wl3, wl4, wl5, wl6, numR, unR, h0, h1, h2, h3]
            refine ⟨rfl, ?_⟩
            simp only [evL, Ev.cells, h0, h1, h2, h3, Bool.true_and, Bool.false_and, Bool.and_false, Bool.and_true]
          | true =>
            cases h4 : (unS e).2 with
            | false =>
              simp only [U23_app, Z23, base1, baseX, baseY, ↓reduceIte, Nat.reduceAdd, Nat.reduceSub, Nat.reduceMul, Nat.reduceEqDiff, Nat.reduceLeDiff, Nat.reduceLT, Int.reduceLT, Int.reduceLE, Int.reduceEq, Int.reduceNe, Int.reduceToNat, Int.reduceAdd, Int.reduceSub, reduceCtorEq, Nat.reduceBEq, Nat.reduceBNe, lenOf_imm, lenOf_sl, List.map_cons, List.map_nil, List.length_cons, List.length_nil, unw_lp_succ, wl0, wl1, wl2, wl3, wl4, wl5, wl6, numR, unR, h0, h1, h2, h3, h4]
              refine sC_unroll U23_mono (n := 2) ?_
              simp only [U23_app, Z23, base1, baseX, baseY, ↓reduceIte, Nat.reduceAdd, Nat.reduceSub, Nat.reduceMul, Nat.reduceEqDiff, Nat.reduceLeDiff, Nat.reduceLT, Int.reduceLT, Int.reduceLE, Int.reduceEq, Int.reduceNe, Int.reduceToNat, Int.reduceAdd, Int.reduceSub, reduceCtorEq, Nat.reduceBEq, Nat.reduceBNe, lenOf_imm, lenOf_sl, List.map_cons, List.map_nil, List.length_cons, List.length_nil, unw_lp_succ, wl0, wl1, wl2, wl3, wl4, wl5, wl6, numR, unR, h0, h1, h2, h3, h4]
              refine ⟨b, rfl, ?_⟩
              simp only [U23_app, Z23, base1, baseX, baseY, ↓reduceIte, Nat.reduceAdd, Nat.reduceSub, Nat.reduceMul, Nat.reduceEqDiff, Nat.reduceLeDiff, Nat.reduceLT, Int.reduceLT, Int.reduceLE, Int.reduceEq, Int.reduceNe, Int.reduceToNat, Int.reduceAdd, Int.reduceSub, reduceCtorEq, Nat.reduceBEq, Nat.reduceBNe, lenOf_imm, lenOf_sl, List.map_cons, List.map_nil, List.length_cons, List.length_nil, unw_lp_succ, wl0, wl1, wl2, wl3, wl4, wl5, wl6, numR, unR, h0, h1, h2, h3, h4]
              refine ⟨c, rfl, ?_⟩
              simp only [U23_app, Z23, base1, baseX, baseY, ↓reduceIte, Nat.reduceAdd, Nat.reduceSub, Nat.reduceMul, Nat.reduceEqDiff, Nat.reduceLeDiff, Nat.reduceLT, Int.reduceLT, Int.reduceLE, Int.reduceEq, Int.reduceNe, Int.reduceToNat, Int.reduceAdd, Int.reduceSub, reduceCtorEq, Nat.reduceBEq, Nat.reduceBNe, lenOf_imm, lenOf_sl, List.map_cons, List.map_nil, List.length_cons, List.length_nil, unw_lp_succ, wl0, wl1, wl2, wl3, wl4, wl5, wl6, numR, unR, h0, h1, h2, h3, h4]
              refine sC_unroll U23_mono (n := 3) ?_
              simp only [U23_app, Z23, base1, baseX, baseY, ↓reduceIte, Nat.reduceAdd, Nat.reduceSub, Nat.reduceMul, Nat.reduceEqDiff, Nat.reduceLeDiff, Nat.reduceLT, Int.reduceLT, Int.reduceLE, Int.reduceEq, Int.reduceNe, Int.reduceToNat, Int.reduceAdd, Int.reduceSub, reduceCtorEq, Nat.reduceBEq, Nat.reduceBNe, lenOf_imm, lenOf_sl, List.map_cons, List.map_nil, List.length_cons, List.length_nil, unw_lp_succ, wl0, wl1, wl2, wl3, wl4, wl5, wl6, numR, unR, h0, h1, h2, h3, h4]
              refine ⟨d, rfl, hp d (by simp), ?_⟩
              simp only [U23_app, Z23, base1, baseX, baseY, ↓reduceIte, Nat.reduceAdd, Nat.reduceSub, Nat.reduceMul, Nat.reduceEqDiff, Nat.reduceLeDiff, Nat.reduceLT, Int.reduceLT, Int.reduceLE, Int.reduceEq, Int.reduceNe, Int.reduceToNat, Int.reduceAdd, Int.reduceSub, reduceCtorEq, Nat.reduceBEq, Nat.reduceBNe, lenOf_imm, lenOf_sl, List.map_cons, List.map_nil, List.length_cons, List.length_nil, unw_lp_succ, wl0, wl1, wl2, wl3, wl4, wl5, wl6, numR, unR, h0, h1, h2, h3, h4]
              refine ⟨e, rfl, hp e (by simp), ?_⟩
              simp only [U23_app, Z23, base1, baseX, baseY, ↓reduceIte, Nat.reduceAdd, Nat.reduceSub, Nat.reduceMul, Nat.reduceEqDiff, Nat.reduceLeDiff, Nat.reduceLT, Int.reduceLT, Int.reduceLE, Int.reduceEq, Int.reduceNe, Int.reduceToNat, Int.reduceAdd, Int.reduceSub, reduceCtorEq, Nat.reduceBEq, Nat.reduceBNe, lenOf_imm, lenOf_sl, List.map_cons, List.map_nil, List.length_cons, List.length_nil, unw_lp_succ, wl0, wl1, wl2, wl3, wl4, wl5, wl6, numR, unR, h0, h1, h2, h3, h4]
              refine ⟨f, rfl, hp f (by simp), ?_⟩
              simp only [U23_app, Z23, base1, baseX, baseY, ↓reduceIte, Nat.reduceAdd, Nat.reduceSub, Nat.reduceMul, Nat.reduceEqDiff, Nat.reduceLeDiff, Nat.reduceLT, Int.reduceLT, Int.reduceLE, Int.reduceEq, Int.reduceNe, Int.reduceToNat, Int.reduceAdd, Int.reduceSub, reduceCtorEq, Nat.reduceBEq, Nat.reduceBNe, lenOf_imm, lenOf_sl, List.map_cons, List.map_nil, List.length_cons, List.length_nil, unw_lp_succ, wl0, wl1, wl2, wl3, wl4, wl5, wl6, numR, unR, h0, h1, h2, h3, h4]
              refine ⟨rfl, ?_⟩
              simp only [evL, Ev.cells, h0, h1, h2, h3, h4, Bool.true_and, Bool.false_and, Bool.and_false, Bool.and_true]
            | true =>
              cases h5 : (unS f).2 with
              | false =>
                simp only [U23_app, Z23, base1, baseX, baseY, ↓reduceIte, Nat.reduceAdd, Nat.reduceSub, Nat.reduceMul, Nat.reduceEqDiff, Nat.reduceLeDiff, Nat.reduceLT, Int.reduceLT, Int.reduceLE, Int.reduceEq, Int.reduceNe, Int.reduceToNat, Int.reduceAdd, Int.reduceSub, reduceCtorEq, Nat.reduceBEq, Nat.reduceBNe, lenOf_imm, lenOf_sl, List.map_cons, List.map_nil, List.length_cons, List.length_nil, unw_lp_succ, wl0, wl1, wl2, wl3, wl4, wl5, wl6, numR, unR, h0, h1, h2, h3, h4, h5]
                refine sC_unroll U23_mono (n := 2) ?_
                simp only [U23_app, Z23, base1, baseX, baseY, ↓reduceIte, Nat.reduceAdd, Nat.reduceSub, Nat.reduceMul, Nat.reduceEqDiff, Nat.reduceLeDiff, Nat.reduceLT, Int.reduceLT, Int.reduceLE, Int.reduceEq, Int.reduceNe, Int.reduceToNat, Int.reduceAdd, Int.reduceSub, reduceCtorEq, Nat.reduceBEq, Nat.reduceBNe, lenOf_imm, lenOf_sl, List.map_cons, List.map_nil, List.length_cons, List.length_nil, unw_lp_succ, wl0, wl1, wl2, wl3, wl4, wl5, wl6, numR, unR, h0, h1, h2, h3, h4, h5]
                refine ⟨b, rfl, ?_⟩
                simp only [U23_app, Z23, base1, baseX, baseY, ↓reduceIte, Nat.reduceAdd, Nat.reduceSub, Nat.reduceMul, Nat.reduceEqDiff, Nat.reduceLeDiff, Nat.reduceLT, Int.reduceLT, Int.reduceLE, Int.reduceEq, Int.reduceNe, Int.reduceToNat, Int.reduceAdd, Int.reduceSub, reduceCtorEq, Nat.reduceBEq, Nat.reduceBNe, lenOf_imm, lenOf_sl, List.map_cons, List.map_nil, List.length_cons, List.length_nil, unw_lp_succ, wl0, wl1, wl2, wl3, wl4, wl5, wl6, numR, unR, h0, h1, h2, h3, h4, h5]
                refine ⟨c, rfl, ?_⟩
                simp only [U23_app, Z23, base1, baseX, baseY, ↓reduceIte, Nat.reduceAdd, Nat.reduceSub, Nat.reduceMul, Nat.reduceEqDiff, Nat.reduceLeDiff, Nat.reduceLT, Int.reduceLT, Int.reduceLE, Int.reduceEq, Int.reduceNe, Int.reduceToNat, Int.reduceAdd, Int.reduceSub, reduceCtorEq, Nat.reduceBEq, Nat.reduceBNe, lenOf_imm, lenOf_sl, List.map_cons, List.map_nil, List.length_cons, List.length_nil, unw_lp_succ, wl0, wl1, wl2, wl3, wl4, wl5, wl6, numR, unR, h0, h1, h2, h3, h4, h5]
                refine sC_unroll U23_mono (n := 3) ?_
                simp only [U23_app, Z23, base1, baseX, baseY, ↓reduceIte, Nat.reduceAdd, Nat.reduceSub, Nat.reduceMul, Nat.reduceEqDiff, Nat.reduceLeDiff, Nat.reduceLT, Int.reduceLT, Int.reduceLE, Int.reduceEq, Int.reduceNe, Int.reduceToNat, Int.reduceAdd, Int.reduceSub, reduceCtorEq, Nat.reduceBEq, Nat.reduceBNe, lenOf_imm, lenOf_sl, List.map_cons, List.map_nil, List.length_cons, List.length_nil, unw_lp_succ, wl0, wl1, wl2, wl3, wl4, wl5, wl6, numR, unR, h0, h1, h2, h3, h4, h5]
                refine ⟨d, rfl, hp d (by simp), ?_⟩
                simp only [U23_app, Z23, base1, baseX, baseY, ↓reduceIte, Nat.reduceAdd, Nat.reduceSub, Nat.reduceMul, Nat.reduceEqDiff, Nat.reduceLeDiff, Nat.reduceLT, Int.reduceLT, Int.reduceLE, Int.reduceEq, Int.reduceNe, Int.reduceToNat, Int.reduceAdd, Int.reduceSub, reduceCtorEq, Nat.reduceBEq, Nat.reduceBNe, lenOf_imm, lenOf_sl, List.map_cons, List.map_nil, List.length_cons, List.length_nil, unw_lp_succ, wl0, wl1, wl2, wl3, wl4, wl5, wl6, numR, unR, h0, h1, h2, h3, h4, h5]
                refine ⟨e, rfl, hp e (by simp), ?_⟩
                simp only [U23_app, Z23, base1, baseX, baseY, ↓reduceIte, Nat.reduceAdd, Nat.reduceSub, Nat.reduceMul, Nat.reduceEqDiff, Nat.reduceLeDiff, Nat.reduceLT, Int.reduceLT, Int.reduceLE, Int.reduceEq, Int.reduceNe, Int.reduceToNat, Int.reduceAdd, Int.reduceSub, reduceCtorEq, Nat.reduceBEq, Nat.reduceBNe, lenOf_imm, lenOf_sl, List.map_cons, List.map_nil, List.length_cons, List.length_nil, unw_lp_succ, wl0, wl1, wl2, wl3, wl4, wl5, wl6, numR, unR, h0, h1, h2, h3, h4, h5]
                refine ⟨f, rfl, hp f (by simp), ?_⟩
                simp only [U23_app, Z23, base1, baseX, baseY, ↓reduceIte, Nat.reduceAdd, Nat.reduceSub, Nat.reduceMul, Nat.reduceEqDiff, Nat.reduceLeDiff, Nat.reduceLT, Int.reduceLT, Int.reduceLE, Int.reduceEq, Int.reduceNe, Int.reduceToNat, Int.reduceAdd, Int.reduceSub, reduceCtorEq, Nat.reduceBEq, Nat.reduceBNe, lenOf_imm, lenOf_sl, List.map_cons, List.map_nil, List.length_cons, List.length_nil, unw_lp_succ, wl0, wl1, wl2, wl3, wl4, wl5, wl6, numR, unR, h0, h1, h2, h3, h4, h5]
                refine ⟨rfl, ?_⟩
                simp only [evL, Ev.cells, h0, h1, h2, h3, h4, h5, Bool.true_and, Bool.false_and, Bool.and_false, Bool.and_true]
              | true =>
                simp only [U23_app, Z23, base1, baseX, baseY, ↓reduceIte, Nat.reduceAdd, Nat.reduceSub, Nat.reduceMul, Nat.reduceEqDiff, Nat.reduceLeDiff, Nat.reduceLT, Int.reduceLT, Int.reduceLE, Int.reduceEq, Int.reduceNe, Int.reduceToNat, Int.reduceAdd, Int.reduceSub, reduceCtorEq, Nat.reduceBEq, Nat.reduceBNe, lenOf_imm, lenOf_sl, List.map_cons, List.map_nil, List.length_cons, List.length_nil, unw_lp_succ, wl0, wl1, wl2, wl3, wl4, wl5, wl6, numR, unR, h0, h1, h2, h3, h4, h5]
                refine sC_unroll U23_mono (n := 2) ?_
                simp only [U23_app, Z23, base1, baseX, baseY, ↓reduceIte, Nat.reduceAdd, Nat.reduceSub, Nat.reduceMul, Nat.reduceEqDiff, Nat.reduceLeDiff, Nat.reduceLT, Int.reduceLT, Int.reduceLE, Int.reduceEq, Int.reduceNe, Int.reduceToNat, Int.reduceAdd, Int.reduceSub, reduceCtorEq, Nat.reduceBEq, Nat.reduceBNe, lenOf_imm, lenOf_sl, List.map_cons, List.map_nil, List.length_cons, List.length_nil, unw_lp_succ, wl0, wl1, wl2, wl3, wl4, wl5, wl6, numR, unR, h0, h1, h2, h3, h4, h5]
                refine ⟨b, rfl, ?_⟩
                simp only [U23_app, Z23, base1, baseX, baseY, ↓reduceIte, Nat.reduceAdd, Nat.reduceSub, Nat.reduceMul, Nat.reduceEqDiff, Nat.reduceLeDiff, Nat.reduceLT, Int.reduceLT, Int.reduceLE, Int.reduceEq, Int.reduceNe, Int.reduceToNat, Int.reduceAdd, Int.reduceSub, reduceCtorEq, Nat.reduceBEq, Nat.reduceBNe, lenOf_imm, lenOf_sl, List.map_cons, List.map_nil, List.length_cons, List.length_nil, unw_lp_succ, wl0, wl1, wl2, wl3, wl4, wl5, wl6, numR, unR, h0, h1, h2, h3, h4, h5]
                refine ⟨c, rfl, ?_⟩
                simp only [U23_app, Z23, base1, baseX, baseY, ↓reduceIte, Nat.reduceAdd, Nat.reduceSub, Nat.reduceMul, Nat.reduceEqDiff, Nat.reduceLeDiff, Nat.reduceLT, Int.reduceLT, Int.reduceLE, Int.reduceEq, Int.reduceNe, Int.reduceToNat, Int.reduceAdd, Int.reduceSub, reduceCtorEq, Nat.reduceBEq, Nat.reduceBNe, lenOf_imm, lenOf_sl, List.map_cons, List.map_nil, List.length_cons, List.length_nil, unw_lp_succ, wl0, wl1, wl2, wl3, wl4, wl5, wl6, numR, unR, h0, h1, h2, h3, h4, h5]
                refine sC_unroll U23_mono (n := 3) ?_
                simp only [U23_app, Z23, base1, baseX, baseY, ↓reduceIte, Nat.reduceAdd, Nat.reduceSub, Nat.reduceMul, Nat.reduceEqDiff, Nat.reduceLeDiff, Nat.reduceLT, Int.reduceLT, Int.reduceLE, Int.reduceEq, Int.reduceNe, Int.reduceToNat, Int.reduceAdd, Int.reduceSub, reduceCtorEq, Nat.reduceBEq, Nat.reduceBNe, lenOf_imm, lenOf_sl, List.map_cons, List.map_nil, List.length_cons, List.length_nil, unw_lp_succ, wl0, wl1, wl2, wl3, wl4, wl5, wl6, numR, unR, h0, h1, h2, h3, h4, h5]
                refine ⟨d, rfl, hp d (by simp), ?_⟩
                simp only [U23_app, Z23, base1, baseX, baseY, ↓reduceIte, Nat.reduceAdd, Nat.reduceSub, Nat.reduceMul, Nat.reduceEqDiff, Nat.reduceLeDiff, Nat.reduceLT, Int.reduceLT, Int.reduceLE, Int.reduceEq, Int.reduceNe, Int.reduceToNat, Int.reduceAdd, Int.reduceSub, reduceCtorEq, Nat.reduceBEq, Nat.reduceBNe, lenOf_imm, lenOf_sl, List.map_cons, List.map_nil, List.length_cons, List.length_nil, unw_lp_succ, wl0, wl1, wl2, wl3, wl4, wl5, wl6, numR, unR, h0, h1, h2, h3, h4, h5]
                refine ⟨e, rfl, hp e (by simp), ?_⟩
                simp only [U23_app, Z23, base1, baseX, baseY, ↓reduceIte, Nat.reduceAdd, Nat.reduceSub, Nat.reduceMul, Nat.reduceEqDiff, Nat.reduceLeDiff, Nat.reduceLT, Int.reduceLT, Int.reduceLE, Int.reduceEq, Int.reduceNe, Int.reduceToNat, Int.reduceAdd, Int.reduceSub, reduceCtorEq, Nat.reduceBEq, Nat.reduceBNe, lenOf_imm, lenOf_sl, List.map_cons, List.map_nil, List.length_cons, List.length_nil, unw_lp_succ, wl0, wl1, wl2, wl3, wl4, wl5, wl6, numR, unR, h0, h1, h2, h3, h4, h5]
                refine ⟨f, rfl, hp f (by simp), ?_⟩
                simp only [U23_app, Z23, base1, baseX, baseY, ↓reduceIte, Nat.reduceAdd, Nat.reduceSub, Nat.reduceMul, Nat.reduceEqDiff, Nat.reduceLeDiff, Nat.reduceLT, Int.reduceLT, Int.reduceLE, Int.reduceEq, Int.reduceNe, Int.reduceToNat, Int.reduceAdd, Int.reduceSub, reduceCtorEq, Nat.reduceBEq, Nat.reduceBNe, lenOf_imm, lenOf_sl, List.map_cons, List.map_nil, List.length_cons, List.length_nil, unw_lp_succ, wl0, wl1, wl2, wl3, wl4, wl5, wl6, numR, unR, h0, h1, h2, h3, h4, h5]
                refine ⟨rfl, ?_⟩
                simp only [evL, Ev.cells, h0, h1, h2, h3, h4, h5, Bool.true_and, Bool.false_and, Bool.and_false, Bool.and_true]
  · have h6' : ¬ (L.length : Int) = 6 := by omega
    have e1 : evL L = (ev0, false) := by
      unfold evL
      split
      · simp at h6
      · rfl
    rw [e1]
    simp only [U23_app, Z23, base1, baseX, baseY, ↓reduceIte, Nat.reduceAdd, Nat.reduceSub, Nat.reduceMul, Nat.reduceEqDiff, Nat.reduceLeDiff, Nat.reduceLT, Int.reduceLT, Int.reduceLE, Int.reduceEq, Int.reduceNe, Int.reduceToNat, Int.reduceAdd, Int.reduceSub, reduceCtorEq, Nat.reduceBEq, Nat.reduceBNe, lenOf_imm, List.length_map, h6', ne_eq]
    exact ⟨rfl, rfl⟩
end Go.Proofs.YtbamlhgjpggihaaDoor.tale

/- Split and Cut at one byte, in plain words. No condition. -/
set_option linter.unusedVariables false
set_option linter.unusedSimpArgs false
namespace Go.Proofs.YtbamlhgjpggihaaDoor.tale
open Go.Gz
theorem index_nil (c : UInt8) : Lib.index [] [c] = -1 := rfl
theorem index_eq (c : UInt8) (l : List UInt8) : Lib.index (c :: l) [c] = 0 := by rw [Lib.index]; simp [List.isPrefixOf]
theorem index_ne {b c : UInt8} (l : List UInt8) (h : b ≠ c) : Lib.index (b :: l) [c] = if Lib.index l [c] = -1 then -1 else Lib.index l [c] + 1 := by
  have hp : ([c] : List UInt8).isPrefixOf (b :: l) = false := by simp [List.isPrefixOf, Ne.symm h]
  rw [Lib.index, hp]; simp
def splitO (c : UInt8) : List UInt8 → List (List UInt8)
  | [] => [[]]
  | b :: r => if b = c then [] :: splitO c r else match splitO c r with
    | h :: t => (b :: h) :: t
    | [] => [[b]]
theorem splitO_ne (c : UInt8) : ∀ s : List UInt8, splitO c s ≠ []
  | [] => by simp [splitO]
  | b :: r => by
    unfold splitO
    split
    · simp
    · split <;> simp
theorem splitK_one (c : UInt8) : ∀ (s : List UInt8), Lib.splitK [c] 0 (s.count c) s = splitO c s
  | [] => rfl
  | b :: l => by
    have ih := splitK_one c l
    by_cases h : b = c
    · subst h
      rw [List.count_cons_self]
      simp only [Lib.splitK, index_eq, splitO, if_true]
      simpa using ih
    · rw [List.count_cons_of_ne (by simpa using h)]
      simp only [splitO, h, if_false]
      rw [← ih]
      cases hk : l.count c with
      | zero => rfl
      | succ k =>
        simp only [Lib.splitK, index_ne l h]
        by_cases hi : Lib.index l [c] = -1
        · simp [hi]
        · have := Lib.index_ge l [c]
          obtain ⟨j, hj⟩ : ∃ j : Nat, Lib.index l [c] = j := ⟨(Lib.index l [c]).toNat, by omega⟩
          have h1 : ¬ ((j : Int) = -1) := by omega
          have h2 : ¬ ((j : Int) + 1 = -1) := by omega
          have h3 : ((j : Int) + 1).toNat = j + 1 := by omega
          simp [hj, h1, h2, h3]
theorem pieces_one (s : List UInt8) (c : UInt8) : pieces s [c] = splitO c s := by
  unfold pieces
  rw [Lib.splitB_data]
  show Lib.splitK [c] 0 (Lib.count s [c]) s = _
  rw [Lib.count_one]; exact splitK_one c s
theorem splitO_len (c : UInt8) : ∀ (s : List UInt8), ∀ p ∈ splitO c s, p.length ≤ s.length
  | [], p, hp => by simp [splitO] at hp; subst hp; simp
  | b :: r, p, hp => by
    have ih := splitO_len c r
    unfold splitO at hp
    split at hp
    · rcases List.mem_cons.1 hp with rfl | hp
      · simp
      · have := ih p hp; simp; omega
    · split at hp
      · rename_i h t heq
        rw [heq] at ih
        rcases List.mem_cons.1 hp with rfl | hp
        · have := ih h (by simp); simp; omega
        · have := ih p (by simp [hp]); simp; omega
      · simp at hp; subst hp; simp
theorem pieces_len {s p : List UInt8} {c : UInt8} (h : p ∈ pieces s [c]) : p.length ≤ s.length := by
  rw [pieces_one] at h; exact splitO_len c s p h
def cutO (c : UInt8) : List UInt8 → List UInt8 × List UInt8 × Bool
  | [] => ([], [], false)
  | b :: r => if b = c then ([], r, true) else (b :: (cutO c r).1, (cutO c r).2.1, (cutO c r).2.2)
theorem cut_one (c : UInt8) : ∀ (s : List UInt8), Lib.cut s [c] = cutO c s
  | [] => by simp [Lib.cut, index_nil, cutO]
  | b :: l => by
    have ih := cut_one c l
    unfold cutO
    rw [← ih]
    by_cases h : b = c
    · subst h
      simp [Lib.cut, index_eq]
    · rw [if_neg h]
      unfold Lib.cut
      rw [index_ne l h]
      by_cases hi : Lib.index l [c] = -1
      · simp [hi]
      · have := Lib.index_ge l [c]
        obtain ⟨j, hj⟩ : ∃ j : Nat, Lib.index l [c] = j := ⟨(Lib.index l [c]).toNat, by omega⟩
        have h1 : ¬ ((j : Int) = -1) := by omega
        have h3 : ((j : Int) + 1).toNat = j + 1 := by omega
        have h4 : (0 : Int) ≤ (j : Int) + 1 := by omega
        simp [hj, h1, h3, h4]
theorem cutO_len (c : UInt8) : ∀ (s : List UInt8), (cutO c s).1.length ≤ s.length ∧ ((cutO c s).2.2 = true → (cutO c s).2.1.length < s.length) ∧ (cutO c s).2.1.length ≤ s.length
  | [] => by simp [cutO]
  | b :: l => by
    obtain ⟨h1, h2, h3⟩ := cutO_len c l
    unfold cutO
    split
    · simp
    · refine ⟨by simp; omega, fun h => ?_, by simp; omega⟩
      have := h2 h; simp; omega
end Go.Proofs.YtbamlhgjpggihaaDoor.tale

/- Read: what it answers. Condition: texts of no more than a hundred million bytes. -/
set_option linter.unusedVariables false
set_option linter.unusedSimpArgs false
namespace Go.Proofs.YtbamlhgjpggihaaDoor.tale
open Go.RowKit Go.Gz Go.Gz.H
abbrev r11_0 : List MOper := [⟨(some 2), .move (.c (.nilslice)), none⟩,
  ⟨(some 3), .move (.c (.int .i64 0)), none⟩]
def b11_0 : SCode := .region r11_0
abbrev r11_1 : List MOper := [⟨(some 4), .move (.c (.nilslice)), none⟩]
def b11_1 : SCode := .region r11_1
abbrev r11_2 : List MOper := [⟨(some 10), .move (.t 0), none⟩,
  ⟨(some 11), .bin .neq .num (.t 10) (.c (.str [])), none⟩]
def b11_2 : SCode := .region r11_2
def b11_3 : SCode := .cond (.t 11) .skip (.exit 0)
def b11_4 : SCode := .seq b11_2 b11_3
abbrev r11_5 : List MOper := [⟨(some 13), .move (.t 0), none⟩,
  ⟨(some 14), .call 22 [(.t 13), (.c (.str [10]))], none⟩,
  ⟨(some 12), .move (.t 14), none⟩,
  ⟨(some 15), .extract (.t 12) 0, none⟩,
  ⟨(some 16), .extract (.t 12) 1, none⟩,
  ⟨(some 17), .extract (.t 12) 2, none⟩,
  ⟨(some 5), .move (.t 15), none⟩,
  ⟨(some 6), .move (.t 16), none⟩,
  ⟨(some 7), .move (.t 17), none⟩]
def b11_5 : SCode := .region r11_5
abbrev r11_6 : List MOper := [⟨(some 19), .move (.t 5), none⟩,
  ⟨(some 20), .call 23 [(.t 19)], none⟩,
  ⟨(some 18), .move (.t 20), none⟩,
  ⟨(some 21), .extract (.t 18) 0, none⟩,
  ⟨(some 22), .extract (.t 18) 1, none⟩,
  ⟨(some 8), .alloc [.int .i64 0, .int .i64 0, .int .i64 0, .str [], .str [], .str []], none⟩,
  ⟨none, .store 6 (.t 8) (.t 21), none⟩,
  ⟨(some 9), .move (.t 22), none⟩]
def b11_6 : SCode := .region r11_6
abbrev r11_7 : List MOper := [⟨(some 23), .move (.t 7), none⟩,
  ⟨(some 24), .un .not (.t 23), none⟩,
  ⟨(some 25), .move (.t 24), none⟩,
  ⟨(some 26), .move (.t 9), (some (25, false))⟩,
  ⟨(some 27), .un .not (.t 26), (some (25, false))⟩,
  ⟨(some 28), .pick (.t 25) (.c (.bool true)) (.t 27), none⟩]
def b11_7 : SCode := .region r11_7
abbrev r11_8 : List MOper := [⟨(some 2), .move (.c (.nilslice)), none⟩,
  ⟨(some 3), .move (.c (.int .i64 5)), none⟩]
def b11_8 : SCode := .region r11_8
def b11_9 : SCode := .seq b11_8 .ret
def b11_10 : SCode := .cond (.t 28) b11_9 .skip
def b11_11 : SCode := .seq b11_7 b11_10
abbrev r11_12 : List MOper := [⟨(some 29), .move (.t 4), none⟩,
  ⟨(some 30), .loadN 6 (.t 8), none⟩,
  ⟨(some 31), .buildSlice [.int .i64 0, .int .i64 0, .int .i64 0, .str [], .str [], .str []] 6 1 [(0, 6, (.t 30))], none⟩,
  ⟨(some 32), .append 6 72 (.t 29) (.t 31), none⟩,
  ⟨(some 33), .move (.t 6), none⟩,
  ⟨(some 4), .move (.t 32), none⟩,
  ⟨(some 0), .move (.t 33), none⟩]
def b11_12 : SCode := .region r11_12
def b11_13 : SCode := .seq b11_11 b11_12
def b11_14 : SCode := .seq b11_6 b11_13
def b11_15 : SCode := .seq b11_5 b11_14
def b11_16 : SCode := .block 1 b11_15
def b11_17 : SCode := .seq b11_4 b11_16
def b11_18 : SCode := .loop b11_17
def b11_19 : SCode := .block 0 b11_18
abbrev r11_20 : List MOper := [⟨(some 34), .move (.t 4), none⟩,
  ⟨(some 2), .move (.t 34), none⟩,
  ⟨(some 3), .move (.c (.int .i64 0)), none⟩]
def b11_20 : SCode := .region r11_20
def b11_21 : SCode := .seq b11_20 .ret
def b11_22 : SCode := .seq b11_19 b11_21
def b11_23 : SCode := .seq b11_1 b11_22
def b11_24 : SCode := .seq b11_0 b11_23
def s11 : SFunc := ⟨35, [.t 2, .t 3], b11_24⟩
theorem c11 : sFn Tryd.prog 11 = some s11 := by kernel_rfl
theorem Z11 : XR b11_0 r11_0 ∧ XR b11_1 r11_1 ∧ XR b11_2 r11_2 ∧ XC b11_3 (.t 11) .skip (.exit 0) ∧ XS b11_4 b11_2 b11_3 ∧ XR b11_5 r11_5 ∧ XR b11_6 r11_6 ∧ XR b11_7 r11_7 ∧ XR b11_8 r11_8 ∧ XS b11_9 b11_8 .ret ∧ XC b11_10 (.t 28) b11_9 .skip ∧ XS b11_11 b11_7 b11_10 ∧ XR b11_12 r11_12 ∧ XS b11_13 b11_11 b11_12 ∧ XS b11_14 b11_6 b11_13 ∧ XS b11_15 b11_5 b11_14 ∧ XB b11_16 1 b11_15 ∧ XS b11_17 b11_4 b11_16 ∧ XB b11_19 0 b11_18 ∧ XR b11_20 r11_20 ∧ XS b11_21 b11_20 .ret ∧ XS b11_22 b11_19 b11_21 ∧ XS b11_23 b11_1 b11_22 ∧ XS b11_24 b11_0 b11_23 ∧ XY s11 35 b11_24 [.t 2, .t 3] := ⟨rfl, rfl, rfl, sC_cond, rfl, rfl, rfl, rfl, rfl, rfl, sC_cond, rfl, rfl, rfl, rfl, rfl, rfl, rfl, rfl, rfl, rfl, rfl, rfl, rfl, rfl⟩

set_option maxHeartbeats 4000000
set_option maxRecDepth 10000
def readN : Nat → List UInt8 → Option (List Ev)
  | _, [] => some []
  | 0, _ => none
  | k + 1, b :: r => if (cutO 10 (b :: r)).2.2 && (evL (pieces (cutO 10 (b :: r)).1 [32])).2 then (readN k (cutO 10 (b :: r)).2.1).map ((evL (pieces (cutO 10 (b :: r)).1 [32])).1 :: ·) else none
abbrev rowsE (l : List Ev) : List (List AV) := l.map Ev.cells
theorem rowsE_pure (l : List Ev) : pureLL (rowsE l) = true := pureLL_of fun r hr => by
  obtain ⟨b, _, rfl⟩ := List.mem_map.1 hr
  rfl
def readR (s : List UInt8) : AV := match readN s.length s with
  | none => .tuple [.nilslice, .int .i64 5]
  | some l => .tuple [.imm (rowsE l) false false, .int .i64 0]
def evD (args : List AV) (σ : AHeap) (K : AV → AHeap → Prop) : Prop := ∃ s : List UInt8, args = [.str s] ∧ s.length ≤ 100000000 ∧ K (evR s) σ
theorem evD_ok (args : List AV) (σ : AHeap) (K : AV → AHeap → Prop) (h : evD args σ K) : Tri Tryd.prog 23 args σ K := by
  obtain ⟨s, rfl, hs, h⟩ := h
  exact (Tri.pureD rfl (event_ok s hs fun p hp => Nat.le_trans (pieces_len hp) hs) σ).mono fun x σ' hr => by rw [hr.1, hr.2]; exact h
def cutD (args : List AV) (σ : AHeap) (K : AV → AHeap → Prop) : Prop := ∃ s : List UInt8, args = [.str s, .str [10]] ∧ s.length < 4294967281 ∧ K (cutR s [10]) σ
theorem cutD_ok (args : List AV) (σ : AHeap) (K : AV → AHeap → Prop) (h : cutD args σ K) : Tri Tryd.prog 22 args σ K := by
  obtain ⟨s, rfl, hs, h⟩ := h
  exact (lib_cut hs).mono fun x σ' hr => by rw [hr.1, hr.2]; exact h
def U11 : PCall := rowQ 22 cutD (rowQ 23 evD noCall)
theorem U11_app {f : FuncId} {args : List AV} {σ : AHeap} {K : AV → AHeap → Prop} : U11 f args σ K = rowQ 22 cutD (rowQ 23 evD noCall) f args σ K := _root_.id rfl
theorem U11_sound : Sound Tryd.prog U11 := rowQ_sound cutD_ok (rowQ_sound evD_ok (noCall_sound _))
def rdI (s0 : List UInt8) (m : Nat) (e : Env) (σ : AHeap) : Prop := ∃ (rest : List UInt8) (out : List Ev), rest.length ≤ m ∧ rest.length ≤ 100000000 ∧ out.length + rest.length ≤ 100000000 ∧ e 0 = .str rest ∧ Grow σ (e 4) 6 (rowsE out) ∧ readN s0.length s0 = (readN m rest).map (out ++ ·)
def RdP (s : List UInt8) (r : AV) (σ : AHeap) : Prop := Frz σ r (readR s)
theorem readR_pure (s : List UInt8) : (readR s).pure = true := by
  unfold readR
  cases readN s.length s with
  | none => rfl
  | some l => simp only [AV.pure, pureL, rowsE_pure, Bool.and_self]
theorem rd_step (s : List UInt8) (m : Nat) (e : Env) (σ : AHeap) (h : rdI s m e σ) : sC U11 0 b11_17 (unw U11 0 (loopR U11 0 (RetQ [.t 2, .t 3] (RdP s)) (.block 0 (.seq b11_21 .fin)) (rdI s) m) .fin) e σ := by
  obtain ⟨rest, out, hm, hl, hlo, e0, hg, hrd⟩ := h
  by_cases hr0 : rest = []
  · subst hr0
    have hrd' : readN s.length s = some out := by rw [hrd]; cases m <;> simp [readN]
    simp only [U11_app, Z11, base1, baseX, baseY, ↓reduceIte, Nat.reduceAdd, Nat.reduceSub, Nat.reduceMul, Nat.reduceEqDiff, Nat.reduceLeDiff, Nat.reduceLT, Int.reduceLT, Int.reduceLE, Int.reduceEq, Int.reduceNe, Int.reduceToNat, Int.reduceAdd, Int.reduceSub, reduceCtorEq, Nat.reduceBEq, Nat.reduceBNe, loopR_exit, loopR_ret, e0, ne_eq, not_true, decide_false]
    show Frz σ _ (readR s)
    unfold readR
    rw [hrd']
    refine .tuple rfl fun i x y hx hy => ?_
    match i, hx, hy with
    | 0, hx, hy => simp at hx hy; subst hx; subst hy; exact grow_frz hg (rowsE_pure out)
    | 1, hx, hy => simp at hx hy; subst hx; subst hy; exact .pure rfl
  · simp only [U11_app, Z11, base1, baseX, baseY, ↓reduceIte, Nat.reduceAdd, Nat.reduceSub, Nat.reduceMul, Nat.reduceEqDiff, Nat.reduceLeDiff, Nat.reduceLT, Int.reduceLT, Int.reduceLE, Int.reduceEq, Int.reduceNe, Int.reduceToNat, Int.reduceAdd, Int.reduceSub, reduceCtorEq, Nat.reduceBEq, Nat.reduceBNe, loopR_exit, loopR_ret, e0, ne_eq, hr0, not_false_eq_true, decide_true]
    refine ⟨rest, rfl, by omega, ?_⟩
    obtain ⟨c1, c2, c3⟩ := cutO_len 10 rest
    have hcr : cutR rest [10] = .tuple [.str (cutO 10 rest).1, .str (cutO 10 rest).2.1, .bool (cutO 10 rest).2.2] := by unfold cutR; rw [cut_one]
    rw [hcr]
    simp only [U11_app, Z11, base1, baseX, baseY, ↓reduceIte, Nat.reduceAdd, Nat.reduceSub, Nat.reduceMul, Nat.reduceEqDiff, Nat.reduceLeDiff, Nat.reduceLT, Int.reduceLT, Int.reduceLE, Int.reduceEq, Int.reduceNe, Int.reduceToNat, Int.reduceAdd, Int.reduceSub, reduceCtorEq, Nat.reduceBEq, Nat.reduceBNe, loopR_exit, loopR_ret, e0]
    refine ⟨_, rfl, by omega, ?_⟩
    obtain ⟨k, rfl⟩ : ∃ k, m = k + 1 := by
      cases m with
      | zero => exact absurd (List.length_eq_zero_iff.1 (by omega)) hr0
      | succ k => exact ⟨k, rfl⟩
    have hrd2 : readN s.length s = (if (cutO 10 rest).2.2 && (evL (pieces (cutO 10 rest).1 [32])).2 then (readN k (cutO 10 rest).2.1).map ((evL (pieces (cutO 10 rest).1 [32])).1 :: ·) else none).map (out ++ ·) := by
      rw [hrd]
      cases rest with
      | nil => exact absurd rfl hr0
      | cons b r => rfl
    unfold evR
    generalize hE : evL (pieces (cutO 10 rest).1 [32]) = E at hrd2
    generalize hC : cutO 10 rest = c at hrd2 c1 c2 c3
    obtain ⟨ln, nx, ok⟩ := c
    obtain ⟨⟨act, who, n, text, val, into⟩, is⟩ := E
    simp only at hrd2 c1 c2 c3
    have bad : ∀ σ', (ok && is) = false → RdP s (.tuple [.nilslice, .int .i64 5]) σ' := fun σ' h => by
      have : readR s = .tuple [.nilslice, .int .i64 5] := by
        unfold readR
        rw [hrd2, h]; rfl
      show Frz σ' _ (readR s)
      rw [this]; exact .pure rfl
    have g1 : hget (hpush σ [.int .i64 0, .int .i64 0, .int .i64 0, .str [], .str [], .str []]) σ.length = some [.int .i64 0, .int .i64 0, .int .i64 0, .str [], .str [], .str []] := push_new rfl
    have g2 : hget (hset (hpush σ [.int .i64 0, .int .i64 0, .int .i64 0, .str [], .str [], .str []]) σ.length [.int .i64 act, .int .i64 who, .int .i64 n, .str text, .str val, .str into]) σ.length = some [.int .i64 act, .int .i64 who, .int .i64 n, .str text, .str val, .str into] := set_same g1
    have hg1 : Grow (hset (hpush σ [.int .i64 0, .int .i64 0, .int .i64 0, .str [], .str [], .str []]) σ.length [.int .i64 act, .int .i64 who, .int .i64 n, .str text, .str val, .str into]) (e 4) 6 (rowsE out) := grow_frame hg fun j c hj _ => al_frame hj
    generalize hv : e 4 = v at hg hg1
    obtain ⟨w, τ, a1, a2, a3, a4, a5⟩ := grow_one (b := 72) (by decide) hg1 (by simp; omega) [.int .i64 act, .int .i64 who, .int .i64 n, .str text, .str val, .str into] rfl rfl
    cases ok with
    | false =>
      simp only [U11_app, Z11, base1, baseX, baseY, ↓reduceIte, Nat.reduceAdd, Nat.reduceSub, Nat.reduceMul, Nat.reduceEqDiff, Nat.reduceLeDiff, Nat.reduceLT, Int.reduceLT, Int.reduceLE, Int.reduceEq, Int.reduceNe, Int.reduceToNat, Int.reduceAdd, Int.reduceSub, reduceCtorEq, Nat.reduceBEq, Nat.reduceBNe, loopR_exit, loopR_ret, e0, hv, Ev.cells, g1, g2]
      exact bad _ rfl
    | true =>
      cases is with
      | false =>
        simp only [U11_app, Z11, base1, baseX, baseY, ↓reduceIte, Nat.reduceAdd, Nat.reduceSub, Nat.reduceMul, Nat.reduceEqDiff, Nat.reduceLeDiff, Nat.reduceLT, Int.reduceLT, Int.reduceLE, Int.reduceEq, Int.reduceNe, Int.reduceToNat, Int.reduceAdd, Int.reduceSub, reduceCtorEq, Nat.reduceBEq, Nat.reduceBNe, loopR_exit, loopR_ret, e0, hv, Ev.cells, g1, g2]
        exact bad _ rfl
      | true =>
        have hlt := c2 rfl
        simp only [U11_app, Z11, base1, baseX, baseY, ↓reduceIte, Nat.reduceAdd, Nat.reduceSub, Nat.reduceMul, Nat.reduceEqDiff, Nat.reduceLeDiff, Nat.reduceLT, Int.reduceLT, Int.reduceLE, Int.reduceEq, Int.reduceNe, Int.reduceToNat, Int.reduceAdd, Int.reduceSub, reduceCtorEq, Nat.reduceBEq, Nat.reduceBNe, loopR_exit, loopR_ret, e0, hv, Ev.cells, g1, g2, a1]
        rw [loopR_normal]
        refine ⟨k, _, _, by omega, .refl _ _ _, nx, out ++ [⟨act, who, n, text, val, into⟩], by omega, by omega, by simp; omega, rfl, ?_, ?_⟩
        · rw [rowsE, List.map_append]; exact a5
        · rw [hrd2]
          cases readN k nx <;> simp
theorem read_ok (s : List UInt8) (hs : s.length ≤ 100000000) : Tri Tryd.prog 11 [.str s] [] fun x _ => x.pure = true ∧ x = readR s := by
  refine Tri.frozen (Q := RdP s) (Tri.of_s c11 U11_sound ?_) (fun r σ h => ⟨_, h, readR_pure s, rfl⟩)
  simp only [Z11, base1, baseX, baseY, ↓reduceIte, Nat.reduceAdd, Nat.reduceSub, Nat.reduceMul, Nat.reduceEqDiff, Nat.reduceLeDiff, Nat.reduceLT, Int.reduceLT, Int.reduceLE, Int.reduceEq, Int.reduceNe, Int.reduceToNat, Int.reduceAdd, Int.reduceSub, reduceCtorEq, Nat.reduceBEq, Nat.reduceBNe]
  refine sC_inv (a := b11_17) (rdI s) s.length _ _ (.refl _ _ _) ?_ (rd_step s)
  exact ⟨s, [], Nat.le_refl _, hs, by simp; omega, rfl, .inl ⟨rfl, rfl⟩, by cases readN s.length s <;> rfl⟩
def readD (args : List AV) (σ : AHeap) (K : AV → AHeap → Prop) : Prop := ∃ s : List UInt8, args = [.str s] ∧ s.length ≤ 100000000 ∧ K (readR s) σ
theorem readD_ok (args : List AV) (σ : AHeap) (K : AV → AHeap → Prop) (h : readD args σ K) : Tri Tryd.prog 11 args σ K := by
  obtain ⟨s, rfl, hs, h⟩ := h
  exact (Tri.pureD rfl (read_ok s hs) σ).mono fun x σ' hr => by rw [hr.1, hr.2]; exact h
end Go.Proofs.YtbamlhgjpggihaaDoor.tale
