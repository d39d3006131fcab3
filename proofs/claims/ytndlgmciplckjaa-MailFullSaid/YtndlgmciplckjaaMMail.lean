/- The network: how many are on their way, what is taken, what is told twice. No condition. -/
import Derived.Test.YtndlgmciplckjaaMSpool
import Derived.Test.YtndlgmciplckjaaNReadP
set_option linter.unusedVariables false
set_option linter.unusedSimpArgs false
namespace Go.Proofs.Ytndlgmciplckjaa.note
open Go.ChangeShapes Go.WideShapes Go.ChangeAt Go.RowKit Go.Gz
abbrev r19_0 : List MOper := [⟨(some 0), .move (.c (.nilptr)), none⟩]
def b19_0 : SCode := .region r19_0
abbrev r19_1 : List MOper := [⟨(some 1), .call 52 [(.c (.int .i64 512))], none⟩,
  ⟨(some 2), .build [.nilptr] [(0, 1, (.t 1))], none⟩,
  ⟨(some 3), .box (.t 2), none⟩,
  ⟨(some 0), .move (.t 3), none⟩]
def b19_1 : SCode := .region r19_1
def b19_2 : SCode := .seq b19_1 .ret
def b19_3 : SCode := .seq b19_0 b19_2
def s19 : SFunc := ⟨4, [.t 0], b19_3⟩
theorem c19 : sFn Try.prog 19 = some s19 := by kernel_rfl
theorem Z19 : XR b19_0 r19_0 ∧ XR b19_1 r19_1 ∧ XS b19_2 b19_1 .ret ∧ XS b19_3 b19_0 b19_2 ∧ XY s19 4 b19_3 [.t 0] := ⟨rfl, rfl, rfl, rfl, rfl⟩
abbrev r21_0 : List MOper := [⟨(some 4), .move (.c (.bool false)), none⟩]
def b21_0 : SCode := .region r21_0
abbrev r21_1 : List MOper := [⟨(some 7), .move (.t 0), none⟩,
  ⟨(some 8), .move (.t 1), none⟩,
  ⟨(some 9), .call 54 [(.t 7), (.t 8)], none⟩,
  ⟨(some 1), .move (.t 9), none⟩]
def b21_1 : SCode := .region r21_1
abbrev r21_2 : List MOper := [⟨(some 10), .move (.t 1), none⟩,
  ⟨(some 11), .bin .lss .num (.t 10) (.c (.int .i64 0)), none⟩]
def b21_2 : SCode := .region r21_2
abbrev r21_3 : List MOper := [⟨(some 4), .move (.c (.bool false)), none⟩]
def b21_3 : SCode := .region r21_3
def b21_4 : SCode := .seq b21_3 .ret
def b21_5 : SCode := .cond (.t 11) b21_4 .skip
def b21_6 : SCode := .seq b21_2 b21_5
abbrev r21_7 : List MOper := [⟨(some 13), .move (.t 0), none⟩,
  ⟨(some 14), .nilCheck (.t 13), none⟩,
  ⟨(some 15), .fieldAddr 0 (.t 14), none⟩,
  ⟨(some 16), .load1 (.t 15), none⟩,
  ⟨(some 17), .move (.t 1), none⟩,
  ⟨(some 18), .call 55 [(.t 16), (.t 17)], none⟩,
  ⟨(some 12), .move (.t 18), none⟩,
  ⟨(some 19), .extract (.t 12) 0, none⟩,
  ⟨(some 20), .extract (.t 12) 1, none⟩,
  ⟨(some 5), .move (.t 19), none⟩,
  ⟨(some 6), .move (.t 20), none⟩]
def b21_7 : SCode := .region r21_7
abbrev r21_8 : List MOper := [⟨(some 21), .move (.t 0), none⟩,
  ⟨(some 22), .nilCheck (.t 21), none⟩,
  ⟨(some 23), .fieldAddr 0 (.t 22), none⟩,
  ⟨(some 24), .load1 (.t 23), none⟩,
  ⟨(some 25), .move (.t 5), none⟩,
  ⟨(some 26), .call 53 [(.t 24), (.t 25)], none⟩,
  ⟨(some 4), .move (.t 26), none⟩]
def b21_8 : SCode := .region r21_8
def b21_9 : SCode := .seq b21_8 .ret
def b21_10 : SCode := .seq b21_7 b21_9
def b21_11 : SCode := .seq b21_6 b21_10
def b21_12 : SCode := .seq b21_1 b21_11
def b21_13 : SCode := .seq b21_0 b21_12
def s21 : SFunc := ⟨27, [.t 4], b21_13⟩
theorem c21 : sFn Try.prog 21 = some s21 := by kernel_rfl
theorem Z21 : XR b21_0 r21_0 ∧ XR b21_1 r21_1 ∧ XR b21_2 r21_2 ∧ XR b21_3 r21_3 ∧ XS b21_4 b21_3 .ret ∧ XC b21_5 (.t 11) b21_4 .skip ∧ XS b21_6 b21_2 b21_5 ∧ XR b21_7 r21_7 ∧ XR b21_8 r21_8 ∧ XS b21_9 b21_8 .ret ∧ XS b21_10 b21_7 b21_9 ∧ XS b21_11 b21_6 b21_10 ∧ XS b21_12 b21_1 b21_11 ∧ XS b21_13 b21_0 b21_12 ∧ XY s21 27 b21_13 [.t 4] := ⟨rfl, rfl, rfl, rfl, rfl, sC_cond, rfl, rfl, rfl, rfl, rfl, rfl, rfl, rfl, rfl⟩
abbrev r22_0 : List MOper := [⟨(some 2), .move (.c (.int .i64 0)), none⟩]
def b22_0 : SCode := .region r22_0
abbrev r22_1 : List MOper := [⟨(some 3), .move (.t 0), none⟩,
  ⟨(some 4), .bin .eql .nilp (.t 3) (.c (.nilptr)), none⟩]
def b22_1 : SCode := .region r22_1
abbrev r22_2 : List MOper := [⟨(some 2), .move (.c (.int .i64 0)), none⟩]
def b22_2 : SCode := .region r22_2
def b22_3 : SCode := .seq b22_2 .ret
def b22_4 : SCode := .cond (.t 4) b22_3 .skip
def b22_5 : SCode := .seq b22_1 b22_4
abbrev r22_6 : List MOper := [⟨(some 5), .move (.t 0), none⟩,
  ⟨(some 6), .nilCheck (.t 5), none⟩,
  ⟨(some 7), .fieldAddr 0 (.t 6), none⟩,
  ⟨(some 8), .load1 (.t 7), none⟩,
  ⟨(some 9), .call 56 [(.t 8)], none⟩,
  ⟨(some 2), .move (.t 9), none⟩]
def b22_6 : SCode := .region r22_6
def b22_7 : SCode := .seq b22_6 .ret
def b22_8 : SCode := .seq b22_5 b22_7
def b22_9 : SCode := .seq b22_0 b22_8
def s22 : SFunc := ⟨10, [.t 2], b22_9⟩
theorem c22 : sFn Try.prog 22 = some s22 := by kernel_rfl
theorem Z22 : XR b22_0 r22_0 ∧ XR b22_1 r22_1 ∧ XR b22_2 r22_2 ∧ XS b22_3 b22_2 .ret ∧ XC b22_4 (.t 4) b22_3 .skip ∧ XS b22_5 b22_1 b22_4 ∧ XR b22_6 r22_6 ∧ XS b22_7 b22_6 .ret ∧ XS b22_8 b22_5 b22_7 ∧ XS b22_9 b22_0 b22_8 ∧ XY s22 10 b22_9 [.t 2] := ⟨rfl, rfl, rfl, rfl, sC_cond, rfl, rfl, rfl, rfl, rfl, rfl⟩
abbrev r23_0 : List MOper := [⟨(some 4), .alloc [.int .i64 0, .int .i64 0, .int .i64 0, .int .i64 0, .int .i64 0, .int .i64 0, .int .i64 0, .int .i64 0, .str [], .str [], .str [], .str [], .int .i64 0, .int .i64 0, .int .i64 0, .int .i64 0, .bool false, .str [], .nilslice, .str [], .bool false, .str [], .str [], .nilslice, .nilslice, .int .i64 0, .nilslice], none⟩,
  ⟨(some 5), .move (.c (.bool false)), none⟩]
def b23_0 : SCode := .region r23_0
abbrev r23_1 : List MOper := [⟨(some 10), .move (.t 0), none⟩,
  ⟨(some 11), .move (.t 1), none⟩,
  ⟨(some 12), .call 54 [(.t 10), (.t 11)], none⟩,
  ⟨(some 1), .move (.t 12), none⟩]
def b23_1 : SCode := .region r23_1
abbrev r23_2 : List MOper := [⟨(some 13), .move (.t 1), none⟩,
  ⟨(some 14), .bin .lss .num (.t 13) (.c (.int .i64 0)), none⟩]
def b23_2 : SCode := .region r23_2
abbrev r23_3 : List MOper := [⟨(some 15), .build [.int .i64 0, .int .i64 0, .int .i64 0, .int .i64 0, .int .i64 0, .int .i64 0, .int .i64 0, .int .i64 0, .str [], .str [], .str [], .str [], .int .i64 0, .int .i64 0, .int .i64 0, .int .i64 0, .bool false, .str [], .nilslice, .str [], .bool false, .str [], .str [], .nilslice, .nilslice, .int .i64 0, .nilslice] [], none⟩,
  ⟨none, .store 27 (.t 4) (.t 15), none⟩,
  ⟨(some 5), .move (.c (.bool false)), none⟩]
def b23_3 : SCode := .region r23_3
def b23_4 : SCode := .seq b23_3 .ret
def b23_5 : SCode := .cond (.t 14) b23_4 .skip
def b23_6 : SCode := .seq b23_2 b23_5
abbrev r23_7 : List MOper := [⟨(some 17), .move (.t 0), none⟩,
  ⟨(some 18), .nilCheck (.t 17), none⟩,
  ⟨(some 19), .fieldAddr 0 (.t 18), none⟩,
  ⟨(some 20), .load1 (.t 19), none⟩,
  ⟨(some 21), .move (.t 1), none⟩,
  ⟨(some 22), .call 57 [(.t 20), (.t 21)], none⟩,
  ⟨(some 16), .move (.t 22), none⟩,
  ⟨(some 23), .extract (.t 16) 0, none⟩,
  ⟨(some 24), .extract (.t 16) 1, none⟩,
  ⟨(some 6), .move (.t 23), none⟩,
  ⟨(some 7), .move (.t 24), none⟩]
def b23_7 : SCode := .region r23_7
abbrev r23_8 : List MOper := [⟨(some 26), .move (.t 6), none⟩,
  ⟨(some 27), .toBytes (.t 26), none⟩,
  ⟨(some 28), .call 11 [(.t 27)], none⟩,
  ⟨(some 25), .move (.t 28), none⟩,
  ⟨(some 29), .extract (.t 25) 0, none⟩,
  ⟨(some 30), .extract (.t 25) 1, none⟩,
  ⟨(some 8), .alloc [.int .i64 0, .int .i64 0, .int .i64 0, .int .i64 0, .int .i64 0, .int .i64 0, .int .i64 0, .int .i64 0, .str [], .str [], .str [], .str [], .int .i64 0, .int .i64 0, .int .i64 0, .int .i64 0, .bool false, .str [], .nilslice, .str [], .bool false, .str [], .str [], .nilslice, .nilslice, .int .i64 0, .nilslice], none⟩,
  ⟨none, .store 27 (.t 8) (.t 29), none⟩,
  ⟨(some 9), .move (.t 30), none⟩]
def b23_8 : SCode := .region r23_8
abbrev r23_9 : List MOper := [⟨(some 31), .loadN 27 (.t 8), none⟩,
  ⟨(some 32), .move (.t 9), none⟩,
  ⟨(some 33), .bin .eql .num (.t 32) (.c (.int .i64 0)), none⟩,
  ⟨none, .store 27 (.t 4) (.t 31), none⟩,
  ⟨(some 5), .move (.t 33), none⟩]
def b23_9 : SCode := .region r23_9
def b23_10 : SCode := .seq b23_9 .ret
def b23_11 : SCode := .seq b23_8 b23_10
def b23_12 : SCode := .seq b23_7 b23_11
def b23_13 : SCode := .seq b23_6 b23_12
def b23_14 : SCode := .seq b23_1 b23_13
def b23_15 : SCode := .seq b23_0 b23_14
def s23 : SFunc := ⟨34, [.cN 4 27, .t 5], b23_15⟩
theorem c23 : sFn Try.prog 23 = some s23 := by kernel_rfl
theorem Z23 : XR b23_0 r23_0 ∧ XR b23_1 r23_1 ∧ XR b23_2 r23_2 ∧ XR b23_3 r23_3 ∧ XS b23_4 b23_3 .ret ∧ XC b23_5 (.t 14) b23_4 .skip ∧ XS b23_6 b23_2 b23_5 ∧ XR b23_7 r23_7 ∧ XR b23_8 r23_8 ∧ XR b23_9 r23_9 ∧ XS b23_10 b23_9 .ret ∧ XS b23_11 b23_8 b23_10 ∧ XS b23_12 b23_7 b23_11 ∧ XS b23_13 b23_6 b23_12 ∧ XS b23_14 b23_1 b23_13 ∧ XS b23_15 b23_0 b23_14 ∧ XY s23 34 b23_15 [.cN 4 27, .t 5] := ⟨rfl, rfl, rfl, rfl, rfl, sC_cond, rfl, rfl, rfl, rfl, rfl, rfl, rfl, rfl, rfl, rfl, rfl⟩
abbrev r54_0 : List MOper := [⟨(some 4), .move (.c (.int .i64 0)), none⟩]
def b54_0 : SCode := .region r54_0
abbrev r54_1 : List MOper := [⟨(some 5), .move (.t 1), none⟩,
  ⟨(some 6), .bin .lss .num (.t 5) (.c (.int .i64 0)), none⟩,
  ⟨(some 7), .move (.t 6), none⟩,
  ⟨(some 8), .move (.t 0), (some (7, false))⟩,
  ⟨(some 9), .call 22 [(.t 8)], (some (7, false))⟩,
  ⟨(some 10), .bin .eql .num (.t 9) (.c (.int .i64 0)), (some (7, false))⟩,
  ⟨(some 11), .pick (.t 7) (.c (.bool true)) (.t 10), none⟩]
def b54_1 : SCode := .region r54_1
abbrev r54_2 : List MOper := [⟨(some 4), .move (.c (.int .i64 (-1))), none⟩]
def b54_2 : SCode := .region r54_2
def b54_3 : SCode := .seq b54_2 .ret
def b54_4 : SCode := .cond (.t 11) b54_3 .skip
def b54_5 : SCode := .seq b54_1 b54_4
abbrev r54_6 : List MOper := [⟨(some 12), .move (.t 1), none⟩,
  ⟨(some 13), .move (.t 0), none⟩,
  ⟨(some 14), .call 22 [(.t 13)], none⟩,
  ⟨(some 15), .bin .rem .num (.t 12) (.t 14), none⟩,
  ⟨(some 4), .move (.t 15), none⟩]
def b54_6 : SCode := .region r54_6
def b54_7 : SCode := .seq b54_6 .ret
def b54_8 : SCode := .seq b54_5 b54_7
def b54_9 : SCode := .seq b54_0 b54_8
def s54 : SFunc := ⟨16, [.t 4], b54_9⟩
theorem c54 : sFn Try.prog 54 = some s54 := by kernel_rfl
theorem Z54 : XR b54_0 r54_0 ∧ XR b54_1 r54_1 ∧ XR b54_2 r54_2 ∧ XS b54_3 b54_2 .ret ∧ XC b54_4 (.t 11) b54_3 .skip ∧ XS b54_5 b54_1 b54_4 ∧ XR b54_6 r54_6 ∧ XS b54_7 b54_6 .ret ∧ XS b54_8 b54_5 b54_7 ∧ XS b54_9 b54_0 b54_8 ∧ XY s54 16 b54_9 [.t 4] := ⟨rfl, rfl, rfl, rfl, sC_cond, rfl, rfl, rfl, rfl, rfl, rfl⟩

set_option maxHeartbeats 4000000
set_option maxRecDepth 10000
/-- A network at a block. -/
structure Ml (σ : AHeap) (M S : Nat) (ss : List (List UInt8)) (D : Option Nat) : Prop where
  m : hget σ M = some [.ptr S 0]
  ms : M ≠ S
  md : D ≠ some M
  sp : Sp σ S ss D
  few : ss.length ≤ 512
theorem Ml.next {σ σ' : AHeap} {M S : Nat} {ss ss' : List (List UInt8)} {D D' : Option Nat} (h : Ml σ M S ss D) (hs : Sp σ' S ss' D') (hf : FrS σ σ' S D D') (hl : ss'.length ≤ 512) : Ml σ' M S ss' D' := by
  obtain ⟨h1, h2⟩ := hf M _ h.m h.ms h.md
  exact ⟨h1, h.ms, h2, hs, hl⟩
def U1 : PCall := rowQ 52 newD (rowQ 53 pushD (rowQ 55 atD (rowQ 56 slenD (rowQ 57 pickD noCall))))
theorem U1_app {f : FuncId} {args : List AV} {σ : AHeap} {K : AV → AHeap → Prop} : U1 f args σ K = rowQ 52 newD (rowQ 53 pushD (rowQ 55 atD (rowQ 56 slenD (rowQ 57 pickD noCall)))) f args σ K := _root_.id rfl
theorem U1_sound : Sound Try.prog U1 := rowQ_sound newD_ok (rowQ_sound pushD_ok (rowQ_sound atD_ok (rowQ_sound slenD_ok (rowQ_sound pickD_ok (noCall_sound _)))))
def mnewD (args : List AV) (σ : AHeap) (K : AV → AHeap → Prop) : Prop := args = [] ∧ K (.ptr (σ.length + 1) 0) (hpush (hpush σ [.int .i64 512, .nilslice]) [.ptr σ.length 0])
theorem mnewD_ok (args : List AV) (σ : AHeap) (K : AV → AHeap → Prop) (h : mnewD args σ K) : Tri Try.prog 19 args σ K := by
  obtain ⟨rfl, h⟩ := h
  refine Tri.of_s c19 U1_sound ?_
  simp only [U1_app, Z19, base1, baseE, ↓reduceIte, Nat.reduceAdd, Nat.reduceSub, Nat.reduceMul, Nat.reduceEqDiff, Nat.reduceLeDiff, Nat.reduceLT, Int.reduceLT, Int.reduceLE, Int.reduceEq, Int.reduceNe, Int.reduceToNat, Int.reduceAdd, Int.reduceSub, reduceCtorEq, Nat.reduceBEq, Nat.reduceBNe]
  refine ⟨rfl, ?_⟩
  simp only [U1_app, Z19, base1, baseE, ↓reduceIte, Nat.reduceAdd, Nat.reduceSub, Nat.reduceMul, Nat.reduceEqDiff, Nat.reduceLeDiff, Nat.reduceLT, Int.reduceLT, Int.reduceLE, Int.reduceEq, Int.reduceNe, Int.reduceToNat, Int.reduceAdd, Int.reduceSub, reduceCtorEq, Nat.reduceBEq, Nat.reduceBNe, push_len]
  exact h
theorem ml_new {σ : AHeap} : Ml (hpush (hpush σ [.int .i64 512, .nilslice]) [.ptr σ.length 0]) (σ.length + 1) σ.length [] none :=
  ⟨push_new (by simp [push_len]), by omega, by simp, .inl ⟨rfl, rfl, push_old (push_new rfl)⟩, by simp⟩
def mlenD (args : List AV) (σ : AHeap) (K : AV → AHeap → Prop) : Prop := ∃ (M S : Nat) (ss : List (List UInt8)) (D : Option Nat), args = [.ptr M 0] ∧ Ml σ M S ss D ∧ K (.int .i64 (ss.length : Int)) σ
theorem mlenD_ok (args : List AV) (σ : AHeap) (K : AV → AHeap → Prop) (h : mlenD args σ K) : Tri Try.prog 22 args σ K := by
  obtain ⟨M, S, ss, D, rfl, hm, h⟩ := h
  refine Tri.of_s c22 U1_sound ?_
  simp only [U1_app, Z22, base1, baseE, ↓reduceIte, Nat.reduceAdd, Nat.reduceSub, Nat.reduceMul, Nat.reduceEqDiff, Nat.reduceLeDiff, Nat.reduceLT, Int.reduceLT, Int.reduceLE, Int.reduceEq, Int.reduceNe, Int.reduceToNat, Int.reduceAdd, Int.reduceSub, reduceCtorEq, Nat.reduceBEq, Nat.reduceBNe, hm.m]
  refine ⟨S, ss, D, rfl, hm.sp, ?_⟩
  simp only [U1_app, Z22, base1, baseE, ↓reduceIte, Nat.reduceAdd, Nat.reduceSub, Nat.reduceMul, Nat.reduceEqDiff, Nat.reduceLeDiff, Nat.reduceLT, Int.reduceLT, Int.reduceLE, Int.reduceEq, Int.reduceNe, Int.reduceToNat, Int.reduceAdd, Int.reduceSub, reduceCtorEq, Nat.reduceBEq, Nat.reduceBNe]
  exact h
def U2 : PCall := rowQ 22 mlenD noCall
theorem U2_app {f : FuncId} {args : List AV} {σ : AHeap} {K : AV → AHeap → Prop} : U2 f args σ K = rowQ 22 mlenD noCall f args σ K := _root_.id rfl
theorem U2_sound : Sound Try.prog U2 := rowQ_sound mlenD_ok (noCall_sound _)
/-- The place on the way that a number is; none: -1. -/
def place (i : Int) (n : Nat) : Int := if i < 0 ∨ n = 0 then -1 else i.tmod n
def mplaceD (args : List AV) (σ : AHeap) (K : AV → AHeap → Prop) : Prop := ∃ (M S : Nat) (i : Int) (ss : List (List UInt8)) (D : Option Nat), args = [.ptr M 0, .int .i64 i] ∧ i ≤ 9223372036854775807 ∧ Ml σ M S ss D ∧ K (.int .i64 (place i ss.length)) σ
theorem mplaceD_ok (args : List AV) (σ : AHeap) (K : AV → AHeap → Prop) (h : mplaceD args σ K) : Tri Try.prog 54 args σ K := by
  obtain ⟨M, S, i, ss, D, rfl, hi, hm, h⟩ := h
  refine Tri.of_s c54 U2_sound ?_
  unfold place at h
  by_cases hn : i < 0
  · rw [if_pos (.inl hn)] at h
    simp only [U2_app, Z54, base1, baseE, ↓reduceIte, Nat.reduceAdd, Nat.reduceSub, Nat.reduceMul, Nat.reduceEqDiff, Nat.reduceLeDiff, Nat.reduceLT, Int.reduceLT, Int.reduceLE, Int.reduceEq, Int.reduceNe, Int.reduceToNat, Int.reduceAdd, Int.reduceSub, reduceCtorEq, Nat.reduceBEq, Nat.reduceBNe, hn]
    exact h
  · simp only [U2_app, Z54, base1, baseE, ↓reduceIte, Nat.reduceAdd, Nat.reduceSub, Nat.reduceMul, Nat.reduceEqDiff, Nat.reduceLeDiff, Nat.reduceLT, Int.reduceLT, Int.reduceLE, Int.reduceEq, Int.reduceNe, Int.reduceToNat, Int.reduceAdd, Int.reduceSub, reduceCtorEq, Nat.reduceBEq, Nat.reduceBNe, hn]
    refine ⟨M, S, ss, D, rfl, hm, ?_⟩
    by_cases h0 : ss.length = 0
    · rw [if_pos (.inr h0)] at h
      have h0' : (ss.length : Int) = 0 := by omega
      simp only [U2_app, Z54, base1, baseE, ↓reduceIte, Nat.reduceAdd, Nat.reduceSub, Nat.reduceMul, Nat.reduceEqDiff, Nat.reduceLeDiff, Nat.reduceLT, Int.reduceLT, Int.reduceLE, Int.reduceEq, Int.reduceNe, Int.reduceToNat, Int.reduceAdd, Int.reduceSub, reduceCtorEq, Nat.reduceBEq, Nat.reduceBNe, h0']
      exact h
    · rw [if_neg (by omega)] at h
      have h0' : ¬ (ss.length : Int) = 0 := by omega
      simp only [U2_app, Z54, base1, baseE, ↓reduceIte, Nat.reduceAdd, Nat.reduceSub, Nat.reduceMul, Nat.reduceEqDiff, Nat.reduceLeDiff, Nat.reduceLT, Int.reduceLT, Int.reduceLE, Int.reduceEq, Int.reduceNe, Int.reduceToNat, Int.reduceAdd, Int.reduceSub, reduceCtorEq, Nat.reduceBEq, Nat.reduceBNe, h0']
      refine ⟨M, S, ss, D, rfl, hm, ?_⟩
      simp only [U2_app, Z54, base1, baseE, ↓reduceIte, Nat.reduceAdd, Nat.reduceSub, Nat.reduceMul, Nat.reduceEqDiff, Nat.reduceLeDiff, Nat.reduceLT, Int.reduceLT, Int.reduceLE, Int.reduceEq, Int.reduceNe, Int.reduceToNat, Int.reduceAdd, Int.reduceSub, reduceCtorEq, Nat.reduceBEq, Nat.reduceBNe, h0']
      exact h
def readGD (args : List AV) (σ : AHeap) (K : AV → AHeap → Prop) : Prop := ∃ (d : Nat) (bs : List UInt8), args = [.slice d 0 bs.length none 1] ∧ hget σ d = some (bs.map byteAV) ∧ bs.length ≤ 4000000 ∧ K (ansN (readNote bs)) (hkill σ d)
theorem readGD_ok (args : List AV) (σ : AHeap) (K : AV → AHeap → Prop) (h : readGD args σ K) : Tri Try.prog 11 args σ K := by
  obtain ⟨d, bs, rfl, hd, hl, h⟩ := h
  exact (give_bytes hd (read_ok bs hl)).mono fun r σ' hr => by rw [hr.1, hr.2]; exact h
def U3 : PCall := rowQ 54 mplaceD (rowQ 11 readGD U1)
theorem U3_app {f : FuncId} {args : List AV} {σ : AHeap} {K : AV → AHeap → Prop} : U3 f args σ K = rowQ 54 mplaceD (rowQ 11 readGD (rowQ 52 newD (rowQ 53 pushD (rowQ 55 atD (rowQ 56 slenD (rowQ 57 pickD noCall)))))) f args σ K := _root_.id rfl
theorem U3_sound : Sound Try.prog U3 := rowQ_sound mplaceD_ok (rowQ_sound readGD_ok U1_sound)
theorem place_some {i : Int} {n : Nat} (h : ¬ place i n < 0) : ∃ k : Nat, place i n = (k : Int) ∧ k < n ∧ 0 ≤ i := by
  unfold place at h ⊢
  split at h
  · exact absurd (by decide) h
  · rename_i hn
    rw [if_neg hn]
    have h0 : 0 ≤ i := by omega
    have hn0 : 0 < n := by omega
    obtain ⟨c, rfl⟩ := Int.eq_ofNat_of_zero_le h0
    exact ⟨c % n, rfl, Nat.mod_lt _ hn0, h0⟩
def mcopyD (args : List AV) (σ : AHeap) (K : AV → AHeap → Prop) : Prop := ∃ (M S : Nat) (i : Int) (ss : List (List UInt8)) (D : Option Nat), args = [.ptr M 0, .int .i64 i] ∧ i ≤ 9223372036854775807 ∧ Ml σ M S ss D ∧
  (place i ss.length < 0 ∨ 512 ≤ ss.length → K (.bool false) σ) ∧ (∀ (k : Nat) x, place i ss.length = (k : Int) → ss[k]? = some x → ss.length < 512 → ∀ σ' D', Ml σ' M S (ss ++ [x]) D' → FrS σ σ' S D D' → K (.bool true) σ')
theorem mcopyD_ok (args : List AV) (σ : AHeap) (K : AV → AHeap → Prop) (h : mcopyD args σ K) : Tri Try.prog 21 args σ K := by
  obtain ⟨M, S, i, ss, D, rfl, hi, hm, h0, h1⟩ := h
  refine Tri.of_s c21 U3_sound ?_
  simp only [U3_app, Z21, base1, baseE, ↓reduceIte, Nat.reduceAdd, Nat.reduceSub, Nat.reduceMul, Nat.reduceEqDiff, Nat.reduceLeDiff, Nat.reduceLT, Int.reduceLT, Int.reduceLE, Int.reduceEq, Int.reduceNe, Int.reduceToNat, Int.reduceAdd, Int.reduceSub, reduceCtorEq, Nat.reduceBEq, Nat.reduceBNe]
  refine ⟨M, S, i, ss, D, rfl, hi, hm, ?_⟩
  by_cases hp : place i ss.length < 0
  · simp only [U3_app, Z21, base1, baseE, ↓reduceIte, Nat.reduceAdd, Nat.reduceSub, Nat.reduceMul, Nat.reduceEqDiff, Nat.reduceLeDiff, Nat.reduceLT, Int.reduceLT, Int.reduceLE, Int.reduceEq, Int.reduceNe, Int.reduceToNat, Int.reduceAdd, Int.reduceSub, reduceCtorEq, Nat.reduceBEq, Nat.reduceBNe, hp]
    exact h0 (.inl hp)
  · obtain ⟨k, hk, hlt, _⟩ := place_some hp
    rw [hk] at hp h0 h1 ⊢
    simp only [U3_app, Z21, base1, baseE, ↓reduceIte, Nat.reduceAdd, Nat.reduceSub, Nat.reduceMul, Nat.reduceEqDiff, Nat.reduceLeDiff, Nat.reduceLT, Int.reduceLT, Int.reduceLE, Int.reduceEq, Int.reduceNe, Int.reduceToNat, Int.reduceAdd, Int.reduceSub, reduceCtorEq, Nat.reduceBEq, Nat.reduceBNe, hp, hm.m]
    refine ⟨S, (k : Int), ss, D, rfl, hm.sp, hm.few, fun hn => by omega, fun k' x hk' hx => ?_⟩
    have : k' = k := by omega
    subst this
    simp only [U3_app, Z21, base1, baseE, ↓reduceIte, Nat.reduceAdd, Nat.reduceSub, Nat.reduceMul, Nat.reduceEqDiff, Nat.reduceLeDiff, Nat.reduceLT, Int.reduceLT, Int.reduceLE, Int.reduceEq, Int.reduceNe, Int.reduceToNat, Int.reduceAdd, Int.reduceSub, reduceCtorEq, Nat.reduceBEq, Nat.reduceBNe, hm.m]
    refine ⟨S, x, ss, D, rfl, hm.sp, fun hf => ?_, fun hf σ' D' hs hfr => ?_⟩
    · simp only [U3_app, Z21, base1, baseE, ↓reduceIte, Nat.reduceAdd, Nat.reduceSub, Nat.reduceMul, Nat.reduceEqDiff, Nat.reduceLeDiff, Nat.reduceLT, Int.reduceLT, Int.reduceLE, Int.reduceEq, Int.reduceNe, Int.reduceToNat, Int.reduceAdd, Int.reduceSub, reduceCtorEq, Nat.reduceBEq, Nat.reduceBNe]
      exact h0 (.inr hf)
    · simp only [U3_app, Z21, base1, baseE, ↓reduceIte, Nat.reduceAdd, Nat.reduceSub, Nat.reduceMul, Nat.reduceEqDiff, Nat.reduceLeDiff, Nat.reduceLT, Int.reduceLT, Int.reduceLE, Int.reduceEq, Int.reduceNe, Int.reduceToNat, Int.reduceAdd, Int.reduceSub, reduceCtorEq, Nat.reduceBEq, Nat.reduceBNe]
      exact h1 k' x rfl hx hf _ _ (hm.next hs hfr (by simp; omega)) hfr
abbrev zeroC : List AV := bareC 0 0 0 0 0
def mtakeD (args : List AV) (σ : AHeap) (K : AV → AHeap → Prop) : Prop := ∃ (M S : Nat) (i : Int) (ss : List (List UInt8)) (D : Option Nat), args = [.ptr M 0, .int .i64 i] ∧ i ≤ 9223372036854775807 ∧ Ml σ M S ss D ∧ (∀ x ∈ ss, x.length ≤ 4000000) ∧
  (place i ss.length < 0 → ∀ σ', Ml σ' M S ss D → FrS σ σ' S D D → K (.tuple [.agg zeroC, .bool false]) σ') ∧
  (∀ (k : Nat) x, place i ss.length = (k : Int) → ss[k]? = some x → ∀ σ' D', Ml σ' M S (ss.eraseIdx k) D' → FrS σ σ' S D D' → K (.tuple [.agg (readNote x).1.cells, .bool (decide ((readNote x).2 = 0))]) σ')
theorem mtakeD_ok (args : List AV) (σ : AHeap) (K : AV → AHeap → Prop) (h : mtakeD args σ K) : Tri Try.prog 23 args σ K := by
  obtain ⟨M, S, i, ss, D, rfl, hi, hm, hb, h0, h1⟩ := h
  refine Tri.of_s c23 U3_sound ?_
  have mlt := hget_lt hm.m
  have fr0 : ∀ c : List AV, FrS σ (hpush σ c) S D D := fun c j d hj _ h2 => ⟨push_old hj, h2⟩
  have sp0 : ∀ c : List AV, Sp (hpush σ c) S ss D := fun c => sp_frame hm.sp fun j d hj _ => push_old hj
  have m0 : ∀ c : List AV, Ml (hpush σ c) M S ss D := fun c => hm.next (sp0 c) (fr0 c) hm.few
  have slt : S < σ.length := by rcases hm.sp with ⟨_, _, h⟩ | ⟨_, _, _, _, h, _⟩ <;> exact hget_lt h
  have dlt : D ≠ some σ.length := by
    rcases hm.sp with ⟨rfl, _, _⟩ | ⟨d, _, rfl, _, _, h⟩
    · simp
    · have := hget_lt h; intro e; cases e; omega
  have pn : ∀ c : List AV, hget (hpush σ c) σ.length = some c := fun c => push_new rfl
  have sn : ∀ c d : List AV, hget (hset (hpush σ c) σ.length d) σ.length = some d := fun c d => set_same (pn c)
  simp only [U3_app, Z23, base1, baseE, ↓reduceIte, Nat.reduceAdd, Nat.reduceSub, Nat.reduceMul, Nat.reduceEqDiff, Nat.reduceLeDiff, Nat.reduceLT, Int.reduceLT, Int.reduceLE, Int.reduceEq, Int.reduceNe, Int.reduceToNat, Int.reduceAdd, Int.reduceSub, reduceCtorEq, Nat.reduceBEq, Nat.reduceBNe]
  refine ⟨M, S, i, ss, D, rfl, hi, m0 _, ?_⟩
  by_cases hp : place i ss.length < 0
  · have fr1 : ∀ c d : List AV, FrS σ (hset (hpush σ c) σ.length d) S D D := fun c d j x hj _ h2 => ⟨(set_other (by have := hget_lt hj; omega)).trans (push_old hj), h2⟩
    have sp1 : ∀ c d : List AV, Sp (hset (hpush σ c) σ.length d) S ss D := fun c d => sp_frame hm.sp fun j x hj _ => (set_other (by have := hget_lt hj; omega)).trans (push_old hj)
    simp only [U3_app, Z23, base1, baseE, ↓reduceIte, Nat.reduceAdd, Nat.reduceSub, Nat.reduceMul, Nat.reduceEqDiff, Nat.reduceLeDiff, Nat.reduceLT, Int.reduceLT, Int.reduceLE, Int.reduceEq, Int.reduceNe, Int.reduceToNat, Int.reduceAdd, Int.reduceSub, reduceCtorEq, Nat.reduceBEq, Nat.reduceBNe, hp, pn, sn]
    exact h0 hp _ (hm.next (sp1 _ _) (fr1 _ _) hm.few) (fr1 _ _)
  · obtain ⟨k, hk, hlt, _⟩ := place_some hp
    rw [hk] at hp h0 h1 ⊢
    have gm : ∀ c : List AV, hget (hpush σ c) M = some [.ptr S 0] := fun c => push_old hm.m
    simp only [U3_app, Z23, base1, baseE, ↓reduceIte, Nat.reduceAdd, Nat.reduceSub, Nat.reduceMul, Nat.reduceEqDiff, Nat.reduceLeDiff, Nat.reduceLT, Int.reduceLT, Int.reduceLE, Int.reduceEq, Int.reduceNe, Int.reduceToNat, Int.reduceAdd, Int.reduceSub, reduceCtorEq, Nat.reduceBEq, Nat.reduceBNe, hp, gm]
    refine ⟨S, (k : Int), ss, D, rfl, sp0 _, hm.few, fun hn => by omega, fun k' x hk' hx σ1 D1 hs1 hf1 => ?_⟩
    have : k' = k := by omega
    subst this
    obtain ⟨b1, b2⟩ := hf1 σ.length _ (pn _) (by omega) dlt
    have m1 : Ml σ1 M S (ss.eraseIdx k') D1 := (m0 _).next hs1 hf1 (by rw [List.length_eraseIdx, if_pos hlt]; have := hm.few; omega)
    have f1 : FrS σ σ1 S D D1 := (fr0 _).trans hf1
    simp only [U3_app, Z23, base1, baseE, ↓reduceIte, Nat.reduceAdd, Nat.reduceSub, Nat.reduceMul, Nat.reduceEqDiff, Nat.reduceLeDiff, Nat.reduceLT, Int.reduceLT, Int.reduceLE, Int.reduceEq, Int.reduceNe, Int.reduceToNat, Int.reduceAdd, Int.reduceSub, reduceCtorEq, Nat.reduceBEq, Nat.reduceBNe]
    refine ⟨σ1.length, x, rfl, push_new rfl, hb x (List.mem_of_getElem? hx), ?_⟩
    have kp' : ∀ {j : Nat} {c d : List AV}, hget σ1 j = some d → hget (hkill (hpush σ1 c) σ1.length) j = some d := fun {j c d} h => by
      have := hget_lt h
      exact (kill_other (by omega)).trans (push_old h)
    have f2 : FrS σ1 (hkill (hpush σ1 (x.map byteAV)) σ1.length) S D1 D1 := fun j c hj _ h2 => ⟨kp' hj, h2⟩
    have s2 : Sp (hkill (hpush σ1 (x.map byteAV)) σ1.length) S (ss.eraseIdx k') D1 := sp_frame hs1 fun j c hj _ => kp' hj
    have b3 := kp' (c := x.map byteAV) b1
    have m2 := m1.next s2 f2 m1.few
    have f3 := f1.trans f2
    generalize hkill (hpush σ1 (x.map byteAV)) σ1.length = σ2 at b3 m2 f3 ⊢
    have l2 := hget_lt b3
    have q1 : ∀ c : List AV, hget (hpush σ2 c) σ2.length = some c := fun c => push_new rfl
    have q2 : ∀ c d : List AV, hget (hset (hpush σ2 c) σ2.length d) σ2.length = some d := fun c d => set_same (q1 c)
    have q3 : ∀ c d : List AV, hget (hset (hpush σ2 c) σ2.length d) σ.length = some zeroC := fun c d => (set_other (by omega)).trans (push_old b3)
    have q4 : ∀ c d e : List AV, hget (hset (hset (hpush σ2 c) σ2.length d) σ.length e) σ.length = some e := fun c d e => set_same (q3 c d)
    have hz := h1 k' x rfl hx
    generalize readNote x = p at hz ⊢
    obtain ⟨n, z⟩ := p
    have pz : put zeroC 0 n.cells = some n.cells := put_all rfl
    have sbn : sub n.cells 0 27 = some n.cells := rfl
    have ncl : n.cells.length = 27 := rfl
    have ncc : (n.cells.all fun x => x.isCell) = true := rfl
    simp only [U3_app, Z23, base1, baseE, ↓reduceIte, Nat.reduceAdd, Nat.reduceSub, Nat.reduceMul, Nat.reduceEqDiff, Nat.reduceLeDiff, Nat.reduceLT, Int.reduceLT, Int.reduceLE, Int.reduceEq, Int.reduceNe, Int.reduceToNat, Int.reduceAdd, Int.reduceSub, reduceCtorEq, Nat.reduceBEq, Nat.reduceBNe, ansN, q1, q2, q3, q4, pz, sbn, ncl, ncc]
    have keep : ∀ (c d e : List AV) {j : Nat} {y : List AV}, hget σ2 j = some y → j ≠ σ.length → hget (hset (hset (hpush σ2 c) σ2.length d) σ.length e) j = some y := fun c d e {j y} hj hne => by
      have := hget_lt hj
      rw [set_other (fun h => hne h.symm), set_other (by omega)]; exact push_old hj
    have f4 : ∀ c d e : List AV, FrS σ (hset (hset (hpush σ2 c) σ2.length d) σ.length e) S D D1 := fun c d e j y hj h1' h2' => by
      obtain ⟨a1, a2⟩ := f3 j y hj h1' h2'
      exact ⟨keep c d e a1 (by have := hget_lt hj; omega), a2⟩
    have s4 : ∀ c d e : List AV, Sp (hset (hset (hpush σ2 c) σ2.length d) σ.length e) S (ss.eraseIdx k') D1 := fun c d e => sp_frame m2.sp fun j y hj hjd => keep c d e hj (by
      rcases hjd with rfl | h
      · omega
      · intro hh; subst hh; exact b2 h)
    exact hz _ D1 (hm.next (s4 _ _ _) (f4 _ _ _) m2.few) (f4 _ _ _)
end Go.Proofs.Ytndlgmciplckjaa.note
