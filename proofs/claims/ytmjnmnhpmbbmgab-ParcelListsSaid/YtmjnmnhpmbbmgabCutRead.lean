/- What the readers do, as functions of the bytes that are left and of the error so far. No condition. -/
import Derived.Test.YtmjnmnhpmbbmgabCutPack
set_option linter.unusedVariables false
set_option linter.unusedSimpArgs false
namespace Go.Proofs.Ytmjnmnhpmbbmgab.parcelCuts
open Go.ChangeShapes Go.WideShapes Go.ChangeAt Go.RowKit Go.Gz
section
variable {C : PCall} {n0 : Nat} {R : MExit → Env → AHeap → Prop} {k : Cont} {e : Env} {σ : AHeap}
def r28_0 : List MOper := [⟨(some 2), .move (.c (.int .i64 0)), none⟩]
def b28_0 : SCode := .region r28_0
theorem x28_0 : sC C n0 b28_0 (unw C n0 R k) e σ = sOps C r28_0 (unw C n0 R k .normal) e σ := _root_.id rfl
def r28_1 : List MOper := [⟨(some 5), .move (.t 0), none⟩,
  ⟨(some 6), .call 43 [(.t 5), (.c (.int .i64 4))], none⟩,
  ⟨(some 3), .move (.t 6), none⟩]
def b28_1 : SCode := .region r28_1
theorem x28_1 : sC C n0 b28_1 (unw C n0 R k) e σ = sOps C r28_1 (unw C n0 R k .normal) e σ := _root_.id rfl
def t28_2 : LTree := (.quiet ⟨(some 7), .move (.t 3), none⟩ 0
  (.quiet ⟨(some 8), .indexAddr 1 (.t 7) (.c (.int .i64 0)), none⟩ 1
  (.quiet ⟨(some 9), .load1 (.t 8), none⟩ 2
  (.quiet ⟨(some 10), .convInt .i64 (.t 9), none⟩ 3
  (.quiet ⟨(some 11), .bin .shl .num (.t 10) (.c (.int .u64 24)), none⟩ 4
  (.quiet ⟨(some 12), .move (.t 3), none⟩ 5
  (.quiet ⟨(some 13), .indexAddr 1 (.t 12) (.c (.int .i64 1)), none⟩ 6
  (.quiet ⟨(some 14), .load1 (.t 13), none⟩ 7
  (.quiet ⟨(some 15), .convInt .i64 (.t 14), none⟩ 8
  (.quiet ⟨(some 16), .bin .shl .num (.t 15) (.c (.int .u64 16)), none⟩ 9
  (.quiet ⟨(some 17), .bin .or .num (.t 11) (.t 16), none⟩ 10
  (.quiet ⟨(some 18), .move (.t 3), none⟩ 11
  (.quiet ⟨(some 19), .indexAddr 1 (.t 18) (.c (.int .i64 2)), none⟩ 12
  (.quiet ⟨(some 20), .load1 (.t 19), none⟩ 13
  (.quiet ⟨(some 21), .convInt .i64 (.t 20), none⟩ 14
  (.quiet ⟨(some 22), .bin .shl .num (.t 21) (.c (.int .u64 8)), none⟩ 15
  (.quiet ⟨(some 23), .bin .or .num (.t 17) (.t 22), none⟩ 16
  (.quiet ⟨(some 24), .move (.t 3), none⟩ 17
  (.quiet ⟨(some 25), .indexAddr 1 (.t 24) (.c (.int .i64 3)), none⟩ 18
  (.quiet ⟨(some 26), .load1 (.t 25), none⟩ 19
  (.quiet ⟨(some 27), .convInt .i64 (.t 26), none⟩ 20
  (.quiet ⟨(some 28), .bin .or .num (.t 23) (.t 27), none⟩ 21
  (.quiet ⟨(some 4), .move (.t 28), none⟩ 22
  .leaf)))))))))))))))))))))))
def b28_2 : SCode := .draw t28_2
theorem x28_2 : sC C n0 b28_2 (unw C n0 R k) e σ = sTree C (unw C n0 R k .normal) t28_2 [] e σ := _root_.id rfl
def r28_3 : List MOper := [⟨(some 29), .move (.t 0), none⟩,
  ⟨(some 30), .nilCheck (.t 29), none⟩,
  ⟨(some 31), .fieldAddr 1 (.t 30), none⟩,
  ⟨(some 32), .load1 (.t 31), none⟩,
  ⟨(some 33), .bin .eql .num (.t 32) (.c (.int .i64 0)), none⟩,
  ⟨(some 34), .move (.t 33), none⟩,
  ⟨(some 35), .move (.t 4), (some (34, true))⟩,
  ⟨(some 36), .bin .gtr .num (.t 35) (.c (.int .i64 268435455)), (some (34, true))⟩,
  ⟨(some 37), .pick (.t 34) (.t 36) (.c (.bool false)), none⟩]
def b28_3 : SCode := .region r28_3
theorem x28_3 : sC C n0 b28_3 (unw C n0 R k) e σ = sOps C r28_3 (unw C n0 R k .normal) e σ := _root_.id rfl
def r28_4 : List MOper := [⟨(some 38), .move (.t 0), none⟩,
  ⟨(some 39), .nilCheck (.t 38), none⟩,
  ⟨(some 40), .fieldAddr 1 (.t 39), none⟩,
  ⟨none, .store 1 (.t 40) (.c (.int .i64 5)), none⟩]
def b28_4 : SCode := .region r28_4
theorem x28_4 : sC C n0 b28_4 (unw C n0 R k) e σ = sOps C r28_4 (unw C n0 R k .normal) e σ := _root_.id rfl
def b28_5 : SCode := .cond (.t 37) b28_4 .skip
theorem x28_5 : sC C n0 b28_5 (unw C n0 R k) e σ = condK C n0 R (Opd.ev e (.t 37)) b28_4 .skip k e σ := sC_cond
def b28_6 : SCode := .seq b28_3 b28_5
theorem x28_6 : sC C n0 b28_6 (unw C n0 R k) e σ = sC C n0 b28_3 (unw C n0 R (.seq b28_5 k)) e σ := _root_.id rfl
def r28_7 : List MOper := [⟨(some 41), .move (.t 0), none⟩,
  ⟨(some 42), .nilCheck (.t 41), none⟩,
  ⟨(some 43), .fieldAddr 1 (.t 42), none⟩,
  ⟨(some 44), .load1 (.t 43), none⟩,
  ⟨(some 45), .bin .neq .num (.t 44) (.c (.int .i64 0)), none⟩]
def b28_7 : SCode := .region r28_7
theorem x28_7 : sC C n0 b28_7 (unw C n0 R k) e σ = sOps C r28_7 (unw C n0 R k .normal) e σ := _root_.id rfl
def r28_8 : List MOper := [⟨(some 2), .move (.c (.int .i64 0)), none⟩]
def b28_8 : SCode := .region r28_8
theorem x28_8 : sC C n0 b28_8 (unw C n0 R k) e σ = sOps C r28_8 (unw C n0 R k .normal) e σ := _root_.id rfl
def b28_9 : SCode := .seq b28_8 .ret
theorem x28_9 : sC C n0 b28_9 (unw C n0 R k) e σ = sC C n0 b28_8 (unw C n0 R (.seq .ret k)) e σ := _root_.id rfl
def b28_10 : SCode := .cond (.t 45) b28_9 .skip
theorem x28_10 : sC C n0 b28_10 (unw C n0 R k) e σ = condK C n0 R (Opd.ev e (.t 45)) b28_9 .skip k e σ := sC_cond
def b28_11 : SCode := .seq b28_7 b28_10
theorem x28_11 : sC C n0 b28_11 (unw C n0 R k) e σ = sC C n0 b28_7 (unw C n0 R (.seq b28_10 k)) e σ := _root_.id rfl
def r28_12 : List MOper := [⟨(some 46), .move (.t 4), none⟩,
  ⟨(some 2), .move (.t 46), none⟩]
def b28_12 : SCode := .region r28_12
theorem x28_12 : sC C n0 b28_12 (unw C n0 R k) e σ = sOps C r28_12 (unw C n0 R k .normal) e σ := _root_.id rfl
def b28_13 : SCode := .seq b28_12 .ret
theorem x28_13 : sC C n0 b28_13 (unw C n0 R k) e σ = sC C n0 b28_12 (unw C n0 R (.seq .ret k)) e σ := _root_.id rfl
def b28_14 : SCode := .seq b28_11 b28_13
theorem x28_14 : sC C n0 b28_14 (unw C n0 R k) e σ = sC C n0 b28_11 (unw C n0 R (.seq b28_13 k)) e σ := _root_.id rfl
def b28_15 : SCode := .seq b28_6 b28_14
theorem x28_15 : sC C n0 b28_15 (unw C n0 R k) e σ = sC C n0 b28_6 (unw C n0 R (.seq b28_14 k)) e σ := _root_.id rfl
def b28_16 : SCode := .seq b28_2 b28_15
theorem x28_16 : sC C n0 b28_16 (unw C n0 R k) e σ = sC C n0 b28_2 (unw C n0 R (.seq b28_15 k)) e σ := _root_.id rfl
def b28_17 : SCode := .seq b28_1 b28_16
theorem x28_17 : sC C n0 b28_17 (unw C n0 R k) e σ = sC C n0 b28_1 (unw C n0 R (.seq b28_16 k)) e σ := _root_.id rfl
def b28_18 : SCode := .seq b28_0 b28_17
theorem x28_18 : sC C n0 b28_18 (unw C n0 R k) e σ = sC C n0 b28_0 (unw C n0 R (.seq b28_17 k)) e σ := _root_.id rfl
def s28 : SFunc := ⟨47, [.t 2], b28_18⟩
theorem c28 : sFn Try.prog 28 = some s28 := by kernel_rfl
theorem y28 {args : List AV} {Q : AV → AHeap → Prop} : sF C s28 args σ Q = (args.length ≤ 47 ∧ sC C σ.length b28_18 (unw C σ.length (RetQ [.t 2] Q) .fin) (argEnv args) σ) := _root_.id rfl
def r29_0 : List MOper := [⟨(some 2), .move (.c (.str [])), none⟩]
def b29_0 : SCode := .region r29_0
theorem x29_0 : sC C n0 b29_0 (unw C n0 R k) e σ = sOps C r29_0 (unw C n0 R k .normal) e σ := _root_.id rfl
def r29_1 : List MOper := [⟨(some 4), .move (.t 0), none⟩,
  ⟨(some 5), .move (.t 0), none⟩,
  ⟨(some 6), .call 28 [(.t 5)], none⟩,
  ⟨(some 7), .call 43 [(.t 4), (.t 6)], none⟩,
  ⟨(some 8), .ofBytes (.t 7), none⟩,
  ⟨(some 3), .move (.t 8), none⟩]
def b29_1 : SCode := .region r29_1
theorem x29_1 : sC C n0 b29_1 (unw C n0 R k) e σ = sOps C r29_1 (unw C n0 R k .normal) e σ := _root_.id rfl
def r29_2 : List MOper := [⟨(some 9), .move (.t 0), none⟩,
  ⟨(some 10), .nilCheck (.t 9), none⟩,
  ⟨(some 11), .fieldAddr 1 (.t 10), none⟩,
  ⟨(some 12), .load1 (.t 11), none⟩,
  ⟨(some 13), .bin .neq .num (.t 12) (.c (.int .i64 0)), none⟩]
def b29_2 : SCode := .region r29_2
theorem x29_2 : sC C n0 b29_2 (unw C n0 R k) e σ = sOps C r29_2 (unw C n0 R k .normal) e σ := _root_.id rfl
def r29_3 : List MOper := [⟨(some 2), .move (.c (.str [])), none⟩]
def b29_3 : SCode := .region r29_3
theorem x29_3 : sC C n0 b29_3 (unw C n0 R k) e σ = sOps C r29_3 (unw C n0 R k .normal) e σ := _root_.id rfl
def b29_4 : SCode := .seq b29_3 .ret
theorem x29_4 : sC C n0 b29_4 (unw C n0 R k) e σ = sC C n0 b29_3 (unw C n0 R (.seq .ret k)) e σ := _root_.id rfl
def b29_5 : SCode := .cond (.t 13) b29_4 .skip
theorem x29_5 : sC C n0 b29_5 (unw C n0 R k) e σ = condK C n0 R (Opd.ev e (.t 13)) b29_4 .skip k e σ := sC_cond
def b29_6 : SCode := .seq b29_2 b29_5
theorem x29_6 : sC C n0 b29_6 (unw C n0 R k) e σ = sC C n0 b29_2 (unw C n0 R (.seq b29_5 k)) e σ := _root_.id rfl
def r29_7 : List MOper := [⟨(some 14), .move (.t 3), none⟩,
  ⟨(some 2), .move (.t 14), none⟩]
def b29_7 : SCode := .region r29_7
theorem x29_7 : sC C n0 b29_7 (unw C n0 R k) e σ = sOps C r29_7 (unw C n0 R k .normal) e σ := _root_.id rfl
def b29_8 : SCode := .seq b29_7 .ret
theorem x29_8 : sC C n0 b29_8 (unw C n0 R k) e σ = sC C n0 b29_7 (unw C n0 R (.seq .ret k)) e σ := _root_.id rfl
def b29_9 : SCode := .seq b29_6 b29_8
theorem x29_9 : sC C n0 b29_9 (unw C n0 R k) e σ = sC C n0 b29_6 (unw C n0 R (.seq b29_8 k)) e σ := _root_.id rfl
def b29_10 : SCode := .seq b29_1 b29_9
theorem x29_10 : sC C n0 b29_10 (unw C n0 R k) e σ = sC C n0 b29_1 (unw C n0 R (.seq b29_9 k)) e σ := _root_.id rfl
def b29_11 : SCode := .seq b29_0 b29_10
theorem x29_11 : sC C n0 b29_11 (unw C n0 R k) e σ = sC C n0 b29_0 (unw C n0 R (.seq b29_10 k)) e σ := _root_.id rfl
def s29 : SFunc := ⟨15, [.t 2], b29_11⟩
theorem c29 : sFn Try.prog 29 = some s29 := by kernel_rfl
theorem y29 {args : List AV} {Q : AV → AHeap → Prop} : sF C s29 args σ Q = (args.length ≤ 15 ∧ sC C σ.length b29_11 (unw C σ.length (RetQ [.t 2] Q) .fin) (argEnv args) σ) := _root_.id rfl
def r30_0 : List MOper := [⟨(some 2), .move (.c (.int .i64 0)), none⟩]
def b30_0 : SCode := .region r30_0
theorem x30_0 : sC C n0 b30_0 (unw C n0 R k) e σ = sOps C r30_0 (unw C n0 R k .normal) e σ := _root_.id rfl
def r30_1 : List MOper := [⟨(some 3), .move (.t 0), none⟩,
  ⟨(some 4), .nilCheck (.t 3), none⟩,
  ⟨(some 5), .fieldAddr 1 (.t 4), none⟩,
  ⟨(some 6), .load1 (.t 5), none⟩,
  ⟨(some 7), .bin .eql .num (.t 6) (.c (.int .i64 0)), none⟩,
  ⟨(some 8), .move (.t 7), none⟩,
  ⟨(some 9), .move (.t 0), (some (8, true))⟩,
  ⟨(some 10), .nilCheck (.t 9), (some (8, true))⟩,
  ⟨(some 11), .fieldAddr 0 (.t 10), (some (8, true))⟩,
  ⟨(some 12), .load1 (.t 11), (some (8, true))⟩,
  ⟨(some 13), .lenSl (.t 12), (some (8, true))⟩,
  ⟨(some 14), .bin .gtr .num (.t 13) (.c (.int .i64 0)), (some (8, true))⟩,
  ⟨(some 15), .pick (.t 8) (.t 14) (.c (.bool false)), none⟩]
def b30_1 : SCode := .region r30_1
theorem x30_1 : sC C n0 b30_1 (unw C n0 R k) e σ = sOps C r30_1 (unw C n0 R k .normal) e σ := _root_.id rfl
def r30_2 : List MOper := [⟨(some 16), .move (.t 0), none⟩,
  ⟨(some 17), .nilCheck (.t 16), none⟩,
  ⟨(some 18), .fieldAddr 1 (.t 17), none⟩,
  ⟨none, .store 1 (.t 18) (.c (.int .i64 5)), none⟩]
def b30_2 : SCode := .region r30_2
theorem x30_2 : sC C n0 b30_2 (unw C n0 R k) e σ = sOps C r30_2 (unw C n0 R k .normal) e σ := _root_.id rfl
def b30_3 : SCode := .cond (.t 15) b30_2 .skip
theorem x30_3 : sC C n0 b30_3 (unw C n0 R k) e σ = condK C n0 R (Opd.ev e (.t 15)) b30_2 .skip k e σ := sC_cond
def b30_4 : SCode := .seq b30_1 b30_3
theorem x30_4 : sC C n0 b30_4 (unw C n0 R k) e σ = sC C n0 b30_1 (unw C n0 R (.seq b30_3 k)) e σ := _root_.id rfl
def r30_5 : List MOper := [⟨(some 19), .move (.t 0), none⟩,
  ⟨(some 20), .nilCheck (.t 19), none⟩,
  ⟨(some 21), .fieldAddr 1 (.t 20), none⟩,
  ⟨(some 22), .load1 (.t 21), none⟩,
  ⟨(some 2), .move (.t 22), none⟩]
def b30_5 : SCode := .region r30_5
theorem x30_5 : sC C n0 b30_5 (unw C n0 R k) e σ = sOps C r30_5 (unw C n0 R k .normal) e σ := _root_.id rfl
def b30_6 : SCode := .seq b30_5 .ret
theorem x30_6 : sC C n0 b30_6 (unw C n0 R k) e σ = sC C n0 b30_5 (unw C n0 R (.seq .ret k)) e σ := _root_.id rfl
def b30_7 : SCode := .seq b30_4 b30_6
theorem x30_7 : sC C n0 b30_7 (unw C n0 R k) e σ = sC C n0 b30_4 (unw C n0 R (.seq b30_6 k)) e σ := _root_.id rfl
def b30_8 : SCode := .seq b30_0 b30_7
theorem x30_8 : sC C n0 b30_8 (unw C n0 R k) e σ = sC C n0 b30_0 (unw C n0 R (.seq b30_7 k)) e σ := _root_.id rfl
def s30 : SFunc := ⟨23, [.t 2], b30_8⟩
theorem c30 : sFn Try.prog 30 = some s30 := by kernel_rfl
theorem y30 {args : List AV} {Q : AV → AHeap → Prop} : sF C s30 args σ Q = (args.length ≤ 23 ∧ sC C σ.length b30_8 (unw C σ.length (RetQ [.t 2] Q) .fin) (argEnv args) σ) := _root_.id rfl
def r33_0 : List MOper := [⟨(some 2), .move (.c (.bool false)), none⟩]
def b33_0 : SCode := .region r33_0
theorem x33_0 : sC C n0 b33_0 (unw C n0 R k) e σ = sOps C r33_0 (unw C n0 R k .normal) e σ := _root_.id rfl
def r33_1 : List MOper := [⟨(some 4), .move (.t 0), none⟩,
  ⟨(some 5), .call 43 [(.t 4), (.c (.int .i64 1))], none⟩,
  ⟨(some 6), .indexAddr 1 (.t 5) (.c (.int .i64 0)), none⟩,
  ⟨(some 7), .load1 (.t 6), none⟩,
  ⟨(some 3), .move (.t 7), none⟩]
def b33_1 : SCode := .region r33_1
theorem x33_1 : sC C n0 b33_1 (unw C n0 R k) e σ = sOps C r33_1 (unw C n0 R k .normal) e σ := _root_.id rfl
def r33_2 : List MOper := [⟨(some 8), .move (.t 0), none⟩,
  ⟨(some 9), .nilCheck (.t 8), none⟩,
  ⟨(some 10), .fieldAddr 1 (.t 9), none⟩,
  ⟨(some 11), .load1 (.t 10), none⟩,
  ⟨(some 12), .bin .eql .num (.t 11) (.c (.int .i64 0)), none⟩,
  ⟨(some 13), .move (.t 12), none⟩,
  ⟨(some 14), .move (.t 3), (some (13, true))⟩,
  ⟨(some 15), .bin .gtr .num (.t 14) (.c (.int .u8 1)), (some (13, true))⟩,
  ⟨(some 16), .pick (.t 13) (.t 15) (.c (.bool false)), none⟩]
def b33_2 : SCode := .region r33_2
theorem x33_2 : sC C n0 b33_2 (unw C n0 R k) e σ = sOps C r33_2 (unw C n0 R k .normal) e σ := _root_.id rfl
def r33_3 : List MOper := [⟨(some 17), .move (.t 0), none⟩,
  ⟨(some 18), .nilCheck (.t 17), none⟩,
  ⟨(some 19), .fieldAddr 1 (.t 18), none⟩,
  ⟨none, .store 1 (.t 19) (.c (.int .i64 5)), none⟩]
def b33_3 : SCode := .region r33_3
theorem x33_3 : sC C n0 b33_3 (unw C n0 R k) e σ = sOps C r33_3 (unw C n0 R k .normal) e σ := _root_.id rfl
def b33_4 : SCode := .cond (.t 16) b33_3 .skip
theorem x33_4 : sC C n0 b33_4 (unw C n0 R k) e σ = condK C n0 R (Opd.ev e (.t 16)) b33_3 .skip k e σ := sC_cond
def b33_5 : SCode := .seq b33_2 b33_4
theorem x33_5 : sC C n0 b33_5 (unw C n0 R k) e σ = sC C n0 b33_2 (unw C n0 R (.seq b33_4 k)) e σ := _root_.id rfl
def r33_6 : List MOper := [⟨(some 20), .move (.t 0), none⟩,
  ⟨(some 21), .nilCheck (.t 20), none⟩,
  ⟨(some 22), .fieldAddr 1 (.t 21), none⟩,
  ⟨(some 23), .load1 (.t 22), none⟩,
  ⟨(some 24), .bin .eql .num (.t 23) (.c (.int .i64 0)), none⟩,
  ⟨(some 25), .move (.t 24), none⟩,
  ⟨(some 26), .move (.t 3), (some (25, true))⟩,
  ⟨(some 27), .bin .eql .num (.t 26) (.c (.int .u8 1)), (some (25, true))⟩,
  ⟨(some 28), .pick (.t 25) (.t 27) (.c (.bool false)), none⟩,
  ⟨(some 2), .move (.t 28), none⟩]
def b33_6 : SCode := .region r33_6
theorem x33_6 : sC C n0 b33_6 (unw C n0 R k) e σ = sOps C r33_6 (unw C n0 R k .normal) e σ := _root_.id rfl
def b33_7 : SCode := .seq b33_6 .ret
theorem x33_7 : sC C n0 b33_7 (unw C n0 R k) e σ = sC C n0 b33_6 (unw C n0 R (.seq .ret k)) e σ := _root_.id rfl
def b33_8 : SCode := .seq b33_5 b33_7
theorem x33_8 : sC C n0 b33_8 (unw C n0 R k) e σ = sC C n0 b33_5 (unw C n0 R (.seq b33_7 k)) e σ := _root_.id rfl
def b33_9 : SCode := .seq b33_1 b33_8
theorem x33_9 : sC C n0 b33_9 (unw C n0 R k) e σ = sC C n0 b33_1 (unw C n0 R (.seq b33_8 k)) e σ := _root_.id rfl
def b33_10 : SCode := .seq b33_0 b33_9
theorem x33_10 : sC C n0 b33_10 (unw C n0 R k) e σ = sC C n0 b33_0 (unw C n0 R (.seq b33_9 k)) e σ := _root_.id rfl
def s33 : SFunc := ⟨29, [.t 2], b33_10⟩
theorem c33 : sFn Try.prog 33 = some s33 := by kernel_rfl
theorem y33 {args : List AV} {Q : AV → AHeap → Prop} : sF C s33 args σ Q = (args.length ≤ 29 ∧ sC C σ.length b33_10 (unw C σ.length (RetQ [.t 2] Q) .fin) (argEnv args) σ) := _root_.id rfl
def r43_0 : List MOper := [⟨(some 4), .move (.c (.nilslice)), none⟩]
def b43_0 : SCode := .region r43_0
theorem x43_0 : sC C n0 b43_0 (unw C n0 R k) e σ = sOps C r43_0 (unw C n0 R k .normal) e σ := _root_.id rfl
def r43_1 : List MOper := [⟨(some 6), .move (.t 0), none⟩,
  ⟨(some 7), .nilCheck (.t 6), none⟩,
  ⟨(some 8), .fieldAddr 1 (.t 7), none⟩,
  ⟨(some 9), .load1 (.t 8), none⟩,
  ⟨(some 10), .bin .eql .num (.t 9) (.c (.int .i64 0)), none⟩,
  ⟨(some 11), .move (.t 10), none⟩,
  ⟨(some 12), .move (.t 1), (some (11, true))⟩,
  ⟨(some 13), .move (.t 0), (some (11, true))⟩,
  ⟨(some 14), .nilCheck (.t 13), (some (11, true))⟩,
  ⟨(some 15), .fieldAddr 0 (.t 14), (some (11, true))⟩,
  ⟨(some 16), .load1 (.t 15), (some (11, true))⟩,
  ⟨(some 17), .lenSl (.t 16), (some (11, true))⟩,
  ⟨(some 18), .bin .gtr .num (.t 12) (.t 17), (some (11, true))⟩,
  ⟨(some 19), .pick (.t 11) (.t 18) (.c (.bool false)), none⟩]
def b43_1 : SCode := .region r43_1
theorem x43_1 : sC C n0 b43_1 (unw C n0 R k) e σ = sOps C r43_1 (unw C n0 R k .normal) e σ := _root_.id rfl
def r43_2 : List MOper := [⟨(some 20), .move (.t 0), none⟩,
  ⟨(some 21), .nilCheck (.t 20), none⟩,
  ⟨(some 22), .fieldAddr 1 (.t 21), none⟩,
  ⟨none, .store 1 (.t 22) (.c (.int .i64 7)), none⟩]
def b43_2 : SCode := .region r43_2
theorem x43_2 : sC C n0 b43_2 (unw C n0 R k) e σ = sOps C r43_2 (unw C n0 R k .normal) e σ := _root_.id rfl
def b43_3 : SCode := .cond (.t 19) b43_2 .skip
theorem x43_3 : sC C n0 b43_3 (unw C n0 R k) e σ = condK C n0 R (Opd.ev e (.t 19)) b43_2 .skip k e σ := sC_cond
def b43_4 : SCode := .seq b43_1 b43_3
theorem x43_4 : sC C n0 b43_4 (unw C n0 R k) e σ = sC C n0 b43_1 (unw C n0 R (.seq b43_3 k)) e σ := _root_.id rfl
def r43_5 : List MOper := [⟨(some 23), .move (.t 0), none⟩,
  ⟨(some 24), .nilCheck (.t 23), none⟩,
  ⟨(some 25), .fieldAddr 1 (.t 24), none⟩,
  ⟨(some 26), .load1 (.t 25), none⟩,
  ⟨(some 27), .bin .neq .num (.t 26) (.c (.int .i64 0)), none⟩]
def b43_5 : SCode := .region r43_5
theorem x43_5 : sC C n0 b43_5 (unw C n0 R k) e σ = sOps C r43_5 (unw C n0 R k .normal) e σ := _root_.id rfl
def r43_6 : List MOper := [⟨(some 28), .move (.t 1), none⟩,
  ⟨(some 29), .minmax false [(.t 28), (.c (.int .i64 4))], none⟩,
  ⟨(some 30), .makeSlice [.int .u8 0] 1 1 (.t 29) (.t 29), none⟩,
  ⟨(some 4), .move (.t 30), none⟩]
def b43_6 : SCode := .region r43_6
theorem x43_6 : sC C n0 b43_6 (unw C n0 R k) e σ = sOps C r43_6 (unw C n0 R k .normal) e σ := _root_.id rfl
def b43_7 : SCode := .seq b43_6 .ret
theorem x43_7 : sC C n0 b43_7 (unw C n0 R k) e σ = sC C n0 b43_6 (unw C n0 R (.seq .ret k)) e σ := _root_.id rfl
def b43_8 : SCode := .cond (.t 27) b43_7 .skip
theorem x43_8 : sC C n0 b43_8 (unw C n0 R k) e σ = condK C n0 R (Opd.ev e (.t 27)) b43_7 .skip k e σ := sC_cond
def b43_9 : SCode := .seq b43_5 b43_8
theorem x43_9 : sC C n0 b43_9 (unw C n0 R k) e σ = sC C n0 b43_5 (unw C n0 R (.seq b43_8 k)) e σ := _root_.id rfl
def r43_10 : List MOper := [⟨(some 31), .move (.t 0), none⟩,
  ⟨(some 32), .nilCheck (.t 31), none⟩,
  ⟨(some 33), .fieldAddr 0 (.t 32), none⟩,
  ⟨(some 34), .load1 (.t 33), none⟩,
  ⟨(some 35), .move (.t 1), none⟩,
  ⟨(some 36), .slice 1 (.t 34) none (some (.t 35)) none, none⟩,
  ⟨(some 5), .move (.t 36), none⟩]
def b43_10 : SCode := .region r43_10
theorem x43_10 : sC C n0 b43_10 (unw C n0 R k) e σ = sOps C r43_10 (unw C n0 R k .normal) e σ := _root_.id rfl
def r43_11 : List MOper := [⟨(some 37), .move (.t 0), none⟩,
  ⟨(some 38), .move (.t 0), none⟩,
  ⟨(some 39), .nilCheck (.t 38), none⟩,
  ⟨(some 40), .fieldAddr 0 (.t 39), none⟩,
  ⟨(some 41), .load1 (.t 40), none⟩,
  ⟨(some 42), .move (.t 1), none⟩,
  ⟨(some 43), .slice 1 (.t 41) (some (.t 42)) none none, none⟩,
  ⟨(some 44), .nilCheck (.t 37), none⟩,
  ⟨(some 45), .fieldAddr 0 (.t 44), none⟩,
  ⟨none, .store 1 (.t 45) (.t 43), none⟩]
def b43_11 : SCode := .region r43_11
theorem x43_11 : sC C n0 b43_11 (unw C n0 R k) e σ = sOps C r43_11 (unw C n0 R k .normal) e σ := _root_.id rfl
def r43_12 : List MOper := [⟨(some 46), .move (.t 5), none⟩,
  ⟨(some 4), .move (.t 46), none⟩]
def b43_12 : SCode := .region r43_12
theorem x43_12 : sC C n0 b43_12 (unw C n0 R k) e σ = sOps C r43_12 (unw C n0 R k .normal) e σ := _root_.id rfl
def b43_13 : SCode := .seq b43_12 .ret
theorem x43_13 : sC C n0 b43_13 (unw C n0 R k) e σ = sC C n0 b43_12 (unw C n0 R (.seq .ret k)) e σ := _root_.id rfl
def b43_14 : SCode := .seq b43_11 b43_13
theorem x43_14 : sC C n0 b43_14 (unw C n0 R k) e σ = sC C n0 b43_11 (unw C n0 R (.seq b43_13 k)) e σ := _root_.id rfl
def b43_15 : SCode := .seq b43_10 b43_14
theorem x43_15 : sC C n0 b43_15 (unw C n0 R k) e σ = sC C n0 b43_10 (unw C n0 R (.seq b43_14 k)) e σ := _root_.id rfl
def b43_16 : SCode := .seq b43_9 b43_15
theorem x43_16 : sC C n0 b43_16 (unw C n0 R k) e σ = sC C n0 b43_9 (unw C n0 R (.seq b43_15 k)) e σ := _root_.id rfl
def b43_17 : SCode := .seq b43_4 b43_16
theorem x43_17 : sC C n0 b43_17 (unw C n0 R k) e σ = sC C n0 b43_4 (unw C n0 R (.seq b43_16 k)) e σ := _root_.id rfl
def b43_18 : SCode := .seq b43_0 b43_17
theorem x43_18 : sC C n0 b43_18 (unw C n0 R k) e σ = sC C n0 b43_0 (unw C n0 R (.seq b43_17 k)) e σ := _root_.id rfl
def s43 : SFunc := ⟨47, [.t 4], b43_18⟩
theorem c43 : sFn Try.prog 43 = some s43 := by kernel_rfl
theorem y43 {args : List AV} {Q : AV → AHeap → Prop} : sF C s43 args σ Q = (args.length ≤ 47 ∧ sC C σ.length b43_18 (unw C σ.length (RetQ [.t 4] Q) .fin) (argEnv args) σ) := _root_.id rfl

end
set_option maxHeartbeats 4000000
set_option maxRecDepth 10000
def rws (bs : List UInt8) : List (List AV) := bs.map fun b => [byteAV b]
theorem rws_len (bs : List UInt8) : (rws bs).length = bs.length := by simp [rws]
def RdS (σ : AHeap) (id : Nat) (rem : List UInt8) (e : Int) : Prop := ∃ f nn, hget σ id = some [.imm (rws rem) f nn, .int .i64 e]
def Fr1 (σ σ' : AHeap) (id : Nat) : Prop := ∀ j c, hget σ j = some c → j ≠ id → hget σ' j = some c
theorem Fr1.trans {σ σ' σ'' : AHeap} {id : Nat} (h : Fr1 σ σ' id) (k : Fr1 σ' σ'' id) : Fr1 σ σ'' id := fun j c hj h1 => k j c (h j c hj h1) h1
theorem Fr1.set {σ : AHeap} {id : Nat} {c : List AV} : Fr1 σ (hset σ id c) id := fun j d hj h1 => by rw [set_other (fun e => h1 e.symm)]; exact hj
theorem Fr1.push {σ : AHeap} {id : Nat} {c : List AV} : Fr1 σ (hpush σ c) id := fun j d hj h1 => push_old hj
theorem Fr1.refl {σ : AHeap} {id : Nat} : Fr1 σ σ id := fun j d hj h1 => hj
theorem evS_hi {bs : List UInt8} {f nn : Bool} {n : Int} (h0 : 0 ≤ n) (h1 : n.toNat ≤ bs.length) : evSlice 1 (.imm (rws bs) f nn) none (some (.int .i64 n)) none = some (.imm (rws (bs.take n.toNat)) (f && n.toNat == bs.length) nn) := by
  have ha : (rws bs).all (fun r => r.length == 1) = true := by simp [rws]
  have b1 : bound? none (rws bs).length (rws bs).length = some (rws bs).length := rfl
  have b2 : bound? (some (.int .i64 n)) (rws bs).length (rws bs).length = some n.toNat := by rw [bound_int, if_pos h0, if_pos (by rw [rws_len]; exact h1)]
  have b3 : bound? none 0 n.toNat = some 0 := rfl
  simp only [evSlice, b1, b2, b3]
  rw [if_pos ⟨Nat.zero_le _, by rw [rws_len]; exact h1, ha⟩]
  simp [rws, List.map_take]
theorem evS_lo {bs : List UInt8} {f nn : Bool} {n : Int} (h0 : 0 ≤ n) (h1 : n.toNat ≤ bs.length) : evSlice 1 (.imm (rws bs) f nn) (some (.int .i64 n)) none none = some (.imm (rws (bs.drop n.toNat)) f nn) := by
  have ha : (rws bs).all (fun r => r.length == 1) = true := by simp [rws]
  have b1 : bound? none (rws bs).length (rws bs).length = some (rws bs).length := rfl
  have b2 : bound? (some (.int .i64 n)) 0 (rws bs).length = some n.toNat := by rw [bound_int, if_pos h0, if_pos (by rw [rws_len]; exact h1)]
  simp only [evSlice, b1, b2]
  rw [if_pos ⟨by rw [rws_len]; exact h1, Nat.le_refl _, ha⟩, List.take_length]
  simp [rws, List.map_drop]
theorem lenOf_imm {r : List (List AV)} {f n : Bool} : lenOf (.imm r f n) = some r.length := _root_.id rfl
theorem lenOf_sl {i o l s : Nat} {c : Option Nat} : lenOf (.slice i o l c s) = some l := _root_.id rfl
theorem mm4 {n : Int} : foldMM false (.int .i64 n) [.int .i64 4] = some (.int .i64 (if 4 < n then 4 else n)) := by
  simp [foldMM, minmax2]
theorem rep_flat {n : Nat} {x : AV} : (List.replicate n [x]).flatten = List.replicate n x := by
  induction n with
  | zero => rfl
  | succ n ih => simp [List.replicate_succ, ih]
def takeD (args : List AV) (σ : AHeap) (K : AV → AHeap → Prop) : Prop :=
  ∃ (id : Nat) (rem : List UInt8) (e n : Int), args = [.ptr id 0, .int .i64 n] ∧ 0 ≤ n ∧ RdS σ id rem e ∧
    (e = 0 → n.toNat ≤ rem.length → ∀ σ' f nn, RdS σ' id (rem.drop n.toNat) 0 → Fr1 σ σ' id → K (.imm (rws (rem.take n.toNat)) f nn) σ') ∧
    (¬ (e = 0 ∧ n.toNat ≤ rem.length) → ∀ σ' s, RdS σ' id rem (if e = 0 then 7 else e) → Fr1 σ σ' id → hget σ' s = some (List.replicate (if 4 < n then 4 else n).toNat (.int .u8 0)) → K (.slice s 0 (if 4 < n then 4 else n).toNat (some (if 4 < n then 4 else n).toNat) 1) σ')
theorem takeD_ok (args : List AV) (σ : AHeap) (K : AV → AHeap → Prop) (h : takeD args σ K) : Tri Try.prog 43 args σ K := by
  obtain ⟨id, rem, e, n, rfl, h0, ⟨f, nn, hg⟩, hA, hB⟩ := h
  refine Tri.of_s c43 (noCall_sound _) ?_
  have mk : ∀ e', e' ≠ 0 → ¬ (e = 0 ∧ n.toNat ≤ rem.length) → e' = (if e = 0 then 7 else e) → ∀ σ1 : AHeap, hget σ1 id = some [.imm (rws rem) f nn, .int .i64 e'] → Fr1 σ σ1 id →
      K (.slice σ1.length 0 (if 4 < n then 4 else n).toNat (some (if 4 < n then 4 else n).toNat) 1) (hpush σ1 (List.replicate (if 4 < n then 4 else n).toNat (.int .u8 0))) := by
    intro e' he' hn he σ1 hs hf
    subst he
    exact hB hn _ _ ⟨f, nn, push_old hs⟩ (hf.trans Fr1.push) (push_new rfl)
  generalize hm : (if 4 < n then 4 else n) = m at *
  have m0 : 0 ≤ m := by rw [← hm]; split <;> omega
  have m4 : m ≤ 9223372036854775807 := by rw [← hm]; split <;> omega
  have m5 : m ≤ 281474976710656 := by rw [← hm]; split <;> omega
  by_cases he : e = 0
  · subst he
    by_cases hle : n.toNat ≤ rem.length
    · have hle' : ¬ ((rem.length : Int) < n) := by omega
      simp only [y43, x43_0, r43_0, x43_1, r43_1, x43_2, r43_2, x43_3, x43_4, x43_5, r43_5, x43_6, r43_6, x43_7, x43_8, x43_9, x43_10, r43_10, x43_11, r43_11, x43_12, r43_12, x43_13, x43_14, x43_15, x43_16, x43_17, x43_18, sC_skip, sC_exit, sC_ret, condK_true, condK_false, unw_seq_normal, unw_seq_exit, unw_seq_ret, unw_block_normal, unw_block_exit, unw_block_ret, unw_lp_exit, unw_lp_ret, unw_fin, retQ_ret, retQ_normal, retQ_exit, nxt_app, nxtQ_app, nxtL_app, guardK_tt, guardK_ff, guardK_tf, guardK_ft, guardK_u, guardQ_tt, guardQ_ff, guardQ_tf, guardQ_ft, guardQ_u, guardL_tt, guardL_ff, guardL_tf, guardL_ft, guardL_u, sOps_nil, sOps_cons, sOps_guard, sTree_leaf, sTree_stop, sTree_quiet, sTree_loud, sTree_quietG, sTree_loudG, goO_some, goO_none, sOp_call, callvP_func, sOp_callv, putD_some, putD_none, still_nil, still_none, still_cons, sOp_move, sOp_nilCheck, sOp_pick, sOp_alloc, sOp_box, sOp_build, sOp_buildSlice, sOp_load1, sOp_loadN, sOp_store, sOp_bin, sOp_un, sOp_convInt, sOp_convSame, sOp_resame, sOp_toBytes, sOp_ofBytes, sOp_mkfunc, sOp_makeSlice, sOp_sliceStr, sOp_slice, sOp_sliceArr, sOp_fieldAddr, sOp_field1, sOp_fieldN, sOp_indexAddr, sOp_indexArrAddr, sOp_indexStr, sOp_indexArr1, sOp_indexArrN, sOp_extract, sOp_lenStr, sOp_lenSl, sOp_lenArr, sOp_append, sOp_copy, sOp_minmax, sOp_capOf, ev_t, ev_c, argEnv_nil, argEnv_cons, envL_nil, envL_cons, abin_add, abin_sub, abin_mul, abin_quo, abin_rem, abin_eql, abin_neq, abin_lss, abin_leq, abin_gtr, abin_geq, abin_shl, abin_shr, abin_sadd, abin_seql, abin_sneq, abin_slss, abin_sleq, abin_sgtr, abin_sgeq, abin_beql, abin_bneq, abin_p1, abin_p2, abin_p3, abin_p4, abin_p5, abin_p6, abin_s3, abin_s4, abin_s5, abin_s6, abin_f1, abin_f2, abin_f3, abin_f4, abin_feq, abin_fne, cellsEq_nil, cellsEq_s, cellsEq_i, cellsEq_b, aun_not, aun_neg, hget_nil, hget_cons, hset_cons, hkill_cons, hpush_nil, hpush_cons, idx_nil, idx_cons, sub_cons, take_cons, take_nil', put_cons, drop_cons, cells_agg, cells_str, cells_int, cells_bool, cells_ptr, cells_nilptr, cells_nilslice, cells_slice, cells_imm, cells_func, resVals_nil, resVals_t, resVals_cN, resVals_c1, retOf_one, retOf_two, retOf_nil, evOp, isRead, fixOp, ldCell, ldCells, fAddr, iAddr_slice, iAddr_imm, aAddr_ptr, aAddr_iptr, inRange_int, bound_none, bound_int, mayGrow, fillParts, lenSl, topOf, rowF_eq, rowQ_eq, Option.map_some, Option.map_none, Option.bind_some, Option.bind_none, Option.isSome_some, Option.isSome_none, List.map_cons, List.map_nil, List.length_cons, List.length_nil, List.append_nil, List.nil_append, List.cons_append, List.all_cons, List.all_nil, cell_str, cell_int, cell_bool, cell_ptr, cell_iptr, cell_nilptr, cell_nilslice, cell_slice, cell_imm, cell_func, cell_nilfunc, Bool.and_true, Bool.true_and, Bool.and_false, Bool.false_and, Bool.or_true, Bool.true_or, Bool.or_false, Bool.false_or, Bool.not_true, Bool.not_false, Bool.false_eq_true, Bool.true_eq_false, and_true, true_and, and_false, false_and, or_true, true_or, or_false, false_or, not_true_eq_false, not_false_eq_true, decide_true, decide_false, decide_eq_true_eq, if_true, if_false, ite_true, ite_false, ↓reduceIte, Nat.reduceAdd, Nat.reduceSub, Nat.reduceMul, Nat.reduceEqDiff, Nat.reduceLeDiff, Nat.reduceLT, Nat.succ_ne_zero, Nat.zero_add, Nat.add_zero, Nat.zero_mul, Nat.mul_one, Nat.one_mul, Nat.le_refl, Nat.sub_zero, Int.reduceLT, Int.reduceLE, Int.reduceEq, Int.reduceNe, Int.reduceToNat, Int.reduceAdd, Int.reduceSub, Int.toNat_zero, reduceCtorEq, eq_self, ne_eq, beq_self_eq_true, Nat.reduceBEq, Nat.reduceBNe, List.mem_cons, List.not_mem_nil, false_implies, true_implies, implies_true, forall_const, List.drop_zero, List.drop_nil, List.take_zero, List.drop_length, List.length_append, cast_zero, cast_one, Int.cast_ofNat_Int, List.replicate_zero, List.replicate_succ, List.flatten_cons, List.flatten_nil, wrap_one, lenOf_imm, hg, rws_len, hle', evS_hi h0 hle, evS_lo h0 hle]
      exact hA rfl hle _ _ _ ⟨f, nn, set_same hg⟩ Fr1.set
    · have hle' : ((rem.length : Int) < n) := by omega
      have hs : hget (hset σ id [.imm (rws rem) f nn, .int .i64 7]) id = some [.imm (rws rem) f nn, .int .i64 7] := set_same hg
      simp only [y43, x43_0, r43_0, x43_1, r43_1, x43_2, r43_2, x43_3, x43_4, x43_5, r43_5, x43_6, r43_6, x43_7, x43_8, x43_9, x43_10, r43_10, x43_11, r43_11, x43_12, r43_12, x43_13, x43_14, x43_15, x43_16, x43_17, x43_18, sC_skip, sC_exit, sC_ret, condK_true, condK_false, unw_seq_normal, unw_seq_exit, unw_seq_ret, unw_block_normal, unw_block_exit, unw_block_ret, unw_lp_exit, unw_lp_ret, unw_fin, retQ_ret, retQ_normal, retQ_exit, nxt_app, nxtQ_app, nxtL_app, guardK_tt, guardK_ff, guardK_tf, guardK_ft, guardK_u, guardQ_tt, guardQ_ff, guardQ_tf, guardQ_ft, guardQ_u, guardL_tt, guardL_ff, guardL_tf, guardL_ft, guardL_u, sOps_nil, sOps_cons, sOps_guard, sTree_leaf, sTree_stop, sTree_quiet, sTree_loud, sTree_quietG, sTree_loudG, goO_some, goO_none, sOp_call, callvP_func, sOp_callv, putD_some, putD_none, still_nil, still_none, still_cons, sOp_move, sOp_nilCheck, sOp_pick, sOp_alloc, sOp_box, sOp_build, sOp_buildSlice, sOp_load1, sOp_loadN, sOp_store, sOp_bin, sOp_un, sOp_convInt, sOp_convSame, sOp_resame, sOp_toBytes, sOp_ofBytes, sOp_mkfunc, sOp_makeSlice, sOp_sliceStr, sOp_slice, sOp_sliceArr, sOp_fieldAddr, sOp_field1, sOp_fieldN, sOp_indexAddr, sOp_indexArrAddr, sOp_indexStr, sOp_indexArr1, sOp_indexArrN, sOp_extract, sOp_lenStr, sOp_lenSl, sOp_lenArr, sOp_append, sOp_copy, sOp_minmax, sOp_capOf, ev_t, ev_c, argEnv_nil, argEnv_cons, envL_nil, envL_cons, abin_add, abin_sub, abin_mul, abin_quo, abin_rem, abin_eql, abin_neq, abin_lss, abin_leq, abin_gtr, abin_geq, abin_shl, abin_shr, abin_sadd, abin_seql, abin_sneq, abin_slss, abin_sleq, abin_sgtr, abin_sgeq, abin_beql, abin_bneq, abin_p1, abin_p2, abin_p3, abin_p4, abin_p5, abin_p6, abin_s3, abin_s4, abin_s5, abin_s6, abin_f1, abin_f2, abin_f3, abin_f4, abin_feq, abin_fne, cellsEq_nil, cellsEq_s, cellsEq_i, cellsEq_b, aun_not, aun_neg, hget_nil, hget_cons, hset_cons, hkill_cons, hpush_nil, hpush_cons, idx_nil, idx_cons, sub_cons, take_cons, take_nil', put_cons, drop_cons, cells_agg, cells_str, cells_int, cells_bool, cells_ptr, cells_nilptr, cells_nilslice, cells_slice, cells_imm, cells_func, resVals_nil, resVals_t, resVals_cN, resVals_c1, retOf_one, retOf_two, retOf_nil, evOp, isRead, fixOp, ldCell, ldCells, fAddr, iAddr_slice, iAddr_imm, aAddr_ptr, aAddr_iptr, inRange_int, bound_none, bound_int, mayGrow, fillParts, lenSl, topOf, rowF_eq, rowQ_eq, Option.map_some, Option.map_none, Option.bind_some, Option.bind_none, Option.isSome_some, Option.isSome_none, List.map_cons, List.map_nil, List.length_cons, List.length_nil, List.append_nil, List.nil_append, List.cons_append, List.all_cons, List.all_nil, cell_str, cell_int, cell_bool, cell_ptr, cell_iptr, cell_nilptr, cell_nilslice, cell_slice, cell_imm, cell_func, cell_nilfunc, Bool.and_true, Bool.true_and, Bool.and_false, Bool.false_and, Bool.or_true, Bool.true_or, Bool.or_false, Bool.false_or, Bool.not_true, Bool.not_false, Bool.false_eq_true, Bool.true_eq_false, and_true, true_and, and_false, false_and, or_true, true_or, or_false, false_or, not_true_eq_false, not_false_eq_true, decide_true, decide_false, decide_eq_true_eq, if_true, if_false, ite_true, ite_false, ↓reduceIte, Nat.reduceAdd, Nat.reduceSub, Nat.reduceMul, Nat.reduceEqDiff, Nat.reduceLeDiff, Nat.reduceLT, Nat.succ_ne_zero, Nat.zero_add, Nat.add_zero, Nat.zero_mul, Nat.mul_one, Nat.one_mul, Nat.le_refl, Nat.sub_zero, Int.reduceLT, Int.reduceLE, Int.reduceEq, Int.reduceNe, Int.reduceToNat, Int.reduceAdd, Int.reduceSub, Int.toNat_zero, reduceCtorEq, eq_self, ne_eq, beq_self_eq_true, Nat.reduceBEq, Nat.reduceBNe, List.mem_cons, List.not_mem_nil, false_implies, true_implies, implies_true, forall_const, List.drop_zero, List.drop_nil, List.take_zero, List.drop_length, List.length_append, cast_zero, cast_one, Int.cast_ofNat_Int, List.replicate_zero, List.replicate_succ, List.flatten_cons, List.flatten_nil, wrap_one, lenOf_imm, hg, rws_len, hle', hs, mm4, hm, m0, m4, m5, rep_flat, Int.le_refl, Int.one_mul]
      exact mk 7 (by decide) (fun h => hle h.2) rfl _ hs Fr1.set
  · simp only [y43, x43_0, r43_0, x43_1, r43_1, x43_2, r43_2, x43_3, x43_4, x43_5, r43_5, x43_6, r43_6, x43_7, x43_8, x43_9, x43_10, r43_10, x43_11, r43_11, x43_12, r43_12, x43_13, x43_14, x43_15, x43_16, x43_17, x43_18, sC_skip, sC_exit, sC_ret, condK_true, condK_false, unw_seq_normal, unw_seq_exit, unw_seq_ret, unw_block_normal, unw_block_exit, unw_block_ret, unw_lp_exit, unw_lp_ret, unw_fin, retQ_ret, retQ_normal, retQ_exit, nxt_app, nxtQ_app, nxtL_app, guardK_tt, guardK_ff, guardK_tf, guardK_ft, guardK_u, guardQ_tt, guardQ_ff, guardQ_tf, guardQ_ft, guardQ_u, guardL_tt, guardL_ff, guardL_tf, guardL_ft, guardL_u, sOps_nil, sOps_cons, sOps_guard, sTree_leaf, sTree_stop, sTree_quiet, sTree_loud, sTree_quietG, sTree_loudG, goO_some, goO_none, sOp_call, callvP_func, sOp_callv, putD_some, putD_none, still_nil, still_none, still_cons, sOp_move, sOp_nilCheck, sOp_pick, sOp_alloc, sOp_box, sOp_build, sOp_buildSlice, sOp_load1, sOp_loadN, sOp_store, sOp_bin, sOp_un, sOp_convInt, sOp_convSame, sOp_resame, sOp_toBytes, sOp_ofBytes, sOp_mkfunc, sOp_makeSlice, sOp_sliceStr, sOp_slice, sOp_sliceArr, sOp_fieldAddr, sOp_field1, sOp_fieldN, sOp_indexAddr, sOp_indexArrAddr, sOp_indexStr, sOp_indexArr1, sOp_indexArrN, sOp_extract, sOp_lenStr, sOp_lenSl, sOp_lenArr, sOp_append, sOp_copy, sOp_minmax, sOp_capOf, ev_t, ev_c, argEnv_nil, argEnv_cons, envL_nil, envL_cons, abin_add, abin_sub, abin_mul, abin_quo, abin_rem, abin_eql, abin_neq, abin_lss, abin_leq, abin_gtr, abin_geq, abin_shl, abin_shr, abin_sadd, abin_seql, abin_sneq, abin_slss, abin_sleq, abin_sgtr, abin_sgeq, abin_beql, abin_bneq, abin_p1, abin_p2, abin_p3, abin_p4, abin_p5, abin_p6, abin_s3, abin_s4, abin_s5, abin_s6, abin_f1, abin_f2, abin_f3, abin_f4, abin_feq, abin_fne, cellsEq_nil, cellsEq_s, cellsEq_i, cellsEq_b, aun_not, aun_neg, hget_nil, hget_cons, hset_cons, hkill_cons, hpush_nil, hpush_cons, idx_nil, idx_cons, sub_cons, take_cons, take_nil', put_cons, drop_cons, cells_agg, cells_str, cells_int, cells_bool, cells_ptr, cells_nilptr, cells_nilslice, cells_slice, cells_imm, cells_func, resVals_nil, resVals_t, resVals_cN, resVals_c1, retOf_one, retOf_two, retOf_nil, evOp, isRead, fixOp, ldCell, ldCells, fAddr, iAddr_slice, iAddr_imm, aAddr_ptr, aAddr_iptr, inRange_int, bound_none, bound_int, mayGrow, fillParts, lenSl, topOf, rowF_eq, rowQ_eq, Option.map_some, Option.map_none, Option.bind_some, Option.bind_none, Option.isSome_some, Option.isSome_none, List.map_cons, List.map_nil, List.length_cons, List.length_nil, List.append_nil, List.nil_append, List.cons_append, List.all_cons, List.all_nil, cell_str, cell_int, cell_bool, cell_ptr, cell_iptr, cell_nilptr, cell_nilslice, cell_slice, cell_imm, cell_func, cell_nilfunc, Bool.and_true, Bool.true_and, Bool.and_false, Bool.false_and, Bool.or_true, Bool.true_or, Bool.or_false, Bool.false_or, Bool.not_true, Bool.not_false, Bool.false_eq_true, Bool.true_eq_false, and_true, true_and, and_false, false_and, or_true, true_or, or_false, false_or, not_true_eq_false, not_false_eq_true, decide_true, decide_false, decide_eq_true_eq, if_true, if_false, ite_true, ite_false, ↓reduceIte, Nat.reduceAdd, Nat.reduceSub, Nat.reduceMul, Nat.reduceEqDiff, Nat.reduceLeDiff, Nat.reduceLT, Nat.succ_ne_zero, Nat.zero_add, Nat.add_zero, Nat.zero_mul, Nat.mul_one, Nat.one_mul, Nat.le_refl, Nat.sub_zero, Int.reduceLT, Int.reduceLE, Int.reduceEq, Int.reduceNe, Int.reduceToNat, Int.reduceAdd, Int.reduceSub, Int.toNat_zero, reduceCtorEq, eq_self, ne_eq, beq_self_eq_true, Nat.reduceBEq, Nat.reduceBNe, List.mem_cons, List.not_mem_nil, false_implies, true_implies, implies_true, forall_const, List.drop_zero, List.drop_nil, List.take_zero, List.drop_length, List.length_append, cast_zero, cast_one, Int.cast_ofNat_Int, List.replicate_zero, List.replicate_succ, List.flatten_cons, List.flatten_nil, wrap_one, lenOf_imm, hg, rws_len, he, mm4, hm, m0, m4, m5, rep_flat, Int.le_refl, Int.one_mul]
    exact mk e he (fun h => he h.1) (by rw [if_neg he]) _ hg Fr1.refl
/-! Num. -/
def val32 (a b c d : UInt8) : Int := ((a.toNat * 16777216 + b.toNat * 65536 + c.toNat * 256 + d.toNat : Nat) : Int)
def orI (x y : Int) : Int := IntKind.wrap .i64 ((BitVec.ofInt (IntKind.bits .i64) x ||| BitVec.ofInt (IntKind.bits .i64) y).toNat : Int)
theorem abin_or {q : EqK} {x y : Int} : abin .or q (.int .i64 x) (.int .i64 y) = some (.int .i64 (orI x y)) := by simp [abin, intBin, orI]
theorem orI_nat {x y : Nat} (hx : x < 9223372036854775808) (hy : y < 9223372036854775808) : orI (x : Int) (y : Int) = ((x ||| y : Nat) : Int) := by
  unfold orI
  have hb : ∀ z : Nat, z < 9223372036854775808 → (BitVec.ofInt (IntKind.bits .i64) (z : Int)).toNat = z := by
    intro z hz
    show (BitVec.ofInt 64 (z : Int)).toNat = z
    rw [BitVec.ofInt_natCast, BitVec.toNat_ofNat]
    exact Nat.mod_eq_of_lt (Nat.lt_trans hz (by decide))
  have e1 : (BitVec.ofInt (IntKind.bits .i64) (x : Int) ||| BitVec.ofInt (IntKind.bits .i64) (y : Int)).toNat = x ||| y := by
    rw [BitVec.toNat_or, hb x hx, hb y hy]
  rw [e1]
  have h63 : (2 : Nat) ^ 63 = 9223372036854775808 := by decide
  have : x ||| y < 9223372036854775808 := by
    rw [← h63]
    exact Nat.or_lt_two_pow (by rw [h63]; exact hx) (by rw [h63]; exact hy)
  exact Gz.wrap64 (by omega)
theorem byte_lt (b : UInt8) : b.toNat < 256 := UInt8.toNat_lt b
theorem or_val (a b c d : UInt8) : orI (orI (orI ((a.toNat : Int) * 16777216) ((b.toNat : Int) * 65536)) ((c.toNat : Int) * 256)) (d.toNat : Int) = val32 a b c d := by
  have h1 := byte_lt a; have h2 := byte_lt b; have h3 := byte_lt c; have h4 := byte_lt d
  rw [show (a.toNat : Int) * 16777216 = ((a.toNat * 16777216 : Nat) : Int) from (Int.natCast_mul _ _).symm, show (b.toNat : Int) * 65536 = ((b.toNat * 65536 : Nat) : Int) from (Int.natCast_mul _ _).symm, show (c.toNat : Int) * 256 = ((c.toNat * 256 : Nat) : Int) from (Int.natCast_mul _ _).symm]
  rw [orI_nat (by omega) (by omega)]
  have e1 : a.toNat * 16777216 ||| b.toNat * 65536 = a.toNat * 16777216 + b.toNat * 65536 := by
    have := Nat.shiftLeft_add_eq_or_of_lt (b := b.toNat * 65536) (i := 24) (by omega) a.toNat
    rw [Nat.shiftLeft_eq] at this
    exact this.symm
  rw [e1, orI_nat (by omega) (by omega)]
  have e2 : (a.toNat * 16777216 + b.toNat * 65536) ||| c.toNat * 256 = a.toNat * 16777216 + b.toNat * 65536 + c.toNat * 256 := by
    have e3 : (a.toNat * 256 + b.toNat) * 2 ^ 16 = a.toNat * 16777216 + b.toNat * 65536 := by clear e1; simp only [Nat.reducePow]; omega
    have := Nat.shiftLeft_add_eq_or_of_lt (b := c.toNat * 256) (i := 16) (by omega) (a.toNat * 256 + b.toNat)
    rw [Nat.shiftLeft_eq] at this
    rw [e3] at this
    exact this.symm
  rw [e2, orI_nat (by omega) (by omega)]
  have e4 : (a.toNat * 16777216 + b.toNat * 65536 + c.toNat * 256) ||| d.toNat = a.toNat * 16777216 + b.toNat * 65536 + c.toNat * 256 + d.toNat := by
    have e3 : (a.toNat * 65536 + b.toNat * 256 + c.toNat) * 2 ^ 8 = a.toNat * 16777216 + b.toNat * 65536 + c.toNat * 256 := by clear e1 e2; simp only [Nat.reducePow]; omega
    have := Nat.shiftLeft_add_eq_or_of_lt (b := d.toNat) (i := 8) (by omega) (a.toNat * 65536 + b.toNat * 256 + c.toNat)
    rw [Nat.shiftLeft_eq] at this
    rw [e3] at this
    exact this.symm
  rw [e4]; rfl
def rdNum (rem : List UInt8) (e : Int) : Int × List UInt8 × Int :=
  if e = 0 then
    match rem with
    | a :: b :: c :: d :: r => if 268435455 < val32 a b c d then (0, r, 5) else (val32 a b c d, r, 0)
    | rem => (0, rem, 7)
  else (0, rem, e)
def F1 : PCall := rowQ 43 takeD noCall
theorem F1_app {f : FuncId} {args : List AV} {σ : AHeap} {K : AV → AHeap → Prop} : F1 f args σ K = rowQ 43 takeD noCall f args σ K := _root_.id rfl
theorem F1_sound : Sound Try.prog F1 := rowQ_sound takeD_ok (noCall_sound _)
def numRD (args : List AV) (σ : AHeap) (K : AV → AHeap → Prop) : Prop :=
  ∃ (id : Nat) (rem : List UInt8) (e : Int), args = [.ptr id 0] ∧ RdS σ id rem e ∧ ∀ σ', RdS σ' id (rdNum rem e).2.1 (rdNum rem e).2.2 → Fr1 σ σ' id → K (.int .i64 (rdNum rem e).1) σ'
theorem wrap_byte (b : UInt8) : IntKind.wrap .i64 (b.toNat : Int) = (b.toNat : Int) := by have := byte_lt b; exact Gz.wrap64 (by omega)
theorem wrap_b24 (b : UInt8) : IntKind.wrap .i64 ((b.toNat : Int) * 16777216) = (b.toNat : Int) * 16777216 := by have := byte_lt b; exact Gz.wrap64 (by omega)
theorem wrap_b16 (b : UInt8) : IntKind.wrap .i64 ((b.toNat : Int) * 65536) = (b.toNat : Int) * 65536 := by have := byte_lt b; exact Gz.wrap64 (by omega)
theorem wrap_b8 (b : UInt8) : IntKind.wrap .i64 ((b.toNat : Int) * 256) = (b.toNat : Int) * 256 := by have := byte_lt b; exact Gz.wrap64 (by omega)
theorem byteAV_eq (b : UInt8) : byteAV b = .int .u8 (b.toNat : Int) := _root_.id rfl
theorem numRD_ok (args : List AV) (σ : AHeap) (K : AV → AHeap → Prop) (h : numRD args σ K) : Tri Try.prog 28 args σ K := by
  obtain ⟨id, rem, e, rfl, hr, hK⟩ := h
  refine Tri.of_s c28 F1_sound ?_
  simp only [F1_app, y28, x28_0, r28_0, x28_1, r28_1, x28_2, t28_2, x28_3, r28_3, x28_4, r28_4, x28_5, x28_6, x28_7, r28_7, x28_8, r28_8, x28_9, x28_10, x28_11, x28_12, r28_12, x28_13, x28_14, x28_15, x28_16, x28_17, x28_18, sC_skip, sC_exit, sC_ret, condK_true, condK_false, unw_seq_normal, unw_seq_exit, unw_seq_ret, unw_block_normal, unw_block_exit, unw_block_ret, unw_lp_exit, unw_lp_ret, unw_fin, retQ_ret, retQ_normal, retQ_exit, nxt_app, nxtQ_app, nxtL_app, guardK_tt, guardK_ff, guardK_tf, guardK_ft, guardK_u, guardQ_tt, guardQ_ff, guardQ_tf, guardQ_ft, guardQ_u, guardL_tt, guardL_ff, guardL_tf, guardL_ft, guardL_u, sOps_nil, sOps_cons, sOps_guard, sTree_leaf, sTree_stop, sTree_quiet, sTree_loud, sTree_quietG, sTree_loudG, goO_some, goO_none, sOp_call, callvP_func, sOp_callv, putD_some, putD_none, still_nil, still_none, still_cons, sOp_move, sOp_nilCheck, sOp_pick, sOp_alloc, sOp_box, sOp_build, sOp_buildSlice, sOp_load1, sOp_loadN, sOp_store, sOp_bin, sOp_un, sOp_convInt, sOp_convSame, sOp_resame, sOp_toBytes, sOp_ofBytes, sOp_mkfunc, sOp_makeSlice, sOp_sliceStr, sOp_slice, sOp_sliceArr, sOp_fieldAddr, sOp_field1, sOp_fieldN, sOp_indexAddr, sOp_indexArrAddr, sOp_indexStr, sOp_indexArr1, sOp_indexArrN, sOp_extract, sOp_lenStr, sOp_lenSl, sOp_lenArr, sOp_append, sOp_copy, sOp_minmax, sOp_capOf, ev_t, ev_c, argEnv_nil, argEnv_cons, envL_nil, envL_cons, abin_add, abin_sub, abin_mul, abin_quo, abin_rem, abin_eql, abin_neq, abin_lss, abin_leq, abin_gtr, abin_geq, abin_shl, abin_shr, abin_sadd, abin_seql, abin_sneq, abin_slss, abin_sleq, abin_sgtr, abin_sgeq, abin_beql, abin_bneq, abin_p1, abin_p2, abin_p3, abin_p4, abin_p5, abin_p6, abin_s3, abin_s4, abin_s5, abin_s6, abin_f1, abin_f2, abin_f3, abin_f4, abin_feq, abin_fne, cellsEq_nil, cellsEq_s, cellsEq_i, cellsEq_b, aun_not, aun_neg, hget_nil, hget_cons, hset_cons, hkill_cons, hpush_nil, hpush_cons, idx_nil, idx_cons, sub_cons, take_cons, take_nil', put_cons, drop_cons, cells_agg, cells_str, cells_int, cells_bool, cells_ptr, cells_nilptr, cells_nilslice, cells_slice, cells_imm, cells_func, resVals_nil, resVals_t, resVals_cN, resVals_c1, retOf_one, retOf_two, retOf_nil, evOp, isRead, fixOp, ldCell, ldCells, fAddr, iAddr_slice, iAddr_imm, aAddr_ptr, aAddr_iptr, inRange_int, bound_none, bound_int, mayGrow, fillParts, lenSl, topOf, rowF_eq, rowQ_eq, Option.map_some, Option.map_none, Option.bind_some, Option.bind_none, Option.isSome_some, Option.isSome_none, List.map_cons, List.map_nil, List.length_cons, List.length_nil, List.append_nil, List.nil_append, List.cons_append, List.all_cons, List.all_nil, cell_str, cell_int, cell_bool, cell_ptr, cell_iptr, cell_nilptr, cell_nilslice, cell_slice, cell_imm, cell_func, cell_nilfunc, Bool.and_true, Bool.true_and, Bool.and_false, Bool.false_and, Bool.or_true, Bool.true_or, Bool.or_false, Bool.false_or, Bool.not_true, Bool.not_false, Bool.false_eq_true, Bool.true_eq_false, and_true, true_and, and_false, false_and, or_true, true_or, or_false, false_or, not_true_eq_false, not_false_eq_true, decide_true, decide_false, decide_eq_true_eq, if_true, if_false, ite_true, ite_false, ↓reduceIte, Nat.reduceAdd, Nat.reduceSub, Nat.reduceMul, Nat.reduceEqDiff, Nat.reduceLeDiff, Nat.reduceLT, Nat.succ_ne_zero, Nat.zero_add, Nat.add_zero, Nat.zero_mul, Nat.mul_one, Nat.one_mul, Nat.le_refl, Nat.sub_zero, Int.reduceLT, Int.reduceLE, Int.reduceEq, Int.reduceNe, Int.reduceToNat, Int.reduceAdd, Int.reduceSub, Int.toNat_zero, reduceCtorEq, eq_self, ne_eq, beq_self_eq_true, Nat.reduceBEq, Nat.reduceBNe, List.mem_cons, List.not_mem_nil, false_implies, true_implies, implies_true, forall_const, List.drop_zero, List.drop_nil, List.take_zero, List.drop_length, List.length_append, cast_zero, cast_one, Int.cast_ofNat_Int, List.replicate_zero, List.replicate_succ, List.flatten_cons, List.flatten_nil, wrap_one]
  refine ⟨id, rem, e, 4, rfl, by decide, hr, fun he hle σ' f nn hr' hf => ?_, fun hno σ' s hr' hf hs => ?_⟩
  · subst he
    match rem, hle with
    | a :: b :: c :: d :: r, _ =>
      obtain ⟨f', nn', hg⟩ := hr'
      have hd : (a :: b :: c :: d :: r).drop (Int.toNat 4) = r := rfl
      rw [hd] at hg
      have ht : rws ((a :: b :: c :: d :: r).take (Int.toNat 4)) = [[byteAV a], [byteAV b], [byteAV c], [byteAV d]] := rfl
      rw [ht]
      by_cases hv : 268435455 < val32 a b c d
      · have hn : rdNum (a :: b :: c :: d :: r) 0 = (0, r, 5) := by simp [rdNum, hv]
        rw [hn] at hK
        have hg5 : hget (hset σ' id [.imm (rws r) f' nn', .int .i64 5]) id = some [.imm (rws r) f' nn', .int .i64 5] := set_same hg
        simp only [F1_app, y28, x28_0, r28_0, x28_1, r28_1, x28_2, t28_2, x28_3, r28_3, x28_4, r28_4, x28_5, x28_6, x28_7, r28_7, x28_8, r28_8, x28_9, x28_10, x28_11, x28_12, r28_12, x28_13, x28_14, x28_15, x28_16, x28_17, x28_18, sC_skip, sC_exit, sC_ret, condK_true, condK_false, unw_seq_normal, unw_seq_exit, unw_seq_ret, unw_block_normal, unw_block_exit, unw_block_ret, unw_lp_exit, unw_lp_ret, unw_fin, retQ_ret, retQ_normal, retQ_exit, nxt_app, nxtQ_app, nxtL_app, guardK_tt, guardK_ff, guardK_tf, guardK_ft, guardK_u, guardQ_tt, guardQ_ff, guardQ_tf, guardQ_ft, guardQ_u, guardL_tt, guardL_ff, guardL_tf, guardL_ft, guardL_u, sOps_nil, sOps_cons, sOps_guard, sTree_leaf, sTree_stop, sTree_quiet, sTree_loud, sTree_quietG, sTree_loudG, goO_some, goO_none, sOp_call, callvP_func, sOp_callv, putD_some, putD_none, still_nil, still_none, still_cons, sOp_move, sOp_nilCheck, sOp_pick, sOp_alloc, sOp_box, sOp_build, sOp_buildSlice, sOp_load1, sOp_loadN, sOp_store, sOp_bin, sOp_un, sOp_convInt, sOp_convSame, sOp_resame, sOp_toBytes, sOp_ofBytes, sOp_mkfunc, sOp_makeSlice, sOp_sliceStr, sOp_slice, sOp_sliceArr, sOp_fieldAddr, sOp_field1, sOp_fieldN, sOp_indexAddr, sOp_indexArrAddr, sOp_indexStr, sOp_indexArr1, sOp_indexArrN, sOp_extract, sOp_lenStr, sOp_lenSl, sOp_lenArr, sOp_append, sOp_copy, sOp_minmax, sOp_capOf, ev_t, ev_c, argEnv_nil, argEnv_cons, envL_nil, envL_cons, abin_add, abin_sub, abin_mul, abin_quo, abin_rem, abin_eql, abin_neq, abin_lss, abin_leq, abin_gtr, abin_geq, abin_shl, abin_shr, abin_sadd, abin_seql, abin_sneq, abin_slss, abin_sleq, abin_sgtr, abin_sgeq, abin_beql, abin_bneq, abin_p1, abin_p2, abin_p3, abin_p4, abin_p5, abin_p6, abin_s3, abin_s4, abin_s5, abin_s6, abin_f1, abin_f2, abin_f3, abin_f4, abin_feq, abin_fne, cellsEq_nil, cellsEq_s, cellsEq_i, cellsEq_b, aun_not, aun_neg, hget_nil, hget_cons, hset_cons, hkill_cons, hpush_nil, hpush_cons, idx_nil, idx_cons, sub_cons, take_cons, take_nil', put_cons, drop_cons, cells_agg, cells_str, cells_int, cells_bool, cells_ptr, cells_nilptr, cells_nilslice, cells_slice, cells_imm, cells_func, resVals_nil, resVals_t, resVals_cN, resVals_c1, retOf_one, retOf_two, retOf_nil, evOp, isRead, fixOp, ldCell, ldCells, fAddr, iAddr_slice, iAddr_imm, aAddr_ptr, aAddr_iptr, inRange_int, bound_none, bound_int, mayGrow, fillParts, lenSl, topOf, rowF_eq, rowQ_eq, Option.map_some, Option.map_none, Option.bind_some, Option.bind_none, Option.isSome_some, Option.isSome_none, List.map_cons, List.map_nil, List.length_cons, List.length_nil, List.append_nil, List.nil_append, List.cons_append, List.all_cons, List.all_nil, cell_str, cell_int, cell_bool, cell_ptr, cell_iptr, cell_nilptr, cell_nilslice, cell_slice, cell_imm, cell_func, cell_nilfunc, Bool.and_true, Bool.true_and, Bool.and_false, Bool.false_and, Bool.or_true, Bool.true_or, Bool.or_false, Bool.false_or, Bool.not_true, Bool.not_false, Bool.false_eq_true, Bool.true_eq_false, and_true, true_and, and_false, false_and, or_true, true_or, or_false, false_or, not_true_eq_false, not_false_eq_true, decide_true, decide_false, decide_eq_true_eq, if_true, if_false, ite_true, ite_false, ↓reduceIte, Nat.reduceAdd, Nat.reduceSub, Nat.reduceMul, Nat.reduceEqDiff, Nat.reduceLeDiff, Nat.reduceLT, Nat.succ_ne_zero, Nat.zero_add, Nat.add_zero, Nat.zero_mul, Nat.mul_one, Nat.one_mul, Nat.le_refl, Nat.sub_zero, Int.reduceLT, Int.reduceLE, Int.reduceEq, Int.reduceNe, Int.reduceToNat, Int.reduceAdd, Int.reduceSub, Int.toNat_zero, reduceCtorEq, eq_self, ne_eq, beq_self_eq_true, Nat.reduceBEq, Nat.reduceBNe, List.mem_cons, List.not_mem_nil, false_implies, true_implies, implies_true, forall_const, List.drop_zero, List.drop_nil, List.take_zero, List.drop_length, List.length_append, cast_zero, cast_one, Int.cast_ofNat_Int, List.replicate_zero, List.replicate_succ, List.flatten_cons, List.flatten_nil, wrap_one, byteAV_eq, wrap_byte, shr24, shr16, shr8, wrap_b24, wrap_b16, wrap_b8, abin_or, or_val, hg, hv, hg5]
        exact hK _ ⟨f', nn', hg5⟩ (hf.trans Fr1.set)
      · have hn : rdNum (a :: b :: c :: d :: r) 0 = (val32 a b c d, r, 0) := by simp [rdNum, hv]
        rw [hn] at hK
        simp only [F1_app, y28, x28_0, r28_0, x28_1, r28_1, x28_2, t28_2, x28_3, r28_3, x28_4, r28_4, x28_5, x28_6, x28_7, r28_7, x28_8, r28_8, x28_9, x28_10, x28_11, x28_12, r28_12, x28_13, x28_14, x28_15, x28_16, x28_17, x28_18, sC_skip, sC_exit, sC_ret, condK_true, condK_false, unw_seq_normal, unw_seq_exit, unw_seq_ret, unw_block_normal, unw_block_exit, unw_block_ret, unw_lp_exit, unw_lp_ret, unw_fin, retQ_ret, retQ_normal, retQ_exit, nxt_app, nxtQ_app, nxtL_app, guardK_tt, guardK_ff, guardK_tf, guardK_ft, guardK_u, guardQ_tt, guardQ_ff, guardQ_tf, guardQ_ft, guardQ_u, guardL_tt, guardL_ff, guardL_tf, guardL_ft, guardL_u, sOps_nil, sOps_cons, sOps_guard, sTree_leaf, sTree_stop, sTree_quiet, sTree_loud, sTree_quietG, sTree_loudG, goO_some, goO_none, sOp_call, callvP_func, sOp_callv, putD_some, putD_none, still_nil, still_none, still_cons, sOp_move, sOp_nilCheck, sOp_pick, sOp_alloc, sOp_box, sOp_build, sOp_buildSlice, sOp_load1, sOp_loadN, sOp_store, sOp_bin, sOp_un, sOp_convInt, sOp_convSame, sOp_resame, sOp_toBytes, sOp_ofBytes, sOp_mkfunc, sOp_makeSlice, sOp_sliceStr, sOp_slice, sOp_sliceArr, sOp_fieldAddr, sOp_field1, sOp_fieldN, sOp_indexAddr, sOp_indexArrAddr, sOp_indexStr, sOp_indexArr1, sOp_indexArrN, sOp_extract, sOp_lenStr, sOp_lenSl, sOp_lenArr, sOp_append, sOp_copy, sOp_minmax, sOp_capOf, ev_t, ev_c, argEnv_nil, argEnv_cons, envL_nil, envL_cons, abin_add, abin_sub, abin_mul, abin_quo, abin_rem, abin_eql, abin_neq, abin_lss, abin_leq, abin_gtr, abin_geq, abin_shl, abin_shr, abin_sadd, abin_seql, abin_sneq, abin_slss, abin_sleq, abin_sgtr, abin_sgeq, abin_beql, abin_bneq, abin_p1, abin_p2, abin_p3, abin_p4, abin_p5, abin_p6, abin_s3, abin_s4, abin_s5, abin_s6, abin_f1, abin_f2, abin_f3, abin_f4, abin_feq, abin_fne, cellsEq_nil, cellsEq_s, cellsEq_i, cellsEq_b, aun_not, aun_neg, hget_nil, hget_cons, hset_cons, hkill_cons, hpush_nil, hpush_cons, idx_nil, idx_cons, sub_cons, take_cons, take_nil', put_cons, drop_cons, cells_agg, cells_str, cells_int, cells_bool, cells_ptr, cells_nilptr, cells_nilslice, cells_slice, cells_imm, cells_func, resVals_nil, resVals_t, resVals_cN, resVals_c1, retOf_one, retOf_two, retOf_nil, evOp, isRead, fixOp, ldCell, ldCells, fAddr, iAddr_slice, iAddr_imm, aAddr_ptr, aAddr_iptr, inRange_int, bound_none, bound_int, mayGrow, fillParts, lenSl, topOf, rowF_eq, rowQ_eq, Option.map_some, Option.map_none, Option.bind_some, Option.bind_none, Option.isSome_some, Option.isSome_none, List.map_cons, List.map_nil, List.length_cons, List.length_nil, List.append_nil, List.nil_append, List.cons_append, List.all_cons, List.all_nil, cell_str, cell_int, cell_bool, cell_ptr, cell_iptr, cell_nilptr, cell_nilslice, cell_slice, cell_imm, cell_func, cell_nilfunc, Bool.and_true, Bool.true_and, Bool.and_false, Bool.false_and, Bool.or_true, Bool.true_or, Bool.or_false, Bool.false_or, Bool.not_true, Bool.not_false, Bool.false_eq_true, Bool.true_eq_false, and_true, true_and, and_false, false_and, or_true, true_or, or_false, false_or, not_true_eq_false, not_false_eq_true, decide_true, decide_false, decide_eq_true_eq, if_true, if_false, ite_true, ite_false, ↓reduceIte, Nat.reduceAdd, Nat.reduceSub, Nat.reduceMul, Nat.reduceEqDiff, Nat.reduceLeDiff, Nat.reduceLT, Nat.succ_ne_zero, Nat.zero_add, Nat.add_zero, Nat.zero_mul, Nat.mul_one, Nat.one_mul, Nat.le_refl, Nat.sub_zero, Int.reduceLT, Int.reduceLE, Int.reduceEq, Int.reduceNe, Int.reduceToNat, Int.reduceAdd, Int.reduceSub, Int.toNat_zero, reduceCtorEq, eq_self, ne_eq, beq_self_eq_true, Nat.reduceBEq, Nat.reduceBNe, List.mem_cons, List.not_mem_nil, false_implies, true_implies, implies_true, forall_const, List.drop_zero, List.drop_nil, List.take_zero, List.drop_length, List.length_append, cast_zero, cast_one, Int.cast_ofNat_Int, List.replicate_zero, List.replicate_succ, List.flatten_cons, List.flatten_nil, wrap_one, byteAV_eq, wrap_byte, shr24, shr16, shr8, wrap_b24, wrap_b16, wrap_b8, abin_or, or_val, hg, hv]
        exact hK _ ⟨f', nn', hg⟩ hf
  · obtain ⟨f', nn', hg⟩ := hr'
    have hn : rdNum rem e = (0, rem, if e = 0 then 7 else e) := by
      by_cases he : e = 0
      · subst he
        match rem, hno with
        | [], _ => rfl
        | [_], _ => rfl
        | [_, _], _ => rfl
        | [_, _, _], _ => rfl
        | a :: b :: c :: d :: r, h => exact absurd ⟨rfl, by simp⟩ h
      · simp [rdNum, he]
    rw [hn] at hK
    have he' : ¬ (if e = 0 then 7 else e) = 0 := by split <;> omega
    generalize (if e = 0 then (7 : Int) else e) = e' at *
    have hs' : hget σ' s = some [.int .u8 0, .int .u8 0, .int .u8 0, .int .u8 0] := hs
    have z0 : orI (orI (orI 0 0) 0) 0 = 0 := by decide
    have z1 : IntKind.wrap .i64 0 = 0 := rfl
    simp only [F1_app, y28, x28_0, r28_0, x28_1, r28_1, x28_2, t28_2, x28_3, r28_3, x28_4, r28_4, x28_5, x28_6, x28_7, r28_7, x28_8, r28_8, x28_9, x28_10, x28_11, x28_12, r28_12, x28_13, x28_14, x28_15, x28_16, x28_17, x28_18, sC_skip, sC_exit, sC_ret, condK_true, condK_false, unw_seq_normal, unw_seq_exit, unw_seq_ret, unw_block_normal, unw_block_exit, unw_block_ret, unw_lp_exit, unw_lp_ret, unw_fin, retQ_ret, retQ_normal, retQ_exit, nxt_app, nxtQ_app, nxtL_app, guardK_tt, guardK_ff, guardK_tf, guardK_ft, guardK_u, guardQ_tt, guardQ_ff, guardQ_tf, guardQ_ft, guardQ_u, guardL_tt, guardL_ff, guardL_tf, guardL_ft, guardL_u, sOps_nil, sOps_cons, sOps_guard, sTree_leaf, sTree_stop, sTree_quiet, sTree_loud, sTree_quietG, sTree_loudG, goO_some, goO_none, sOp_call, callvP_func, sOp_callv, putD_some, putD_none, still_nil, still_none, still_cons, sOp_move, sOp_nilCheck, sOp_pick, sOp_alloc, sOp_box, sOp_build, sOp_buildSlice, sOp_load1, sOp_loadN, sOp_store, sOp_bin, sOp_un, sOp_convInt, sOp_convSame, sOp_resame, sOp_toBytes, sOp_ofBytes, sOp_mkfunc, sOp_makeSlice, sOp_sliceStr, sOp_slice, sOp_sliceArr, sOp_fieldAddr, sOp_field1, sOp_fieldN, sOp_indexAddr, sOp_indexArrAddr, sOp_indexStr, sOp_indexArr1, sOp_indexArrN, sOp_extract, sOp_lenStr, sOp_lenSl, sOp_lenArr, sOp_append, sOp_copy, sOp_minmax, sOp_capOf, ev_t, ev_c, argEnv_nil, argEnv_cons, envL_nil, envL_cons, abin_add, abin_sub, abin_mul, abin_quo, abin_rem, abin_eql, abin_neq, abin_lss, abin_leq, abin_gtr, abin_geq, abin_shl, abin_shr, abin_sadd, abin_seql, abin_sneq, abin_slss, abin_sleq, abin_sgtr, abin_sgeq, abin_beql, abin_bneq, abin_p1, abin_p2, abin_p3, abin_p4, abin_p5, abin_p6, abin_s3, abin_s4, abin_s5, abin_s6, abin_f1, abin_f2, abin_f3, abin_f4, abin_feq, abin_fne, cellsEq_nil, cellsEq_s, cellsEq_i, cellsEq_b, aun_not, aun_neg, hget_nil, hget_cons, hset_cons, hkill_cons, hpush_nil, hpush_cons, idx_nil, idx_cons, sub_cons, take_cons, take_nil', put_cons, drop_cons, cells_agg, cells_str, cells_int, cells_bool, cells_ptr, cells_nilptr, cells_nilslice, cells_slice, cells_imm, cells_func, resVals_nil, resVals_t, resVals_cN, resVals_c1, retOf_one, retOf_two, retOf_nil, evOp, isRead, fixOp, ldCell, ldCells, fAddr, iAddr_slice, iAddr_imm, aAddr_ptr, aAddr_iptr, inRange_int, bound_none, bound_int, mayGrow, fillParts, lenSl, topOf, rowF_eq, rowQ_eq, Option.map_some, Option.map_none, Option.bind_some, Option.bind_none, Option.isSome_some, Option.isSome_none, List.map_cons, List.map_nil, List.length_cons, List.length_nil, List.append_nil, List.nil_append, List.cons_append, List.all_cons, List.all_nil, cell_str, cell_int, cell_bool, cell_ptr, cell_iptr, cell_nilptr, cell_nilslice, cell_slice, cell_imm, cell_func, cell_nilfunc, Bool.and_true, Bool.true_and, Bool.and_false, Bool.false_and, Bool.or_true, Bool.true_or, Bool.or_false, Bool.false_or, Bool.not_true, Bool.not_false, Bool.false_eq_true, Bool.true_eq_false, and_true, true_and, and_false, false_and, or_true, true_or, or_false, false_or, not_true_eq_false, not_false_eq_true, decide_true, decide_false, decide_eq_true_eq, if_true, if_false, ite_true, ite_false, ↓reduceIte, Nat.reduceAdd, Nat.reduceSub, Nat.reduceMul, Nat.reduceEqDiff, Nat.reduceLeDiff, Nat.reduceLT, Nat.succ_ne_zero, Nat.zero_add, Nat.add_zero, Nat.zero_mul, Nat.mul_one, Nat.one_mul, Nat.le_refl, Nat.sub_zero, Int.reduceLT, Int.reduceLE, Int.reduceEq, Int.reduceNe, Int.reduceToNat, Int.reduceAdd, Int.reduceSub, Int.toNat_zero, reduceCtorEq, eq_self, ne_eq, beq_self_eq_true, Nat.reduceBEq, Nat.reduceBNe, List.mem_cons, List.not_mem_nil, false_implies, true_implies, implies_true, forall_const, List.drop_zero, List.drop_nil, List.take_zero, List.drop_length, List.length_append, cast_zero, cast_one, Int.cast_ofNat_Int, List.replicate_zero, List.replicate_succ, List.flatten_cons, List.flatten_nil, wrap_one, hs', hg, he', abin_or, z0, z1, Int.zero_mul]
    exact hK _ ⟨f', nn', hg⟩ hf
/-! Text, Truth, End. -/
def rdText (rem : List UInt8) (e : Int) : List UInt8 × List UInt8 × Int :=
  let p := rdNum rem e
  if p.2.2 = 0 then (if p.1.toNat ≤ p.2.1.length then (p.2.1.take p.1.toNat, p.2.1.drop p.1.toNat, 0) else ([], p.2.1, 7)) else ([], p.2.1, p.2.2)
theorem rdNum_nonneg (rem : List UInt8) (e : Int) : 0 ≤ (rdNum rem e).1 := by
  unfold rdNum
  split
  · split
    · split
      · exact Int.le_refl 0
      · exact Int.natCast_nonneg _
    · exact Int.le_refl 0
  · exact Int.le_refl 0
def F2 : PCall := rowQ 28 numRD (rowQ 43 takeD noCall)
theorem F2_app {f : FuncId} {args : List AV} {σ : AHeap} {K : AV → AHeap → Prop} : F2 f args σ K = rowQ 28 numRD (rowQ 43 takeD noCall) f args σ K := _root_.id rfl
theorem F2_sound : Sound Try.prog F2 := rowQ_sound numRD_ok (rowQ_sound takeD_ok (noCall_sound _))
def textRD (args : List AV) (σ : AHeap) (K : AV → AHeap → Prop) : Prop :=
  ∃ (id : Nat) (rem : List UInt8) (e : Int), args = [.ptr id 0] ∧ RdS σ id rem e ∧ ∀ σ', RdS σ' id (rdText rem e).2.1 (rdText rem e).2.2 → Fr1 σ σ' id → K (.str (rdText rem e).1) σ'
theorem bytes_ofR (bs : List UInt8) : bytesOf (bs.map byteAV) = some bs := by
  induction bs with
  | nil => rfl
  | cons b r ih =>
    simp only [List.map_cons]
    rw [show byteAV b = AV.int .u8 (b.toNat : Int) from rfl]
    simp only [bytesOf, ih]
    simp
theorem ofRws (σ : AHeap) (bs : List UInt8) (f n : Bool) : Gz.ofBytes σ (.imm (rws bs) f n) = some bs := by
  have h1 : (rws bs).all (fun r => r.length == 1) = true := by simp [rws]
  show ((if (rws bs).all (fun r => r.length == 1) then some (rws bs).flatten else none).bind bytesOf) = some bs
  rw [if_pos h1]
  unfold rws
  rw [rows_flat]
  exact bytes_ofR bs
theorem ofZeros (σ : AHeap) (s m : Nat) (c : Option Nat) (h : hget σ s = some (List.replicate m (.int .u8 0))) : Gz.ofBytes σ (.slice s 0 m c 1) = some (List.replicate m 0) := by
  show ((if 1 = 1 then (hget σ s).bind (sub · 0 (m * 1)) else none).bind bytesOf) = _
  rw [if_pos rfl, h, Nat.mul_one]
  simp only [Option.bind_some]
  rw [sub_all (by simp)]
  have := bytes_ofR (List.replicate m 0)
  rw [List.map_replicate] at this
  exact this
theorem textRD_ok (args : List AV) (σ : AHeap) (K : AV → AHeap → Prop) (h : textRD args σ K) : Tri Try.prog 29 args σ K := by
  obtain ⟨id, rem, e, rfl, hr, hK⟩ := h
  refine Tri.of_s c29 F2_sound ?_
  simp only [F2_app, y29, x29_0, r29_0, x29_1, r29_1, x29_2, r29_2, x29_3, r29_3, x29_4, x29_5, x29_6, x29_7, r29_7, x29_8, x29_9, x29_10, x29_11, sC_skip, sC_exit, sC_ret, condK_true, condK_false, unw_seq_normal, unw_seq_exit, unw_seq_ret, unw_block_normal, unw_block_exit, unw_block_ret, unw_lp_exit, unw_lp_ret, unw_fin, retQ_ret, retQ_normal, retQ_exit, nxt_app, nxtQ_app, nxtL_app, guardK_tt, guardK_ff, guardK_tf, guardK_ft, guardK_u, guardQ_tt, guardQ_ff, guardQ_tf, guardQ_ft, guardQ_u, guardL_tt, guardL_ff, guardL_tf, guardL_ft, guardL_u, sOps_nil, sOps_cons, sOps_guard, sTree_leaf, sTree_stop, sTree_quiet, sTree_loud, sTree_quietG, sTree_loudG, goO_some, goO_none, sOp_call, callvP_func, sOp_callv, putD_some, putD_none, still_nil, still_none, still_cons, sOp_move, sOp_nilCheck, sOp_pick, sOp_alloc, sOp_box, sOp_build, sOp_buildSlice, sOp_load1, sOp_loadN, sOp_store, sOp_bin, sOp_un, sOp_convInt, sOp_convSame, sOp_resame, sOp_toBytes, sOp_ofBytes, sOp_mkfunc, sOp_makeSlice, sOp_sliceStr, sOp_slice, sOp_sliceArr, sOp_fieldAddr, sOp_field1, sOp_fieldN, sOp_indexAddr, sOp_indexArrAddr, sOp_indexStr, sOp_indexArr1, sOp_indexArrN, sOp_extract, sOp_lenStr, sOp_lenSl, sOp_lenArr, sOp_append, sOp_copy, sOp_minmax, sOp_capOf, ev_t, ev_c, argEnv_nil, argEnv_cons, envL_nil, envL_cons, abin_add, abin_sub, abin_mul, abin_quo, abin_rem, abin_eql, abin_neq, abin_lss, abin_leq, abin_gtr, abin_geq, abin_shl, abin_shr, abin_sadd, abin_seql, abin_sneq, abin_slss, abin_sleq, abin_sgtr, abin_sgeq, abin_beql, abin_bneq, abin_p1, abin_p2, abin_p3, abin_p4, abin_p5, abin_p6, abin_s3, abin_s4, abin_s5, abin_s6, abin_f1, abin_f2, abin_f3, abin_f4, abin_feq, abin_fne, cellsEq_nil, cellsEq_s, cellsEq_i, cellsEq_b, aun_not, aun_neg, hget_nil, hget_cons, hset_cons, hkill_cons, hpush_nil, hpush_cons, idx_nil, idx_cons, sub_cons, take_cons, take_nil', put_cons, drop_cons, cells_agg, cells_str, cells_int, cells_bool, cells_ptr, cells_nilptr, cells_nilslice, cells_slice, cells_imm, cells_func, resVals_nil, resVals_t, resVals_cN, resVals_c1, retOf_one, retOf_two, retOf_nil, evOp, isRead, fixOp, ldCell, ldCells, fAddr, iAddr_slice, iAddr_imm, aAddr_ptr, aAddr_iptr, inRange_int, bound_none, bound_int, mayGrow, fillParts, lenSl, topOf, rowF_eq, rowQ_eq, Option.map_some, Option.map_none, Option.bind_some, Option.bind_none, Option.isSome_some, Option.isSome_none, List.map_cons, List.map_nil, List.length_cons, List.length_nil, List.append_nil, List.nil_append, List.cons_append, List.all_cons, List.all_nil, cell_str, cell_int, cell_bool, cell_ptr, cell_iptr, cell_nilptr, cell_nilslice, cell_slice, cell_imm, cell_func, cell_nilfunc, Bool.and_true, Bool.true_and, Bool.and_false, Bool.false_and, Bool.or_true, Bool.true_or, Bool.or_false, Bool.false_or, Bool.not_true, Bool.not_false, Bool.false_eq_true, Bool.true_eq_false, and_true, true_and, and_false, false_and, or_true, true_or, or_false, false_or, not_true_eq_false, not_false_eq_true, decide_true, decide_false, decide_eq_true_eq, if_true, if_false, ite_true, ite_false, ↓reduceIte, Nat.reduceAdd, Nat.reduceSub, Nat.reduceMul, Nat.reduceEqDiff, Nat.reduceLeDiff, Nat.reduceLT, Nat.succ_ne_zero, Nat.zero_add, Nat.add_zero, Nat.zero_mul, Nat.mul_one, Nat.one_mul, Nat.le_refl, Nat.sub_zero, Int.reduceLT, Int.reduceLE, Int.reduceEq, Int.reduceNe, Int.reduceToNat, Int.reduceAdd, Int.reduceSub, Int.toNat_zero, reduceCtorEq, eq_self, ne_eq, beq_self_eq_true, Nat.reduceBEq, Nat.reduceBNe, List.mem_cons, List.not_mem_nil, false_implies, true_implies, implies_true, forall_const, List.drop_zero, List.drop_nil, List.take_zero, List.drop_length, List.length_append, cast_zero, cast_one, Int.cast_ofNat_Int, List.replicate_zero, List.replicate_succ, List.flatten_cons, List.flatten_nil, wrap_one]
  refine ⟨id, rem, e, rfl, hr, fun σ1 h1 f1 => ?_⟩
  simp only [F2_app, y29, x29_0, r29_0, x29_1, r29_1, x29_2, r29_2, x29_3, r29_3, x29_4, x29_5, x29_6, x29_7, r29_7, x29_8, x29_9, x29_10, x29_11, sC_skip, sC_exit, sC_ret, condK_true, condK_false, unw_seq_normal, unw_seq_exit, unw_seq_ret, unw_block_normal, unw_block_exit, unw_block_ret, unw_lp_exit, unw_lp_ret, unw_fin, retQ_ret, retQ_normal, retQ_exit, nxt_app, nxtQ_app, nxtL_app, guardK_tt, guardK_ff, guardK_tf, guardK_ft, guardK_u, guardQ_tt, guardQ_ff, guardQ_tf, guardQ_ft, guardQ_u, guardL_tt, guardL_ff, guardL_tf, guardL_ft, guardL_u, sOps_nil, sOps_cons, sOps_guard, sTree_leaf, sTree_stop, sTree_quiet, sTree_loud, sTree_quietG, sTree_loudG, goO_some, goO_none, sOp_call, callvP_func, sOp_callv, putD_some, putD_none, still_nil, still_none, still_cons, sOp_move, sOp_nilCheck, sOp_pick, sOp_alloc, sOp_box, sOp_build, sOp_buildSlice, sOp_load1, sOp_loadN, sOp_store, sOp_bin, sOp_un, sOp_convInt, sOp_convSame, sOp_resame, sOp_toBytes, sOp_ofBytes, sOp_mkfunc, sOp_makeSlice, sOp_sliceStr, sOp_slice, sOp_sliceArr, sOp_fieldAddr, sOp_field1, sOp_fieldN, sOp_indexAddr, sOp_indexArrAddr, sOp_indexStr, sOp_indexArr1, sOp_indexArrN, sOp_extract, sOp_lenStr, sOp_lenSl, sOp_lenArr, sOp_append, sOp_copy, sOp_minmax, sOp_capOf, ev_t, ev_c, argEnv_nil, argEnv_cons, envL_nil, envL_cons, abin_add, abin_sub, abin_mul, abin_quo, abin_rem, abin_eql, abin_neq, abin_lss, abin_leq, abin_gtr, abin_geq, abin_shl, abin_shr, abin_sadd, abin_seql, abin_sneq, abin_slss, abin_sleq, abin_sgtr, abin_sgeq, abin_beql, abin_bneq, abin_p1, abin_p2, abin_p3, abin_p4, abin_p5, abin_p6, abin_s3, abin_s4, abin_s5, abin_s6, abin_f1, abin_f2, abin_f3, abin_f4, abin_feq, abin_fne, cellsEq_nil, cellsEq_s, cellsEq_i, cellsEq_b, aun_not, aun_neg, hget_nil, hget_cons, hset_cons, hkill_cons, hpush_nil, hpush_cons, idx_nil, idx_cons, sub_cons, take_cons, take_nil', put_cons, drop_cons, cells_agg, cells_str, cells_int, cells_bool, cells_ptr, cells_nilptr, cells_nilslice, cells_slice, cells_imm, cells_func, resVals_nil, resVals_t, resVals_cN, resVals_c1, retOf_one, retOf_two, retOf_nil, evOp, isRead, fixOp, ldCell, ldCells, fAddr, iAddr_slice, iAddr_imm, aAddr_ptr, aAddr_iptr, inRange_int, bound_none, bound_int, mayGrow, fillParts, lenSl, topOf, rowF_eq, rowQ_eq, Option.map_some, Option.map_none, Option.bind_some, Option.bind_none, Option.isSome_some, Option.isSome_none, List.map_cons, List.map_nil, List.length_cons, List.length_nil, List.append_nil, List.nil_append, List.cons_append, List.all_cons, List.all_nil, cell_str, cell_int, cell_bool, cell_ptr, cell_iptr, cell_nilptr, cell_nilslice, cell_slice, cell_imm, cell_func, cell_nilfunc, Bool.and_true, Bool.true_and, Bool.and_false, Bool.false_and, Bool.or_true, Bool.true_or, Bool.or_false, Bool.false_or, Bool.not_true, Bool.not_false, Bool.false_eq_true, Bool.true_eq_false, and_true, true_and, and_false, false_and, or_true, true_or, or_false, false_or, not_true_eq_false, not_false_eq_true, decide_true, decide_false, decide_eq_true_eq, if_true, if_false, ite_true, ite_false, ↓reduceIte, Nat.reduceAdd, Nat.reduceSub, Nat.reduceMul, Nat.reduceEqDiff, Nat.reduceLeDiff, Nat.reduceLT, Nat.succ_ne_zero, Nat.zero_add, Nat.add_zero, Nat.zero_mul, Nat.mul_one, Nat.one_mul, Nat.le_refl, Nat.sub_zero, Int.reduceLT, Int.reduceLE, Int.reduceEq, Int.reduceNe, Int.reduceToNat, Int.reduceAdd, Int.reduceSub, Int.toNat_zero, reduceCtorEq, eq_self, ne_eq, beq_self_eq_true, Nat.reduceBEq, Nat.reduceBNe, List.mem_cons, List.not_mem_nil, false_implies, true_implies, implies_true, forall_const, List.drop_zero, List.drop_nil, List.take_zero, List.drop_length, List.length_append, cast_zero, cast_one, Int.cast_ofNat_Int, List.replicate_zero, List.replicate_succ, List.flatten_cons, List.flatten_nil, wrap_one]
  have hn := rdNum_nonneg rem e
  unfold rdText at hK
  generalize rdNum rem e = p at *
  obtain ⟨v, r1, e1⟩ := p
  simp only at hK h1 hn
  refine ⟨id, r1, e1, v, rfl, hn, h1, fun he hle σ' f nn hr' hf => ?_, fun hno σ' s hr' hf hs => ?_⟩
  · subst he
    rw [if_pos rfl, if_pos hle] at hK
    obtain ⟨f', nn', hg⟩ := hr'
    simp only [F2_app, y29, x29_0, r29_0, x29_1, r29_1, x29_2, r29_2, x29_3, r29_3, x29_4, x29_5, x29_6, x29_7, r29_7, x29_8, x29_9, x29_10, x29_11, sC_skip, sC_exit, sC_ret, condK_true, condK_false, unw_seq_normal, unw_seq_exit, unw_seq_ret, unw_block_normal, unw_block_exit, unw_block_ret, unw_lp_exit, unw_lp_ret, unw_fin, retQ_ret, retQ_normal, retQ_exit, nxt_app, nxtQ_app, nxtL_app, guardK_tt, guardK_ff, guardK_tf, guardK_ft, guardK_u, guardQ_tt, guardQ_ff, guardQ_tf, guardQ_ft, guardQ_u, guardL_tt, guardL_ff, guardL_tf, guardL_ft, guardL_u, sOps_nil, sOps_cons, sOps_guard, sTree_leaf, sTree_stop, sTree_quiet, sTree_loud, sTree_quietG, sTree_loudG, goO_some, goO_none, sOp_call, callvP_func, sOp_callv, putD_some, putD_none, still_nil, still_none, still_cons, sOp_move, sOp_nilCheck, sOp_pick, sOp_alloc, sOp_box, sOp_build, sOp_buildSlice, sOp_load1, sOp_loadN, sOp_store, sOp_bin, sOp_un, sOp_convInt, sOp_convSame, sOp_resame, sOp_toBytes, sOp_ofBytes, sOp_mkfunc, sOp_makeSlice, sOp_sliceStr, sOp_slice, sOp_sliceArr, sOp_fieldAddr, sOp_field1, sOp_fieldN, sOp_indexAddr, sOp_indexArrAddr, sOp_indexStr, sOp_indexArr1, sOp_indexArrN, sOp_extract, sOp_lenStr, sOp_lenSl, sOp_lenArr, sOp_append, sOp_copy, sOp_minmax, sOp_capOf, ev_t, ev_c, argEnv_nil, argEnv_cons, envL_nil, envL_cons, abin_add, abin_sub, abin_mul, abin_quo, abin_rem, abin_eql, abin_neq, abin_lss, abin_leq, abin_gtr, abin_geq, abin_shl, abin_shr, abin_sadd, abin_seql, abin_sneq, abin_slss, abin_sleq, abin_sgtr, abin_sgeq, abin_beql, abin_bneq, abin_p1, abin_p2, abin_p3, abin_p4, abin_p5, abin_p6, abin_s3, abin_s4, abin_s5, abin_s6, abin_f1, abin_f2, abin_f3, abin_f4, abin_feq, abin_fne, cellsEq_nil, cellsEq_s, cellsEq_i, cellsEq_b, aun_not, aun_neg, hget_nil, hget_cons, hset_cons, hkill_cons, hpush_nil, hpush_cons, idx_nil, idx_cons, sub_cons, take_cons, take_nil', put_cons, drop_cons, cells_agg, cells_str, cells_int, cells_bool, cells_ptr, cells_nilptr, cells_nilslice, cells_slice, cells_imm, cells_func, resVals_nil, resVals_t, resVals_cN, resVals_c1, retOf_one, retOf_two, retOf_nil, evOp, isRead, fixOp, ldCell, ldCells, fAddr, iAddr_slice, iAddr_imm, aAddr_ptr, aAddr_iptr, inRange_int, bound_none, bound_int, mayGrow, fillParts, lenSl, topOf, rowF_eq, rowQ_eq, Option.map_some, Option.map_none, Option.bind_some, Option.bind_none, Option.isSome_some, Option.isSome_none, List.map_cons, List.map_nil, List.length_cons, List.length_nil, List.append_nil, List.nil_append, List.cons_append, List.all_cons, List.all_nil, cell_str, cell_int, cell_bool, cell_ptr, cell_iptr, cell_nilptr, cell_nilslice, cell_slice, cell_imm, cell_func, cell_nilfunc, Bool.and_true, Bool.true_and, Bool.and_false, Bool.false_and, Bool.or_true, Bool.true_or, Bool.or_false, Bool.false_or, Bool.not_true, Bool.not_false, Bool.false_eq_true, Bool.true_eq_false, and_true, true_and, and_false, false_and, or_true, true_or, or_false, false_or, not_true_eq_false, not_false_eq_true, decide_true, decide_false, decide_eq_true_eq, if_true, if_false, ite_true, ite_false, ↓reduceIte, Nat.reduceAdd, Nat.reduceSub, Nat.reduceMul, Nat.reduceEqDiff, Nat.reduceLeDiff, Nat.reduceLT, Nat.succ_ne_zero, Nat.zero_add, Nat.add_zero, Nat.zero_mul, Nat.mul_one, Nat.one_mul, Nat.le_refl, Nat.sub_zero, Int.reduceLT, Int.reduceLE, Int.reduceEq, Int.reduceNe, Int.reduceToNat, Int.reduceAdd, Int.reduceSub, Int.toNat_zero, reduceCtorEq, eq_self, ne_eq, beq_self_eq_true, Nat.reduceBEq, Nat.reduceBNe, List.mem_cons, List.not_mem_nil, false_implies, true_implies, implies_true, forall_const, List.drop_zero, List.drop_nil, List.take_zero, List.drop_length, List.length_append, cast_zero, cast_one, Int.cast_ofNat_Int, List.replicate_zero, List.replicate_succ, List.flatten_cons, List.flatten_nil, wrap_one, ofRws, hg]
    exact hK _ ⟨f', nn', hg⟩ (f1.trans hf)
  · have e2 : (if e1 = 0 then (if v.toNat ≤ r1.length then (r1.take v.toNat, r1.drop v.toNat, (0 : Int)) else ([], r1, 7)) else ([], r1, e1)) = (([] : List UInt8), r1, if e1 = 0 then 7 else e1) := by
      by_cases he : e1 = 0
      · have hle : ¬ v.toNat ≤ r1.length := fun h => hno ⟨he, h⟩
        simp [he, hle]
      · simp [he]
    rw [e2] at hK
    have he' : ¬ (if e1 = 0 then 7 else e1) = 0 := by split <;> omega
    generalize (if e1 = 0 then (7 : Int) else e1) = e' at *
    obtain ⟨f', nn', hg⟩ := hr'
    have hz := ofZeros σ' s _ (some (if 4 < v then 4 else v).toNat) hs
    generalize (if 4 < v then 4 else v).toNat = m at *
    simp only [F2_app, y29, x29_0, r29_0, x29_1, r29_1, x29_2, r29_2, x29_3, r29_3, x29_4, x29_5, x29_6, x29_7, r29_7, x29_8, x29_9, x29_10, x29_11, sC_skip, sC_exit, sC_ret, condK_true, condK_false, unw_seq_normal, unw_seq_exit, unw_seq_ret, unw_block_normal, unw_block_exit, unw_block_ret, unw_lp_exit, unw_lp_ret, unw_fin, retQ_ret, retQ_normal, retQ_exit, nxt_app, nxtQ_app, nxtL_app, guardK_tt, guardK_ff, guardK_tf, guardK_ft, guardK_u, guardQ_tt, guardQ_ff, guardQ_tf, guardQ_ft, guardQ_u, guardL_tt, guardL_ff, guardL_tf, guardL_ft, guardL_u, sOps_nil, sOps_cons, sOps_guard, sTree_leaf, sTree_stop, sTree_quiet, sTree_loud, sTree_quietG, sTree_loudG, goO_some, goO_none, sOp_call, callvP_func, sOp_callv, putD_some, putD_none, still_nil, still_none, still_cons, sOp_move, sOp_nilCheck, sOp_pick, sOp_alloc, sOp_box, sOp_build, sOp_buildSlice, sOp_load1, sOp_loadN, sOp_store, sOp_bin, sOp_un, sOp_convInt, sOp_convSame, sOp_resame, sOp_toBytes, sOp_ofBytes, sOp_mkfunc, sOp_makeSlice, sOp_sliceStr, sOp_slice, sOp_sliceArr, sOp_fieldAddr, sOp_field1, sOp_fieldN, sOp_indexAddr, sOp_indexArrAddr, sOp_indexStr, sOp_indexArr1, sOp_indexArrN, sOp_extract, sOp_lenStr, sOp_lenSl, sOp_lenArr, sOp_append, sOp_copy, sOp_minmax, sOp_capOf, ev_t, ev_c, argEnv_nil, argEnv_cons, envL_nil, envL_cons, abin_add, abin_sub, abin_mul, abin_quo, abin_rem, abin_eql, abin_neq, abin_lss, abin_leq, abin_gtr, abin_geq, abin_shl, abin_shr, abin_sadd, abin_seql, abin_sneq, abin_slss, abin_sleq, abin_sgtr, abin_sgeq, abin_beql, abin_bneq, abin_p1, abin_p2, abin_p3, abin_p4, abin_p5, abin_p6, abin_s3, abin_s4, abin_s5, abin_s6, abin_f1, abin_f2, abin_f3, abin_f4, abin_feq, abin_fne, cellsEq_nil, cellsEq_s, cellsEq_i, cellsEq_b, aun_not, aun_neg, hget_nil, hget_cons, hset_cons, hkill_cons, hpush_nil, hpush_cons, idx_nil, idx_cons, sub_cons, take_cons, take_nil', put_cons, drop_cons, cells_agg, cells_str, cells_int, cells_bool, cells_ptr, cells_nilptr, cells_nilslice, cells_slice, cells_imm, cells_func, resVals_nil, resVals_t, resVals_cN, resVals_c1, retOf_one, retOf_two, retOf_nil, evOp, isRead, fixOp, ldCell, ldCells, fAddr, iAddr_slice, iAddr_imm, aAddr_ptr, aAddr_iptr, inRange_int, bound_none, bound_int, mayGrow, fillParts, lenSl, topOf, rowF_eq, rowQ_eq, Option.map_some, Option.map_none, Option.bind_some, Option.bind_none, Option.isSome_some, Option.isSome_none, List.map_cons, List.map_nil, List.length_cons, List.length_nil, List.append_nil, List.nil_append, List.cons_append, List.all_cons, List.all_nil, cell_str, cell_int, cell_bool, cell_ptr, cell_iptr, cell_nilptr, cell_nilslice, cell_slice, cell_imm, cell_func, cell_nilfunc, Bool.and_true, Bool.true_and, Bool.and_false, Bool.false_and, Bool.or_true, Bool.true_or, Bool.or_false, Bool.false_or, Bool.not_true, Bool.not_false, Bool.false_eq_true, Bool.true_eq_false, and_true, true_and, and_false, false_and, or_true, true_or, or_false, false_or, not_true_eq_false, not_false_eq_true, decide_true, decide_false, decide_eq_true_eq, if_true, if_false, ite_true, ite_false, ↓reduceIte, Nat.reduceAdd, Nat.reduceSub, Nat.reduceMul, Nat.reduceEqDiff, Nat.reduceLeDiff, Nat.reduceLT, Nat.succ_ne_zero, Nat.zero_add, Nat.add_zero, Nat.zero_mul, Nat.mul_one, Nat.one_mul, Nat.le_refl, Nat.sub_zero, Int.reduceLT, Int.reduceLE, Int.reduceEq, Int.reduceNe, Int.reduceToNat, Int.reduceAdd, Int.reduceSub, Int.toNat_zero, reduceCtorEq, eq_self, ne_eq, beq_self_eq_true, Nat.reduceBEq, Nat.reduceBNe, List.mem_cons, List.not_mem_nil, false_implies, true_implies, implies_true, forall_const, List.drop_zero, List.drop_nil, List.take_zero, List.drop_length, List.length_append, cast_zero, cast_one, Int.cast_ofNat_Int, List.replicate_zero, List.replicate_succ, List.flatten_cons, List.flatten_nil, wrap_one, hz, hg, he']
    exact hK _ ⟨f', nn', hg⟩ (f1.trans hf)
def rdTruth (rem : List UInt8) (e : Int) : Bool × List UInt8 × Int :=
  if e = 0 then
    match rem with
    | a :: r => if 1 < a.toNat then (false, r, 5) else (decide ((a.toNat : Int) = 1), r, 0)
    | [] => (false, [], 7)
  else (false, rem, e)
def truthRD (args : List AV) (σ : AHeap) (K : AV → AHeap → Prop) : Prop :=
  ∃ (id : Nat) (rem : List UInt8) (e : Int), args = [.ptr id 0] ∧ RdS σ id rem e ∧ ∀ σ', RdS σ' id (rdTruth rem e).2.1 (rdTruth rem e).2.2 → Fr1 σ σ' id → K (.bool (rdTruth rem e).1) σ'
theorem truthRD_ok (args : List AV) (σ : AHeap) (K : AV → AHeap → Prop) (h : truthRD args σ K) : Tri Try.prog 33 args σ K := by
  obtain ⟨id, rem, e, rfl, hr, hK⟩ := h
  refine Tri.of_s c33 F1_sound ?_
  simp only [F1_app, y33, x33_0, r33_0, x33_1, r33_1, x33_2, r33_2, x33_3, r33_3, x33_4, x33_5, x33_6, r33_6, x33_7, x33_8, x33_9, x33_10, sC_skip, sC_exit, sC_ret, condK_true, condK_false, unw_seq_normal, unw_seq_exit, unw_seq_ret, unw_block_normal, unw_block_exit, unw_block_ret, unw_lp_exit, unw_lp_ret, unw_fin, retQ_ret, retQ_normal, retQ_exit, nxt_app, nxtQ_app, nxtL_app, guardK_tt, guardK_ff, guardK_tf, guardK_ft, guardK_u, guardQ_tt, guardQ_ff, guardQ_tf, guardQ_ft, guardQ_u, guardL_tt, guardL_ff, guardL_tf, guardL_ft, guardL_u, sOps_nil, sOps_cons, sOps_guard, sTree_leaf, sTree_stop, sTree_quiet, sTree_loud, sTree_quietG, sTree_loudG, goO_some, goO_none, sOp_call, callvP_func, sOp_callv, putD_some, putD_none, still_nil, still_none, still_cons, sOp_move, sOp_nilCheck, sOp_pick, sOp_alloc, sOp_box, sOp_build, sOp_buildSlice, sOp_load1, sOp_loadN, sOp_store, sOp_bin, sOp_un, sOp_convInt, sOp_convSame, sOp_resame, sOp_toBytes, sOp_ofBytes, sOp_mkfunc, sOp_makeSlice, sOp_sliceStr, sOp_slice, sOp_sliceArr, sOp_fieldAddr, sOp_field1, sOp_fieldN, sOp_indexAddr, sOp_indexArrAddr, sOp_indexStr, sOp_indexArr1, sOp_indexArrN, sOp_extract, sOp_lenStr, sOp_lenSl, sOp_lenArr, sOp_append, sOp_copy, sOp_minmax, sOp_capOf, ev_t, ev_c, argEnv_nil, argEnv_cons, envL_nil, envL_cons, abin_add, abin_sub, abin_mul, abin_quo, abin_rem, abin_eql, abin_neq, abin_lss, abin_leq, abin_gtr, abin_geq, abin_shl, abin_shr, abin_sadd, abin_seql, abin_sneq, abin_slss, abin_sleq, abin_sgtr, abin_sgeq, abin_beql, abin_bneq, abin_p1, abin_p2, abin_p3, abin_p4, abin_p5, abin_p6, abin_s3, abin_s4, abin_s5, abin_s6, abin_f1, abin_f2, abin_f3, abin_f4, abin_feq, abin_fne, cellsEq_nil, cellsEq_s, cellsEq_i, cellsEq_b, aun_not, aun_neg, hget_nil, hget_cons, hset_cons, hkill_cons, hpush_nil, hpush_cons, idx_nil, idx_cons, sub_cons, take_cons, take_nil', put_cons, drop_cons, cells_agg, cells_str, cells_int, cells_bool, cells_ptr, cells_nilptr, cells_nilslice, cells_slice, cells_imm, cells_func, resVals_nil, resVals_t, resVals_cN, resVals_c1, retOf_one, retOf_two, retOf_nil, evOp, isRead, fixOp, ldCell, ldCells, fAddr, iAddr_slice, iAddr_imm, aAddr_ptr, aAddr_iptr, inRange_int, bound_none, bound_int, mayGrow, fillParts, lenSl, topOf, rowF_eq, rowQ_eq, Option.map_some, Option.map_none, Option.bind_some, Option.bind_none, Option.isSome_some, Option.isSome_none, List.map_cons, List.map_nil, List.length_cons, List.length_nil, List.append_nil, List.nil_append, List.cons_append, List.all_cons, List.all_nil, cell_str, cell_int, cell_bool, cell_ptr, cell_iptr, cell_nilptr, cell_nilslice, cell_slice, cell_imm, cell_func, cell_nilfunc, Bool.and_true, Bool.true_and, Bool.and_false, Bool.false_and, Bool.or_true, Bool.true_or, Bool.or_false, Bool.false_or, Bool.not_true, Bool.not_false, Bool.false_eq_true, Bool.true_eq_false, and_true, true_and, and_false, false_and, or_true, true_or, or_false, false_or, not_true_eq_false, not_false_eq_true, decide_true, decide_false, decide_eq_true_eq, if_true, if_false, ite_true, ite_false, ↓reduceIte, Nat.reduceAdd, Nat.reduceSub, Nat.reduceMul, Nat.reduceEqDiff, Nat.reduceLeDiff, Nat.reduceLT, Nat.succ_ne_zero, Nat.zero_add, Nat.add_zero, Nat.zero_mul, Nat.mul_one, Nat.one_mul, Nat.le_refl, Nat.sub_zero, Int.reduceLT, Int.reduceLE, Int.reduceEq, Int.reduceNe, Int.reduceToNat, Int.reduceAdd, Int.reduceSub, Int.toNat_zero, reduceCtorEq, eq_self, ne_eq, beq_self_eq_true, Nat.reduceBEq, Nat.reduceBNe, List.mem_cons, List.not_mem_nil, false_implies, true_implies, implies_true, forall_const, List.drop_zero, List.drop_nil, List.take_zero, List.drop_length, List.length_append, cast_zero, cast_one, Int.cast_ofNat_Int, List.replicate_zero, List.replicate_succ, List.flatten_cons, List.flatten_nil, wrap_one]
  refine ⟨id, rem, e, 1, rfl, by decide, hr, fun he hle σ' f nn hr' hf => ?_, fun hno σ' s hr' hf hs => ?_⟩
  · subst he
    match rem, hle with
    | a :: r, _ =>
      obtain ⟨f', nn', hg⟩ := hr'
      have hd : (a :: r).drop (Int.toNat 1) = r := rfl
      rw [hd] at hg
      have ht : rws ((a :: r).take (Int.toNat 1)) = [[byteAV a]] := rfl
      rw [ht]
      by_cases hv : 1 < a.toNat
      · have hv' : (1 : Int) < (a.toNat : Int) := by omega
        have hn : rdTruth (a :: r) 0 = (false, r, 5) := by simp [rdTruth, hv]
        rw [hn] at hK
        have hg5 : hget (hset σ' id [.imm (rws r) f' nn', .int .i64 5]) id = some [.imm (rws r) f' nn', .int .i64 5] := set_same hg
        simp only [F1_app, y33, x33_0, r33_0, x33_1, r33_1, x33_2, r33_2, x33_3, r33_3, x33_4, x33_5, x33_6, r33_6, x33_7, x33_8, x33_9, x33_10, sC_skip, sC_exit, sC_ret, condK_true, condK_false, unw_seq_normal, unw_seq_exit, unw_seq_ret, unw_block_normal, unw_block_exit, unw_block_ret, unw_lp_exit, unw_lp_ret, unw_fin, retQ_ret, retQ_normal, retQ_exit, nxt_app, nxtQ_app, nxtL_app, guardK_tt, guardK_ff, guardK_tf, guardK_ft, guardK_u, guardQ_tt, guardQ_ff, guardQ_tf, guardQ_ft, guardQ_u, guardL_tt, guardL_ff, guardL_tf, guardL_ft, guardL_u, sOps_nil, sOps_cons, sOps_guard, sTree_leaf, sTree_stop, sTree_quiet, sTree_loud, sTree_quietG, sTree_loudG, goO_some, goO_none, sOp_call, callvP_func, sOp_callv, putD_some, putD_none, still_nil, still_none, still_cons, sOp_move, sOp_nilCheck, sOp_pick, sOp_alloc, sOp_box, sOp_build, sOp_buildSlice, sOp_load1, sOp_loadN, sOp_store, sOp_bin, sOp_un, sOp_convInt, sOp_convSame, sOp_resame, sOp_toBytes, sOp_ofBytes, sOp_mkfunc, sOp_makeSlice, sOp_sliceStr, sOp_slice, sOp_sliceArr, sOp_fieldAddr, sOp_field1, sOp_fieldN, sOp_indexAddr, sOp_indexArrAddr, sOp_indexStr, sOp_indexArr1, sOp_indexArrN, sOp_extract, sOp_lenStr, sOp_lenSl, sOp_lenArr, sOp_append, sOp_copy, sOp_minmax, sOp_capOf, ev_t, ev_c, argEnv_nil, argEnv_cons, envL_nil, envL_cons, abin_add, abin_sub, abin_mul, abin_quo, abin_rem, abin_eql, abin_neq, abin_lss, abin_leq, abin_gtr, abin_geq, abin_shl, abin_shr, abin_sadd, abin_seql, abin_sneq, abin_slss, abin_sleq, abin_sgtr, abin_sgeq, abin_beql, abin_bneq, abin_p1, abin_p2, abin_p3, abin_p4, abin_p5, abin_p6, abin_s3, abin_s4, abin_s5, abin_s6, abin_f1, abin_f2, abin_f3, abin_f4, abin_feq, abin_fne, cellsEq_nil, cellsEq_s, cellsEq_i, cellsEq_b, aun_not, aun_neg, hget_nil, hget_cons, hset_cons, hkill_cons, hpush_nil, hpush_cons, idx_nil, idx_cons, sub_cons, take_cons, take_nil', put_cons, drop_cons, cells_agg, cells_str, cells_int, cells_bool, cells_ptr, cells_nilptr, cells_nilslice, cells_slice, cells_imm, cells_func, resVals_nil, resVals_t, resVals_cN, resVals_c1, retOf_one, retOf_two, retOf_nil, evOp, isRead, fixOp, ldCell, ldCells, fAddr, iAddr_slice, iAddr_imm, aAddr_ptr, aAddr_iptr, inRange_int, bound_none, bound_int, mayGrow, fillParts, lenSl, topOf, rowF_eq, rowQ_eq, Option.map_some, Option.map_none, Option.bind_some, Option.bind_none, Option.isSome_some, Option.isSome_none, List.map_cons, List.map_nil, List.length_cons, List.length_nil, List.append_nil, List.nil_append, List.cons_append, List.all_cons, List.all_nil, cell_str, cell_int, cell_bool, cell_ptr, cell_iptr, cell_nilptr, cell_nilslice, cell_slice, cell_imm, cell_func, cell_nilfunc, Bool.and_true, Bool.true_and, Bool.and_false, Bool.false_and, Bool.or_true, Bool.true_or, Bool.or_false, Bool.false_or, Bool.not_true, Bool.not_false, Bool.false_eq_true, Bool.true_eq_false, and_true, true_and, and_false, false_and, or_true, true_or, or_false, false_or, not_true_eq_false, not_false_eq_true, decide_true, decide_false, decide_eq_true_eq, if_true, if_false, ite_true, ite_false, ↓reduceIte, Nat.reduceAdd, Nat.reduceSub, Nat.reduceMul, Nat.reduceEqDiff, Nat.reduceLeDiff, Nat.reduceLT, Nat.succ_ne_zero, Nat.zero_add, Nat.add_zero, Nat.zero_mul, Nat.mul_one, Nat.one_mul, Nat.le_refl, Nat.sub_zero, Int.reduceLT, Int.reduceLE, Int.reduceEq, Int.reduceNe, Int.reduceToNat, Int.reduceAdd, Int.reduceSub, Int.toNat_zero, reduceCtorEq, eq_self, ne_eq, beq_self_eq_true, Nat.reduceBEq, Nat.reduceBNe, List.mem_cons, List.not_mem_nil, false_implies, true_implies, implies_true, forall_const, List.drop_zero, List.drop_nil, List.take_zero, List.drop_length, List.length_append, cast_zero, cast_one, Int.cast_ofNat_Int, List.replicate_zero, List.replicate_succ, List.flatten_cons, List.flatten_nil, wrap_one, byteAV_eq, hg, hv', hg5]
        exact hK _ ⟨f', nn', hg5⟩ (hf.trans Fr1.set)
      · have hv' : ¬ (1 : Int) < (a.toNat : Int) := by omega
        have hn : rdTruth (a :: r) 0 = (decide ((a.toNat : Int) = 1), r, 0) := by simp [rdTruth, hv]
        rw [hn] at hK
        simp only [F1_app, y33, x33_0, r33_0, x33_1, r33_1, x33_2, r33_2, x33_3, r33_3, x33_4, x33_5, x33_6, r33_6, x33_7, x33_8, x33_9, x33_10, sC_skip, sC_exit, sC_ret, condK_true, condK_false, unw_seq_normal, unw_seq_exit, unw_seq_ret, unw_block_normal, unw_block_exit, unw_block_ret, unw_lp_exit, unw_lp_ret, unw_fin, retQ_ret, retQ_normal, retQ_exit, nxt_app, nxtQ_app, nxtL_app, guardK_tt, guardK_ff, guardK_tf, guardK_ft, guardK_u, guardQ_tt, guardQ_ff, guardQ_tf, guardQ_ft, guardQ_u, guardL_tt, guardL_ff, guardL_tf, guardL_ft, guardL_u, sOps_nil, sOps_cons, sOps_guard, sTree_leaf, sTree_stop, sTree_quiet, sTree_loud, sTree_quietG, sTree_loudG, goO_some, goO_none, sOp_call, callvP_func, sOp_callv, putD_some, putD_none, still_nil, still_none, still_cons, sOp_move, sOp_nilCheck, sOp_pick, sOp_alloc, sOp_box, sOp_build, sOp_buildSlice, sOp_load1, sOp_loadN, sOp_store, sOp_bin, sOp_un, sOp_convInt, sOp_convSame, sOp_resame, sOp_toBytes, sOp_ofBytes, sOp_mkfunc, sOp_makeSlice, sOp_sliceStr, sOp_slice, sOp_sliceArr, sOp_fieldAddr, sOp_field1, sOp_fieldN, sOp_indexAddr, sOp_indexArrAddr, sOp_indexStr, sOp_indexArr1, sOp_indexArrN, sOp_extract, sOp_lenStr, sOp_lenSl, sOp_lenArr, sOp_append, sOp_copy, sOp_minmax, sOp_capOf, ev_t, ev_c, argEnv_nil, argEnv_cons, envL_nil, envL_cons, abin_add, abin_sub, abin_mul, abin_quo, abin_rem, abin_eql, abin_neq, abin_lss, abin_leq, abin_gtr, abin_geq, abin_shl, abin_shr, abin_sadd, abin_seql, abin_sneq, abin_slss, abin_sleq, abin_sgtr, abin_sgeq, abin_beql, abin_bneq, abin_p1, abin_p2, abin_p3, abin_p4, abin_p5, abin_p6, abin_s3, abin_s4, abin_s5, abin_s6, abin_f1, abin_f2, abin_f3, abin_f4, abin_feq, abin_fne, cellsEq_nil, cellsEq_s, cellsEq_i, cellsEq_b, aun_not, aun_neg, hget_nil, hget_cons, hset_cons, hkill_cons, hpush_nil, hpush_cons, idx_nil, idx_cons, sub_cons, take_cons, take_nil', put_cons, drop_cons, cells_agg, cells_str, cells_int, cells_bool, cells_ptr, cells_nilptr, cells_nilslice, cells_slice, cells_imm, cells_func, resVals_nil, resVals_t, resVals_cN, resVals_c1, retOf_one, retOf_two, retOf_nil, evOp, isRead, fixOp, ldCell, ldCells, fAddr, iAddr_slice, iAddr_imm, aAddr_ptr, aAddr_iptr, inRange_int, bound_none, bound_int, mayGrow, fillParts, lenSl, topOf, rowF_eq, rowQ_eq, Option.map_some, Option.map_none, Option.bind_some, Option.bind_none, Option.isSome_some, Option.isSome_none, List.map_cons, List.map_nil, List.length_cons, List.length_nil, List.append_nil, List.nil_append, List.cons_append, List.all_cons, List.all_nil, cell_str, cell_int, cell_bool, cell_ptr, cell_iptr, cell_nilptr, cell_nilslice, cell_slice, cell_imm, cell_func, cell_nilfunc, Bool.and_true, Bool.true_and, Bool.and_false, Bool.false_and, Bool.or_true, Bool.true_or, Bool.or_false, Bool.false_or, Bool.not_true, Bool.not_false, Bool.false_eq_true, Bool.true_eq_false, and_true, true_and, and_false, false_and, or_true, true_or, or_false, false_or, not_true_eq_false, not_false_eq_true, decide_true, decide_false, decide_eq_true_eq, if_true, if_false, ite_true, ite_false, ↓reduceIte, Nat.reduceAdd, Nat.reduceSub, Nat.reduceMul, Nat.reduceEqDiff, Nat.reduceLeDiff, Nat.reduceLT, Nat.succ_ne_zero, Nat.zero_add, Nat.add_zero, Nat.zero_mul, Nat.mul_one, Nat.one_mul, Nat.le_refl, Nat.sub_zero, Int.reduceLT, Int.reduceLE, Int.reduceEq, Int.reduceNe, Int.reduceToNat, Int.reduceAdd, Int.reduceSub, Int.toNat_zero, reduceCtorEq, eq_self, ne_eq, beq_self_eq_true, Nat.reduceBEq, Nat.reduceBNe, List.mem_cons, List.not_mem_nil, false_implies, true_implies, implies_true, forall_const, List.drop_zero, List.drop_nil, List.take_zero, List.drop_length, List.length_append, cast_zero, cast_one, Int.cast_ofNat_Int, List.replicate_zero, List.replicate_succ, List.flatten_cons, List.flatten_nil, wrap_one, byteAV_eq, hg, hv']
        exact hK _ ⟨f', nn', hg⟩ hf
  · obtain ⟨f', nn', hg⟩ := hr'
    have hn : rdTruth rem e = (false, rem, if e = 0 then 7 else e) := by
      by_cases he : e = 0
      · subst he
        match rem, hno with
        | [], _ => rfl
        | a :: r, h => exact absurd ⟨rfl, by simp⟩ h
      · simp [rdTruth, he]
    rw [hn] at hK
    have he' : ¬ (if e = 0 then 7 else e) = 0 := by split <;> omega
    generalize (if e = 0 then (7 : Int) else e) = e' at *
    have hs' : hget σ' s = some [.int .u8 0] := hs
    simp only [F1_app, y33, x33_0, r33_0, x33_1, r33_1, x33_2, r33_2, x33_3, r33_3, x33_4, x33_5, x33_6, r33_6, x33_7, x33_8, x33_9, x33_10, sC_skip, sC_exit, sC_ret, condK_true, condK_false, unw_seq_normal, unw_seq_exit, unw_seq_ret, unw_block_normal, unw_block_exit, unw_block_ret, unw_lp_exit, unw_lp_ret, unw_fin, retQ_ret, retQ_normal, retQ_exit, nxt_app, nxtQ_app, nxtL_app, guardK_tt, guardK_ff, guardK_tf, guardK_ft, guardK_u, guardQ_tt, guardQ_ff, guardQ_tf, guardQ_ft, guardQ_u, guardL_tt, guardL_ff, guardL_tf, guardL_ft, guardL_u, sOps_nil, sOps_cons, sOps_guard, sTree_leaf, sTree_stop, sTree_quiet, sTree_loud, sTree_quietG, sTree_loudG, goO_some, goO_none, sOp_call, callvP_func, sOp_callv, putD_some, putD_none, still_nil, still_none, still_cons, sOp_move, sOp_nilCheck, sOp_pick, sOp_alloc, sOp_box, sOp_build, sOp_buildSlice, sOp_load1, sOp_loadN, sOp_store, sOp_bin, sOp_un, sOp_convInt, sOp_convSame, sOp_resame, sOp_toBytes, sOp_ofBytes, sOp_mkfunc, sOp_makeSlice, sOp_sliceStr, sOp_slice, sOp_sliceArr, sOp_fieldAddr, sOp_field1, sOp_fieldN, sOp_indexAddr, sOp_indexArrAddr, sOp_indexStr, sOp_indexArr1, sOp_indexArrN, sOp_extract, sOp_lenStr, sOp_lenSl, sOp_lenArr, sOp_append, sOp_copy, sOp_minmax, sOp_capOf, ev_t, ev_c, argEnv_nil, argEnv_cons, envL_nil, envL_cons, abin_add, abin_sub, abin_mul, abin_quo, abin_rem, abin_eql, abin_neq, abin_lss, abin_leq, abin_gtr, abin_geq, abin_shl, abin_shr, abin_sadd, abin_seql, abin_sneq, abin_slss, abin_sleq, abin_sgtr, abin_sgeq, abin_beql, abin_bneq, abin_p1, abin_p2, abin_p3, abin_p4, abin_p5, abin_p6, abin_s3, abin_s4, abin_s5, abin_s6, abin_f1, abin_f2, abin_f3, abin_f4, abin_feq, abin_fne, cellsEq_nil, cellsEq_s, cellsEq_i, cellsEq_b, aun_not, aun_neg, hget_nil, hget_cons, hset_cons, hkill_cons, hpush_nil, hpush_cons, idx_nil, idx_cons, sub_cons, take_cons, take_nil', put_cons, drop_cons, cells_agg, cells_str, cells_int, cells_bool, cells_ptr, cells_nilptr, cells_nilslice, cells_slice, cells_imm, cells_func, resVals_nil, resVals_t, resVals_cN, resVals_c1, retOf_one, retOf_two, retOf_nil, evOp, isRead, fixOp, ldCell, ldCells, fAddr, iAddr_slice, iAddr_imm, aAddr_ptr, aAddr_iptr, inRange_int, bound_none, bound_int, mayGrow, fillParts, lenSl, topOf, rowF_eq, rowQ_eq, Option.map_some, Option.map_none, Option.bind_some, Option.bind_none, Option.isSome_some, Option.isSome_none, List.map_cons, List.map_nil, List.length_cons, List.length_nil, List.append_nil, List.nil_append, List.cons_append, List.all_cons, List.all_nil, cell_str, cell_int, cell_bool, cell_ptr, cell_iptr, cell_nilptr, cell_nilslice, cell_slice, cell_imm, cell_func, cell_nilfunc, Bool.and_true, Bool.true_and, Bool.and_false, Bool.false_and, Bool.or_true, Bool.true_or, Bool.or_false, Bool.false_or, Bool.not_true, Bool.not_false, Bool.false_eq_true, Bool.true_eq_false, and_true, true_and, and_false, false_and, or_true, true_or, or_false, false_or, not_true_eq_false, not_false_eq_true, decide_true, decide_false, decide_eq_true_eq, if_true, if_false, ite_true, ite_false, ↓reduceIte, Nat.reduceAdd, Nat.reduceSub, Nat.reduceMul, Nat.reduceEqDiff, Nat.reduceLeDiff, Nat.reduceLT, Nat.succ_ne_zero, Nat.zero_add, Nat.add_zero, Nat.zero_mul, Nat.mul_one, Nat.one_mul, Nat.le_refl, Nat.sub_zero, Int.reduceLT, Int.reduceLE, Int.reduceEq, Int.reduceNe, Int.reduceToNat, Int.reduceAdd, Int.reduceSub, Int.toNat_zero, reduceCtorEq, eq_self, ne_eq, beq_self_eq_true, Nat.reduceBEq, Nat.reduceBNe, List.mem_cons, List.not_mem_nil, false_implies, true_implies, implies_true, forall_const, List.drop_zero, List.drop_nil, List.take_zero, List.drop_length, List.length_append, cast_zero, cast_one, Int.cast_ofNat_Int, List.replicate_zero, List.replicate_succ, List.flatten_cons, List.flatten_nil, wrap_one, hs', hg, he']
    exact hK _ ⟨f', nn', hg⟩ hf
def rdEnd (rem : List UInt8) (e : Int) : Int := if e = 0 ∧ 0 < rem.length then 5 else e
def endRD (args : List AV) (σ : AHeap) (K : AV → AHeap → Prop) : Prop :=
  ∃ (id : Nat) (rem : List UInt8) (e : Int), args = [.ptr id 0] ∧ RdS σ id rem e ∧ ∀ σ', Fr1 σ σ' id → K (.int .i64 (rdEnd rem e)) σ'
theorem endRD_ok (args : List AV) (σ : AHeap) (K : AV → AHeap → Prop) (h : endRD args σ K) : Tri Try.prog 30 args σ K := by
  obtain ⟨id, rem, e, rfl, ⟨f, nn, hg⟩, hK⟩ := h
  refine Tri.of_s c30 (noCall_sound _) ?_
  by_cases he : e = 0
  · subst he
    by_cases hl : 0 < rem.length
    · have hl' : (0 : Int) < (rem.length : Int) := by omega
      have hg5 : hget (hset σ id [.imm (rws rem) f nn, .int .i64 5]) id = some [.imm (rws rem) f nn, .int .i64 5] := set_same hg
      have hn : rdEnd rem 0 = 5 := by simp [rdEnd, hl]
      rw [hn] at hK
      simp only [y30, x30_0, r30_0, x30_1, r30_1, x30_2, r30_2, x30_3, x30_4, x30_5, r30_5, x30_6, x30_7, x30_8, sC_skip, sC_exit, sC_ret, condK_true, condK_false, unw_seq_normal, unw_seq_exit, unw_seq_ret, unw_block_normal, unw_block_exit, unw_block_ret, unw_lp_exit, unw_lp_ret, unw_fin, retQ_ret, retQ_normal, retQ_exit, nxt_app, nxtQ_app, nxtL_app, guardK_tt, guardK_ff, guardK_tf, guardK_ft, guardK_u, guardQ_tt, guardQ_ff, guardQ_tf, guardQ_ft, guardQ_u, guardL_tt, guardL_ff, guardL_tf, guardL_ft, guardL_u, sOps_nil, sOps_cons, sOps_guard, sTree_leaf, sTree_stop, sTree_quiet, sTree_loud, sTree_quietG, sTree_loudG, goO_some, goO_none, sOp_call, callvP_func, sOp_callv, putD_some, putD_none, still_nil, still_none, still_cons, sOp_move, sOp_nilCheck, sOp_pick, sOp_alloc, sOp_box, sOp_build, sOp_buildSlice, sOp_load1, sOp_loadN, sOp_store, sOp_bin, sOp_un, sOp_convInt, sOp_convSame, sOp_resame, sOp_toBytes, sOp_ofBytes, sOp_mkfunc, sOp_makeSlice, sOp_sliceStr, sOp_slice, sOp_sliceArr, sOp_fieldAddr, sOp_field1, sOp_fieldN, sOp_indexAddr, sOp_indexArrAddr, sOp_indexStr, sOp_indexArr1, sOp_indexArrN, sOp_extract, sOp_lenStr, sOp_lenSl, sOp_lenArr, sOp_append, sOp_copy, sOp_minmax, sOp_capOf, ev_t, ev_c, argEnv_nil, argEnv_cons, envL_nil, envL_cons, abin_add, abin_sub, abin_mul, abin_quo, abin_rem, abin_eql, abin_neq, abin_lss, abin_leq, abin_gtr, abin_geq, abin_shl, abin_shr, abin_sadd, abin_seql, abin_sneq, abin_slss, abin_sleq, abin_sgtr, abin_sgeq, abin_beql, abin_bneq, abin_p1, abin_p2, abin_p3, abin_p4, abin_p5, abin_p6, abin_s3, abin_s4, abin_s5, abin_s6, abin_f1, abin_f2, abin_f3, abin_f4, abin_feq, abin_fne, cellsEq_nil, cellsEq_s, cellsEq_i, cellsEq_b, aun_not, aun_neg, hget_nil, hget_cons, hset_cons, hkill_cons, hpush_nil, hpush_cons, idx_nil, idx_cons, sub_cons, take_cons, take_nil', put_cons, drop_cons, cells_agg, cells_str, cells_int, cells_bool, cells_ptr, cells_nilptr, cells_nilslice, cells_slice, cells_imm, cells_func, resVals_nil, resVals_t, resVals_cN, resVals_c1, retOf_one, retOf_two, retOf_nil, evOp, isRead, fixOp, ldCell, ldCells, fAddr, iAddr_slice, iAddr_imm, aAddr_ptr, aAddr_iptr, inRange_int, bound_none, bound_int, mayGrow, fillParts, lenSl, topOf, rowF_eq, rowQ_eq, Option.map_some, Option.map_none, Option.bind_some, Option.bind_none, Option.isSome_some, Option.isSome_none, List.map_cons, List.map_nil, List.length_cons, List.length_nil, List.append_nil, List.nil_append, List.cons_append, List.all_cons, List.all_nil, cell_str, cell_int, cell_bool, cell_ptr, cell_iptr, cell_nilptr, cell_nilslice, cell_slice, cell_imm, cell_func, cell_nilfunc, Bool.and_true, Bool.true_and, Bool.and_false, Bool.false_and, Bool.or_true, Bool.true_or, Bool.or_false, Bool.false_or, Bool.not_true, Bool.not_false, Bool.false_eq_true, Bool.true_eq_false, and_true, true_and, and_false, false_and, or_true, true_or, or_false, false_or, not_true_eq_false, not_false_eq_true, decide_true, decide_false, decide_eq_true_eq, if_true, if_false, ite_true, ite_false, ↓reduceIte, Nat.reduceAdd, Nat.reduceSub, Nat.reduceMul, Nat.reduceEqDiff, Nat.reduceLeDiff, Nat.reduceLT, Nat.succ_ne_zero, Nat.zero_add, Nat.add_zero, Nat.zero_mul, Nat.mul_one, Nat.one_mul, Nat.le_refl, Nat.sub_zero, Int.reduceLT, Int.reduceLE, Int.reduceEq, Int.reduceNe, Int.reduceToNat, Int.reduceAdd, Int.reduceSub, Int.toNat_zero, reduceCtorEq, eq_self, ne_eq, beq_self_eq_true, Nat.reduceBEq, Nat.reduceBNe, List.mem_cons, List.not_mem_nil, false_implies, true_implies, implies_true, forall_const, List.drop_zero, List.drop_nil, List.take_zero, List.drop_length, List.length_append, cast_zero, cast_one, Int.cast_ofNat_Int, List.replicate_zero, List.replicate_succ, List.flatten_cons, List.flatten_nil, wrap_one, lenOf_imm, rws_len, hg, hl', hg5]
      exact hK _ Fr1.set
    · have hl' : ¬ (0 : Int) < (rem.length : Int) := by omega
      have hn : rdEnd rem 0 = 0 := by simp [rdEnd, hl]
      rw [hn] at hK
      simp only [y30, x30_0, r30_0, x30_1, r30_1, x30_2, r30_2, x30_3, x30_4, x30_5, r30_5, x30_6, x30_7, x30_8, sC_skip, sC_exit, sC_ret, condK_true, condK_false, unw_seq_normal, unw_seq_exit, unw_seq_ret, unw_block_normal, unw_block_exit, unw_block_ret, unw_lp_exit, unw_lp_ret, unw_fin, retQ_ret, retQ_normal, retQ_exit, nxt_app, nxtQ_app, nxtL_app, guardK_tt, guardK_ff, guardK_tf, guardK_ft, guardK_u, guardQ_tt, guardQ_ff, guardQ_tf, guardQ_ft, guardQ_u, guardL_tt, guardL_ff, guardL_tf, guardL_ft, guardL_u, sOps_nil, sOps_cons, sOps_guard, sTree_leaf, sTree_stop, sTree_quiet, sTree_loud, sTree_quietG, sTree_loudG, goO_some, goO_none, sOp_call, callvP_func, sOp_callv, putD_some, putD_none, still_nil, still_none, still_cons, sOp_move, sOp_nilCheck, sOp_pick, sOp_alloc, sOp_box, sOp_build, sOp_buildSlice, sOp_load1, sOp_loadN, sOp_store, sOp_bin, sOp_un, sOp_convInt, sOp_convSame, sOp_resame, sOp_toBytes, sOp_ofBytes, sOp_mkfunc, sOp_makeSlice, sOp_sliceStr, sOp_slice, sOp_sliceArr, sOp_fieldAddr, sOp_field1, sOp_fieldN, sOp_indexAddr, sOp_indexArrAddr, sOp_indexStr, sOp_indexArr1, sOp_indexArrN, sOp_extract, sOp_lenStr, sOp_lenSl, sOp_lenArr, sOp_append, sOp_copy, sOp_minmax, sOp_capOf, ev_t, ev_c, argEnv_nil, argEnv_cons, envL_nil, envL_cons, abin_add, abin_sub, abin_mul, abin_quo, abin_rem, abin_eql, abin_neq, abin_lss, abin_leq, abin_gtr, abin_geq, abin_shl, abin_shr, abin_sadd, abin_seql, abin_sneq, abin_slss, abin_sleq, abin_sgtr, abin_sgeq, abin_beql, abin_bneq, abin_p1, abin_p2, abin_p3, abin_p4, abin_p5, abin_p6, abin_s3, abin_s4, abin_s5, abin_s6, abin_f1, abin_f2, abin_f3, abin_f4, abin_feq, abin_fne, cellsEq_nil, cellsEq_s, cellsEq_i, cellsEq_b, aun_not, aun_neg, hget_nil, hget_cons, hset_cons, hkill_cons, hpush_nil, hpush_cons, idx_nil, idx_cons, sub_cons, take_cons, take_nil', put_cons, drop_cons, cells_agg, cells_str, cells_int, cells_bool, cells_ptr, cells_nilptr, cells_nilslice, cells_slice, cells_imm, cells_func, resVals_nil, resVals_t, resVals_cN, resVals_c1, retOf_one, retOf_two, retOf_nil, evOp, isRead, fixOp, ldCell, ldCells, fAddr, iAddr_slice, iAddr_imm, aAddr_ptr, aAddr_iptr, inRange_int, bound_none, bound_int, mayGrow, fillParts, lenSl, topOf, rowF_eq, rowQ_eq, Option.map_some, Option.map_none, Option.bind_some, Option.bind_none, Option.isSome_some, Option.isSome_none, List.map_cons, List.map_nil, List.length_cons, List.length_nil, List.append_nil, List.nil_append, List.cons_append, List.all_cons, List.all_nil, cell_str, cell_int, cell_bool, cell_ptr, cell_iptr, cell_nilptr, cell_nilslice, cell_slice, cell_imm, cell_func, cell_nilfunc, Bool.and_true, Bool.true_and, Bool.and_false, Bool.false_and, Bool.or_true, Bool.true_or, Bool.or_false, Bool.false_or, Bool.not_true, Bool.not_false, Bool.false_eq_true, Bool.true_eq_false, and_true, true_and, and_false, false_and, or_true, true_or, or_false, false_or, not_true_eq_false, not_false_eq_true, decide_true, decide_false, decide_eq_true_eq, if_true, if_false, ite_true, ite_false, ↓reduceIte, Nat.reduceAdd, Nat.reduceSub, Nat.reduceMul, Nat.reduceEqDiff, Nat.reduceLeDiff, Nat.reduceLT, Nat.succ_ne_zero, Nat.zero_add, Nat.add_zero, Nat.zero_mul, Nat.mul_one, Nat.one_mul, Nat.le_refl, Nat.sub_zero, Int.reduceLT, Int.reduceLE, Int.reduceEq, Int.reduceNe, Int.reduceToNat, Int.reduceAdd, Int.reduceSub, Int.toNat_zero, reduceCtorEq, eq_self, ne_eq, beq_self_eq_true, Nat.reduceBEq, Nat.reduceBNe, List.mem_cons, List.not_mem_nil, false_implies, true_implies, implies_true, forall_const, List.drop_zero, List.drop_nil, List.take_zero, List.drop_length, List.length_append, cast_zero, cast_one, Int.cast_ofNat_Int, List.replicate_zero, List.replicate_succ, List.flatten_cons, List.flatten_nil, wrap_one, lenOf_imm, rws_len, hg, hl']
      exact hK _ Fr1.refl
  · have hn : rdEnd rem e = e := by simp [rdEnd, he]
    rw [hn] at hK
    simp only [y30, x30_0, r30_0, x30_1, r30_1, x30_2, r30_2, x30_3, x30_4, x30_5, r30_5, x30_6, x30_7, x30_8, sC_skip, sC_exit, sC_ret, condK_true, condK_false, unw_seq_normal, unw_seq_exit, unw_seq_ret, unw_block_normal, unw_block_exit, unw_block_ret, unw_lp_exit, unw_lp_ret, unw_fin, retQ_ret, retQ_normal, retQ_exit, nxt_app, nxtQ_app, nxtL_app, guardK_tt, guardK_ff, guardK_tf, guardK_ft, guardK_u, guardQ_tt, guardQ_ff, guardQ_tf, guardQ_ft, guardQ_u, guardL_tt, guardL_ff, guardL_tf, guardL_ft, guardL_u, sOps_nil, sOps_cons, sOps_guard, sTree_leaf, sTree_stop, sTree_quiet, sTree_loud, sTree_quietG, sTree_loudG, goO_some, goO_none, sOp_call, callvP_func, sOp_callv, putD_some, putD_none, still_nil, still_none, still_cons, sOp_move, sOp_nilCheck, sOp_pick, sOp_alloc, sOp_box, sOp_build, sOp_buildSlice, sOp_load1, sOp_loadN, sOp_store, sOp_bin, sOp_un, sOp_convInt, sOp_convSame, sOp_resame, sOp_toBytes, sOp_ofBytes, sOp_mkfunc, sOp_makeSlice, sOp_sliceStr, sOp_slice, sOp_sliceArr, sOp_fieldAddr, sOp_field1, sOp_fieldN, sOp_indexAddr, sOp_indexArrAddr, sOp_indexStr, sOp_indexArr1, sOp_indexArrN, sOp_extract, sOp_lenStr, sOp_lenSl, sOp_lenArr, sOp_append, sOp_copy, sOp_minmax, sOp_capOf, ev_t, ev_c, argEnv_nil, argEnv_cons, envL_nil, envL_cons, abin_add, abin_sub, abin_mul, abin_quo, abin_rem, abin_eql, abin_neq, abin_lss, abin_leq, abin_gtr, abin_geq, abin_shl, abin_shr, abin_sadd, abin_seql, abin_sneq, abin_slss, abin_sleq, abin_sgtr, abin_sgeq, abin_beql, abin_bneq, abin_p1, abin_p2, abin_p3, abin_p4, abin_p5, abin_p6, abin_s3, abin_s4, abin_s5, abin_s6, abin_f1, abin_f2, abin_f3, abin_f4, abin_feq, abin_fne, cellsEq_nil, cellsEq_s, cellsEq_i, cellsEq_b, aun_not, aun_neg, hget_nil, hget_cons, hset_cons, hkill_cons, hpush_nil, hpush_cons, idx_nil, idx_cons, sub_cons, take_cons, take_nil', put_cons, drop_cons, cells_agg, cells_str, cells_int, cells_bool, cells_ptr, cells_nilptr, cells_nilslice, cells_slice, cells_imm, cells_func, resVals_nil, resVals_t, resVals_cN, resVals_c1, retOf_one, retOf_two, retOf_nil, evOp, isRead, fixOp, ldCell, ldCells, fAddr, iAddr_slice, iAddr_imm, aAddr_ptr, aAddr_iptr, inRange_int, bound_none, bound_int, mayGrow, fillParts, lenSl, topOf, rowF_eq, rowQ_eq, Option.map_some, Option.map_none, Option.bind_some, Option.bind_none, Option.isSome_some, Option.isSome_none, List.map_cons, List.map_nil, List.length_cons, List.length_nil, List.append_nil, List.nil_append, List.cons_append, List.all_cons, List.all_nil, cell_str, cell_int, cell_bool, cell_ptr, cell_iptr, cell_nilptr, cell_nilslice, cell_slice, cell_imm, cell_func, cell_nilfunc, Bool.and_true, Bool.true_and, Bool.and_false, Bool.false_and, Bool.or_true, Bool.true_or, Bool.or_false, Bool.false_or, Bool.not_true, Bool.not_false, Bool.false_eq_true, Bool.true_eq_false, and_true, true_and, and_false, false_and, or_true, true_or, or_false, false_or, not_true_eq_false, not_false_eq_true, decide_true, decide_false, decide_eq_true_eq, if_true, if_false, ite_true, ite_false, ↓reduceIte, Nat.reduceAdd, Nat.reduceSub, Nat.reduceMul, Nat.reduceEqDiff, Nat.reduceLeDiff, Nat.reduceLT, Nat.succ_ne_zero, Nat.zero_add, Nat.add_zero, Nat.zero_mul, Nat.mul_one, Nat.one_mul, Nat.le_refl, Nat.sub_zero, Int.reduceLT, Int.reduceLE, Int.reduceEq, Int.reduceNe, Int.reduceToNat, Int.reduceAdd, Int.reduceSub, Int.toNat_zero, reduceCtorEq, eq_self, ne_eq, beq_self_eq_true, Nat.reduceBEq, Nat.reduceBNe, List.mem_cons, List.not_mem_nil, false_implies, true_implies, implies_true, forall_const, List.drop_zero, List.drop_nil, List.take_zero, List.drop_length, List.length_append, cast_zero, cast_one, Int.cast_ofNat_Int, List.replicate_zero, List.replicate_succ, List.flatten_cons, List.flatten_nil, wrap_one, hg, he]
    exact hK _ Fr1.refl
end Go.Proofs.Ytmjnmnhpmbbmgab.parcelCuts
