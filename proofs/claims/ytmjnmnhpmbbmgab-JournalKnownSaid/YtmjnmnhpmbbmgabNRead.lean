/- What the readers do, as functions of the bytes that are left and of the error so far. No condition. -/
import Derived.Test.YtmjnmnhpmbbmgabNPack
set_option linter.unusedVariables false
set_option linter.unusedSimpArgs false
namespace Go.Proofs.Ytmjnmnhpmbbmgab.note
open Go.ChangeShapes Go.WideShapes Go.ChangeAt Go.RowKit Go.Gz
section
variable {C : PCall} {n0 : Nat} {R : MExit → Env → AHeap → Prop} {k : Cont} {e : Env} {σ : AHeap}
abbrev r28_0 : List MOper := [⟨(some 2), .move (.c (.int .i64 0)), none⟩]
def b28_0 : SCode := .region r28_0
abbrev r28_1 : List MOper := [⟨(some 5), .move (.t 0), none⟩,
  ⟨(some 6), .call 43 [(.t 5), (.c (.int .i64 4))], none⟩,
  ⟨(some 3), .move (.t 6), none⟩]
def b28_1 : SCode := .region r28_1
abbrev t28_2 : LTree := (.quiet ⟨(some 7), .move (.t 3), none⟩ 0
  (.quiet ⟨(some 8), .indexAddr 1 (.t 7) (.c (.int .i64 0)), none⟩ 1
  (.quiet ⟨(some 9), .load1 (.t 8), none⟩ 2
  (.quiet ⟨(some 10), .convInt .i64 (.t 9), none⟩ 3
  (.quiet ⟨(some 11), .bin .shl .num (.t 10) (.c (.int .u64 24)), none⟩ 4
  (.quiet ⟨(some 12), .move (.t 3), none⟩ 5
  (.quiet ⟨(some 13), .indexAddr 1 (.t 12) (.c (.int .i64 1)), none⟩ 6
  (.quiet ⟨(some 14), .load1 (.t 13), none⟩ 7
  (.quiet ⟨(some 15), .convInt .i64 (.t 14), none⟩ 8
  (.quiet ⟨(some 16), .bin .shl .num (.t 15) (.c (.int .u64 16)), none⟩ 9
  (.quiet ⟨(some 17), .bin .or .num (.t 11) (.t 16), none⟩ 10
  (.quiet ⟨(some 18), .move (.t 3), none⟩ 11
  (.quiet ⟨(some 19), .indexAddr 1 (.t 18) (.c (.int .i64 2)), none⟩ 12
  (.quiet ⟨(some 20), .load1 (.t 19), none⟩ 13
  (.quiet ⟨(some 21), .convInt .i64 (.t 20), none⟩ 14
  (.quiet ⟨(some 22), .bin .shl .num (.t 21) (.c (.int .u64 8)), none⟩ 15
  (.quiet ⟨(some 23), .bin .or .num (.t 17) (.t 22), none⟩ 16
  (.quiet ⟨(some 24), .move (.t 3), none⟩ 17
  (.quiet ⟨(some 25), .indexAddr 1 (.t 24) (.c (.int .i64 3)), none⟩ 18
  (.quiet ⟨(some 26), .load1 (.t 25), none⟩ 19
  (.quiet ⟨(some 27), .convInt .i64 (.t 26), none⟩ 20
  (.quiet ⟨(some 28), .bin .or .num (.t 23) (.t 27), none⟩ 21
  (.quiet ⟨(some 4), .move (.t 28), none⟩ 22
  .leaf)))))))))))))))))))))))
def b28_2 : SCode := .draw t28_2
abbrev r28_3 : List MOper := [⟨(some 29), .move (.t 0), none⟩,
  ⟨(some 30), .nilCheck (.t 29), none⟩,
  ⟨(some 31), .fieldAddr 1 (.t 30), none⟩,
  ⟨(some 32), .load1 (.t 31), none⟩,
  ⟨(some 33), .bin .eql .num (.t 32) (.c (.int .i64 0)), none⟩,
  ⟨(some 34), .move (.t 33), none⟩,
  ⟨(some 35), .move (.t 4), (some (34, true))⟩,
  ⟨(some 36), .bin .gtr .num (.t 35) (.c (.int .i64 268435455)), (some (34, true))⟩,
  ⟨(some 37), .pick (.t 34) (.t 36) (.c (.bool false)), none⟩]
def b28_3 : SCode := .region r28_3
abbrev r28_4 : List MOper := [⟨(some 38), .move (.t 0), none⟩,
  ⟨(some 39), .nilCheck (.t 38), none⟩,
  ⟨(some 40), .fieldAddr 1 (.t 39), none⟩,
  ⟨none, .store 1 (.t 40) (.c (.int .i64 5)), none⟩]
def b28_4 : SCode := .region r28_4
def b28_5 : SCode := .cond (.t 37) b28_4 .skip
def b28_6 : SCode := .seq b28_3 b28_5
abbrev r28_7 : List MOper := [⟨(some 41), .move (.t 0), none⟩,
  ⟨(some 42), .nilCheck (.t 41), none⟩,
  ⟨(some 43), .fieldAddr 1 (.t 42), none⟩,
  ⟨(some 44), .load1 (.t 43), none⟩,
  ⟨(some 45), .bin .neq .num (.t 44) (.c (.int .i64 0)), none⟩]
def b28_7 : SCode := .region r28_7
abbrev r28_8 : List MOper := [⟨(some 2), .move (.c (.int .i64 0)), none⟩]
def b28_8 : SCode := .region r28_8
def b28_9 : SCode := .seq b28_8 .ret
def b28_10 : SCode := .cond (.t 45) b28_9 .skip
def b28_11 : SCode := .seq b28_7 b28_10
abbrev r28_12 : List MOper := [⟨(some 46), .move (.t 4), none⟩,
  ⟨(some 2), .move (.t 46), none⟩]
def b28_12 : SCode := .region r28_12
def b28_13 : SCode := .seq b28_12 .ret
def b28_14 : SCode := .seq b28_11 b28_13
def b28_15 : SCode := .seq b28_6 b28_14
def b28_16 : SCode := .seq b28_2 b28_15
def b28_17 : SCode := .seq b28_1 b28_16
def b28_18 : SCode := .seq b28_0 b28_17
def s28 : SFunc := ⟨47, [.t 2], b28_18⟩
theorem c28 : sFn Try.prog 28 = some s28 := by kernel_rfl
theorem Z28 : XR b28_0 r28_0 ∧ XR b28_1 r28_1 ∧ XT b28_2 t28_2 ∧ XR b28_3 r28_3 ∧ XR b28_4 r28_4 ∧ XC b28_5 (.t 37) b28_4 .skip ∧ XS b28_6 b28_3 b28_5 ∧ XR b28_7 r28_7 ∧ XR b28_8 r28_8 ∧ XS b28_9 b28_8 .ret ∧ XC b28_10 (.t 45) b28_9 .skip ∧ XS b28_11 b28_7 b28_10 ∧ XR b28_12 r28_12 ∧ XS b28_13 b28_12 .ret ∧ XS b28_14 b28_11 b28_13 ∧ XS b28_15 b28_6 b28_14 ∧ XS b28_16 b28_2 b28_15 ∧ XS b28_17 b28_1 b28_16 ∧ XS b28_18 b28_0 b28_17 ∧ XY s28 47 b28_18 [.t 2] := ⟨rfl, rfl, rfl, rfl, rfl, sC_cond, rfl, rfl, rfl, rfl, sC_cond, rfl, rfl, rfl, rfl, rfl, rfl, rfl, rfl, rfl⟩
abbrev r29_0 : List MOper := [⟨(some 2), .move (.c (.str [])), none⟩]
def b29_0 : SCode := .region r29_0
abbrev r29_1 : List MOper := [⟨(some 4), .move (.t 0), none⟩,
  ⟨(some 5), .move (.t 0), none⟩,
  ⟨(some 6), .call 28 [(.t 5)], none⟩,
  ⟨(some 7), .call 43 [(.t 4), (.t 6)], none⟩,
  ⟨(some 8), .ofBytes (.t 7), none⟩,
  ⟨(some 3), .move (.t 8), none⟩]
def b29_1 : SCode := .region r29_1
abbrev r29_2 : List MOper := [⟨(some 9), .move (.t 0), none⟩,
  ⟨(some 10), .nilCheck (.t 9), none⟩,
  ⟨(some 11), .fieldAddr 1 (.t 10), none⟩,
  ⟨(some 12), .load1 (.t 11), none⟩,
  ⟨(some 13), .bin .neq .num (.t 12) (.c (.int .i64 0)), none⟩]
def b29_2 : SCode := .region r29_2
abbrev r29_3 : List MOper := [⟨(some 2), .move (.c (.str [])), none⟩]
def b29_3 : SCode := .region r29_3
def b29_4 : SCode := .seq b29_3 .ret
def b29_5 : SCode := .cond (.t 13) b29_4 .skip
def b29_6 : SCode := .seq b29_2 b29_5
abbrev r29_7 : List MOper := [⟨(some 14), .move (.t 3), none⟩,
  ⟨(some 2), .move (.t 14), none⟩]
def b29_7 : SCode := .region r29_7
def b29_8 : SCode := .seq b29_7 .ret
def b29_9 : SCode := .seq b29_6 b29_8
def b29_10 : SCode := .seq b29_1 b29_9
def b29_11 : SCode := .seq b29_0 b29_10
def s29 : SFunc := ⟨15, [.t 2], b29_11⟩
theorem c29 : sFn Try.prog 29 = some s29 := by kernel_rfl
theorem Z29 : XR b29_0 r29_0 ∧ XR b29_1 r29_1 ∧ XR b29_2 r29_2 ∧ XR b29_3 r29_3 ∧ XS b29_4 b29_3 .ret ∧ XC b29_5 (.t 13) b29_4 .skip ∧ XS b29_6 b29_2 b29_5 ∧ XR b29_7 r29_7 ∧ XS b29_8 b29_7 .ret ∧ XS b29_9 b29_6 b29_8 ∧ XS b29_10 b29_1 b29_9 ∧ XS b29_11 b29_0 b29_10 ∧ XY s29 15 b29_11 [.t 2] := ⟨rfl, rfl, rfl, rfl, rfl, sC_cond, rfl, rfl, rfl, rfl, rfl, rfl, rfl⟩
abbrev r30_0 : List MOper := [⟨(some 2), .move (.c (.int .i64 0)), none⟩]
def b30_0 : SCode := .region r30_0
abbrev r30_1 : List MOper := [⟨(some 3), .move (.t 0), none⟩,
  ⟨(some 4), .nilCheck (.t 3), none⟩,
  ⟨(some 5), .fieldAddr 1 (.t 4), none⟩,
  ⟨(some 6), .load1 (.t 5), none⟩,
  ⟨(some 7), .bin .eql .num (.t 6) (.c (.int .i64 0)), none⟩,
  ⟨(some 8), .move (.t 7), none⟩,
  ⟨(some 9), .move (.t 0), (some (8, true))⟩,
  ⟨(some 10), .nilCheck (.t 9), (some (8, true))⟩,
  ⟨(some 11), .fieldAddr 0 (.t 10), (some (8, true))⟩,
  ⟨(some 12), .load1 (.t 11), (some (8, true))⟩,
  ⟨(some 13), .lenSl (.t 12), (some (8, true))⟩,
  ⟨(some 14), .bin .gtr .num (.t 13) (.c (.int .i64 0)), (some (8, true))⟩,
  ⟨(some 15), .pick (.t 8) (.t 14) (.c (.bool false)), none⟩]
def b30_1 : SCode := .region r30_1
abbrev r30_2 : List MOper := [⟨(some 16), .move (.t 0), none⟩,
  ⟨(some 17), .nilCheck (.t 16), none⟩,
  ⟨(some 18), .fieldAddr 1 (.t 17), none⟩,
  ⟨none, .store 1 (.t 18) (.c (.int .i64 5)), none⟩]
def b30_2 : SCode := .region r30_2
def b30_3 : SCode := .cond (.t 15) b30_2 .skip
def b30_4 : SCode := .seq b30_1 b30_3
abbrev r30_5 : List MOper := [⟨(some 19), .move (.t 0), none⟩,
  ⟨(some 20), .nilCheck (.t 19), none⟩,
  ⟨(some 21), .fieldAddr 1 (.t 20), none⟩,
  ⟨(some 22), .load1 (.t 21), none⟩,
  ⟨(some 2), .move (.t 22), none⟩]
def b30_5 : SCode := .region r30_5
def b30_6 : SCode := .seq b30_5 .ret
def b30_7 : SCode := .seq b30_4 b30_6
def b30_8 : SCode := .seq b30_0 b30_7
def s30 : SFunc := ⟨23, [.t 2], b30_8⟩
theorem c30 : sFn Try.prog 30 = some s30 := by kernel_rfl
theorem Z30 : XR b30_0 r30_0 ∧ XR b30_1 r30_1 ∧ XR b30_2 r30_2 ∧ XC b30_3 (.t 15) b30_2 .skip ∧ XS b30_4 b30_1 b30_3 ∧ XR b30_5 r30_5 ∧ XS b30_6 b30_5 .ret ∧ XS b30_7 b30_4 b30_6 ∧ XS b30_8 b30_0 b30_7 ∧ XY s30 23 b30_8 [.t 2] := ⟨rfl, rfl, rfl, sC_cond, rfl, rfl, rfl, rfl, rfl, rfl⟩
abbrev r33_0 : List MOper := [⟨(some 2), .move (.c (.bool false)), none⟩]
def b33_0 : SCode := .region r33_0
abbrev r33_1 : List MOper := [⟨(some 4), .move (.t 0), none⟩,
  ⟨(some 5), .call 43 [(.t 4), (.c (.int .i64 1))], none⟩,
  ⟨(some 6), .indexAddr 1 (.t 5) (.c (.int .i64 0)), none⟩,
  ⟨(some 7), .load1 (.t 6), none⟩,
  ⟨(some 3), .move (.t 7), none⟩]
def b33_1 : SCode := .region r33_1
abbrev r33_2 : List MOper := [⟨(some 8), .move (.t 0), none⟩,
  ⟨(some 9), .nilCheck (.t 8), none⟩,
  ⟨(some 10), .fieldAddr 1 (.t 9), none⟩,
  ⟨(some 11), .load1 (.t 10), none⟩,
  ⟨(some 12), .bin .eql .num (.t 11) (.c (.int .i64 0)), none⟩,
  ⟨(some 13), .move (.t 12), none⟩,
  ⟨(some 14), .move (.t 3), (some (13, true))⟩,
  ⟨(some 15), .bin .gtr .num (.t 14) (.c (.int .u8 1)), (some (13, true))⟩,
  ⟨(some 16), .pick (.t 13) (.t 15) (.c (.bool false)), none⟩]
def b33_2 : SCode := .region r33_2
abbrev r33_3 : List MOper := [⟨(some 17), .move (.t 0), none⟩,
  ⟨(some 18), .nilCheck (.t 17), none⟩,
  ⟨(some 19), .fieldAddr 1 (.t 18), none⟩,
  ⟨none, .store 1 (.t 19) (.c (.int .i64 5)), none⟩]
def b33_3 : SCode := .region r33_3
def b33_4 : SCode := .cond (.t 16) b33_3 .skip
def b33_5 : SCode := .seq b33_2 b33_4
abbrev r33_6 : List MOper := [⟨(some 20), .move (.t 0), none⟩,
  ⟨(some 21), .nilCheck (.t 20), none⟩,
  ⟨(some 22), .fieldAddr 1 (.t 21), none⟩,
  ⟨(some 23), .load1 (.t 22), none⟩,
  ⟨(some 24), .bin .eql .num (.t 23) (.c (.int .i64 0)), none⟩,
  ⟨(some 25), .move (.t 24), none⟩,
  ⟨(some 26), .move (.t 3), (some (25, true))⟩,
  ⟨(some 27), .bin .eql .num (.t 26) (.c (.int .u8 1)), (some (25, true))⟩,
  ⟨(some 28), .pick (.t 25) (.t 27) (.c (.bool false)), none⟩,
  ⟨(some 2), .move (.t 28), none⟩]
def b33_6 : SCode := .region r33_6
def b33_7 : SCode := .seq b33_6 .ret
def b33_8 : SCode := .seq b33_5 b33_7
def b33_9 : SCode := .seq b33_1 b33_8
def b33_10 : SCode := .seq b33_0 b33_9
def s33 : SFunc := ⟨29, [.t 2], b33_10⟩
theorem c33 : sFn Try.prog 33 = some s33 := by kernel_rfl
theorem Z33 : XR b33_0 r33_0 ∧ XR b33_1 r33_1 ∧ XR b33_2 r33_2 ∧ XR b33_3 r33_3 ∧ XC b33_4 (.t 16) b33_3 .skip ∧ XS b33_5 b33_2 b33_4 ∧ XR b33_6 r33_6 ∧ XS b33_7 b33_6 .ret ∧ XS b33_8 b33_5 b33_7 ∧ XS b33_9 b33_1 b33_8 ∧ XS b33_10 b33_0 b33_9 ∧ XY s33 29 b33_10 [.t 2] := ⟨rfl, rfl, rfl, rfl, sC_cond, rfl, rfl, rfl, rfl, rfl, rfl, rfl⟩
abbrev r43_0 : List MOper := [⟨(some 4), .move (.c (.nilslice)), none⟩]
def b43_0 : SCode := .region r43_0
abbrev r43_1 : List MOper := [⟨(some 6), .move (.t 0), none⟩,
  ⟨(some 7), .nilCheck (.t 6), none⟩,
  ⟨(some 8), .fieldAddr 1 (.t 7), none⟩,
  ⟨(some 9), .load1 (.t 8), none⟩,
  ⟨(some 10), .bin .eql .num (.t 9) (.c (.int .i64 0)), none⟩,
  ⟨(some 11), .move (.t 10), none⟩,
  ⟨(some 12), .move (.t 1), (some (11, true))⟩,
  ⟨(some 13), .move (.t 0), (some (11, true))⟩,
  ⟨(some 14), .nilCheck (.t 13), (some (11, true))⟩,
  ⟨(some 15), .fieldAddr 0 (.t 14), (some (11, true))⟩,
  ⟨(some 16), .load1 (.t 15), (some (11, true))⟩,
  ⟨(some 17), .lenSl (.t 16), (some (11, true))⟩,
  ⟨(some 18), .bin .gtr .num (.t 12) (.t 17), (some (11, true))⟩,
  ⟨(some 19), .pick (.t 11) (.t 18) (.c (.bool false)), none⟩]
def b43_1 : SCode := .region r43_1
abbrev r43_2 : List MOper := [⟨(some 20), .move (.t 0), none⟩,
  ⟨(some 21), .nilCheck (.t 20), none⟩,
  ⟨(some 22), .fieldAddr 1 (.t 21), none⟩,
  ⟨none, .store 1 (.t 22) (.c (.int .i64 7)), none⟩]
def b43_2 : SCode := .region r43_2
def b43_3 : SCode := .cond (.t 19) b43_2 .skip
def b43_4 : SCode := .seq b43_1 b43_3
abbrev r43_5 : List MOper := [⟨(some 23), .move (.t 0), none⟩,
  ⟨(some 24), .nilCheck (.t 23), none⟩,
  ⟨(some 25), .fieldAddr 1 (.t 24), none⟩,
  ⟨(some 26), .load1 (.t 25), none⟩,
  ⟨(some 27), .bin .neq .num (.t 26) (.c (.int .i64 0)), none⟩]
def b43_5 : SCode := .region r43_5
abbrev r43_6 : List MOper := [⟨(some 28), .move (.t 1), none⟩,
  ⟨(some 29), .minmax false [(.t 28), (.c (.int .i64 4))], none⟩,
  ⟨(some 30), .makeSlice [.int .u8 0] 1 1 (.t 29) (.t 29), none⟩,
  ⟨(some 4), .move (.t 30), none⟩]
def b43_6 : SCode := .region r43_6
def b43_7 : SCode := .seq b43_6 .ret
def b43_8 : SCode := .cond (.t 27) b43_7 .skip
def b43_9 : SCode := .seq b43_5 b43_8
abbrev r43_10 : List MOper := [⟨(some 31), .move (.t 0), none⟩,
  ⟨(some 32), .nilCheck (.t 31), none⟩,
  ⟨(some 33), .fieldAddr 0 (.t 32), none⟩,
  ⟨(some 34), .load1 (.t 33), none⟩,
  ⟨(some 35), .move (.t 1), none⟩,
  ⟨(some 36), .slice 1 (.t 34) none (some (.t 35)) none, none⟩,
  ⟨(some 5), .move (.t 36), none⟩]
def b43_10 : SCode := .region r43_10
abbrev r43_11 : List MOper := [⟨(some 37), .move (.t 0), none⟩,
  ⟨(some 38), .move (.t 0), none⟩,
  ⟨(some 39), .nilCheck (.t 38), none⟩,
  ⟨(some 40), .fieldAddr 0 (.t 39), none⟩,
  ⟨(some 41), .load1 (.t 40), none⟩,
  ⟨(some 42), .move (.t 1), none⟩,
  ⟨(some 43), .slice 1 (.t 41) (some (.t 42)) none none, none⟩,
  ⟨(some 44), .nilCheck (.t 37), none⟩,
  ⟨(some 45), .fieldAddr 0 (.t 44), none⟩,
  ⟨none, .store 1 (.t 45) (.t 43), none⟩]
def b43_11 : SCode := .region r43_11
abbrev r43_12 : List MOper := [⟨(some 46), .move (.t 5), none⟩,
  ⟨(some 4), .move (.t 46), none⟩]
def b43_12 : SCode := .region r43_12
def b43_13 : SCode := .seq b43_12 .ret
def b43_14 : SCode := .seq b43_11 b43_13
def b43_15 : SCode := .seq b43_10 b43_14
def b43_16 : SCode := .seq b43_9 b43_15
def b43_17 : SCode := .seq b43_4 b43_16
def b43_18 : SCode := .seq b43_0 b43_17
def s43 : SFunc := ⟨47, [.t 4], b43_18⟩
theorem c43 : sFn Try.prog 43 = some s43 := by kernel_rfl
theorem Z43 : XR b43_0 r43_0 ∧ XR b43_1 r43_1 ∧ XR b43_2 r43_2 ∧ XC b43_3 (.t 19) b43_2 .skip ∧ XS b43_4 b43_1 b43_3 ∧ XR b43_5 r43_5 ∧ XR b43_6 r43_6 ∧ XS b43_7 b43_6 .ret ∧ XC b43_8 (.t 27) b43_7 .skip ∧ XS b43_9 b43_5 b43_8 ∧ XR b43_10 r43_10 ∧ XR b43_11 r43_11 ∧ XR b43_12 r43_12 ∧ XS b43_13 b43_12 .ret ∧ XS b43_14 b43_11 b43_13 ∧ XS b43_15 b43_10 b43_14 ∧ XS b43_16 b43_9 b43_15 ∧ XS b43_17 b43_4 b43_16 ∧ XS b43_18 b43_0 b43_17 ∧ XY s43 47 b43_18 [.t 4] := ⟨rfl, rfl, rfl, sC_cond, rfl, rfl, rfl, rfl, sC_cond, rfl, rfl, rfl, rfl, rfl, rfl, rfl, rfl, rfl, rfl, rfl⟩

end
set_option maxHeartbeats 4000000
set_option maxRecDepth 10000
def rws (bs : List UInt8) : List (List AV) := bs.map fun b => [byteAV b]
theorem rws_len (bs : List UInt8) : (rws bs).length = bs.length := by simp [rws]
def RdS (σ : AHeap) (id : Nat) (rem : List UInt8) (e : Int) : Prop := ∃ f nn, hget σ id = some [.imm (rws rem) f nn, .int .i64 e]
def Fr1 (σ σ' : AHeap) (id : Nat) : Prop := ∀ j c, hget σ j = some c → j ≠ id → hget σ' j = some c
theorem Fr1.trans {σ σ' σ'' : AHeap} {id : Nat} (h : Fr1 σ σ' id) (k : Fr1 σ' σ'' id) : Fr1 σ σ'' id := fun j c hj h1 => k j c (h j c hj h1) h1
theorem Fr1.set {σ : AHeap} {id : Nat} {c : List AV} : Fr1 σ (hset σ id c) id := fun j d hj h1 => by rw [set_other (fun e => h1 e.symm)]; exact hj
theorem Fr1.push {σ : AHeap} {id : Nat} {c : List AV} : Fr1 σ (hpush σ c) id := fun j d hj h1 => push_old hj
theorem Fr1.refl {σ : AHeap} {id : Nat} : Fr1 σ σ id := fun j d hj h1 => hj
theorem evS_hi {bs : List UInt8} {f nn : Bool} {n : Int} (h0 : 0 ≤ n) (h1 : n.toNat ≤ bs.length) : evSlice 1 (.imm (rws bs) f nn) none (some (.int .i64 n)) none = some (.imm (rws (bs.take n.toNat)) (f && n.toNat == bs.length) nn) := by
  have ha : (rws bs).all (fun r => r.length == 1) = true := by simp [rws]
  have b1 : bound? none (rws bs).length (rws bs).length = some (rws bs).length := rfl
  have b2 : bound? (some (.int .i64 n)) (rws bs).length (rws bs).length = some n.toNat := by rw [bound_int, if_pos h0, if_pos (by rw [rws_len]; exact h1)]
  have b3 : bound? none 0 n.toNat = some 0 := rfl
  simp only [evSlice, b1, b2, b3]
  rw [if_pos ⟨Nat.zero_le _, by rw [rws_len]; exact h1, ha⟩]
  simp [rws, List.map_take]
theorem evS_lo {bs : List UInt8} {f nn : Bool} {n : Int} (h0 : 0 ≤ n) (h1 : n.toNat ≤ bs.length) : evSlice 1 (.imm (rws bs) f nn) (some (.int .i64 n)) none none = some (.imm (rws (bs.drop n.toNat)) f nn) := by
  have ha : (rws bs).all (fun r => r.length == 1) = true := by simp [rws]
  have b1 : bound? none (rws bs).length (rws bs).length = some (rws bs).length := rfl
  have b2 : bound? (some (.int .i64 n)) 0 (rws bs).length = some n.toNat := by rw [bound_int, if_pos h0, if_pos (by rw [rws_len]; exact h1)]
  simp only [evSlice, b1, b2]
  rw [if_pos ⟨by rw [rws_len]; exact h1, Nat.le_refl _, ha⟩, List.take_length]
  simp [rws, List.map_drop]
theorem lenOf_imm {r : List (List AV)} {f n : Bool} : lenOf (.imm r f n) = some r.length := _root_.id rfl
theorem lenOf_sl {i o l s : Nat} {c : Option Nat} : lenOf (.slice i o l c s) = some l := _root_.id rfl
theorem mm4 {n : Int} : foldMM false (.int .i64 n) [.int .i64 4] = some (.int .i64 (if 4 < n then 4 else n)) := by
  simp [foldMM, minmax2]
theorem rep_flat {n : Nat} {x : AV} : (List.replicate n [x]).flatten = List.replicate n x := by
  induction n with
  | zero => rfl
  | succ n ih => simp [List.replicate_succ, ih]
def takeD (args : List AV) (σ : AHeap) (K : AV → AHeap → Prop) : Prop :=
  ∃ (id : Nat) (rem : List UInt8) (e n : Int), args = [.ptr id 0, .int .i64 n] ∧ 0 ≤ n ∧ RdS σ id rem e ∧
    (e = 0 → n.toNat ≤ rem.length → ∀ σ' f nn, RdS σ' id (rem.drop n.toNat) 0 → Fr1 σ σ' id → K (.imm (rws (rem.take n.toNat)) f nn) σ') ∧
    (¬ (e = 0 ∧ n.toNat ≤ rem.length) → ∀ σ' s, RdS σ' id rem (if e = 0 then 7 else e) → Fr1 σ σ' id → hget σ' s = some (List.replicate (if 4 < n then 4 else n).toNat (.int .u8 0)) → K (.slice s 0 (if 4 < n then 4 else n).toNat (some (if 4 < n then 4 else n).toNat) 1) σ')
theorem takeD_ok (args : List AV) (σ : AHeap) (K : AV → AHeap → Prop) (h : takeD args σ K) : Tri Try.prog 43 args σ K := by
  obtain ⟨id, rem, e, n, rfl, h0, ⟨f, nn, hg⟩, hA, hB⟩ := h
  refine Tri.of_s c43 (noCall_sound _) ?_
  have mk : ∀ e', e' ≠ 0 → ¬ (e = 0 ∧ n.toNat ≤ rem.length) → e' = (if e = 0 then 7 else e) → ∀ σ1 : AHeap, hget σ1 id = some [.imm (rws rem) f nn, .int .i64 e'] → Fr1 σ σ1 id →
      K (.slice σ1.length 0 (if 4 < n then 4 else n).toNat (some (if 4 < n then 4 else n).toNat) 1) (hpush σ1 (List.replicate (if 4 < n then 4 else n).toNat (.int .u8 0))) := by
    intro e' he' hn he σ1 hs hf
    subst he
    exact hB hn _ _ ⟨f, nn, push_old hs⟩ (hf.trans Fr1.push) (push_new rfl)
  generalize hm : (if 4 < n then 4 else n) = m at *
  have m0 : 0 ≤ m := by rw [← hm]; split <;> omega
  have m4 : m ≤ 9223372036854775807 := by rw [← hm]; split <;> omega
  have m5 : m ≤ 281474976710656 := by rw [← hm]; split <;> omega
  by_cases he : e = 0
  · subst he
    by_cases hle : n.toNat ≤ rem.length
    · have hle' : ¬ ((rem.length : Int) < n) := by omega
      simp only [Z43, base1, ↓reduceIte, Nat.reduceAdd, Nat.reduceSub, Nat.reduceMul, Nat.reduceEqDiff, Nat.reduceLeDiff, Nat.reduceLT, Int.reduceLT, Int.reduceLE, Int.reduceEq, Int.reduceNe, Int.reduceToNat, Int.reduceAdd, Int.reduceSub, reduceCtorEq, Nat.reduceBEq, Nat.reduceBNe, lenOf_imm, hg, rws_len, hle', evS_hi h0 hle, evS_lo h0 hle]
      exact hA rfl hle _ _ _ ⟨f, nn, set_same hg⟩ Fr1.set
    · have hle' : ((rem.length : Int) < n) := by omega
      have hs : hget (hset σ id [.imm (rws rem) f nn, .int .i64 7]) id = some [.imm (rws rem) f nn, .int .i64 7] := set_same hg
      simp only [Z43, base1, ↓reduceIte, Nat.reduceAdd, Nat.reduceSub, Nat.reduceMul, Nat.reduceEqDiff, Nat.reduceLeDiff, Nat.reduceLT, Int.reduceLT, Int.reduceLE, Int.reduceEq, Int.reduceNe, Int.reduceToNat, Int.reduceAdd, Int.reduceSub, reduceCtorEq, Nat.reduceBEq, Nat.reduceBNe, lenOf_imm, hg, rws_len, hle', hs, mm4, hm, m0, m4, m5, rep_flat, Int.le_refl, Int.one_mul]
      exact mk 7 (by decide) (fun h => hle h.2) rfl _ hs Fr1.set
  · simp only [Z43, base1, ↓reduceIte, Nat.reduceAdd, Nat.reduceSub, Nat.reduceMul, Nat.reduceEqDiff, Nat.reduceLeDiff, Nat.reduceLT, Int.reduceLT, Int.reduceLE, Int.reduceEq, Int.reduceNe, Int.reduceToNat, Int.reduceAdd, Int.reduceSub, reduceCtorEq, Nat.reduceBEq, Nat.reduceBNe, lenOf_imm, hg, rws_len, he, mm4, hm, m0, m4, m5, rep_flat, Int.le_refl, Int.one_mul]
    exact mk e he (fun h => he h.1) (by rw [if_neg he]) _ hg Fr1.refl
/-! Num. -/
def val32 (a b c d : UInt8) : Int := ((a.toNat * 16777216 + b.toNat * 65536 + c.toNat * 256 + d.toNat : Nat) : Int)
def orI (x y : Int) : Int := IntKind.wrap .i64 ((BitVec.ofInt (IntKind.bits .i64) x ||| BitVec.ofInt (IntKind.bits .i64) y).toNat : Int)
theorem abin_or {q : EqK} {x y : Int} : abin .or q (.int .i64 x) (.int .i64 y) = some (.int .i64 (orI x y)) := by simp [abin, intBin, orI]
theorem orI_nat {x y : Nat} (hx : x < 9223372036854775808) (hy : y < 9223372036854775808) : orI (x : Int) (y : Int) = ((x ||| y : Nat) : Int) := by
  unfold orI
  have hb : ∀ z : Nat, z < 9223372036854775808 → (BitVec.ofInt (IntKind.bits .i64) (z : Int)).toNat = z := by
    intro z hz
    show (BitVec.ofInt 64 (z : Int)).toNat = z
    rw [BitVec.ofInt_natCast, BitVec.toNat_ofNat]
    exact Nat.mod_eq_of_lt (Nat.lt_trans hz (by decide))
  have e1 : (BitVec.ofInt (IntKind.bits .i64) (x : Int) ||| BitVec.ofInt (IntKind.bits .i64) (y : Int)).toNat = x ||| y := by
    rw [BitVec.toNat_or, hb x hx, hb y hy]
  rw [e1]
  have h63 : (2 : Nat) ^ 63 = 9223372036854775808 := by decide
  have : x ||| y < 9223372036854775808 := by
    rw [← h63]
    exact Nat.or_lt_two_pow (by rw [h63]; exact hx) (by rw [h63]; exact hy)
  exact Gz.wrap64 (by omega)
theorem byte_lt (b : UInt8) : b.toNat < 256 := UInt8.toNat_lt b
theorem or_val (a b c d : UInt8) : orI (orI (orI ((a.toNat : Int) * 16777216) ((b.toNat : Int) * 65536)) ((c.toNat : Int) * 256)) (d.toNat : Int) = val32 a b c d := by
  have h1 := byte_lt a; have h2 := byte_lt b; have h3 := byte_lt c; have h4 := byte_lt d
  rw [show (a.toNat : Int) * 16777216 = ((a.toNat * 16777216 : Nat) : Int) from (Int.natCast_mul _ _).symm, show (b.toNat : Int) * 65536 = ((b.toNat * 65536 : Nat) : Int) from (Int.natCast_mul _ _).symm, show (c.toNat : Int) * 256 = ((c.toNat * 256 : Nat) : Int) from (Int.natCast_mul _ _).symm]
  rw [orI_nat (by omega) (by omega)]
  have e1 : a.toNat * 16777216 ||| b.toNat * 65536 = a.toNat * 16777216 + b.toNat * 65536 := by
    have := Nat.shiftLeft_add_eq_or_of_lt (b := b.toNat * 65536) (i := 24) (by omega) a.toNat
    rw [Nat.shiftLeft_eq] at this
    exact this.symm
  rw [e1, orI_nat (by omega) (by omega)]
  have e2 : (a.toNat * 16777216 + b.toNat * 65536) ||| c.toNat * 256 = a.toNat * 16777216 + b.toNat * 65536 + c.toNat * 256 := by
    have e3 : (a.toNat * 256 + b.toNat) * 2 ^ 16 = a.toNat * 16777216 + b.toNat * 65536 := by clear e1; simp only [Nat.reducePow]; omega
    have := Nat.shiftLeft_add_eq_or_of_lt (b := c.toNat * 256) (i := 16) (by omega) (a.toNat * 256 + b.toNat)
    rw [Nat.shiftLeft_eq] at this
    rw [e3] at this
    exact this.symm
  rw [e2, orI_nat (by omega) (by omega)]
  have e4 : (a.toNat * 16777216 + b.toNat * 65536 + c.toNat * 256) ||| d.toNat = a.toNat * 16777216 + b.toNat * 65536 + c.toNat * 256 + d.toNat := by
    have e3 : (a.toNat * 65536 + b.toNat * 256 + c.toNat) * 2 ^ 8 = a.toNat * 16777216 + b.toNat * 65536 + c.toNat * 256 := by clear e1 e2; simp only [Nat.reducePow]; omega
    have := Nat.shiftLeft_add_eq_or_of_lt (b := d.toNat) (i := 8) (by omega) (a.toNat * 65536 + b.toNat * 256 + c.toNat)
    rw [Nat.shiftLeft_eq] at this
    rw [e3] at this
    exact this.symm
  rw [e4]; rfl
def rdNum (rem : List UInt8) (e : Int) : Int × List UInt8 × Int :=
  if e = 0 then
    match rem with
    | a :: b :: c :: d :: r => if 268435455 < val32 a b c d then (0, r, 5) else (val32 a b c d, r, 0)
    | rem => (0, rem, 7)
  else (0, rem, e)
def F1 : PCall := rowQ 43 takeD noCall
theorem F1_app {f : FuncId} {args : List AV} {σ : AHeap} {K : AV → AHeap → Prop} : F1 f args σ K = rowQ 43 takeD noCall f args σ K := _root_.id rfl
theorem F1_sound : Sound Try.prog F1 := rowQ_sound takeD_ok (noCall_sound _)
def numRD (args : List AV) (σ : AHeap) (K : AV → AHeap → Prop) : Prop :=
  ∃ (id : Nat) (rem : List UInt8) (e : Int), args = [.ptr id 0] ∧ RdS σ id rem e ∧ ∀ σ', RdS σ' id (rdNum rem e).2.1 (rdNum rem e).2.2 → Fr1 σ σ' id → K (.int .i64 (rdNum rem e).1) σ'
theorem wrap_byte (b : UInt8) : IntKind.wrap .i64 (b.toNat : Int) = (b.toNat : Int) := by have := byte_lt b; exact Gz.wrap64 (by omega)
theorem wrap_b24 (b : UInt8) : IntKind.wrap .i64 ((b.toNat : Int) * 16777216) = (b.toNat : Int) * 16777216 := by have := byte_lt b; exact Gz.wrap64 (by omega)
theorem wrap_b16 (b : UInt8) : IntKind.wrap .i64 ((b.toNat : Int) * 65536) = (b.toNat : Int) * 65536 := by have := byte_lt b; exact Gz.wrap64 (by omega)
theorem wrap_b8 (b : UInt8) : IntKind.wrap .i64 ((b.toNat : Int) * 256) = (b.toNat : Int) * 256 := by have := byte_lt b; exact Gz.wrap64 (by omega)
theorem byteAV_eq (b : UInt8) : byteAV b = .int .u8 (b.toNat : Int) := _root_.id rfl
theorem numRD_ok (args : List AV) (σ : AHeap) (K : AV → AHeap → Prop) (h : numRD args σ K) : Tri Try.prog 28 args σ K := by
  obtain ⟨id, rem, e, rfl, hr, hK⟩ := h
  refine Tri.of_s c28 F1_sound ?_
  simp only [F1_app, Z28, base1, ↓reduceIte, Nat.reduceAdd, Nat.reduceSub, Nat.reduceMul, Nat.reduceEqDiff, Nat.reduceLeDiff, Nat.reduceLT, Int.reduceLT, Int.reduceLE, Int.reduceEq, Int.reduceNe, Int.reduceToNat, Int.reduceAdd, Int.reduceSub, reduceCtorEq, Nat.reduceBEq, Nat.reduceBNe]
  refine ⟨id, rem, e, 4, rfl, by decide, hr, fun he hle σ' f nn hr' hf => ?_, fun hno σ' s hr' hf hs => ?_⟩
  · subst he
    match rem, hle with
    | a :: b :: c :: d :: r, _ =>
      obtain ⟨f', nn', hg⟩ := hr'
      have hd : (a :: b :: c :: d :: r).drop (Int.toNat 4) = r := rfl
      rw [hd] at hg
      have ht : rws ((a :: b :: c :: d :: r).take (Int.toNat 4)) = [[byteAV a], [byteAV b], [byteAV c], [byteAV d]] := rfl
      rw [ht]
      by_cases hv : 268435455 < val32 a b c d
      · have hn : rdNum (a :: b :: c :: d :: r) 0 = (0, r, 5) := by simp [rdNum, hv]
        rw [hn] at hK
        have hg5 : hget (hset σ' id [.imm (rws r) f' nn', .int .i64 5]) id = some [.imm (rws r) f' nn', .int .i64 5] := set_same hg
        simp only [F1_app, Z28, base1, ↓reduceIte, Nat.reduceAdd, Nat.reduceSub, Nat.reduceMul, Nat.reduceEqDiff, Nat.reduceLeDiff, Nat.reduceLT, Int.reduceLT, Int.reduceLE, Int.reduceEq, Int.reduceNe, Int.reduceToNat, Int.reduceAdd, Int.reduceSub, reduceCtorEq, Nat.reduceBEq, Nat.reduceBNe, byteAV_eq, wrap_byte, shr24, shr16, shr8, wrap_b24, wrap_b16, wrap_b8, abin_or, or_val, hg, hv, hg5]
        exact hK _ ⟨f', nn', hg5⟩ (hf.trans Fr1.set)
      · have hn : rdNum (a :: b :: c :: d :: r) 0 = (val32 a b c d, r, 0) := by simp [rdNum, hv]
        rw [hn] at hK
        simp only [F1_app, Z28, base1, ↓reduceIte, Nat.reduceAdd, Nat.reduceSub, Nat.reduceMul, Nat.reduceEqDiff, Nat.reduceLeDiff, Nat.reduceLT, Int.reduceLT, Int.reduceLE, Int.reduceEq, Int.reduceNe, Int.reduceToNat, Int.reduceAdd, Int.reduceSub, reduceCtorEq, Nat.reduceBEq, Nat.reduceBNe, byteAV_eq, wrap_byte, shr24, shr16, shr8, wrap_b24, wrap_b16, wrap_b8, abin_or, or_val, hg, hv]
        exact hK _ ⟨f', nn', hg⟩ hf
  · obtain ⟨f', nn', hg⟩ := hr'
    have hn : rdNum rem e = (0, rem, if e = 0 then 7 else e) := by
      by_cases he : e = 0
      · subst he
        match rem, hno with
        | [], _ => rfl
        | [_], _ => rfl
        | [_, _], _ => rfl
        | [_, _, _], _ => rfl
        | a :: b :: c :: d :: r, h => exact absurd ⟨rfl, by simp⟩ h
      · simp [rdNum, he]
    rw [hn] at hK
    have he' : ¬ (if e = 0 then 7 else e) = 0 := by split <;> omega
    generalize (if e = 0 then (7 : Int) else e) = e' at *
    have hs' : hget σ' s = some [.int .u8 0, .int .u8 0, .int .u8 0, .int .u8 0] := hs
    have z0 : orI (orI (orI 0 0) 0) 0 = 0 := by decide
    have z1 : IntKind.wrap .i64 0 = 0 := rfl
    simp only [F1_app, Z28, base1, ↓reduceIte, Nat.reduceAdd, Nat.reduceSub, Nat.reduceMul, Nat.reduceEqDiff, Nat.reduceLeDiff, Nat.reduceLT, Int.reduceLT, Int.reduceLE, Int.reduceEq, Int.reduceNe, Int.reduceToNat, Int.reduceAdd, Int.reduceSub, reduceCtorEq, Nat.reduceBEq, Nat.reduceBNe, hs', hg, he', abin_or, z0, z1, Int.zero_mul]
    exact hK _ ⟨f', nn', hg⟩ hf
/-! Text, Truth, End. -/
def rdText (rem : List UInt8) (e : Int) : List UInt8 × List UInt8 × Int :=
  let p := rdNum rem e
  if p.2.2 = 0 then (if p.1.toNat ≤ p.2.1.length then (p.2.1.take p.1.toNat, p.2.1.drop p.1.toNat, 0) else ([], p.2.1, 7)) else ([], p.2.1, p.2.2)
theorem rdNum_nonneg (rem : List UInt8) (e : Int) : 0 ≤ (rdNum rem e).1 := by
  unfold rdNum
  split
  · split
    · split
      · exact Int.le_refl 0
      · exact Int.natCast_nonneg _
    · exact Int.le_refl 0
  · exact Int.le_refl 0
def F2 : PCall := rowQ 28 numRD (rowQ 43 takeD noCall)
theorem F2_app {f : FuncId} {args : List AV} {σ : AHeap} {K : AV → AHeap → Prop} : F2 f args σ K = rowQ 28 numRD (rowQ 43 takeD noCall) f args σ K := _root_.id rfl
theorem F2_sound : Sound Try.prog F2 := rowQ_sound numRD_ok (rowQ_sound takeD_ok (noCall_sound _))
def textRD (args : List AV) (σ : AHeap) (K : AV → AHeap → Prop) : Prop :=
  ∃ (id : Nat) (rem : List UInt8) (e : Int), args = [.ptr id 0] ∧ RdS σ id rem e ∧ ∀ σ', RdS σ' id (rdText rem e).2.1 (rdText rem e).2.2 → Fr1 σ σ' id → K (.str (rdText rem e).1) σ'
theorem bytes_ofR (bs : List UInt8) : bytesOf (bs.map byteAV) = some bs := by
  induction bs with
  | nil => rfl
  | cons b r ih =>
    simp only [List.map_cons]
    rw [show byteAV b = AV.int .u8 (b.toNat : Int) from rfl]
    simp only [bytesOf, ih]
    simp
theorem ofRws (σ : AHeap) (bs : List UInt8) (f n : Bool) : Gz.ofBytes σ (.imm (rws bs) f n) = some bs := by
  have h1 : (rws bs).all (fun r => r.length == 1) = true := by simp [rws]
  show ((if (rws bs).all (fun r => r.length == 1) then some (rws bs).flatten else none).bind bytesOf) = some bs
  rw [if_pos h1]
  unfold rws
  rw [rows_flat]
  exact bytes_ofR bs
theorem ofZeros (σ : AHeap) (s m : Nat) (c : Option Nat) (h : hget σ s = some (List.replicate m (.int .u8 0))) : Gz.ofBytes σ (.slice s 0 m c 1) = some (List.replicate m 0) := by
  show ((if 1 = 1 then (hget σ s).bind (sub · 0 (m * 1)) else none).bind bytesOf) = _
  rw [if_pos rfl, h, Nat.mul_one]
  simp only [Option.bind_some]
  rw [sub_all (by simp)]
  have := bytes_ofR (List.replicate m 0)
  rw [List.map_replicate] at this
  exact this
theorem textRD_ok (args : List AV) (σ : AHeap) (K : AV → AHeap → Prop) (h : textRD args σ K) : Tri Try.prog 29 args σ K := by
  obtain ⟨id, rem, e, rfl, hr, hK⟩ := h
  refine Tri.of_s c29 F2_sound ?_
  simp only [F2_app, Z29, base1, ↓reduceIte, Nat.reduceAdd, Nat.reduceSub, Nat.reduceMul, Nat.reduceEqDiff, Nat.reduceLeDiff, Nat.reduceLT, Int.reduceLT, Int.reduceLE, Int.reduceEq, Int.reduceNe, Int.reduceToNat, Int.reduceAdd, Int.reduceSub, reduceCtorEq, Nat.reduceBEq, Nat.reduceBNe]
  refine ⟨id, rem, e, rfl, hr, fun σ1 h1 f1 => ?_⟩
  simp only [F2_app, Z29, base1, ↓reduceIte, Nat.reduceAdd, Nat.reduceSub, Nat.reduceMul, Nat.reduceEqDiff, Nat.reduceLeDiff, Nat.reduceLT, Int.reduceLT, Int.reduceLE, Int.reduceEq, Int.reduceNe, Int.reduceToNat, Int.reduceAdd, Int.reduceSub, reduceCtorEq, Nat.reduceBEq, Nat.reduceBNe]
  have hn := rdNum_nonneg rem e
  unfold rdText at hK
  generalize rdNum rem e = p at *
  obtain ⟨v, r1, e1⟩ := p
  simp only at hK h1 hn
  refine ⟨id, r1, e1, v, rfl, hn, h1, fun he hle σ' f nn hr' hf => ?_, fun hno σ' s hr' hf hs => ?_⟩
  · subst he
    rw [if_pos rfl, if_pos hle] at hK
    obtain ⟨f', nn', hg⟩ := hr'
    simp only [F2_app, Z29, base1, ↓reduceIte, Nat.reduceAdd, Nat.reduceSub, Nat.reduceMul, Nat.reduceEqDiff, Nat.reduceLeDiff, Nat.reduceLT, Int.reduceLT, Int.reduceLE, Int.reduceEq, Int.reduceNe, Int.reduceToNat, Int.reduceAdd, Int.reduceSub, reduceCtorEq, Nat.reduceBEq, Nat.reduceBNe, ofRws, hg]
    exact hK _ ⟨f', nn', hg⟩ (f1.trans hf)
  · have e2 : (if e1 = 0 then (if v.toNat ≤ r1.length then (r1.take v.toNat, r1.drop v.toNat, (0 : Int)) else ([], r1, 7)) else ([], r1, e1)) = (([] : List UInt8), r1, if e1 = 0 then 7 else e1) := by
      by_cases he : e1 = 0
      · have hle : ¬ v.toNat ≤ r1.length := fun h => hno ⟨he, h⟩
        simp [he, hle]
      · simp [he]
    rw [e2] at hK
    have he' : ¬ (if e1 = 0 then 7 else e1) = 0 := by split <;> omega
    generalize (if e1 = 0 then (7 : Int) else e1) = e' at *
    obtain ⟨f', nn', hg⟩ := hr'
    have hz := ofZeros σ' s _ (some (if 4 < v then 4 else v).toNat) hs
    generalize (if 4 < v then 4 else v).toNat = m at *
    simp only [F2_app, Z29, base1, ↓reduceIte, Nat.reduceAdd, Nat.reduceSub, Nat.reduceMul, Nat.reduceEqDiff, Nat.reduceLeDiff, Nat.reduceLT, Int.reduceLT, Int.reduceLE, Int.reduceEq, Int.reduceNe, Int.reduceToNat, Int.reduceAdd, Int.reduceSub, reduceCtorEq, Nat.reduceBEq, Nat.reduceBNe, hz, hg, he']
    exact hK _ ⟨f', nn', hg⟩ (f1.trans hf)
def rdTruth (rem : List UInt8) (e : Int) : Bool × List UInt8 × Int :=
  if e = 0 then
    match rem with
    | a :: r => if 1 < a.toNat then (false, r, 5) else (decide ((a.toNat : Int) = 1), r, 0)
    | [] => (false, [], 7)
  else (false, rem, e)
def truthRD (args : List AV) (σ : AHeap) (K : AV → AHeap → Prop) : Prop :=
  ∃ (id : Nat) (rem : List UInt8) (e : Int), args = [.ptr id 0] ∧ RdS σ id rem e ∧ ∀ σ', RdS σ' id (rdTruth rem e).2.1 (rdTruth rem e).2.2 → Fr1 σ σ' id → K (.bool (rdTruth rem e).1) σ'
theorem truthRD_ok (args : List AV) (σ : AHeap) (K : AV → AHeap → Prop) (h : truthRD args σ K) : Tri Try.prog 33 args σ K := by
  obtain ⟨id, rem, e, rfl, hr, hK⟩ := h
  refine Tri.of_s c33 F1_sound ?_
  simp only [F1_app, Z33, base1, ↓reduceIte, Nat.reduceAdd, Nat.reduceSub, Nat.reduceMul, Nat.reduceEqDiff, Nat.reduceLeDiff, Nat.reduceLT, Int.reduceLT, Int.reduceLE, Int.reduceEq, Int.reduceNe, Int.reduceToNat, Int.reduceAdd, Int.reduceSub, reduceCtorEq, Nat.reduceBEq, Nat.reduceBNe]
  refine ⟨id, rem, e, 1, rfl, by decide, hr, fun he hle σ' f nn hr' hf => ?_, fun hno σ' s hr' hf hs => ?_⟩
  · subst he
    match rem, hle with
    | a :: r, _ =>
      obtain ⟨f', nn', hg⟩ := hr'
      have hd : (a :: r).drop (Int.toNat 1) = r := rfl
      rw [hd] at hg
      have ht : rws ((a :: r).take (Int.toNat 1)) = [[byteAV a]] := rfl
      rw [ht]
      by_cases hv : 1 < a.toNat
      · have hv' : (1 : Int) < (a.toNat : Int) := by omega
        have hn : rdTruth (a :: r) 0 = (false, r, 5) := by simp [rdTruth, hv]
        rw [hn] at hK
        have hg5 : hget (hset σ' id [.imm (rws r) f' nn', .int .i64 5]) id = some [.imm (rws r) f' nn', .int .i64 5] := set_same hg
        simp only [F1_app, Z33, base1, ↓reduceIte, Nat.reduceAdd, Nat.reduceSub, Nat.reduceMul, Nat.reduceEqDiff, Nat.reduceLeDiff, Nat.reduceLT, Int.reduceLT, Int.reduceLE, Int.reduceEq, Int.reduceNe, Int.reduceToNat, Int.reduceAdd, Int.reduceSub, reduceCtorEq, Nat.reduceBEq, Nat.reduceBNe, byteAV_eq, hg, hv', hg5]
        exact hK _ ⟨f', nn', hg5⟩ (hf.trans Fr1.set)
      · have hv' : ¬ (1 : Int) < (a.toNat : Int) := by omega
        have hn : rdTruth (a :: r) 0 = (decide ((a.toNat : Int) = 1), r, 0) := by simp [rdTruth, hv]
        rw [hn] at hK
        simp only [F1_app, Z33, base1, ↓reduceIte, Nat.reduceAdd, Nat.reduceSub, Nat.reduceMul, Nat.reduceEqDiff, Nat.reduceLeDiff, Nat.reduceLT, Int.reduceLT, Int.reduceLE, Int.reduceEq, Int.reduceNe, Int.reduceToNat, Int.reduceAdd, Int.reduceSub, reduceCtorEq, Nat.reduceBEq, Nat.reduceBNe, byteAV_eq, hg, hv']
        exact hK _ ⟨f', nn', hg⟩ hf
  · obtain ⟨f', nn', hg⟩ := hr'
    have hn : rdTruth rem e = (false, rem, if e = 0 then 7 else e) := by
      by_cases he : e = 0
      · subst he
        match rem, hno with
        | [], _ => rfl
        | a :: r, h => exact absurd ⟨rfl, by simp⟩ h
      · simp [rdTruth, he]
    rw [hn] at hK
    have he' : ¬ (if e = 0 then 7 else e) = 0 := by split <;> omega
    generalize (if e = 0 then (7 : Int) else e) = e' at *
    have hs' : hget σ' s = some [.int .u8 0] := hs
    simp only [F1_app, Z33, base1, ↓reduceIte, Nat.reduceAdd, Nat.reduceSub, Nat.reduceMul, Nat.reduceEqDiff, Nat.reduceLeDiff, Nat.reduceLT, Int.reduceLT, Int.reduceLE, Int.reduceEq, Int.reduceNe, Int.reduceToNat, Int.reduceAdd, Int.reduceSub, reduceCtorEq, Nat.reduceBEq, Nat.reduceBNe, hs', hg, he']
    exact hK _ ⟨f', nn', hg⟩ hf
def rdEnd (rem : List UInt8) (e : Int) : Int := if e = 0 ∧ 0 < rem.length then 5 else e
def endRD (args : List AV) (σ : AHeap) (K : AV → AHeap → Prop) : Prop :=
  ∃ (id : Nat) (rem : List UInt8) (e : Int), args = [.ptr id 0] ∧ RdS σ id rem e ∧ ∀ σ', Fr1 σ σ' id → K (.int .i64 (rdEnd rem e)) σ'
theorem endRD_ok (args : List AV) (σ : AHeap) (K : AV → AHeap → Prop) (h : endRD args σ K) : Tri Try.prog 30 args σ K := by
  obtain ⟨id, rem, e, rfl, ⟨f, nn, hg⟩, hK⟩ := h
  refine Tri.of_s c30 (noCall_sound _) ?_
  by_cases he : e = 0
  · subst he
    by_cases hl : 0 < rem.length
    · have hl' : (0 : Int) < (rem.length : Int) := by omega
      have hg5 : hget (hset σ id [.imm (rws rem) f nn, .int .i64 5]) id = some [.imm (rws rem) f nn, .int .i64 5] := set_same hg
      have hn : rdEnd rem 0 = 5 := by simp [rdEnd, hl]
      rw [hn] at hK
      simp only [Z30, base1, ↓reduceIte, Nat.reduceAdd, Nat.reduceSub, Nat.reduceMul, Nat.reduceEqDiff, Nat.reduceLeDiff, Nat.reduceLT, Int.reduceLT, Int.reduceLE, Int.reduceEq, Int.reduceNe, Int.reduceToNat, Int.reduceAdd, Int.reduceSub, reduceCtorEq, Nat.reduceBEq, Nat.reduceBNe, lenOf_imm, rws_len, hg, hl', hg5]
      exact hK _ Fr1.set
    · have hl' : ¬ (0 : Int) < (rem.length : Int) := by omega
      have hn : rdEnd rem 0 = 0 := by simp [rdEnd, hl]
      rw [hn] at hK
      simp only [Z30, base1, ↓reduceIte, Nat.reduceAdd, Nat.reduceSub, Nat.reduceMul, Nat.reduceEqDiff, Nat.reduceLeDiff, Nat.reduceLT, Int.reduceLT, Int.reduceLE, Int.reduceEq, Int.reduceNe, Int.reduceToNat, Int.reduceAdd, Int.reduceSub, reduceCtorEq, Nat.reduceBEq, Nat.reduceBNe, lenOf_imm, rws_len, hg, hl']
      exact hK _ Fr1.refl
  · have hn : rdEnd rem e = e := by simp [rdEnd, he]
    rw [hn] at hK
    simp only [Z30, base1, ↓reduceIte, Nat.reduceAdd, Nat.reduceSub, Nat.reduceMul, Nat.reduceEqDiff, Nat.reduceLeDiff, Nat.reduceLT, Int.reduceLT, Int.reduceLE, Int.reduceEq, Int.reduceNe, Int.reduceToNat, Int.reduceAdd, Int.reduceSub, reduceCtorEq, Nat.reduceBEq, Nat.reduceBNe, hg, he]
    exact hK _ Fr1.refl
end Go.Proofs.Ytmjnmnhpmbbmgab.note
