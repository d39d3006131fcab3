/- Are two replies, two notes the same? So the program says. No condition. -/
import Derived.Test.YtndlgmciplckjabNC
set_option linter.unusedVariables false
set_option linter.unusedSimpArgs false
namespace Go.Proofs.Ytndlgmciplckjab.note
open Go.ChangeShapes Go.WideShapes Go.ChangeAt Go.RowKit Go.Gz
section
variable {C : PCall} {n0 : Nat} {R : MExit → Env → AHeap → Prop} {k : Cont} {e : Env} {σ : AHeap}
abbrev r31_0 : List MOper := [⟨(some 2), .box (.t 0), none⟩,
  ⟨(some 3), .box (.t 1), none⟩,
  ⟨(some 4), .move (.c (.bool false)), none⟩]
def b31_0 : SCode := .region r31_0
abbrev r31_1 : List MOper := [⟨(some 6), .fieldAddr 0 (.t 2), none⟩,
  ⟨(some 7), .load1 (.t 6), none⟩,
  ⟨(some 8), .fieldAddr 0 (.t 3), none⟩,
  ⟨(some 9), .load1 (.t 8), none⟩,
  ⟨(some 10), .bin .neq .num (.t 7) (.t 9), none⟩,
  ⟨(some 11), .move (.t 10), none⟩,
  ⟨(some 12), .fieldAddr 1 (.t 2), (some (11, false))⟩,
  ⟨(some 13), .load1 (.t 12), (some (11, false))⟩,
  ⟨(some 14), .fieldAddr 1 (.t 3), (some (11, false))⟩,
  ⟨(some 15), .load1 (.t 14), (some (11, false))⟩,
  ⟨(some 16), .bin .neq .num (.t 13) (.t 15), (some (11, false))⟩,
  ⟨(some 17), .pick (.t 11) (.c (.bool true)) (.t 16), none⟩,
  ⟨(some 18), .move (.t 17), none⟩,
  ⟨(some 19), .fieldAddr 2 (.t 2), (some (18, false))⟩,
  ⟨(some 20), .load1 (.t 19), (some (18, false))⟩,
  ⟨(some 21), .fieldAddr 2 (.t 3), (some (18, false))⟩,
  ⟨(some 22), .load1 (.t 21), (some (18, false))⟩,
  ⟨(some 23), .bin .neq .num (.t 20) (.t 22), (some (18, false))⟩,
  ⟨(some 24), .pick (.t 18) (.c (.bool true)) (.t 23), none⟩,
  ⟨(some 25), .move (.t 24), none⟩,
  ⟨(some 26), .fieldAddr 3 (.t 2), (some (25, false))⟩,
  ⟨(some 27), .load1 (.t 26), (some (25, false))⟩,
  ⟨(some 28), .fieldAddr 3 (.t 3), (some (25, false))⟩,
  ⟨(some 29), .load1 (.t 28), (some (25, false))⟩,
  ⟨(some 30), .bin .neq .bool (.t 27) (.t 29), (some (25, false))⟩,
  ⟨(some 31), .pick (.t 25) (.c (.bool true)) (.t 30), none⟩,
  ⟨(some 32), .move (.t 31), none⟩,
  ⟨(some 33), .fieldAddr 4 (.t 2), (some (32, false))⟩,
  ⟨(some 34), .load1 (.t 33), (some (32, false))⟩,
  ⟨(some 35), .fieldAddr 4 (.t 3), (some (32, false))⟩,
  ⟨(some 36), .load1 (.t 35), (some (32, false))⟩,
  ⟨(some 37), .bin .neq .num (.t 34) (.t 36), (some (32, false))⟩,
  ⟨(some 38), .pick (.t 32) (.c (.bool true)) (.t 37), none⟩,
  ⟨(some 39), .move (.t 38), none⟩,
  ⟨(some 40), .fieldAddr 6 (.t 2), (some (39, false))⟩,
  ⟨(some 41), .load1 (.t 40), (some (39, false))⟩,
  ⟨(some 42), .fieldAddr 6 (.t 3), (some (39, false))⟩,
  ⟨(some 43), .load1 (.t 42), (some (39, false))⟩,
  ⟨(some 44), .bin .neq .num (.t 41) (.t 43), (some (39, false))⟩,
  ⟨(some 45), .pick (.t 39) (.c (.bool true)) (.t 44), none⟩,
  ⟨(some 46), .move (.t 45), none⟩,
  ⟨(some 47), .fieldAddr 7 (.t 2), (some (46, false))⟩,
  ⟨(some 48), .load1 (.t 47), (some (46, false))⟩,
  ⟨(some 49), .fieldAddr 7 (.t 3), (some (46, false))⟩,
  ⟨(some 50), .load1 (.t 49), (some (46, false))⟩,
  ⟨(some 51), .bin .neq .bool (.t 48) (.t 50), (some (46, false))⟩,
  ⟨(some 52), .pick (.t 46) (.c (.bool true)) (.t 51), none⟩,
  ⟨(some 53), .move (.t 52), none⟩,
  ⟨(some 54), .fieldAddr 5 (.t 2), (some (53, false))⟩,
  ⟨(some 55), .load1 (.t 54), (some (53, false))⟩,
  ⟨(some 56), .lenSl (.t 55), (some (53, false))⟩,
  ⟨(some 57), .fieldAddr 5 (.t 3), (some (53, false))⟩,
  ⟨(some 58), .load1 (.t 57), (some (53, false))⟩,
  ⟨(some 59), .lenSl (.t 58), (some (53, false))⟩,
  ⟨(some 60), .bin .neq .num (.t 56) (.t 59), (some (53, false))⟩,
  ⟨(some 61), .pick (.t 53) (.c (.bool true)) (.t 60), none⟩]
def b31_1 : SCode := .region r31_1
abbrev r31_2 : List MOper := [⟨(some 4), .move (.c (.bool false)), none⟩]
def b31_2 : SCode := .region r31_2
def b31_3 : SCode := .seq b31_2 .ret
def b31_4 : SCode := .cond (.t 61) b31_3 .skip
def b31_5 : SCode := .seq b31_1 b31_4
abbrev r31_6 : List MOper := [⟨(some 5), .move (.c (.int .i64 0)), none⟩]
def b31_6 : SCode := .region r31_6
abbrev r31_7 : List MOper := [⟨(some 62), .move (.t 5), none⟩,
  ⟨(some 63), .fieldAddr 5 (.t 2), none⟩,
  ⟨(some 64), .load1 (.t 63), none⟩,
  ⟨(some 65), .lenSl (.t 64), none⟩,
  ⟨(some 66), .bin .lss .num (.t 62) (.t 65), none⟩]
def b31_7 : SCode := .region r31_7
def b31_8 : SCode := .cond (.t 66) .skip (.exit 0)
def b31_9 : SCode := .seq b31_7 b31_8
abbrev t31_10 : LTree := (.quiet ⟨(some 69), .fieldAddr 5 (.t 2), none⟩ 0
  (.quiet ⟨(some 70), .load1 (.t 69), none⟩ 1
  (.quiet ⟨(some 71), .move (.t 5), none⟩ 2
  (.quiet ⟨(some 72), .indexAddr 2 (.t 70) (.t 71), none⟩ 3
  (.quiet ⟨(some 73), .loadN 2 (.t 72), none⟩ 4
  (.quiet ⟨(some 74), .fieldAddr 5 (.t 3), none⟩ 5
  (.quiet ⟨(some 75), .load1 (.t 74), none⟩ 6
  (.quiet ⟨(some 76), .move (.t 5), none⟩ 7
  (.quiet ⟨(some 77), .indexAddr 2 (.t 75) (.t 76), none⟩ 8
  (.quiet ⟨(some 78), .loadN 2 (.t 77), none⟩ 9
  (.quiet ⟨(some 79), .bin .neq (.flat [.s, .s]) (.t 73) (.t 78), none⟩ 10
  .leaf)))))))))))
def b31_10 : SCode := .draw t31_10
abbrev r31_11 : List MOper := [⟨(some 4), .move (.c (.bool false)), none⟩]
def b31_11 : SCode := .region r31_11
def b31_12 : SCode := .seq b31_11 .ret
def b31_13 : SCode := .cond (.t 79) b31_12 .skip
def b31_14 : SCode := .seq b31_10 b31_13
def b31_15 : SCode := .block 1 b31_14
abbrev r31_16 : List MOper := [⟨(some 67), .move (.t 5), none⟩,
  ⟨(some 68), .bin .add .num (.t 67) (.c (.int .i64 1)), none⟩,
  ⟨(some 5), .move (.t 68), none⟩]
def b31_16 : SCode := .region r31_16
def b31_17 : SCode := .seq b31_15 b31_16
def b31_18 : SCode := .seq b31_9 b31_17
def b31_19 : SCode := .loop b31_18
def b31_20 : SCode := .block 0 b31_19
def b31_21 : SCode := .seq b31_6 b31_20
abbrev r31_22 : List MOper := [⟨(some 4), .move (.c (.bool true)), none⟩]
def b31_22 : SCode := .region r31_22
def b31_23 : SCode := .seq b31_22 .ret
def b31_24 : SCode := .seq b31_21 b31_23
def b31_25 : SCode := .seq b31_5 b31_24
def b31_26 : SCode := .seq b31_0 b31_25
def s31 : SFunc := ⟨80, [.t 4], b31_26⟩
theorem c31 : sFn Try.prog 31 = some s31 := by kernel_rfl
theorem Z31 : XR b31_0 r31_0 ∧ XR b31_1 r31_1 ∧ XR b31_2 r31_2 ∧ XS b31_3 b31_2 .ret ∧ XC b31_4 (.t 61) b31_3 .skip ∧ XS b31_5 b31_1 b31_4 ∧ XR b31_6 r31_6 ∧ XR b31_7 r31_7 ∧ XC b31_8 (.t 66) .skip (.exit 0) ∧ XS b31_9 b31_7 b31_8 ∧ XT b31_10 t31_10 ∧ XR b31_11 r31_11 ∧ XS b31_12 b31_11 .ret ∧ XC b31_13 (.t 79) b31_12 .skip ∧ XS b31_14 b31_10 b31_13 ∧ XB b31_15 1 b31_14 ∧ XR b31_16 r31_16 ∧ XS b31_17 b31_15 b31_16 ∧ XS b31_18 b31_9 b31_17 ∧ XB b31_20 0 b31_19 ∧ XS b31_21 b31_6 b31_20 ∧ XR b31_22 r31_22 ∧ XS b31_23 b31_22 .ret ∧ XS b31_24 b31_21 b31_23 ∧ XS b31_25 b31_5 b31_24 ∧ XS b31_26 b31_0 b31_25 ∧ XY s31 80 b31_26 [.t 4] := ⟨rfl, rfl, rfl, rfl, sC_cond, rfl, rfl, rfl, sC_cond, rfl, rfl, rfl, rfl, sC_cond, rfl, rfl, rfl, rfl, rfl, rfl, rfl, rfl, rfl, rfl, rfl, rfl, rfl⟩
abbrev r32_0 : List MOper := [⟨(some 4), .move (.c (.bool false)), none⟩]
def b32_0 : SCode := .region r32_0
abbrev r32_1 : List MOper := [⟨(some 6), .move (.t 0), none⟩,
  ⟨(some 7), .lenSl (.t 6), none⟩,
  ⟨(some 8), .move (.t 1), none⟩,
  ⟨(some 9), .lenSl (.t 8), none⟩,
  ⟨(some 10), .bin .neq .num (.t 7) (.t 9), none⟩]
def b32_1 : SCode := .region r32_1
abbrev r32_2 : List MOper := [⟨(some 4), .move (.c (.bool false)), none⟩]
def b32_2 : SCode := .region r32_2
def b32_3 : SCode := .seq b32_2 .ret
def b32_4 : SCode := .cond (.t 10) b32_3 .skip
def b32_5 : SCode := .seq b32_1 b32_4
abbrev r32_6 : List MOper := [⟨(some 5), .move (.c (.int .i64 0)), none⟩]
def b32_6 : SCode := .region r32_6
abbrev r32_7 : List MOper := [⟨(some 11), .move (.t 5), none⟩,
  ⟨(some 12), .move (.t 0), none⟩,
  ⟨(some 13), .lenSl (.t 12), none⟩,
  ⟨(some 14), .bin .lss .num (.t 11) (.t 13), none⟩]
def b32_7 : SCode := .region r32_7
def b32_8 : SCode := .cond (.t 14) .skip (.exit 0)
def b32_9 : SCode := .seq b32_7 b32_8
abbrev t32_10 : LTree := (.quiet ⟨(some 17), .move (.t 0), none⟩ 0
  (.quiet ⟨(some 18), .move (.t 5), none⟩ 1
  (.quiet ⟨(some 19), .indexAddr 9 (.t 17) (.t 18), none⟩ 2
  (.quiet ⟨(some 20), .fieldAddr 0 (.t 19), none⟩ 3
  (.quiet ⟨(some 21), .load1 (.t 20), none⟩ 4
  (.quiet ⟨(some 22), .move (.t 1), none⟩ 5
  (.quiet ⟨(some 23), .move (.t 5), none⟩ 6
  (.quiet ⟨(some 24), .indexAddr 9 (.t 22) (.t 23), none⟩ 7
  (.quiet ⟨(some 25), .fieldAddr 0 (.t 24), none⟩ 8
  (.quiet ⟨(some 26), .load1 (.t 25), none⟩ 9
  (.quiet ⟨(some 27), .bin .neq .num (.t 21) (.t 26), none⟩ 10
  (.quiet ⟨(some 28), .move (.t 27), none⟩ 11
  (.quiet ⟨(some 29), .move (.t 0), (some (28, false))⟩ 12
  (.quiet ⟨(some 30), .move (.t 5), (some (28, false))⟩ 13
  (.quiet ⟨(some 31), .indexAddr 9 (.t 29) (.t 30), (some (28, false))⟩ 14
  (.quiet ⟨(some 32), .fieldAddr 1 (.t 31), (some (28, false))⟩ 15
  (.quiet ⟨(some 33), .loadN 8 (.t 32), (some (28, false))⟩ 16
  (.quiet ⟨(some 34), .move (.t 1), (some (28, false))⟩ 17
  (.quiet ⟨(some 35), .move (.t 5), (some (28, false))⟩ 18
  (.quiet ⟨(some 36), .indexAddr 9 (.t 34) (.t 35), (some (28, false))⟩ 19
  (.quiet ⟨(some 37), .fieldAddr 1 (.t 36), (some (28, false))⟩ 20
  (.quiet ⟨(some 38), .loadN 8 (.t 37), (some (28, false))⟩ 21
  (.loud ⟨(some 39), .call 31 [(.t 33), (.t 38)], (some (28, false))⟩ []
  (.quiet ⟨(some 40), .un .not (.t 39), (some (28, false))⟩ 23
  (.quiet ⟨(some 41), .pick (.t 28) (.c (.bool true)) (.t 40), none⟩ 24
  .leaf)) .stop)))))))))))))))))))))))
def b32_10 : SCode := .draw t32_10
abbrev r32_11 : List MOper := [⟨(some 4), .move (.c (.bool false)), none⟩]
def b32_11 : SCode := .region r32_11
def b32_12 : SCode := .seq b32_11 .ret
def b32_13 : SCode := .cond (.t 41) b32_12 .skip
def b32_14 : SCode := .seq b32_10 b32_13
def b32_15 : SCode := .block 1 b32_14
abbrev r32_16 : List MOper := [⟨(some 15), .move (.t 5), none⟩,
  ⟨(some 16), .bin .add .num (.t 15) (.c (.int .i64 1)), none⟩,
  ⟨(some 5), .move (.t 16), none⟩]
def b32_16 : SCode := .region r32_16
def b32_17 : SCode := .seq b32_15 b32_16
def b32_18 : SCode := .seq b32_9 b32_17
def b32_19 : SCode := .loop b32_18
def b32_20 : SCode := .block 0 b32_19
def b32_21 : SCode := .seq b32_6 b32_20
abbrev r32_22 : List MOper := [⟨(some 4), .move (.c (.bool true)), none⟩]
def b32_22 : SCode := .region r32_22
def b32_23 : SCode := .seq b32_22 .ret
def b32_24 : SCode := .seq b32_21 b32_23
def b32_25 : SCode := .seq b32_5 b32_24
def b32_26 : SCode := .seq b32_0 b32_25
def s32 : SFunc := ⟨42, [.t 4], b32_26⟩
theorem c32 : sFn Try.prog 32 = some s32 := by kernel_rfl
theorem Z32 : XR b32_0 r32_0 ∧ XR b32_1 r32_1 ∧ XR b32_2 r32_2 ∧ XS b32_3 b32_2 .ret ∧ XC b32_4 (.t 10) b32_3 .skip ∧ XS b32_5 b32_1 b32_4 ∧ XR b32_6 r32_6 ∧ XR b32_7 r32_7 ∧ XC b32_8 (.t 14) .skip (.exit 0) ∧ XS b32_9 b32_7 b32_8 ∧ XT b32_10 t32_10 ∧ XR b32_11 r32_11 ∧ XS b32_12 b32_11 .ret ∧ XC b32_13 (.t 41) b32_12 .skip ∧ XS b32_14 b32_10 b32_13 ∧ XB b32_15 1 b32_14 ∧ XR b32_16 r32_16 ∧ XS b32_17 b32_15 b32_16 ∧ XS b32_18 b32_9 b32_17 ∧ XB b32_20 0 b32_19 ∧ XS b32_21 b32_6 b32_20 ∧ XR b32_22 r32_22 ∧ XS b32_23 b32_22 .ret ∧ XS b32_24 b32_21 b32_23 ∧ XS b32_25 b32_5 b32_24 ∧ XS b32_26 b32_0 b32_25 ∧ XY s32 42 b32_26 [.t 4] := ⟨rfl, rfl, rfl, rfl, sC_cond, rfl, rfl, rfl, sC_cond, rfl, rfl, rfl, rfl, sC_cond, rfl, rfl, rfl, rfl, rfl, rfl, rfl, rfl, rfl, rfl, rfl, rfl, rfl⟩
abbrev r33_0 : List MOper := [⟨(some 2), .move (.c (.nilslice)), none⟩]
def b33_0 : SCode := .region r33_0
abbrev r33_1 : List MOper := [⟨(some 3), .move (.c (.nilslice)), none⟩]
def b33_1 : SCode := .region r33_1
abbrev r33_2 : List MOper := [⟨(some 4), .move (.c (.int .i64 0)), none⟩]
def b33_2 : SCode := .region r33_2
abbrev r33_3 : List MOper := [⟨(some 5), .move (.t 4), none⟩,
  ⟨(some 6), .move (.t 0), none⟩,
  ⟨(some 7), .lenSl (.t 6), none⟩,
  ⟨(some 8), .bin .lss .num (.t 5) (.t 7), none⟩]
def b33_3 : SCode := .region r33_3
def b33_4 : SCode := .cond (.t 8) .skip (.exit 0)
def b33_5 : SCode := .seq b33_3 b33_4
abbrev t33_6 : LTree := (.quiet ⟨(some 11), .move (.t 3), none⟩ 0
  (.quiet ⟨(some 12), .move (.t 0), none⟩ 1
  (.quiet ⟨(some 13), .move (.t 4), none⟩ 2
  (.quiet ⟨(some 14), .indexAddr 9 (.t 12) (.t 13), none⟩ 3
  (.quiet ⟨(some 15), .fieldAddr 0 (.t 14), none⟩ 4
  (.quiet ⟨(some 16), .load1 (.t 15), none⟩ 5
  (.quiet ⟨(some 17), .move (.t 0), none⟩ 6
  (.quiet ⟨(some 18), .move (.t 4), none⟩ 7
  (.quiet ⟨(some 19), .indexAddr 9 (.t 17) (.t 18), none⟩ 8
  (.quiet ⟨(some 20), .fieldAddr 1 (.t 19), none⟩ 9
  (.quiet ⟨(some 21), .loadN 8 (.t 20), none⟩ 10
  (.quiet ⟨(some 22), .build [.int .i64 0, .int .i64 0, .int .i64 0, .int .i64 0, .bool false, .str [], .nilslice, .str [], .bool false] [(0, 1, (.t 16)), (1, 8, (.t 21))], none⟩ 11
  (.loud ⟨(some 23), .buildSlice [.int .i64 0, .int .i64 0, .int .i64 0, .int .i64 0, .bool false, .str [], .nilslice, .str [], .bool false] 9 1 [(0, 9, (.t 22))], none⟩ []
  (.loud ⟨(some 24), .append 9 104 (.t 11) (.t 23), none⟩ []
  (.quiet ⟨(some 3), .move (.t 24), none⟩ 14
  .leaf) .stop) .stop)))))))))))))
def b33_6 : SCode := .draw t33_6
def b33_7 : SCode := .block 1 b33_6
abbrev r33_8 : List MOper := [⟨(some 9), .move (.t 4), none⟩,
  ⟨(some 10), .bin .add .num (.t 9) (.c (.int .i64 1)), none⟩,
  ⟨(some 4), .move (.t 10), none⟩]
def b33_8 : SCode := .region r33_8
def b33_9 : SCode := .seq b33_7 b33_8
def b33_10 : SCode := .seq b33_5 b33_9
def b33_11 : SCode := .loop b33_10
def b33_12 : SCode := .block 0 b33_11
def b33_13 : SCode := .seq b33_2 b33_12
abbrev r33_14 : List MOper := [⟨(some 25), .move (.t 3), none⟩,
  ⟨(some 2), .move (.t 25), none⟩]
def b33_14 : SCode := .region r33_14
def b33_15 : SCode := .seq b33_14 .ret
def b33_16 : SCode := .seq b33_13 b33_15
def b33_17 : SCode := .seq b33_1 b33_16
def b33_18 : SCode := .seq b33_0 b33_17
def s33 : SFunc := ⟨26, [.t 2], b33_18⟩
theorem c33 : sFn Try.prog 33 = some s33 := by kernel_rfl
theorem Z33 : XR b33_0 r33_0 ∧ XR b33_1 r33_1 ∧ XR b33_2 r33_2 ∧ XR b33_3 r33_3 ∧ XC b33_4 (.t 8) .skip (.exit 0) ∧ XS b33_5 b33_3 b33_4 ∧ XT b33_6 t33_6 ∧ XB b33_7 1 b33_6 ∧ XR b33_8 r33_8 ∧ XS b33_9 b33_7 b33_8 ∧ XS b33_10 b33_5 b33_9 ∧ XB b33_12 0 b33_11 ∧ XS b33_13 b33_2 b33_12 ∧ XR b33_14 r33_14 ∧ XS b33_15 b33_14 .ret ∧ XS b33_16 b33_13 b33_15 ∧ XS b33_17 b33_1 b33_16 ∧ XS b33_18 b33_0 b33_17 ∧ XY s33 26 b33_18 [.t 2] := ⟨rfl, rfl, rfl, rfl, sC_cond, rfl, rfl, rfl, rfl, rfl, rfl, rfl, rfl, rfl, rfl, rfl, rfl, rfl, rfl⟩
abbrev r34_0 : List MOper := [⟨(some 2), .box (.t 0), none⟩,
  ⟨(some 3), .box (.t 1), none⟩,
  ⟨(some 4), .move (.c (.bool false)), none⟩]
def b34_0 : SCode := .region r34_0
abbrev r34_1 : List MOper := [⟨(some 6), .fieldAddr 0 (.t 2), none⟩,
  ⟨(some 7), .load1 (.t 6), none⟩,
  ⟨(some 8), .fieldAddr 0 (.t 3), none⟩,
  ⟨(some 9), .load1 (.t 8), none⟩,
  ⟨(some 10), .bin .neq .num (.t 7) (.t 9), none⟩,
  ⟨(some 11), .move (.t 10), none⟩,
  ⟨(some 12), .fieldAddr 1 (.t 2), (some (11, false))⟩,
  ⟨(some 13), .load1 (.t 12), (some (11, false))⟩,
  ⟨(some 14), .lenSl (.t 13), (some (11, false))⟩,
  ⟨(some 15), .fieldAddr 1 (.t 3), (some (11, false))⟩,
  ⟨(some 16), .load1 (.t 15), (some (11, false))⟩,
  ⟨(some 17), .lenSl (.t 16), (some (11, false))⟩,
  ⟨(some 18), .bin .neq .num (.t 14) (.t 17), (some (11, false))⟩,
  ⟨(some 19), .pick (.t 11) (.c (.bool true)) (.t 18), none⟩]
def b34_1 : SCode := .region r34_1
abbrev r34_2 : List MOper := [⟨(some 4), .move (.c (.bool false)), none⟩]
def b34_2 : SCode := .region r34_2
def b34_3 : SCode := .seq b34_2 .ret
def b34_4 : SCode := .cond (.t 19) b34_3 .skip
def b34_5 : SCode := .seq b34_1 b34_4
abbrev r34_6 : List MOper := [⟨(some 5), .move (.c (.int .i64 0)), none⟩]
def b34_6 : SCode := .region r34_6
abbrev r34_7 : List MOper := [⟨(some 20), .move (.t 5), none⟩,
  ⟨(some 21), .fieldAddr 1 (.t 2), none⟩,
  ⟨(some 22), .load1 (.t 21), none⟩,
  ⟨(some 23), .lenSl (.t 22), none⟩,
  ⟨(some 24), .bin .lss .num (.t 20) (.t 23), none⟩]
def b34_7 : SCode := .region r34_7
def b34_8 : SCode := .cond (.t 24) .skip (.exit 0)
def b34_9 : SCode := .seq b34_7 b34_8
abbrev t34_10 : LTree := (.quiet ⟨(some 27), .fieldAddr 1 (.t 2), none⟩ 0
  (.quiet ⟨(some 28), .load1 (.t 27), none⟩ 1
  (.quiet ⟨(some 29), .move (.t 5), none⟩ 2
  (.quiet ⟨(some 30), .indexAddr 4 (.t 28) (.t 29), none⟩ 3
  (.quiet ⟨(some 31), .loadN 4 (.t 30), none⟩ 4
  (.quiet ⟨(some 32), .fieldAddr 1 (.t 3), none⟩ 5
  (.quiet ⟨(some 33), .load1 (.t 32), none⟩ 6
  (.quiet ⟨(some 34), .move (.t 5), none⟩ 7
  (.quiet ⟨(some 35), .indexAddr 4 (.t 33) (.t 34), none⟩ 8
  (.quiet ⟨(some 36), .loadN 4 (.t 35), none⟩ 9
  (.quiet ⟨(some 37), .bin .neq (.flat [.s, .s, .i, .i]) (.t 31) (.t 36), none⟩ 10
  .leaf)))))))))))
def b34_10 : SCode := .draw t34_10
abbrev r34_11 : List MOper := [⟨(some 4), .move (.c (.bool false)), none⟩]
def b34_11 : SCode := .region r34_11
def b34_12 : SCode := .seq b34_11 .ret
def b34_13 : SCode := .cond (.t 37) b34_12 .skip
def b34_14 : SCode := .seq b34_10 b34_13
def b34_15 : SCode := .block 1 b34_14
abbrev r34_16 : List MOper := [⟨(some 25), .move (.t 5), none⟩,
  ⟨(some 26), .bin .add .num (.t 25) (.c (.int .i64 1)), none⟩,
  ⟨(some 5), .move (.t 26), none⟩]
def b34_16 : SCode := .region r34_16
def b34_17 : SCode := .seq b34_15 b34_16
def b34_18 : SCode := .seq b34_9 b34_17
def b34_19 : SCode := .loop b34_18
def b34_20 : SCode := .block 0 b34_19
def b34_21 : SCode := .seq b34_6 b34_20
abbrev r34_22 : List MOper := [⟨(some 4), .move (.c (.bool true)), none⟩]
def b34_22 : SCode := .region r34_22
def b34_23 : SCode := .seq b34_22 .ret
def b34_24 : SCode := .seq b34_21 b34_23
def b34_25 : SCode := .seq b34_5 b34_24
def b34_26 : SCode := .seq b34_0 b34_25
def s34 : SFunc := ⟨38, [.t 4], b34_26⟩
theorem c34 : sFn Try.prog 34 = some s34 := by kernel_rfl
theorem Z34 : XR b34_0 r34_0 ∧ XR b34_1 r34_1 ∧ XR b34_2 r34_2 ∧ XS b34_3 b34_2 .ret ∧ XC b34_4 (.t 19) b34_3 .skip ∧ XS b34_5 b34_1 b34_4 ∧ XR b34_6 r34_6 ∧ XR b34_7 r34_7 ∧ XC b34_8 (.t 24) .skip (.exit 0) ∧ XS b34_9 b34_7 b34_8 ∧ XT b34_10 t34_10 ∧ XR b34_11 r34_11 ∧ XS b34_12 b34_11 .ret ∧ XC b34_13 (.t 37) b34_12 .skip ∧ XS b34_14 b34_10 b34_13 ∧ XB b34_15 1 b34_14 ∧ XR b34_16 r34_16 ∧ XS b34_17 b34_15 b34_16 ∧ XS b34_18 b34_9 b34_17 ∧ XB b34_20 0 b34_19 ∧ XS b34_21 b34_6 b34_20 ∧ XR b34_22 r34_22 ∧ XS b34_23 b34_22 .ret ∧ XS b34_24 b34_21 b34_23 ∧ XS b34_25 b34_5 b34_24 ∧ XS b34_26 b34_0 b34_25 ∧ XY s34 38 b34_26 [.t 4] := ⟨rfl, rfl, rfl, rfl, sC_cond, rfl, rfl, rfl, sC_cond, rfl, rfl, rfl, rfl, sC_cond, rfl, rfl, rfl, rfl, rfl, rfl, rfl, rfl, rfl, rfl, rfl, rfl, rfl⟩
abbrev r35_0 : List MOper := [⟨(some 1), .box (.t 0), none⟩,
  ⟨(some 2), .alloc [.int .i64 0, .nilslice], none⟩]
def b35_0 : SCode := .region r35_0
abbrev r35_1 : List MOper := [⟨(some 5), .fieldAddr 0 (.t 1), none⟩,
  ⟨(some 6), .load1 (.t 5), none⟩,
  ⟨(some 7), .build [.int .i64 0, .nilslice] [(0, 1, (.t 6))], none⟩,
  ⟨(some 3), .alloc [.int .i64 0, .nilslice], none⟩,
  ⟨none, .store 2 (.t 3) (.t 7), none⟩]
def b35_1 : SCode := .region r35_1
abbrev r35_2 : List MOper := [⟨(some 4), .move (.c (.int .i64 0)), none⟩]
def b35_2 : SCode := .region r35_2
abbrev r35_3 : List MOper := [⟨(some 8), .move (.t 4), none⟩,
  ⟨(some 9), .fieldAddr 1 (.t 1), none⟩,
  ⟨(some 10), .load1 (.t 9), none⟩,
  ⟨(some 11), .lenSl (.t 10), none⟩,
  ⟨(some 12), .bin .lss .num (.t 8) (.t 11), none⟩]
def b35_3 : SCode := .region r35_3
def b35_4 : SCode := .cond (.t 12) .skip (.exit 0)
def b35_5 : SCode := .seq b35_3 b35_4
abbrev t35_6 : LTree := (.quiet ⟨(some 15), .fieldAddr 1 (.t 3), none⟩ 0
  (.quiet ⟨(some 16), .load1 (.t 15), none⟩ 1
  (.quiet ⟨(some 17), .fieldAddr 1 (.t 1), none⟩ 2
  (.quiet ⟨(some 18), .load1 (.t 17), none⟩ 3
  (.quiet ⟨(some 19), .move (.t 4), none⟩ 4
  (.quiet ⟨(some 20), .indexAddr 4 (.t 18) (.t 19), none⟩ 5
  (.quiet ⟨(some 21), .fieldAddr 0 (.t 20), none⟩ 6
  (.quiet ⟨(some 22), .loadN 2 (.t 21), none⟩ 7
  (.quiet ⟨(some 23), .fieldAddr 1 (.t 1), none⟩ 8
  (.quiet ⟨(some 24), .load1 (.t 23), none⟩ 9
  (.quiet ⟨(some 25), .move (.t 4), none⟩ 10
  (.quiet ⟨(some 26), .indexAddr 4 (.t 24) (.t 25), none⟩ 11
  (.quiet ⟨(some 27), .fieldAddr 2 (.t 26), none⟩ 12
  (.quiet ⟨(some 28), .load1 (.t 27), none⟩ 13
  (.quiet ⟨(some 29), .fieldAddr 1 (.t 1), none⟩ 14
  (.quiet ⟨(some 30), .load1 (.t 29), none⟩ 15
  (.quiet ⟨(some 31), .move (.t 4), none⟩ 16
  (.quiet ⟨(some 32), .indexAddr 4 (.t 30) (.t 31), none⟩ 17
  (.quiet ⟨(some 33), .fieldAddr 3 (.t 32), none⟩ 18
  (.quiet ⟨(some 34), .load1 (.t 33), none⟩ 19
  (.quiet ⟨(some 35), .build [.str [], .str [], .int .i64 0, .int .i64 0] [(0, 2, (.t 22)), (2, 1, (.t 28)), (3, 1, (.t 34))], none⟩ 20
  (.loud ⟨(some 36), .buildSlice [.str [], .str [], .int .i64 0, .int .i64 0] 4 1 [(0, 4, (.t 35))], none⟩ [1]
  (.loud ⟨(some 37), .append 4 48 (.t 16) (.t 36), none⟩ []
  (.quiet ⟨(some 38), .fieldAddr 1 (.t 3), none⟩ 23
  (.loud ⟨none, .store 1 (.t 38) (.t 37), none⟩ []
  .leaf .stop)) .stop) .stop))))))))))))))))))))))
def b35_6 : SCode := .draw t35_6
def b35_7 : SCode := .block 1 b35_6
abbrev r35_8 : List MOper := [⟨(some 13), .move (.t 4), none⟩,
  ⟨(some 14), .bin .add .num (.t 13) (.c (.int .i64 1)), none⟩,
  ⟨(some 4), .move (.t 14), none⟩]
def b35_8 : SCode := .region r35_8
def b35_9 : SCode := .seq b35_7 b35_8
def b35_10 : SCode := .seq b35_5 b35_9
def b35_11 : SCode := .loop b35_10
def b35_12 : SCode := .block 0 b35_11
def b35_13 : SCode := .seq b35_2 b35_12
abbrev r35_14 : List MOper := [⟨(some 39), .loadN 2 (.t 3), none⟩,
  ⟨none, .store 2 (.t 2) (.t 39), none⟩]
def b35_14 : SCode := .region r35_14
def b35_15 : SCode := .seq b35_14 .ret
def b35_16 : SCode := .seq b35_13 b35_15
def b35_17 : SCode := .seq b35_1 b35_16
def b35_18 : SCode := .seq b35_0 b35_17
def s35 : SFunc := ⟨40, [.cN 2 2], b35_18⟩
theorem c35 : sFn Try.prog 35 = some s35 := by kernel_rfl
theorem Z35 : XR b35_0 r35_0 ∧ XR b35_1 r35_1 ∧ XR b35_2 r35_2 ∧ XR b35_3 r35_3 ∧ XC b35_4 (.t 12) .skip (.exit 0) ∧ XS b35_5 b35_3 b35_4 ∧ XT b35_6 t35_6 ∧ XB b35_7 1 b35_6 ∧ XR b35_8 r35_8 ∧ XS b35_9 b35_7 b35_8 ∧ XS b35_10 b35_5 b35_9 ∧ XB b35_12 0 b35_11 ∧ XS b35_13 b35_2 b35_12 ∧ XR b35_14 r35_14 ∧ XS b35_15 b35_14 .ret ∧ XS b35_16 b35_13 b35_15 ∧ XS b35_17 b35_1 b35_16 ∧ XS b35_18 b35_0 b35_17 ∧ XY s35 40 b35_18 [.cN 2 2] := ⟨rfl, rfl, rfl, rfl, sC_cond, rfl, rfl, rfl, rfl, rfl, rfl, rfl, rfl, rfl, rfl, rfl, rfl, rfl, rfl⟩

end
set_option maxHeartbeats 4000000
set_option maxRecDepth 10000
theorem take_eq {α : Type} {a b : List α} {i : Nat} {x y : α} (ht : a.take i = b.take i) (hx : a[i]? = some x) (hy : b[i]? = some y) (h : x = y) : a.take (i + 1) = b.take (i + 1) := by
  rw [List.take_add_one, List.take_add_one, ht, hx, hy, h]
theorem same_at {α : Type} {a b : List α} {i : Nat} {x y : α} (hx : a[i]? = some x) (hy : b[i]? = some y) (h : a = b) : x = y := by
  subst h; rw [hx] at hy; exact Option.some.inj hy
theorem ne_false {p : Prop} [Decidable p] (h : decide (¬ p) = false) : p := by
  by_cases hp : p
  · exact hp
  · simp [hp] at h
theorem bne_false {p q : Bool} (h : (!(p == q)) = false) : p = q := by cases p <;> cases q <;> simp at h <;> rfl
def SmB {α : Type} (a b : α) (r : AV) (_ : AHeap) : Prop := ∃ t, r = .bool t ∧ (t = true ↔ a = b)
theorem smB_pure {α : Type} {f : FuncId} {args : List AV} {a b : α} (h : Tri Try.prog f args [] (SmB a b)) : Tri Try.prog f args [] fun r _ => r.pure = true ∧ ∃ t, r = .bool t ∧ (t = true ↔ a = b) :=
  h.mono fun r _ ⟨t, h1, h2⟩ => ⟨by rw [h1]; rfl, t, h1, h2⟩
/-! Replies. -/
def srepI (a b : RepV) (n : Nat) (e : Env) (σ : AHeap) : Prop :=
  ∃ i : Nat, i ≤ a.l.length ∧ n = a.l.length - i ∧ σ = [some a.cells, some b.cells] ∧ a.l.take i = b.l.take i ∧ e 2 = .ptr 0 0 ∧ e 3 = .ptr 1 0 ∧ e 5 = .int .i64 (i : Int)
theorem srep_step (a b : RepV) (hl : a.l.length ≤ 1000000000000000) (hll : a.l.length = b.l.length) (hrest : a.l = b.l → a = b) (n : Nat) (e : Env) (σ : AHeap) (h : srepI a b n e σ) :
    sC noCall 0 b31_18 (unw noCall 0 (loopR noCall 0 (RetQ [MRes.t 4] (SmB a b)) (.block 0 (.seq b31_23 .fin)) (srepI a b) n) .fin) e σ := by
  obtain ⟨i, hi, hn, rfl, ht, e2, e3, e5⟩ := h
  rcases Nat.lt_or_ge i a.l.length with hlt | hge
  · have hlt' : (i : Int) < (a.l.length : Int) := by omega
    have hge0 : (0 : Int) ≤ (i : Int) := by omega
    have hltb' : (i : Int) < (b.l.length : Int) := by omega
    have hltb : i < b.l.length := by omega
    obtain ⟨x, hx⟩ : ∃ x, a.l[i]? = some x := ⟨_, List.getElem?_eq_getElem hlt⟩
    obtain ⟨y, hy⟩ : ∃ y, b.l[i]? = some y := ⟨_, List.getElem?_eq_getElem (by omega)⟩
    have hxx : (recs a.l)[i]? = some [.str x.1, .str x.2] := by simp [recs, hx]
    have hyy : (recs b.l)[i]? = some [.str y.1, .str y.2] := by simp [recs, hy]
    have hw : IntKind.wrap .i64 ((i : Int) + 1) = ((i + 1 : Nat) : Int) := by rw [Gz.wrap64 (by omega)]; omega
    cases h1 : decide (x.1 = y.1) with
    | false =>
      simp only [RepV.cells, Z31, base1, baseE, ↓reduceIte, Nat.reduceAdd, Nat.reduceSub, Nat.reduceMul, Nat.reduceEqDiff, Nat.reduceLeDiff, Nat.reduceLT, Int.reduceLT, Int.reduceLE, Int.reduceEq, Int.reduceNe, Int.reduceToNat, Int.reduceAdd, Int.reduceSub, reduceCtorEq, Nat.reduceBEq, Nat.reduceBNe, loopR_exit, loopR_ret, e2, e3, e5, hlt', hltb', hlt, hltb, hge0, hxx, hyy, recs_len, Int.toNat_natCast, h1]
      exact ⟨false, rfl, ⟨fun h => (by cases h), fun h => by
        have := same_at hx hy (by rw [h]); rw [this] at h1; simp at h1⟩⟩
    | true =>
      cases h2 : decide (x.2 = y.2) with
      | false =>
        simp only [RepV.cells, Z31, base1, baseE, ↓reduceIte, Nat.reduceAdd, Nat.reduceSub, Nat.reduceMul, Nat.reduceEqDiff, Nat.reduceLeDiff, Nat.reduceLT, Int.reduceLT, Int.reduceLE, Int.reduceEq, Int.reduceNe, Int.reduceToNat, Int.reduceAdd, Int.reduceSub, reduceCtorEq, Nat.reduceBEq, Nat.reduceBNe, loopR_exit, loopR_ret, e2, e3, e5, hlt', hltb', hlt, hltb, hge0, hxx, hyy, recs_len, Int.toNat_natCast, h1, h2]
        exact ⟨false, rfl, ⟨fun h => (by cases h), fun h => by
          have := same_at hx hy (by rw [h]); rw [this] at h2; simp at h2⟩⟩
      | true =>
        simp only [RepV.cells, Z31, base1, baseE, ↓reduceIte, Nat.reduceAdd, Nat.reduceSub, Nat.reduceMul, Nat.reduceEqDiff, Nat.reduceLeDiff, Nat.reduceLT, Int.reduceLT, Int.reduceLE, Int.reduceEq, Int.reduceNe, Int.reduceToNat, Int.reduceAdd, Int.reduceSub, reduceCtorEq, Nat.reduceBEq, Nat.reduceBNe, loopR_exit, loopR_ret, e2, e3, e5, hlt', hltb', hlt, hltb, hge0, hxx, hyy, recs_len, Int.toNat_natCast, h1, h2, hw]
        rw [loopR_normal]
        refine ⟨a.l.length - (i + 1), _, _, by omega, .refl _ _ _, i + 1, hlt, rfl, rfl, take_eq ht hx hy (Prod.ext (of_decide_eq_true h1) (of_decide_eq_true h2)), ?_, ?_, ?_⟩
        all_goals simp only [putD_some, putD_none, Nat.reduceEqDiff, ↓reduceIte, e2, e3, e5, hw]
  · have hlt' : ¬ (i : Int) < (a.l.length : Int) := by omega
    have hie : i = a.l.length := by omega
    subst hie
    rw [List.take_length, hll, List.take_length] at ht
    simp only [RepV.cells, Z31, base1, baseE, ↓reduceIte, Nat.reduceAdd, Nat.reduceSub, Nat.reduceMul, Nat.reduceEqDiff, Nat.reduceLeDiff, Nat.reduceLT, Int.reduceLT, Int.reduceLE, Int.reduceEq, Int.reduceNe, Int.reduceToNat, Int.reduceAdd, Int.reduceSub, reduceCtorEq, Nat.reduceBEq, Nat.reduceBNe, loopR_exit, loopR_ret, e2, e3, e5, hlt', recs_len]
    exact ⟨true, rfl, ⟨fun _ => hrest ht, fun _ => rfl⟩⟩
theorem sameRep_ok (a b : RepV) (hl : a.l.length ≤ 1000000000000000) : Tri Try.prog 31 [.agg a.cells, .agg b.cells] [] fun r _ => r.pure = true ∧ ∃ t, r = .bool t ∧ (t = true ↔ a = b) := by
  refine smB_pure (Tri.of_s c31 (noCall_sound _) ?_)
  cases h1 : decide (a.client ≠ b.client) with
  | true =>
    simp only [RepV.cells, Z31, base1, baseE, ↓reduceIte, Nat.reduceAdd, Nat.reduceSub, Nat.reduceMul, Nat.reduceEqDiff, Nat.reduceLeDiff, Nat.reduceLT, Int.reduceLT, Int.reduceLE, Int.reduceEq, Int.reduceNe, Int.reduceToNat, Int.reduceAdd, Int.reduceSub, reduceCtorEq, Nat.reduceBEq, Nat.reduceBNe, recs_len, h1]
    exact ⟨false, rfl, ⟨fun h => (by cases h), fun h => by rw [h] at h1; simp at h1⟩⟩
  | false =>
  cases h2 : decide (a.seq ≠ b.seq) with
  | true =>
    simp only [RepV.cells, Z31, base1, baseE, ↓reduceIte, Nat.reduceAdd, Nat.reduceSub, Nat.reduceMul, Nat.reduceEqDiff, Nat.reduceLeDiff, Nat.reduceLT, Int.reduceLT, Int.reduceLE, Int.reduceEq, Int.reduceNe, Int.reduceToNat, Int.reduceAdd, Int.reduceSub, reduceCtorEq, Nat.reduceBEq, Nat.reduceBNe, recs_len, h1, h2]
    exact ⟨false, rfl, ⟨fun h => (by cases h), fun h => by rw [h] at h2; simp at h2⟩⟩
  | false =>
  cases h3 : decide (a.err ≠ b.err) with
  | true =>
    simp only [RepV.cells, Z31, base1, baseE, ↓reduceIte, Nat.reduceAdd, Nat.reduceSub, Nat.reduceMul, Nat.reduceEqDiff, Nat.reduceLeDiff, Nat.reduceLT, Int.reduceLT, Int.reduceLE, Int.reduceEq, Int.reduceNe, Int.reduceToNat, Int.reduceAdd, Int.reduceSub, reduceCtorEq, Nat.reduceBEq, Nat.reduceBNe, recs_len, h1, h2, h3]
    exact ⟨false, rfl, ⟨fun h => (by cases h), fun h => by rw [h] at h3; simp at h3⟩⟩
  | false =>
  cases h4 : (!(a.found == b.found)) with
  | true =>
    simp only [RepV.cells, Z31, base1, baseE, ↓reduceIte, Nat.reduceAdd, Nat.reduceSub, Nat.reduceMul, Nat.reduceEqDiff, Nat.reduceLeDiff, Nat.reduceLT, Int.reduceLT, Int.reduceLE, Int.reduceEq, Int.reduceNe, Int.reduceToNat, Int.reduceAdd, Int.reduceSub, reduceCtorEq, Nat.reduceBEq, Nat.reduceBNe, recs_len, h1, h2, h3, h4]
    exact ⟨false, rfl, ⟨fun h => (by cases h), fun h => by rw [h] at h4; simp at h4⟩⟩
  | false =>
  cases h5 : decide (a.val ≠ b.val) with
  | true =>
    simp only [RepV.cells, Z31, base1, baseE, ↓reduceIte, Nat.reduceAdd, Nat.reduceSub, Nat.reduceMul, Nat.reduceEqDiff, Nat.reduceLeDiff, Nat.reduceLT, Int.reduceLT, Int.reduceLE, Int.reduceEq, Int.reduceNe, Int.reduceToNat, Int.reduceAdd, Int.reduceSub, reduceCtorEq, Nat.reduceBEq, Nat.reduceBNe, recs_len, h1, h2, h3, h4, h5]
    exact ⟨false, rfl, ⟨fun h => (by cases h), fun h => by rw [h] at h5; simp at h5⟩⟩
  | false =>
  cases h6 : decide (a.next ≠ b.next) with
  | true =>
    simp only [RepV.cells, Z31, base1, baseE, ↓reduceIte, Nat.reduceAdd, Nat.reduceSub, Nat.reduceMul, Nat.reduceEqDiff, Nat.reduceLeDiff, Nat.reduceLT, Int.reduceLT, Int.reduceLE, Int.reduceEq, Int.reduceNe, Int.reduceToNat, Int.reduceAdd, Int.reduceSub, reduceCtorEq, Nat.reduceBEq, Nat.reduceBNe, recs_len, h1, h2, h3, h4, h5, h6]
    exact ⟨false, rfl, ⟨fun h => (by cases h), fun h => by rw [h] at h6; simp at h6⟩⟩
  | false =>
  cases h7 : (!(a.more == b.more)) with
  | true =>
    simp only [RepV.cells, Z31, base1, baseE, ↓reduceIte, Nat.reduceAdd, Nat.reduceSub, Nat.reduceMul, Nat.reduceEqDiff, Nat.reduceLeDiff, Nat.reduceLT, Int.reduceLT, Int.reduceLE, Int.reduceEq, Int.reduceNe, Int.reduceToNat, Int.reduceAdd, Int.reduceSub, reduceCtorEq, Nat.reduceBEq, Nat.reduceBNe, recs_len, h1, h2, h3, h4, h5, h6, h7]
    exact ⟨false, rfl, ⟨fun h => (by cases h), fun h => by rw [h] at h7; simp at h7⟩⟩
  | false =>
  cases h8 : decide ((a.l.length : Int) ≠ (b.l.length : Int)) with
  | true =>
    simp only [RepV.cells, Z31, base1, baseE, ↓reduceIte, Nat.reduceAdd, Nat.reduceSub, Nat.reduceMul, Nat.reduceEqDiff, Nat.reduceLeDiff, Nat.reduceLT, Int.reduceLT, Int.reduceLE, Int.reduceEq, Int.reduceNe, Int.reduceToNat, Int.reduceAdd, Int.reduceSub, reduceCtorEq, Nat.reduceBEq, Nat.reduceBNe, recs_len, h1, h2, h3, h4, h5, h6, h7, h8]
    exact ⟨false, rfl, ⟨fun h => (by cases h), fun h => by rw [h] at h8; simp at h8⟩⟩
  | false =>
  have hll : a.l.length = b.l.length := by have := ne_false h8; omega
  have hrest : a.l = b.l → a = b := fun h => by
    have p1 := ne_false h1; have p2 := ne_false h2; have p3 := ne_false h3; have p4 := bne_false h4; have p5 := ne_false h5; have p6 := ne_false h6; have p7 := bne_false h7
    clear h1 h2 h3 h4 h5 h6 h7 h8 hll hl
    cases a; cases b
    simp only at p1 p2 p3 p4 p5 p6 p7 h
    subst p1 p2 p3 p4 p5 p6 p7 h
    rfl
  simp only [RepV.cells, Z31, base1, baseE, ↓reduceIte, Nat.reduceAdd, Nat.reduceSub, Nat.reduceMul, Nat.reduceEqDiff, Nat.reduceLeDiff, Nat.reduceLT, Int.reduceLT, Int.reduceLE, Int.reduceEq, Int.reduceNe, Int.reduceToNat, Int.reduceAdd, Int.reduceSub, reduceCtorEq, Nat.reduceBEq, Nat.reduceBNe, recs_len, h1, h2, h3, h4, h5, h6, h7, h8]
  exact sC_inv (a := b31_18) (srepI a b) a.l.length _ _ (.refl _ _ _) ⟨0, Nat.zero_le _, rfl, rfl, rfl, rfl, rfl, rfl⟩ (srep_step a b hl hll hrest)
def sameRepD (args : List AV) (σ : AHeap) (K : AV → AHeap → Prop) : Prop := ∃ a b : RepV, args = [.agg a.cells, .agg b.cells] ∧ a.l.length ≤ 1000000000000000 ∧ ∀ t, (t = true ↔ a = b) → K (.bool t) σ
theorem sameRepD_ok (args : List AV) (σ : AHeap) (K : AV → AHeap → Prop) (h : sameRepD args σ K) : Tri Try.prog 31 args σ K := by
  obtain ⟨a, b, rfl, hl, h⟩ := h
  exact (Tri.pureD (by simp only [pureL, rep_pure, Bool.and_self]) (sameRep_ok a b hl) σ).mono fun r σ' ⟨⟨t, h1, h2⟩, h3⟩ => by rw [h1, h3]; exact h t h2
/-! Last replies, shards: as they are. -/
def mbI (l : List LaV) (n : Nat) (e : Env) (σ : AHeap) : Prop :=
  ∃ (i : Nat) (Lv : AV), i ≤ l.length ∧ n = l.length - i ∧ Grow σ Lv 9 ((l.take i).map LaV.cells) ∧ e 0 = .imm (l.map LaV.cells) false false ∧ e 3 = Lv ∧ e 4 = .int .i64 (i : Int)
theorem mb_step (l : List LaV) (hl : l.length ≤ 1000000) (n : Nat) (e : Env) (σ : AHeap) (h : mbI l n e σ) :
    sC noCall 0 b33_10 (unw noCall 0 (loopR noCall 0 (RetQ [MRes.t 2] (ImmQ (l.map LaV.cells))) (.block 0 (.seq b33_15 .fin)) (mbI l) n) .fin) e σ := by
  obtain ⟨i, Lv, hi, hn, hLv, e0, e3, e4⟩ := h
  have hml : (l.map LaV.cells).length = l.length := by simp
  have lc := grow_cell hLv
  rcases Nat.lt_or_ge i l.length with hlt | hge
  · have hlt' : (i : Int) < (l.length : Int) := by omega
    have hge0 : (0 : Int) ≤ (i : Int) := by omega
    obtain ⟨x, hx⟩ : ∃ x, l[i]? = some x := ⟨_, List.getElem?_eq_getElem hlt⟩
    have hxx : (l.map LaV.cells)[i]? = some [.int .i64 x.seq, .int .i64 x.rep.client, .int .i64 x.rep.seq, .int .i64 x.rep.err, .bool x.rep.found, .str x.rep.val, .imm (recs x.rep.l) false false, .str x.rep.next, .bool x.rep.more] := by simp [hx, LaV.cells, RepV.cells]
    have hw : IntKind.wrap .i64 ((i : Int) + 1) = ((i + 1 : Nat) : Int) := by rw [Gz.wrap64 (by omega)]; omega
    have htk : l.take (i + 1) = l.take i ++ [x] := by rw [List.take_add_one, hx]; rfl
    obtain ⟨v, τ, a1, a2, a3, a4, a5⟩ := grow_one (b := 104) (by decide) hLv (by simp; omega) x.cells rfl rfl
    simp only [LaV.cells, RepV.cells] at a1
    simp only [Z33, base1, ↓reduceIte, Nat.reduceAdd, Nat.reduceSub, Nat.reduceMul, Nat.reduceEqDiff, Nat.reduceLeDiff, Nat.reduceLT, Int.reduceLT, Int.reduceLE, Int.reduceEq, Int.reduceNe, Int.reduceToNat, Int.reduceAdd, Int.reduceSub, reduceCtorEq, Nat.reduceBEq, Nat.reduceBNe, lenOf_imm, loopR_exit, loopR_ret, e0, e3, e4, hlt', hlt, hge0, hxx, hml, hw, Int.toNat_natCast, a1, a2, a3]
    rw [loopR_normal]
    refine ⟨l.length - (i + 1), _, _, by omega, .refl _ _ _, i + 1, v, hlt, rfl, ?_, ?_, ?_, ?_⟩
    · rw [htk]; simpa using a5
    all_goals simp only [putD_some, putD_none, Nat.reduceEqDiff, ↓reduceIte, e0, e3, e4, hw]
  · have hlt' : ¬ (i : Int) < (l.length : Int) := by omega
    have hie : i = l.length := by omega
    subst hie
    rw [List.take_length] at hLv
    simp only [Z33, base1, ↓reduceIte, Nat.reduceAdd, Nat.reduceSub, Nat.reduceMul, Nat.reduceEqDiff, Nat.reduceLeDiff, Nat.reduceLT, Int.reduceLT, Int.reduceLE, Int.reduceEq, Int.reduceNe, Int.reduceToNat, Int.reduceAdd, Int.reduceSub, reduceCtorEq, Nat.reduceBEq, Nat.reduceBNe, lenOf_imm, loopR_exit, loopR_ret, e0, e3, e4, hlt', hml]
    exact grow_frz hLv (rowsLa_pure l)
theorem backL_ok (l : List LaV) (hl : l.length ≤ 1000000) : Tri Try.prog 33 [.imm (l.map LaV.cells) false false] [] fun r _ => r.pure = true ∧ r = .imm (l.map LaV.cells) false false := by
  refine Tri.frozen (Q := ImmQ (l.map LaV.cells)) (Tri.of_s c33 (noCall_sound _) ?_) (fun r σ hr => ⟨_, hr, by simp only [AV.pure, rowsLa_pure], rfl⟩)
  simp only [Z33, base1, baseE, ↓reduceIte, Nat.reduceAdd, Nat.reduceSub, Nat.reduceMul, Nat.reduceEqDiff, Nat.reduceLeDiff, Nat.reduceLT, Int.reduceLT, Int.reduceLE, Int.reduceEq, Int.reduceNe, Int.reduceToNat, Int.reduceAdd, Int.reduceSub, reduceCtorEq, Nat.reduceBEq, Nat.reduceBNe]
  exact sC_inv (a := b33_10) (mbI l) l.length _ _ (.refl _ _ _) ⟨0, .nilslice, Nat.zero_le _, rfl, .inl ⟨rfl, rfl⟩, rfl, rfl, rfl⟩ (mb_step l hl)
def mb14I (ep : Int) (sh : List ShV) (n : Nat) (e : Env) (σ : AHeap) : Prop :=
  ∃ (i : Nat) (Lv : AV), i ≤ sh.length ∧ n = sh.length - i ∧ hget σ 0 = some [.int .i64 ep, .imm (sh.map ShV.cells) false false] ∧ hget σ 1 = some [.int .i64 0, .nilslice] ∧ hget σ 2 = some [.int .i64 ep, Lv] ∧ Grow σ Lv 4 ((sh.take i).map ShV.cells) ∧ LvD Lv ≠ some 0 ∧ LvD Lv ≠ some 1 ∧ LvD Lv ≠ some 2 ∧
    e 1 = .ptr 0 0 ∧ e 2 = .ptr 1 0 ∧ e 3 = .ptr 2 0 ∧ e 4 = .int .i64 (i : Int)
theorem mb14_step (ep : Int) (sh : List ShV) (hl : sh.length ≤ 1000000) (n : Nat) (e : Env) (σ : AHeap) (h : mb14I ep sh n e σ) :
    sC noCall 0 b35_10 (unw noCall 0 (loopR noCall 0 (RetQ [MRes.cN 2 2] (AtQ ep sh)) (.block 0 (.seq b35_15 .fin)) (mb14I ep sh) n) .fin) e σ := by
  obtain ⟨i, Lv, hi, hn, g0, g1, g2, hLv, d0, d1, d2, e1, e2, e3, e4⟩ := h
  have hml : (sh.map ShV.cells).length = sh.length := by simp
  have lc := grow_cell hLv
  rcases Nat.lt_or_ge i sh.length with hlt | hge
  · have hlt' : (i : Int) < (sh.length : Int) := by omega
    have hge0 : (0 : Int) ≤ (i : Int) := by omega
    obtain ⟨x, hx⟩ : ∃ x, sh[i]? = some x := ⟨_, List.getElem?_eq_getElem hlt⟩
    have hxx : (sh.map ShV.cells)[i]? = some [.str x.from_, .str x.to, .int .i64 x.node, .int .i64 x.epoch] := by simp [hx, ShV.cells]
    have hw : IntKind.wrap .i64 ((i : Int) + 1) = ((i + 1 : Nat) : Int) := by rw [Gz.wrap64 (by omega)]; omega
    have htk : sh.take (i + 1) = sh.take i ++ [x] := by rw [List.take_add_one, hx]; rfl
    obtain ⟨v, τ, a1, a2, a3, a4, a5⟩ := grow_one (b := 48) (by decide) hLv (by simp; omega) x.cells rfl rfl
    obtain ⟨q0, u0⟩ := a4 0 _ g0 d0
    obtain ⟨q1, u1⟩ := a4 1 _ g1 d1
    obtain ⟨q2, u2⟩ := a4 2 _ g2 d2
    simp only [ShV.cells] at a1
    have p2 : ∀ c : List AV, hget (hpush σ c) 2 = some [.int .i64 ep, Lv] := fun c => push_old g2
    simp only [Z35, base1, ↓reduceIte, Nat.reduceAdd, Nat.reduceSub, Nat.reduceMul, Nat.reduceEqDiff, Nat.reduceLeDiff, Nat.reduceLT, Int.reduceLT, Int.reduceLE, Int.reduceEq, Int.reduceNe, Int.reduceToNat, Int.reduceAdd, Int.reduceSub, reduceCtorEq, Nat.reduceBEq, Nat.reduceBNe, lenOf_imm, loopR_exit, loopR_ret, e1, e2, e3, e4, g0, g1, g2, p2, q2, hlt', hlt, hge0, hxx, hml, hw, Int.toNat_natCast, a1, a2, a3]
    rw [loopR_normal]
    refine ⟨sh.length - (i + 1), _, _, by omega, .refl _ _ _, i + 1, v, hlt, rfl, by rw [set_other (by decide)]; exact q0, by rw [set_other (by decide)]; exact q1, set_same q2, ?_, u0, u1, u2, ?_, ?_, ?_, ?_⟩
    · rw [htk]
      refine grow_frame (by simpa using a5) fun j c hj hd => ?_
      rw [set_other (fun e => u2 (by rw [hd, e]))]; exact hj
    all_goals simp only [putD_some, putD_none, Nat.reduceEqDiff, ↓reduceIte, e1, e2, e3, e4, hw]
  · have hlt' : ¬ (i : Int) < (sh.length : Int) := by omega
    have hie : i = sh.length := by omega
    subst hie
    rw [List.take_length] at hLv
    have s1 : ∀ c : List AV, hget (hset σ 1 c) 1 = some c := fun c => set_same g1
    simp only [Z35, base1, ↓reduceIte, Nat.reduceAdd, Nat.reduceSub, Nat.reduceMul, Nat.reduceEqDiff, Nat.reduceLeDiff, Nat.reduceLT, Int.reduceLT, Int.reduceLE, Int.reduceEq, Int.reduceNe, Int.reduceToNat, Int.reduceAdd, Int.reduceSub, reduceCtorEq, Nat.reduceBEq, Nat.reduceBNe, lenOf_imm, loopR_exit, loopR_ret, e1, e2, e3, e4, g0, g1, g2, s1, hlt', hml, lc]
    refine frz_at (grow_frz (grow_frame hLv fun j c hj hd => ?_) (rowsSh_pure sh))
    rw [set_other (fun e => d1 (by rw [hd, e]))]; exact hj
theorem back14_ok (ep : Int) (sh : List ShV) (hl : sh.length ≤ 1000000) : Tri Try.prog 35 [.agg [.int .i64 ep, .imm (sh.map ShV.cells) false false]] [] fun r _ => r.pure = true ∧ r = .agg [.int .i64 ep, .imm (sh.map ShV.cells) false false] := by
  refine Tri.frozen (Q := AtQ ep sh) (Tri.of_s c35 (noCall_sound _) ?_) (fun r σ hr => ⟨_, hr, by simp only [AV.pure, pureL, rowsSh_pure, Bool.and_self], rfl⟩)
  simp only [Z35, base1, baseE, ↓reduceIte, Nat.reduceAdd, Nat.reduceSub, Nat.reduceMul, Nat.reduceEqDiff, Nat.reduceLeDiff, Nat.reduceLT, Int.reduceLT, Int.reduceLE, Int.reduceEq, Int.reduceNe, Int.reduceToNat, Int.reduceAdd, Int.reduceSub, reduceCtorEq, Nat.reduceBEq, Nat.reduceBNe]
  exact sC_inv (a := b35_10) (mb14I ep sh) sh.length _ _ (.refl _ _ _) ⟨0, .nilslice, Nat.zero_le _, rfl, rfl, rfl, rfl, .inl ⟨rfl, rfl⟩, by simp [LvD], by simp [LvD], by simp [LvD], rfl, rfl, rfl, rfl⟩ (mb14_step ep sh hl)
/-! Last replies. -/
def L1 : PCall := rowQ 31 sameRepD noCall
theorem L1_app {f : FuncId} {args : List AV} {σ : AHeap} {K : AV → AHeap → Prop} : L1 f args σ K = rowQ 31 sameRepD noCall f args σ K := _root_.id rfl
theorem L1_sound : Sound Try.prog L1 := rowQ_sound sameRepD_ok (noCall_sound _)
def slaI (a b : List LaV) (n : Nat) (e : Env) (σ : AHeap) : Prop :=
  ∃ i : Nat, i ≤ a.length ∧ n = a.length - i ∧ a.take i = b.take i ∧ e 0 = .imm (a.map LaV.cells) false false ∧ e 1 = .imm (b.map LaV.cells) false false ∧ e 5 = .int .i64 (i : Int)
theorem sla_step (a b : List LaV) (hl : a.length ≤ 1000000) (hr : ∀ x ∈ a, x.rep.l.length ≤ 1000000000000000) (hll : a.length = b.length) (n : Nat) (e : Env) (σ : AHeap) (h : slaI a b n e σ) :
    sC L1 0 b32_18 (unw L1 0 (loopR L1 0 (RetQ [MRes.t 4] (SmB a b)) (.block 0 (.seq b32_23 .fin)) (slaI a b) n) .fin) e σ := by
  obtain ⟨i, hi, hn, ht, e0, e1, e5⟩ := h
  have hma : (a.map LaV.cells).length = a.length := by simp
  have hmb : (b.map LaV.cells).length = b.length := by simp
  rcases Nat.lt_or_ge i a.length with hlt | hge
  · have hlt' : (i : Int) < (a.length : Int) := by omega
    have hge0 : (0 : Int) ≤ (i : Int) := by omega
    have hltb' : (i : Int) < (b.length : Int) := by omega
    have hltb : i < b.length := by omega
    obtain ⟨x, hx⟩ : ∃ x, a[i]? = some x := ⟨_, List.getElem?_eq_getElem hlt⟩
    obtain ⟨y, hy⟩ : ∃ y, b[i]? = some y := ⟨_, List.getElem?_eq_getElem (by omega)⟩
    have hxx : (a.map LaV.cells)[i]? = some (.int .i64 x.seq :: x.rep.cells) := by simp [hx, LaV.cells]
    have hyy : (b.map LaV.cells)[i]? = some (.int .i64 y.seq :: y.rep.cells) := by simp [hy, LaV.cells]
    simp only [RepV.cells] at hxx hyy
    have hw : IntKind.wrap .i64 ((i : Int) + 1) = ((i + 1 : Nat) : Int) := by rw [Gz.wrap64 (by omega)]; omega
    cases h1 : decide (x.seq ≠ y.seq) with
    | true =>
      simp only [L1_app, Z32, base1, baseE, ↓reduceIte, Nat.reduceAdd, Nat.reduceSub, Nat.reduceMul, Nat.reduceEqDiff, Nat.reduceLeDiff, Nat.reduceLT, Int.reduceLT, Int.reduceLE, Int.reduceEq, Int.reduceNe, Int.reduceToNat, Int.reduceAdd, Int.reduceSub, reduceCtorEq, Nat.reduceBEq, Nat.reduceBNe, loopR_exit, loopR_ret, e0, e1, e5, hlt', hltb', hlt, hltb, hge0, hxx, hyy, hma, hmb, Int.toNat_natCast, h1]
      exact ⟨false, rfl, ⟨fun h => (by cases h), fun h => by
        have := same_at hx hy h; rw [this] at h1; simp at h1⟩⟩
    | false =>
      simp only [L1_app, Z32, base1, baseE, ↓reduceIte, Nat.reduceAdd, Nat.reduceSub, Nat.reduceMul, Nat.reduceEqDiff, Nat.reduceLeDiff, Nat.reduceLT, Int.reduceLT, Int.reduceLE, Int.reduceEq, Int.reduceNe, Int.reduceToNat, Int.reduceAdd, Int.reduceSub, reduceCtorEq, Nat.reduceBEq, Nat.reduceBNe, loopR_exit, loopR_ret, e0, e1, e5, hlt', hltb', hlt, hltb, hge0, hxx, hyy, hma, hmb, Int.toNat_natCast, h1]
      refine ⟨x.rep, y.rep, rfl, hr x (List.mem_of_getElem? hx), fun t htt => ?_⟩
      cases t with
      | false =>
        simp only [L1_app, Z32, base1, baseE, ↓reduceIte, Nat.reduceAdd, Nat.reduceSub, Nat.reduceMul, Nat.reduceEqDiff, Nat.reduceLeDiff, Nat.reduceLT, Int.reduceLT, Int.reduceLE, Int.reduceEq, Int.reduceNe, Int.reduceToNat, Int.reduceAdd, Int.reduceSub, reduceCtorEq, Nat.reduceBEq, Nat.reduceBNe, loopR_exit, loopR_ret, e0, e1, e5]
        exact ⟨false, rfl, ⟨fun h => (by cases h), fun h => by
          have h9 := same_at hx hy h
          exact htt.2 (by rw [h9])⟩⟩
      | true =>
        have hrep := htt.1 rfl
        have hseq := ne_false h1
        simp only [L1_app, Z32, base1, baseE, ↓reduceIte, Nat.reduceAdd, Nat.reduceSub, Nat.reduceMul, Nat.reduceEqDiff, Nat.reduceLeDiff, Nat.reduceLT, Int.reduceLT, Int.reduceLE, Int.reduceEq, Int.reduceNe, Int.reduceToNat, Int.reduceAdd, Int.reduceSub, reduceCtorEq, Nat.reduceBEq, Nat.reduceBNe, loopR_exit, loopR_ret, e0, e1, e5, hw]
        rw [loopR_normal]
        refine ⟨a.length - (i + 1), _, _, by omega, .refl _ _ _, i + 1, hlt, rfl, take_eq ht hx hy ?_, ?_, ?_, ?_⟩
        · cases x; cases y; simp only at hrep hseq; rw [hrep, hseq]
        all_goals simp only [putD_some, putD_none, Nat.reduceEqDiff, ↓reduceIte, e0, e1, e5, hw]
  · have hlt' : ¬ (i : Int) < (a.length : Int) := by omega
    have hie : i = a.length := by omega
    subst hie
    rw [List.take_length, hll, List.take_length] at ht
    simp only [L1_app, Z32, base1, baseE, ↓reduceIte, Nat.reduceAdd, Nat.reduceSub, Nat.reduceMul, Nat.reduceEqDiff, Nat.reduceLeDiff, Nat.reduceLT, Int.reduceLT, Int.reduceLE, Int.reduceEq, Int.reduceNe, Int.reduceToNat, Int.reduceAdd, Int.reduceSub, reduceCtorEq, Nat.reduceBEq, Nat.reduceBNe, loopR_exit, loopR_ret, e0, e1, e5, hlt', hma]
    exact ⟨true, rfl, ⟨fun _ => ht, fun _ => rfl⟩⟩
theorem sameLa_ok (a b : List LaV) (hl : a.length ≤ 1000000) (hr : ∀ x ∈ a, x.rep.l.length ≤ 1000000000000000) : Tri Try.prog 32 [.imm (a.map LaV.cells) false false, .imm (b.map LaV.cells) false false] [] fun r _ => r.pure = true ∧ ∃ t, r = .bool t ∧ (t = true ↔ a = b) := by
  refine smB_pure (Tri.of_s c32 L1_sound ?_)
  have hma : (a.map LaV.cells).length = a.length := by simp
  have hmb : (b.map LaV.cells).length = b.length := by simp
  cases h1 : decide ((a.length : Int) ≠ (b.length : Int)) with
  | true =>
    simp only [L1_app, Z32, base1, baseE, ↓reduceIte, Nat.reduceAdd, Nat.reduceSub, Nat.reduceMul, Nat.reduceEqDiff, Nat.reduceLeDiff, Nat.reduceLT, Int.reduceLT, Int.reduceLE, Int.reduceEq, Int.reduceNe, Int.reduceToNat, Int.reduceAdd, Int.reduceSub, reduceCtorEq, Nat.reduceBEq, Nat.reduceBNe, hma, hmb, h1]
    exact ⟨false, rfl, ⟨fun h => (by cases h), fun h => by rw [h] at h1; simp at h1⟩⟩
  | false =>
    have hll : a.length = b.length := by have := ne_false h1; omega
    simp only [L1_app, Z32, base1, baseE, ↓reduceIte, Nat.reduceAdd, Nat.reduceSub, Nat.reduceMul, Nat.reduceEqDiff, Nat.reduceLeDiff, Nat.reduceLT, Int.reduceLT, Int.reduceLE, Int.reduceEq, Int.reduceNe, Int.reduceToNat, Int.reduceAdd, Int.reduceSub, reduceCtorEq, Nat.reduceBEq, Nat.reduceBNe, hma, hmb, h1]
    exact sC_inv (a := b32_18) (slaI a b) a.length _ _ (.refl _ _ _) ⟨0, Nat.zero_le _, rfl, rfl, rfl, rfl, rfl⟩ (sla_step a b hl hr hll)
/-! Atlases. -/
def satI (ea : Int) (a : List ShV) (eb : Int) (b : List ShV) (n : Nat) (e : Env) (σ : AHeap) : Prop :=
  ∃ i : Nat, i ≤ a.length ∧ n = a.length - i ∧ σ = [some [.int .i64 ea, .imm (a.map ShV.cells) false false], some [.int .i64 eb, .imm (b.map ShV.cells) false false]] ∧ a.take i = b.take i ∧ e 2 = .ptr 0 0 ∧ e 3 = .ptr 1 0 ∧ e 5 = .int .i64 (i : Int)
theorem sat_step (ea : Int) (a : List ShV) (eb : Int) (b : List ShV) (hl : a.length ≤ 1000000) (hll : a.length = b.length) (hee : ea = eb) (n : Nat) (e : Env) (σ : AHeap) (h : satI ea a eb b n e σ) :
    sC noCall 0 b34_18 (unw noCall 0 (loopR noCall 0 (RetQ [MRes.t 4] (SmB (ea, a) (eb, b))) (.block 0 (.seq b34_23 .fin)) (satI ea a eb b) n) .fin) e σ := by
  obtain ⟨i, hi, hn, rfl, ht, e2, e3, e5⟩ := h
  have hma : (a.map ShV.cells).length = a.length := by simp
  have hmb : (b.map ShV.cells).length = b.length := by simp
  rcases Nat.lt_or_ge i a.length with hlt | hge
  · have hlt' : (i : Int) < (a.length : Int) := by omega
    have hge0 : (0 : Int) ≤ (i : Int) := by omega
    have hltb' : (i : Int) < (b.length : Int) := by omega
    have hltb : i < b.length := by omega
    obtain ⟨x, hx⟩ : ∃ x, a[i]? = some x := ⟨_, List.getElem?_eq_getElem hlt⟩
    obtain ⟨y, hy⟩ : ∃ y, b[i]? = some y := ⟨_, List.getElem?_eq_getElem (by omega)⟩
    have hxx : (a.map ShV.cells)[i]? = some [.str x.from_, .str x.to, .int .i64 x.node, .int .i64 x.epoch] := by simp [hx, ShV.cells]
    have hyy : (b.map ShV.cells)[i]? = some [.str y.from_, .str y.to, .int .i64 y.node, .int .i64 y.epoch] := by simp [hy, ShV.cells]
    have hw : IntKind.wrap .i64 ((i : Int) + 1) = ((i + 1 : Nat) : Int) := by rw [Gz.wrap64 (by omega)]; omega
    cases h1 : decide (x.from_ = y.from_) <;> cases h2 : decide (x.to = y.to) <;> cases h3 : decide (x.node = y.node) <;> cases h4 : decide (x.epoch = y.epoch)
    rotate_right 1
    · simp only [Z34, base1, baseE, ↓reduceIte, Nat.reduceAdd, Nat.reduceSub, Nat.reduceMul, Nat.reduceEqDiff, Nat.reduceLeDiff, Nat.reduceLT, Int.reduceLT, Int.reduceLE, Int.reduceEq, Int.reduceNe, Int.reduceToNat, Int.reduceAdd, Int.reduceSub, reduceCtorEq, Nat.reduceBEq, Nat.reduceBNe, loopR_exit, loopR_ret, e2, e3, e5, hlt', hltb', hlt, hltb, hge0, hxx, hyy, hma, hmb, Int.toNat_natCast, h1, h2, h3, h4, hw]
      rw [loopR_normal]
      refine ⟨a.length - (i + 1), _, _, by omega, .refl _ _ _, i + 1, hlt, rfl, rfl, take_eq ht hx hy ?_, ?_, ?_, ?_⟩
      · have h1 := of_decide_eq_true h1; have h2 := of_decide_eq_true h2; have h3 := of_decide_eq_true h3; have h4 := of_decide_eq_true h4
        cases x; cases y; simp only at h1 h2 h3 h4; rw [h1, h2, h3, h4]
      all_goals simp only [putD_some, putD_none, Nat.reduceEqDiff, ↓reduceIte, e2, e3, e5, hw]
    all_goals
      simp only [Z34, base1, baseE, ↓reduceIte, Nat.reduceAdd, Nat.reduceSub, Nat.reduceMul, Nat.reduceEqDiff, Nat.reduceLeDiff, Nat.reduceLT, Int.reduceLT, Int.reduceLE, Int.reduceEq, Int.reduceNe, Int.reduceToNat, Int.reduceAdd, Int.reduceSub, reduceCtorEq, Nat.reduceBEq, Nat.reduceBNe, loopR_exit, loopR_ret, e2, e3, e5, hlt', hltb', hlt, hltb, hge0, hxx, hyy, hma, hmb, Int.toNat_natCast, h1, h2, h3, h4]
      exact ⟨false, rfl, ⟨fun h => (by cases h), fun h => by
        have h9 := same_at hx hy (Prod.mk.inj h).2; rw [h9] at h1 h2 h3 h4; simp at h1 h2 h3 h4⟩⟩
  · have hlt' : ¬ (i : Int) < (a.length : Int) := by omega
    have hie : i = a.length := by omega
    subst hie
    rw [List.take_length, hll, List.take_length] at ht
    simp only [Z34, base1, baseE, ↓reduceIte, Nat.reduceAdd, Nat.reduceSub, Nat.reduceMul, Nat.reduceEqDiff, Nat.reduceLeDiff, Nat.reduceLT, Int.reduceLT, Int.reduceLE, Int.reduceEq, Int.reduceNe, Int.reduceToNat, Int.reduceAdd, Int.reduceSub, reduceCtorEq, Nat.reduceBEq, Nat.reduceBNe, loopR_exit, loopR_ret, e2, e3, e5, hlt', hma]
    exact ⟨true, rfl, ⟨fun _ => by rw [hee, ht], fun _ => rfl⟩⟩
theorem sameAt_ok (ea : Int) (a : List ShV) (eb : Int) (b : List ShV) (hl : a.length ≤ 1000000) : Tri Try.prog 34 [.agg [.int .i64 ea, .imm (a.map ShV.cells) false false], .agg [.int .i64 eb, .imm (b.map ShV.cells) false false]] [] fun r _ => r.pure = true ∧ ∃ t, r = .bool t ∧ (t = true ↔ (ea, a) = (eb, b)) := by
  refine smB_pure (Tri.of_s c34 (noCall_sound _) ?_)
  have hma : (a.map ShV.cells).length = a.length := by simp
  have hmb : (b.map ShV.cells).length = b.length := by simp
  cases h1 : decide (ea ≠ eb) with
  | true =>
    simp only [Z34, base1, baseE, ↓reduceIte, Nat.reduceAdd, Nat.reduceSub, Nat.reduceMul, Nat.reduceEqDiff, Nat.reduceLeDiff, Nat.reduceLT, Int.reduceLT, Int.reduceLE, Int.reduceEq, Int.reduceNe, Int.reduceToNat, Int.reduceAdd, Int.reduceSub, reduceCtorEq, Nat.reduceBEq, Nat.reduceBNe, hma, hmb, h1]
    exact ⟨false, rfl, ⟨fun h => (by cases h), fun h => by rw [(Prod.mk.inj h).1] at h1; simp at h1⟩⟩
  | false =>
  cases h2 : decide ((a.length : Int) ≠ (b.length : Int)) with
  | true =>
    simp only [Z34, base1, baseE, ↓reduceIte, Nat.reduceAdd, Nat.reduceSub, Nat.reduceMul, Nat.reduceEqDiff, Nat.reduceLeDiff, Nat.reduceLT, Int.reduceLT, Int.reduceLE, Int.reduceEq, Int.reduceNe, Int.reduceToNat, Int.reduceAdd, Int.reduceSub, reduceCtorEq, Nat.reduceBEq, Nat.reduceBNe, hma, hmb, h1, h2]
    exact ⟨false, rfl, ⟨fun h => (by cases h), fun h => by rw [(Prod.mk.inj h).2] at h2; simp at h2⟩⟩
  | false =>
    have hll : a.length = b.length := by have := ne_false h2; omega
    simp only [Z34, base1, baseE, ↓reduceIte, Nat.reduceAdd, Nat.reduceSub, Nat.reduceMul, Nat.reduceEqDiff, Nat.reduceLeDiff, Nat.reduceLT, Int.reduceLT, Int.reduceLE, Int.reduceEq, Int.reduceNe, Int.reduceToNat, Int.reduceAdd, Int.reduceSub, reduceCtorEq, Nat.reduceBEq, Nat.reduceBNe, hma, hmb, h1, h2]
    exact sC_inv (a := b34_18) (satI ea a eb b) a.length _ _ (.refl _ _ _) ⟨0, Nat.zero_le _, rfl, rfl, rfl, rfl, rfl, rfl⟩ (sat_step ea a eb b hl hll (ne_false h1))
end Go.Proofs.Ytndlgmciplckjab.note

/- Are two notes the same? So the program says. No condition. -/
set_option linter.unusedVariables false
set_option linter.unusedSimpArgs false
namespace Go.Proofs.Ytndlgmciplckjab.note
open Go.ChangeShapes Go.WideShapes Go.ChangeAt Go.RowKit Go.Gz
section
variable {C : PCall} {n0 : Nat} {R : MExit → Env → AHeap → Prop} {k : Cont} {e : Env} {σ : AHeap}
abbrev r12_0 : List MOper := [⟨(some 2), .box (.t 0), none⟩,
  ⟨(some 3), .box (.t 1), none⟩,
  ⟨(some 4), .move (.c (.bool false)), none⟩]
def b12_0 : SCode := .region r12_0
abbrev r12_1 : List MOper := [⟨(some 6), .fieldAddr 0 (.t 2), none⟩,
  ⟨(some 7), .load1 (.t 6), none⟩,
  ⟨(some 8), .fieldAddr 0 (.t 3), none⟩,
  ⟨(some 9), .load1 (.t 8), none⟩,
  ⟨(some 10), .bin .neq .num (.t 7) (.t 9), none⟩,
  ⟨(some 11), .move (.t 10), none⟩,
  ⟨(some 12), .fieldAddr 1 (.t 2), (some (11, false))⟩,
  ⟨(some 13), .load1 (.t 12), (some (11, false))⟩,
  ⟨(some 14), .fieldAddr 1 (.t 3), (some (11, false))⟩,
  ⟨(some 15), .load1 (.t 14), (some (11, false))⟩,
  ⟨(some 16), .bin .neq .num (.t 13) (.t 15), (some (11, false))⟩,
  ⟨(some 17), .pick (.t 11) (.c (.bool true)) (.t 16), none⟩,
  ⟨(some 18), .move (.t 17), none⟩,
  ⟨(some 19), .fieldAddr 2 (.t 2), (some (18, false))⟩,
  ⟨(some 20), .load1 (.t 19), (some (18, false))⟩,
  ⟨(some 21), .fieldAddr 2 (.t 3), (some (18, false))⟩,
  ⟨(some 22), .load1 (.t 21), (some (18, false))⟩,
  ⟨(some 23), .bin .neq .num (.t 20) (.t 22), (some (18, false))⟩,
  ⟨(some 24), .pick (.t 18) (.c (.bool true)) (.t 23), none⟩,
  ⟨(some 25), .move (.t 24), none⟩,
  ⟨(some 26), .fieldAddr 3 (.t 2), (some (25, false))⟩,
  ⟨(some 27), .load1 (.t 26), (some (25, false))⟩,
  ⟨(some 28), .fieldAddr 3 (.t 3), (some (25, false))⟩,
  ⟨(some 29), .load1 (.t 28), (some (25, false))⟩,
  ⟨(some 30), .bin .neq .num (.t 27) (.t 29), (some (25, false))⟩,
  ⟨(some 31), .pick (.t 25) (.c (.bool true)) (.t 30), none⟩,
  ⟨(some 32), .move (.t 31), none⟩,
  ⟨(some 33), .fieldAddr 4 (.t 2), (some (32, false))⟩,
  ⟨(some 34), .load1 (.t 33), (some (32, false))⟩,
  ⟨(some 35), .fieldAddr 4 (.t 3), (some (32, false))⟩,
  ⟨(some 36), .load1 (.t 35), (some (32, false))⟩,
  ⟨(some 37), .bin .neq .num (.t 34) (.t 36), (some (32, false))⟩,
  ⟨(some 38), .pick (.t 32) (.c (.bool true)) (.t 37), none⟩,
  ⟨(some 39), .move (.t 38), none⟩,
  ⟨(some 40), .fieldAddr 5 (.t 2), (some (39, false))⟩,
  ⟨(some 41), .loadN 8 (.t 40), (some (39, false))⟩,
  ⟨(some 42), .fieldAddr 5 (.t 3), (some (39, false))⟩,
  ⟨(some 43), .loadN 8 (.t 42), (some (39, false))⟩,
  ⟨(some 44), .bin .neq (.flat [.i, .i, .i, .s, .s, .s, .s, .i]) (.t 41) (.t 43), (some (39, false))⟩,
  ⟨(some 45), .pick (.t 39) (.c (.bool true)) (.t 44), none⟩,
  ⟨(some 46), .move (.t 45), none⟩,
  ⟨(some 47), .fieldAddr 13 (.t 2), (some (46, false))⟩,
  ⟨(some 48), .loadN 8 (.t 47), (some (46, false))⟩,
  ⟨(some 49), .fieldAddr 13 (.t 3), (some (46, false))⟩,
  ⟨(some 50), .loadN 8 (.t 49), (some (46, false))⟩,
  ⟨(some 51), .call 31 [(.t 48), (.t 50)], (some (46, false))⟩,
  ⟨(some 52), .un .not (.t 51), (some (46, false))⟩,
  ⟨(some 53), .pick (.t 46) (.c (.bool true)) (.t 52), none⟩,
  ⟨(some 54), .move (.t 53), none⟩,
  ⟨(some 55), .fieldAddr 21 (.t 2), (some (54, false))⟩,
  ⟨(some 56), .loadN 2 (.t 55), (some (54, false))⟩,
  ⟨(some 57), .fieldAddr 21 (.t 3), (some (54, false))⟩,
  ⟨(some 58), .loadN 2 (.t 57), (some (54, false))⟩,
  ⟨(some 59), .bin .neq (.flat [.s, .s]) (.t 56) (.t 58), (some (54, false))⟩,
  ⟨(some 60), .pick (.t 54) (.c (.bool true)) (.t 59), none⟩,
  ⟨(some 61), .move (.t 60), none⟩,
  ⟨(some 62), .fieldAddr 23 (.t 2), (some (61, false))⟩,
  ⟨(some 63), .load1 (.t 62), (some (61, false))⟩,
  ⟨(some 64), .lenSl (.t 63), (some (61, false))⟩,
  ⟨(some 65), .fieldAddr 23 (.t 3), (some (61, false))⟩,
  ⟨(some 66), .load1 (.t 65), (some (61, false))⟩,
  ⟨(some 67), .lenSl (.t 66), (some (61, false))⟩,
  ⟨(some 68), .bin .neq .num (.t 64) (.t 67), (some (61, false))⟩,
  ⟨(some 69), .pick (.t 61) (.c (.bool true)) (.t 68), none⟩]
def b12_1 : SCode := .region r12_1
abbrev r12_2 : List MOper := [⟨(some 4), .move (.c (.bool false)), none⟩]
def b12_2 : SCode := .region r12_2
def b12_3 : SCode := .seq b12_2 .ret
def b12_4 : SCode := .cond (.t 69) b12_3 .skip
def b12_5 : SCode := .seq b12_1 b12_4
abbrev r12_6 : List MOper := [⟨(some 5), .move (.c (.int .i64 0)), none⟩]
def b12_6 : SCode := .region r12_6
abbrev r12_7 : List MOper := [⟨(some 70), .move (.t 5), none⟩,
  ⟨(some 71), .fieldAddr 23 (.t 2), none⟩,
  ⟨(some 72), .load1 (.t 71), none⟩,
  ⟨(some 73), .lenSl (.t 72), none⟩,
  ⟨(some 74), .bin .lss .num (.t 70) (.t 73), none⟩]
def b12_7 : SCode := .region r12_7
def b12_8 : SCode := .cond (.t 74) .skip (.exit 0)
def b12_9 : SCode := .seq b12_7 b12_8
abbrev t12_10 : LTree := (.quiet ⟨(some 77), .fieldAddr 23 (.t 2), none⟩ 0
  (.quiet ⟨(some 78), .load1 (.t 77), none⟩ 1
  (.quiet ⟨(some 79), .move (.t 5), none⟩ 2
  (.quiet ⟨(some 80), .indexAddr 2 (.t 78) (.t 79), none⟩ 3
  (.quiet ⟨(some 81), .loadN 2 (.t 80), none⟩ 4
  (.quiet ⟨(some 82), .fieldAddr 23 (.t 3), none⟩ 5
  (.quiet ⟨(some 83), .load1 (.t 82), none⟩ 6
  (.quiet ⟨(some 84), .move (.t 5), none⟩ 7
  (.quiet ⟨(some 85), .indexAddr 2 (.t 83) (.t 84), none⟩ 8
  (.quiet ⟨(some 86), .loadN 2 (.t 85), none⟩ 9
  (.quiet ⟨(some 87), .bin .neq (.flat [.s, .s]) (.t 81) (.t 86), none⟩ 10
  .leaf)))))))))))
def b12_10 : SCode := .draw t12_10
abbrev r12_11 : List MOper := [⟨(some 4), .move (.c (.bool false)), none⟩]
def b12_11 : SCode := .region r12_11
def b12_12 : SCode := .seq b12_11 .ret
def b12_13 : SCode := .cond (.t 87) b12_12 .skip
def b12_14 : SCode := .seq b12_10 b12_13
def b12_15 : SCode := .block 1 b12_14
abbrev r12_16 : List MOper := [⟨(some 75), .move (.t 5), none⟩,
  ⟨(some 76), .bin .add .num (.t 75) (.c (.int .i64 1)), none⟩,
  ⟨(some 5), .move (.t 76), none⟩]
def b12_16 : SCode := .region r12_16
def b12_17 : SCode := .seq b12_15 b12_16
def b12_18 : SCode := .seq b12_9 b12_17
def b12_19 : SCode := .loop b12_18
def b12_20 : SCode := .block 0 b12_19
def b12_21 : SCode := .seq b12_6 b12_20
abbrev t12_22 : LTree := (.quiet ⟨(some 88), .fieldAddr 24 (.t 2), none⟩ 0
  (.quiet ⟨(some 89), .load1 (.t 88), none⟩ 1
  (.quiet ⟨(some 91), .fieldAddr 24 (.t 3), none⟩ 3
  (.quiet ⟨(some 92), .load1 (.t 91), none⟩ 4
  (.loud ⟨(some 90), .call 33 [(.t 89)], none⟩ [4]
  (.loud ⟨(some 93), .call 33 [(.t 92)], none⟩ []
  (.loud ⟨(some 94), .call 32 [(.t 90), (.t 93)], none⟩ []
  (.quiet ⟨(some 95), .move (.t 94), none⟩ 7
  (.quiet ⟨(some 96), .fieldAddr 25 (.t 2), (some (95, true))⟩ 8
  (.quiet ⟨(some 97), .loadN 2 (.t 96), (some (95, true))⟩ 9
  (.quiet ⟨(some 99), .fieldAddr 25 (.t 3), (some (95, true))⟩ 11
  (.quiet ⟨(some 100), .loadN 2 (.t 99), (some (95, true))⟩ 12
  (.loud ⟨(some 98), .call 35 [(.t 97)], (some (95, true))⟩ [12]
  (.loud ⟨(some 101), .call 35 [(.t 100)], (some (95, true))⟩ []
  (.loud ⟨(some 102), .call 34 [(.t 98), (.t 101)], (some (95, true))⟩ []
  (.quiet ⟨(some 103), .pick (.t 95) (.t 102) (.c (.bool false)), none⟩ 15
  (.quiet ⟨(some 4), .move (.t 103), none⟩ 16
  .leaf)) .stop) .stop) .stop)))))) .stop) .stop) .stop)))))
def b12_22 : SCode := .draw t12_22
def b12_23 : SCode := .seq b12_22 .ret
def b12_24 : SCode := .seq b12_21 b12_23
def b12_25 : SCode := .seq b12_5 b12_24
def b12_26 : SCode := .seq b12_0 b12_25
def s12 : SFunc := ⟨104, [.t 4], b12_26⟩
theorem c12 : sFn Try.prog 12 = some s12 := by kernel_rfl
theorem Z12 : XR b12_0 r12_0 ∧ XR b12_1 r12_1 ∧ XR b12_2 r12_2 ∧ XS b12_3 b12_2 .ret ∧ XC b12_4 (.t 69) b12_3 .skip ∧ XS b12_5 b12_1 b12_4 ∧ XR b12_6 r12_6 ∧ XR b12_7 r12_7 ∧ XC b12_8 (.t 74) .skip (.exit 0) ∧ XS b12_9 b12_7 b12_8 ∧ XT b12_10 t12_10 ∧ XR b12_11 r12_11 ∧ XS b12_12 b12_11 .ret ∧ XC b12_13 (.t 87) b12_12 .skip ∧ XS b12_14 b12_10 b12_13 ∧ XB b12_15 1 b12_14 ∧ XR b12_16 r12_16 ∧ XS b12_17 b12_15 b12_16 ∧ XS b12_18 b12_9 b12_17 ∧ XB b12_20 0 b12_19 ∧ XS b12_21 b12_6 b12_20 ∧ XT b12_22 t12_22 ∧ XS b12_23 b12_22 .ret ∧ XS b12_24 b12_21 b12_23 ∧ XS b12_25 b12_5 b12_24 ∧ XS b12_26 b12_0 b12_25 ∧ XY s12 104 b12_26 [.t 4] := ⟨rfl, rfl, rfl, rfl, sC_cond, rfl, rfl, rfl, sC_cond, rfl, rfl, rfl, rfl, sC_cond, rfl, rfl, rfl, rfl, rfl, rfl, rfl, rfl, rfl, rfl, rfl, rfl, rfl⟩

end
set_option maxHeartbeats 4000000
set_option maxRecDepth 10000

def backLD (args : List AV) (σ : AHeap) (K : AV → AHeap → Prop) : Prop := ∃ l : List LaV, args = [.imm (l.map LaV.cells) false false] ∧ l.length ≤ 1000000 ∧ K (.imm (l.map LaV.cells) false false) σ
theorem backLD_ok (args : List AV) (σ : AHeap) (K : AV → AHeap → Prop) (h : backLD args σ K) : Tri Try.prog 33 args σ K := by
  obtain ⟨l, rfl, hl, h⟩ := h
  exact (Tri.pureD (by simp only [pureL, AV.pure, rowsLa_pure, Bool.and_self]) (backL_ok l hl) σ).mono fun r σ' hr => by rw [hr.1, hr.2]; exact h
def back14D (args : List AV) (σ : AHeap) (K : AV → AHeap → Prop) : Prop := ∃ (ep : Int) (sh : List ShV), args = [.agg [.int .i64 ep, .imm (sh.map ShV.cells) false false]] ∧ sh.length ≤ 1000000 ∧ K (.agg [.int .i64 ep, .imm (sh.map ShV.cells) false false]) σ
theorem back14D_ok (args : List AV) (σ : AHeap) (K : AV → AHeap → Prop) (h : back14D args σ K) : Tri Try.prog 35 args σ K := by
  obtain ⟨ep, sh, rfl, hl, h⟩ := h
  exact (Tri.pureD (by simp only [pureL, AV.pure, rowsSh_pure, Bool.and_self]) (back14_ok ep sh hl) σ).mono fun r σ' hr => by rw [hr.1, hr.2]; exact h
def sameLaD (args : List AV) (σ : AHeap) (K : AV → AHeap → Prop) : Prop := ∃ a b : List LaV, args = [.imm (a.map LaV.cells) false false, .imm (b.map LaV.cells) false false] ∧ a.length ≤ 1000000 ∧ (∀ x ∈ a, x.rep.l.length ≤ 1000000000000000) ∧ ∀ t, (t = true ↔ a = b) → K (.bool t) σ
theorem sameLaD_ok (args : List AV) (σ : AHeap) (K : AV → AHeap → Prop) (h : sameLaD args σ K) : Tri Try.prog 32 args σ K := by
  obtain ⟨a, b, rfl, hl, hr, h⟩ := h
  exact (Tri.pureD (by simp only [pureL, AV.pure, rowsLa_pure, Bool.and_self]) (sameLa_ok a b hl hr) σ).mono fun r σ' ⟨⟨t, h1, h2⟩, h3⟩ => by rw [h1, h3]; exact h t h2
def sameAtD (args : List AV) (σ : AHeap) (K : AV → AHeap → Prop) : Prop := ∃ (ea : Int) (a : List ShV) (eb : Int) (b : List ShV), args = [.agg [.int .i64 ea, .imm (a.map ShV.cells) false false], .agg [.int .i64 eb, .imm (b.map ShV.cells) false false]] ∧ a.length ≤ 1000000 ∧ ∀ t, (t = true ↔ (ea, a) = (eb, b)) → K (.bool t) σ
theorem sameAtD_ok (args : List AV) (σ : AHeap) (K : AV → AHeap → Prop) (h : sameAtD args σ K) : Tri Try.prog 34 args σ K := by
  obtain ⟨ea, a, eb, b, rfl, hl, h⟩ := h
  exact (Tri.pureD (by simp only [pureL, AV.pure, rowsSh_pure, Bool.and_self]) (sameAt_ok ea a eb b hl) σ).mono fun r σ' ⟨⟨t, h1, h2⟩, h3⟩ => by rw [h1, h3]; exact h t h2
def TS : PCall := rowQ 31 sameRepD (rowQ 32 sameLaD (rowQ 33 backLD (rowQ 34 sameAtD (rowQ 35 back14D noCall))))
theorem TS_app {f : FuncId} {args : List AV} {σ : AHeap} {K : AV → AHeap → Prop} : TS f args σ K = rowQ 31 sameRepD (rowQ 32 sameLaD (rowQ 33 backLD (rowQ 34 sameAtD (rowQ 35 back14D noCall)))) f args σ K := _root_.id rfl
theorem TS_sound : Sound Try.prog TS := rowQ_sound sameRepD_ok (rowQ_sound sameLaD_ok (rowQ_sound backLD_ok (rowQ_sound sameAtD_ok (rowQ_sound back14D_ok (noCall_sound _)))))
def askEqB (a b : AskV) : Bool := decide (a.do_ = b.do_) && (decide (a.client = b.client) && (decide (a.seq = b.seq) && (decide (a.text = b.text) && (decide (a.val = b.val) && (decide (a.from_ = b.from_) && (decide (a.to = b.to) && decide (a.limit = b.limit)))))))
theorem askEq_iff (a b : AskV) : askEqB a b = true ↔ a = b := by
  refine ⟨fun h => ?_, fun h => by subst h; simp [askEqB]⟩
  simp only [askEqB, Bool.and_eq_true, decide_eq_true_eq] at h
  obtain ⟨h1, h2, h3, h4, h5, h6, h7, h8⟩ := h
  cases a; cases b
  simp only at h1 h2 h3 h4 h5 h6 h7 h8
  subst h1 h2 h3 h4 h5 h6 h7 h8
  rfl
/-- What must be the same besides the records. -/
structure Rest (a b : NoteV) : Prop where
  kind : a.kind = b.kind
  from_ : a.from_ = b.from_
  to : a.to = b.to
  epoch : a.epoch = b.epoch
  tick : a.tick = b.tick
  ask : a.ask = b.ask
  rep : a.rep = b.rep
  sf : a.sf = b.sf
  st : a.st = b.st
theorem rest_all {a b : NoteV} (h : Rest a b) (hl : a.l = b.l) (hla : a.last = b.last) (hat : (a.aep, a.sh) = (b.aep, b.sh)) : a = b := by
  obtain ⟨p1, p2, p3, p4, p5, p6, p7, p8, p9⟩ := h
  have q1 := (Prod.mk.inj hat).1
  have q2 := (Prod.mk.inj hat).2
  cases a; cases b
  simp only at p1 p2 p3 p4 p5 p6 p7 p8 p9 hl hla q1 q2
  subst p1 p2 p3 p4 p5 p6 p7 p8 p9 hl hla q1 q2
  rfl
structure NoteV.cmp (n : NoteV) : Prop where
  l : n.l.length ≤ 1000000
  last : n.last.length ≤ 1000000
  sh : n.sh.length ≤ 1000000
  rep : n.rep.l.length ≤ 1000000000000000
  la : ∀ x ∈ n.last, x.rep.l.length ≤ 1000000000000000
def snI (a b : NoteV) (n : Nat) (e : Env) (σ : AHeap) : Prop :=
  ∃ i : Nat, i ≤ a.l.length ∧ n = a.l.length - i ∧ σ = [some a.cells, some b.cells] ∧ a.l.take i = b.l.take i ∧ e 2 = .ptr 0 0 ∧ e 3 = .ptr 1 0 ∧ e 5 = .int .i64 (i : Int)
theorem sn_step (a b : NoteV) (ca : a.cmp) (cb : b.cmp) (hll : a.l.length = b.l.length) (hr : Rest a b) (n : Nat) (e : Env) (σ : AHeap) (h : snI a b n e σ) :
    sC TS 0 b12_18 (unw TS 0 (loopR TS 0 (RetQ [MRes.t 4] (SmB a b)) (.block 0 (.seq b12_23 .fin)) (snI a b) n) .fin) e σ := by
  obtain ⟨i, hi, hn, rfl, ht, e2, e3, e5⟩ := h
  have hl := ca.l
  have hma : (a.l.map recC).length = a.l.length := by simp
  have hmb : (b.l.map recC).length = b.l.length := by simp
  rcases Nat.lt_or_ge i a.l.length with hlt | hge
  · have hlt' : (i : Int) < (a.l.length : Int) := by omega
    have hge0 : (0 : Int) ≤ (i : Int) := by omega
    have hltb' : (i : Int) < (b.l.length : Int) := by omega
    have hltb : i < b.l.length := by omega
    obtain ⟨x, hx⟩ : ∃ x, a.l[i]? = some x := ⟨_, List.getElem?_eq_getElem hlt⟩
    obtain ⟨y, hy⟩ : ∃ y, b.l[i]? = some y := ⟨_, List.getElem?_eq_getElem (by omega)⟩
    have hxx : (a.l.map recC)[i]? = some [.str x.1, .str x.2] := by simp [recC, hx]
    have hyy : (b.l.map recC)[i]? = some [.str y.1, .str y.2] := by simp [recC, hy]
    have hw : IntKind.wrap .i64 ((i : Int) + 1) = ((i + 1 : Nat) : Int) := by rw [Gz.wrap64 (by omega)]; omega
    cases h1 : decide (x.1 = y.1) with
    | false =>
      simp only [NoteV.cells, TS_app, Z12, base1, baseE, ↓reduceIte, Nat.reduceAdd, Nat.reduceSub, Nat.reduceMul, Nat.reduceEqDiff, Nat.reduceLeDiff, Nat.reduceLT, Int.reduceLT, Int.reduceLE, Int.reduceEq, Int.reduceNe, Int.reduceToNat, Int.reduceAdd, Int.reduceSub, reduceCtorEq, Nat.reduceBEq, Nat.reduceBNe, loopR_exit, loopR_ret, e2, e3, e5, hlt', hltb', hlt, hltb, hge0, hxx, hyy, hma, hmb, Int.toNat_natCast, h1]
      exact ⟨false, rfl, ⟨fun h => (by cases h), fun h => by
        have := same_at hx hy (by rw [h]); rw [this] at h1; simp at h1⟩⟩
    | true =>
      cases h2 : decide (x.2 = y.2) with
      | false =>
        simp only [NoteV.cells, TS_app, Z12, base1, baseE, ↓reduceIte, Nat.reduceAdd, Nat.reduceSub, Nat.reduceMul, Nat.reduceEqDiff, Nat.reduceLeDiff, Nat.reduceLT, Int.reduceLT, Int.reduceLE, Int.reduceEq, Int.reduceNe, Int.reduceToNat, Int.reduceAdd, Int.reduceSub, reduceCtorEq, Nat.reduceBEq, Nat.reduceBNe, loopR_exit, loopR_ret, e2, e3, e5, hlt', hltb', hlt, hltb, hge0, hxx, hyy, hma, hmb, Int.toNat_natCast, h1, h2]
        exact ⟨false, rfl, ⟨fun h => (by cases h), fun h => by
          have := same_at hx hy (by rw [h]); rw [this] at h2; simp at h2⟩⟩
      | true =>
        simp only [NoteV.cells, TS_app, Z12, base1, baseE, ↓reduceIte, Nat.reduceAdd, Nat.reduceSub, Nat.reduceMul, Nat.reduceEqDiff, Nat.reduceLeDiff, Nat.reduceLT, Int.reduceLT, Int.reduceLE, Int.reduceEq, Int.reduceNe, Int.reduceToNat, Int.reduceAdd, Int.reduceSub, reduceCtorEq, Nat.reduceBEq, Nat.reduceBNe, loopR_exit, loopR_ret, e2, e3, e5, hlt', hltb', hlt, hltb, hge0, hxx, hyy, hma, hmb, Int.toNat_natCast, h1, h2, hw]
        rw [loopR_normal]
        refine ⟨a.l.length - (i + 1), _, _, by omega, .refl _ _ _, i + 1, hlt, rfl, rfl, take_eq ht hx hy (Prod.ext (of_decide_eq_true h1) (of_decide_eq_true h2)), ?_, ?_, ?_⟩
        all_goals simp only [putD_some, putD_none, Nat.reduceEqDiff, ↓reduceIte, e2, e3, e5, hw]
  · have hlt' : ¬ (i : Int) < (a.l.length : Int) := by omega
    have hie : i = a.l.length := by omega
    subst hie
    rw [List.take_length, hll, List.take_length] at ht
    simp only [NoteV.cells, TS_app, Z12, base1, baseE, ↓reduceIte, Nat.reduceAdd, Nat.reduceSub, Nat.reduceMul, Nat.reduceEqDiff, Nat.reduceLeDiff, Nat.reduceLT, Int.reduceLT, Int.reduceLE, Int.reduceEq, Int.reduceNe, Int.reduceToNat, Int.reduceAdd, Int.reduceSub, reduceCtorEq, Nat.reduceBEq, Nat.reduceBNe, loopR_exit, loopR_ret, e2, e3, e5, hlt', hma]
    refine ⟨a.last, rfl, ca.last, ?_⟩
    simp only [NoteV.cells, TS_app, Z12, base1, baseE, ↓reduceIte, Nat.reduceAdd, Nat.reduceSub, Nat.reduceMul, Nat.reduceEqDiff, Nat.reduceLeDiff, Nat.reduceLT, Int.reduceLT, Int.reduceLE, Int.reduceEq, Int.reduceNe, Int.reduceToNat, Int.reduceAdd, Int.reduceSub, reduceCtorEq, Nat.reduceBEq, Nat.reduceBNe, e2, e3, e5]
    refine ⟨b.last, rfl, cb.last, ?_⟩
    simp only [NoteV.cells, TS_app, Z12, base1, baseE, ↓reduceIte, Nat.reduceAdd, Nat.reduceSub, Nat.reduceMul, Nat.reduceEqDiff, Nat.reduceLeDiff, Nat.reduceLT, Int.reduceLT, Int.reduceLE, Int.reduceEq, Int.reduceNe, Int.reduceToNat, Int.reduceAdd, Int.reduceSub, reduceCtorEq, Nat.reduceBEq, Nat.reduceBNe, e2, e3, e5]
    refine ⟨a.last, b.last, rfl, ca.last, ca.la, fun t htt => ?_⟩
    cases t with
    | false =>
      simp only [NoteV.cells, TS_app, Z12, base1, baseE, ↓reduceIte, Nat.reduceAdd, Nat.reduceSub, Nat.reduceMul, Nat.reduceEqDiff, Nat.reduceLeDiff, Nat.reduceLT, Int.reduceLT, Int.reduceLE, Int.reduceEq, Int.reduceNe, Int.reduceToNat, Int.reduceAdd, Int.reduceSub, reduceCtorEq, Nat.reduceBEq, Nat.reduceBNe, e2, e3, e5]
      exact ⟨false, rfl, ⟨fun h => (by cases h), fun h => htt.2 (by rw [h])⟩⟩
    | true =>
      simp only [NoteV.cells, TS_app, Z12, base1, baseE, ↓reduceIte, Nat.reduceAdd, Nat.reduceSub, Nat.reduceMul, Nat.reduceEqDiff, Nat.reduceLeDiff, Nat.reduceLT, Int.reduceLT, Int.reduceLE, Int.reduceEq, Int.reduceNe, Int.reduceToNat, Int.reduceAdd, Int.reduceSub, reduceCtorEq, Nat.reduceBEq, Nat.reduceBNe, e2, e3, e5]
      refine ⟨a.aep, a.sh, rfl, ca.sh, ?_⟩
      simp only [NoteV.cells, TS_app, Z12, base1, baseE, ↓reduceIte, Nat.reduceAdd, Nat.reduceSub, Nat.reduceMul, Nat.reduceEqDiff, Nat.reduceLeDiff, Nat.reduceLT, Int.reduceLT, Int.reduceLE, Int.reduceEq, Int.reduceNe, Int.reduceToNat, Int.reduceAdd, Int.reduceSub, reduceCtorEq, Nat.reduceBEq, Nat.reduceBNe, e2, e3, e5]
      refine ⟨b.aep, b.sh, rfl, cb.sh, ?_⟩
      simp only [NoteV.cells, TS_app, Z12, base1, baseE, ↓reduceIte, Nat.reduceAdd, Nat.reduceSub, Nat.reduceMul, Nat.reduceEqDiff, Nat.reduceLeDiff, Nat.reduceLT, Int.reduceLT, Int.reduceLE, Int.reduceEq, Int.reduceNe, Int.reduceToNat, Int.reduceAdd, Int.reduceSub, reduceCtorEq, Nat.reduceBEq, Nat.reduceBNe, e2, e3, e5]
      refine ⟨a.aep, a.sh, b.aep, b.sh, rfl, ca.sh, fun u huu => ?_⟩
      simp only [NoteV.cells, TS_app, Z12, base1, baseE, ↓reduceIte, Nat.reduceAdd, Nat.reduceSub, Nat.reduceMul, Nat.reduceEqDiff, Nat.reduceLeDiff, Nat.reduceLT, Int.reduceLT, Int.reduceLE, Int.reduceEq, Int.reduceNe, Int.reduceToNat, Int.reduceAdd, Int.reduceSub, reduceCtorEq, Nat.reduceBEq, Nat.reduceBNe, e2, e3, e5]
      exact ⟨u, rfl, ⟨fun h => rest_all hr ht (htt.1 rfl) (huu.1 h), fun h => huu.2 (by rw [h])⟩⟩
theorem same_ok (a b : NoteV) (ca : a.cmp) (cb : b.cmp) : Tri Try.prog 12 [.agg a.cells, .agg b.cells] [] fun r _ => r.pure = true ∧ ∃ t, r = .bool t ∧ (t = true ↔ a = b) := by
  refine smB_pure (Tri.of_s c12 TS_sound ?_)
  have hask : (decide (a.ask.do_ = b.ask.do_) && (decide (a.ask.client = b.ask.client) && (decide (a.ask.seq = b.ask.seq) && (decide (a.ask.text = b.ask.text) && (decide (a.ask.val = b.ask.val) && (decide (a.ask.from_ = b.ask.from_) && (decide (a.ask.to = b.ask.to) && decide (a.ask.limit = b.ask.limit)))))))) = askEqB a.ask b.ask := rfl
  have hma : (a.l.map recC).length = a.l.length := by simp
  have hmb : (b.l.map recC).length = b.l.length := by simp
  cases h1 : decide (a.kind ≠ b.kind) with
  | true =>
    simp only [NoteV.cells, TS_app, Z12, base1, baseE, ↓reduceIte, Nat.reduceAdd, Nat.reduceSub, Nat.reduceMul, Nat.reduceEqDiff, Nat.reduceLeDiff, Nat.reduceLT, Int.reduceLT, Int.reduceLE, Int.reduceEq, Int.reduceNe, Int.reduceToNat, Int.reduceAdd, Int.reduceSub, reduceCtorEq, Nat.reduceBEq, Nat.reduceBNe, hask, hma, hmb, h1]
    exact ⟨false, rfl, ⟨fun h => (by cases h), fun h => by rw [h] at h1; simp at h1⟩⟩
  | false =>
  cases h2 : decide (a.from_ ≠ b.from_) with
  | true =>
    simp only [NoteV.cells, TS_app, Z12, base1, baseE, ↓reduceIte, Nat.reduceAdd, Nat.reduceSub, Nat.reduceMul, Nat.reduceEqDiff, Nat.reduceLeDiff, Nat.reduceLT, Int.reduceLT, Int.reduceLE, Int.reduceEq, Int.reduceNe, Int.reduceToNat, Int.reduceAdd, Int.reduceSub, reduceCtorEq, Nat.reduceBEq, Nat.reduceBNe, hask, hma, hmb, h1, h2]
    exact ⟨false, rfl, ⟨fun h => (by cases h), fun h => by rw [h] at h2; simp at h2⟩⟩
  | false =>
  cases h3 : decide (a.to ≠ b.to) with
  | true =>
    simp only [NoteV.cells, TS_app, Z12, base1, baseE, ↓reduceIte, Nat.reduceAdd, Nat.reduceSub, Nat.reduceMul, Nat.reduceEqDiff, Nat.reduceLeDiff, Nat.reduceLT, Int.reduceLT, Int.reduceLE, Int.reduceEq, Int.reduceNe, Int.reduceToNat, Int.reduceAdd, Int.reduceSub, reduceCtorEq, Nat.reduceBEq, Nat.reduceBNe, hask, hma, hmb, h1, h2, h3]
    exact ⟨false, rfl, ⟨fun h => (by cases h), fun h => by rw [h] at h3; simp at h3⟩⟩
  | false =>
  cases h4 : decide (a.epoch ≠ b.epoch) with
  | true =>
    simp only [NoteV.cells, TS_app, Z12, base1, baseE, ↓reduceIte, Nat.reduceAdd, Nat.reduceSub, Nat.reduceMul, Nat.reduceEqDiff, Nat.reduceLeDiff, Nat.reduceLT, Int.reduceLT, Int.reduceLE, Int.reduceEq, Int.reduceNe, Int.reduceToNat, Int.reduceAdd, Int.reduceSub, reduceCtorEq, Nat.reduceBEq, Nat.reduceBNe, hask, hma, hmb, h1, h2, h3, h4]
    exact ⟨false, rfl, ⟨fun h => (by cases h), fun h => by rw [h] at h4; simp at h4⟩⟩
  | false =>
  cases h5 : decide (a.tick ≠ b.tick) with
  | true =>
    simp only [NoteV.cells, TS_app, Z12, base1, baseE, ↓reduceIte, Nat.reduceAdd, Nat.reduceSub, Nat.reduceMul, Nat.reduceEqDiff, Nat.reduceLeDiff, Nat.reduceLT, Int.reduceLT, Int.reduceLE, Int.reduceEq, Int.reduceNe, Int.reduceToNat, Int.reduceAdd, Int.reduceSub, reduceCtorEq, Nat.reduceBEq, Nat.reduceBNe, hask, hma, hmb, h1, h2, h3, h4, h5]
    exact ⟨false, rfl, ⟨fun h => (by cases h), fun h => by rw [h] at h5; simp at h5⟩⟩
  | false =>
  cases h6 : askEqB a.ask b.ask with
  | false =>
    simp only [NoteV.cells, TS_app, Z12, base1, baseE, ↓reduceIte, Nat.reduceAdd, Nat.reduceSub, Nat.reduceMul, Nat.reduceEqDiff, Nat.reduceLeDiff, Nat.reduceLT, Int.reduceLT, Int.reduceLE, Int.reduceEq, Int.reduceNe, Int.reduceToNat, Int.reduceAdd, Int.reduceSub, reduceCtorEq, Nat.reduceBEq, Nat.reduceBNe, hask, hma, hmb, h1, h2, h3, h4, h5, h6]
    exact ⟨false, rfl, ⟨fun h => (by cases h), fun h => by rw [h] at h6; rw [(askEq_iff _ _).2 rfl] at h6; cases h6⟩⟩
  | true =>
  simp only [NoteV.cells, TS_app, Z12, base1, baseE, ↓reduceIte, Nat.reduceAdd, Nat.reduceSub, Nat.reduceMul, Nat.reduceEqDiff, Nat.reduceLeDiff, Nat.reduceLT, Int.reduceLT, Int.reduceLE, Int.reduceEq, Int.reduceNe, Int.reduceToNat, Int.reduceAdd, Int.reduceSub, reduceCtorEq, Nat.reduceBEq, Nat.reduceBNe, hask, hma, hmb, h1, h2, h3, h4, h5, h6]
  refine ⟨a.rep, b.rep, rfl, ca.rep, fun t htt => ?_⟩
  cases t with
  | false =>
    simp only [NoteV.cells, TS_app, Z12, base1, baseE, ↓reduceIte, Nat.reduceAdd, Nat.reduceSub, Nat.reduceMul, Nat.reduceEqDiff, Nat.reduceLeDiff, Nat.reduceLT, Int.reduceLT, Int.reduceLE, Int.reduceEq, Int.reduceNe, Int.reduceToNat, Int.reduceAdd, Int.reduceSub, reduceCtorEq, Nat.reduceBEq, Nat.reduceBNe, hask, hma, hmb]
    exact ⟨false, rfl, ⟨fun h => (by cases h), fun h => htt.2 (by rw [h])⟩⟩
  | true =>
  cases h7 : decide (a.sf = b.sf) with
  | false =>
    simp only [NoteV.cells, TS_app, Z12, base1, baseE, ↓reduceIte, Nat.reduceAdd, Nat.reduceSub, Nat.reduceMul, Nat.reduceEqDiff, Nat.reduceLeDiff, Nat.reduceLT, Int.reduceLT, Int.reduceLE, Int.reduceEq, Int.reduceNe, Int.reduceToNat, Int.reduceAdd, Int.reduceSub, reduceCtorEq, Nat.reduceBEq, Nat.reduceBNe, hask, hma, hmb, h7]
    exact ⟨false, rfl, ⟨fun h => (by cases h), fun h => by rw [h] at h7; simp at h7⟩⟩
  | true =>
  cases h8 : decide (a.st = b.st) with
  | false =>
    simp only [NoteV.cells, TS_app, Z12, base1, baseE, ↓reduceIte, Nat.reduceAdd, Nat.reduceSub, Nat.reduceMul, Nat.reduceEqDiff, Nat.reduceLeDiff, Nat.reduceLT, Int.reduceLT, Int.reduceLE, Int.reduceEq, Int.reduceNe, Int.reduceToNat, Int.reduceAdd, Int.reduceSub, reduceCtorEq, Nat.reduceBEq, Nat.reduceBNe, hask, hma, hmb, h7, h8]
    exact ⟨false, rfl, ⟨fun h => (by cases h), fun h => by rw [h] at h8; simp at h8⟩⟩
  | true =>
  cases h9 : decide ((a.l.length : Int) ≠ (b.l.length : Int)) with
  | true =>
    simp only [NoteV.cells, TS_app, Z12, base1, baseE, ↓reduceIte, Nat.reduceAdd, Nat.reduceSub, Nat.reduceMul, Nat.reduceEqDiff, Nat.reduceLeDiff, Nat.reduceLT, Int.reduceLT, Int.reduceLE, Int.reduceEq, Int.reduceNe, Int.reduceToNat, Int.reduceAdd, Int.reduceSub, reduceCtorEq, Nat.reduceBEq, Nat.reduceBNe, hask, hma, hmb, h7, h8, h9]
    exact ⟨false, rfl, ⟨fun h => (by cases h), fun h => by rw [h] at h9; simp at h9⟩⟩
  | false =>
  have hll : a.l.length = b.l.length := by have := ne_false h9; omega
  have hr : Rest a b := ⟨ne_false h1, ne_false h2, ne_false h3, ne_false h4, ne_false h5, (askEq_iff _ _).1 h6, htt.1 rfl, of_decide_eq_true h7, of_decide_eq_true h8⟩
  simp only [NoteV.cells, TS_app, Z12, base1, baseE, ↓reduceIte, Nat.reduceAdd, Nat.reduceSub, Nat.reduceMul, Nat.reduceEqDiff, Nat.reduceLeDiff, Nat.reduceLT, Int.reduceLT, Int.reduceLE, Int.reduceEq, Int.reduceNe, Int.reduceToNat, Int.reduceAdd, Int.reduceSub, reduceCtorEq, Nat.reduceBEq, Nat.reduceBNe, hask, hma, hmb, h7, h8, h9]
  exact sC_inv (a := b12_18) (snI a b) a.l.length _ _ (.refl _ _ _) ⟨0, Nat.zero_le _, rfl, rfl, rfl, rfl, rfl, rfl⟩ (sn_step a b ca cb hll hr)
def sameD (args : List AV) (σ : AHeap) (K : AV → AHeap → Prop) : Prop := ∃ a b : NoteV, args = [.agg a.cells, .agg b.cells] ∧ a.cmp ∧ b.cmp ∧ ∀ t, (t = true ↔ a = b) → K (.bool t) σ
theorem sameD_ok (args : List AV) (σ : AHeap) (K : AV → AHeap → Prop) (h : sameD args σ K) : Tri Try.prog 12 args σ K := by
  obtain ⟨a, b, rfl, ha, hb, h⟩ := h
  exact (Tri.pureD (by simp only [pureL, note_pure, Bool.and_self]) (same_ok a b ha hb) σ).mono fun r σ' ⟨⟨t, h1, h2⟩, h3⟩ => by rw [h1, h3]; exact h t h2
end Go.Proofs.Ytndlgmciplckjab.note

/- Notes read of their bytes, in plain Lean: what is packed is read again as it was. No condition. -/
set_option linter.unusedVariables false
set_option linter.unusedSimpArgs false
namespace Go.Proofs.Ytndlgmciplckjab.note
open Go.ChangeShapes Go.WideShapes Go.ChangeAt Go.RowKit Go.Gz
set_option maxHeartbeats 4000000
set_option maxRecDepth 10000
theorem badT_len {s : List UInt8} (h : badT s = false) : s.length ≤ 268435455 := by
  simp only [badT, badN, Bool.or_eq_false_iff, decide_eq_false_iff_not] at h
  omega
theorem list_tot : ∀ l : List (List UInt8 × List UInt8), ((l.flatMap txt2).length : Int) = 8 * l.length + sumL l
  | [] => rfl
  | p :: l => by
    have := list_tot l
    have e : sumL (p :: l) = (p.1.length : Int) + p.2.length + sumL l := by simp [sumL]
    rw [e]
    simp only [List.flatMap_cons, List.length_append, txt2, txt, u32_len, List.length_cons]
    omega
theorem rep_tot2 {a : RepV} (h : a.small = true) : a.bytes.length ≤ 900000000 := by
  simp only [RepV.small, Bool.and_eq_true, decide_eq_true_eq] at h
  have := list_tot a.l
  simp only [RepV.bytes, RepV.head, tb, List.length_append, List.flatMap_cons, List.flatMap_nil, txt, u32_len, List.length_nil, List.length_cons]
  omega
theorem val_u32 {n : Int} (h : badN n = false) : val32 (bOf (n.fdiv 16777216)) (bOf (n.fdiv 65536)) (bOf (n.fdiv 256)) (bOf n) = n := by
  have hb : ∀ x : Int, ((bOf x).toNat : Int) = x % 256 := by
    intro x
    have := byteAV_bOf x
    simp only [byteAV, AV.int.injEq, true_and] at this
    rw [this]; exact IntKind.wrap_u8 x
  simp only [badN, Bool.or_eq_false_iff, decide_eq_false_iff_not] at h
  unfold val32
  have h1 := hb (n.fdiv 16777216); have h2 := hb (n.fdiv 65536); have h3 := hb (n.fdiv 256); have h4 := hb n
  rw [Int.fdiv_eq_ediv_of_nonneg _ (by omega)] at h1 h2 h3
  rw [Int.fdiv_eq_ediv_of_nonneg _ (by omega), Int.fdiv_eq_ediv_of_nonneg _ (by omega), Int.fdiv_eq_ediv_of_nonneg _ (by omega)]
  omega
theorem num_good {n : Int} (h : badN n = false) (r : List UInt8) : rdNum (u32 n ++ r) 0 = (n, r, 0) := by
  have hv := val_u32 h
  simp only [badN, Bool.or_eq_false_iff, decide_eq_false_iff_not] at h
  simp only [u32, List.cons_append, List.nil_append, rdNum, if_true, hv]
  rw [if_neg h.2]
theorem text_good {s : List UInt8} (h : badT s = false) (r : List UInt8) : rdText (txt s ++ r) 0 = (s, r, 0) := by
  unfold rdText txt
  rw [List.append_assoc, num_good h]
  simp

theorem stN_good {n : Int} (h : badN n = false) (r : List UInt8) : stN (u32 n ++ r, 0) = (r, 0) := by simp only [stN, num_good h]
theorem stT_good {s : List UInt8} (h : badT s = false) (r : List UInt8) : stT (txt s ++ r, 0) = (r, 0) := by simp only [stT, text_good h]
theorem stB_good (t : Bool) (r : List UInt8) : stB (tb t ++ r, 0) = (r, 0) := by cases t <;> rfl
theorem vN_eq (s : St) : vN s = (rdNum s.1 s.2).1 := rfl
theorem vT_eq (s : St) : vT s = (rdText s.1 s.2).1 := rfl
theorem vN_good {n : Int} (h : badN n = false) (r : List UInt8) : vN (u32 n ++ r, 0) = n := by
  have e2 : (rdNum (u32 n ++ r) 0).1 = n := congrArg Prod.fst (num_good h r)
  exact (vN_eq _).trans e2
theorem vT_good {s : List UInt8} (h : badT s = false) (r : List UInt8) : vT (txt s ++ r, 0) = s := by
  have e2 : (rdText (txt s ++ r) 0).1 = s := congrArg Prod.fst (text_good h r)
  exact (vT_eq _).trans e2
theorem vB_good (t : Bool) (r : List UInt8) : vB (tb t ++ r, 0) = t := by cases t <;> rfl
theorem end_good : rdEnd [] 0 = 0 := rfl
theorem txt_len (s : List UInt8) : (txt s).length = 4 + s.length := by simp only [txt, List.length_append, u32_len]
theorem badT_of {s : List UInt8} (h : s.length ≤ 268435455) : badT s = false := by
  simp only [badT, badN, Bool.or_eq_false_iff, decide_eq_false_iff_not]; omega
theorem badN_of {n : Int} (h0 : 0 ≤ n) (h : n ≤ 268435455) : badN n = false := by
  simp only [badN, Bool.or_eq_false_iff, decide_eq_false_iff_not]; omega
theorem numB_bad {n : Int} (h : numB n = true) : badN n = false := by
  simp only [numB, Bool.and_eq_true, decide_eq_true_eq] at h
  exact badN_of h.1 h.2
theorem ask_bytes (a : AskV) : a.bytes = u32 a.do_ ++ (u32 a.client ++ (u32 a.seq ++ (u32 a.limit ++ (txt a.text ++ (txt a.val ++ (txt a.from_ ++ (txt a.to ++ []))))))) := by simp [AskV.bytes, AskV.nums, AskV.texts]
theorem readAsk_good {a : AskV} (ha : a.bad = false) : readAsk a.bytes = (a, 0) := by
  have hl := bad_len ha
  simp only [AskV.bad, AskV.nums, AskV.texts, List.any_cons, List.any_nil, Bool.or_false, Bool.or_eq_false_iff] at ha
  obtain ⟨⟨⟨h1, h2, h3, h4⟩, h5, h6, h7, h8⟩, _⟩ := ha
  unfold readAsk
  rw [if_neg (by omega), ask_bytes]
  simp only [readAskF, readAskG, stN_good h1, stN_good h2, stN_good h3, stN_good h4, stT_good h5, stT_good h6, stT_good h7, stT_good h8, vN_good h1, vN_good h2, vN_good h3, vN_good h4, vT_good h5, vT_good h6, vT_good h7, vT_good h8, end_good, if_true]
theorem rep_bytes (a : RepV) : a.bytes = u32 a.client ++ (u32 a.seq ++ (u32 a.err ++ (tb a.found ++ (txt a.val ++ (u32 (a.l.length : Int) ++ (a.l.flatMap txt2 ++ (txt a.next ++ (tb a.more ++ [])))))))) := by
  simp [RepV.bytes, RepV.head]
theorem list_good : ∀ {l : List (List UInt8 × List UInt8)} {r : List UInt8} (acc : List (List UInt8 × List UInt8)), l.any badT2 = false → rdList l.length (l.flatMap txt2 ++ r, 0) acc = ((r, 0), acc ++ l)
  | [], r, acc, _ => by simp [rdList]
  | (p, q) :: l, r, acc, h => by
    simp only [List.any_cons, Bool.or_eq_false_iff, badT2] at h
    obtain ⟨⟨h1, h2⟩, h3⟩ := h
    simp only [List.flatMap_cons, txt2, List.append_assoc, List.length_cons, rdList, if_true]
    rw [stT_good h1, stT_good h2, vT_good h1, vT_good h2]
    have := list_good (r := r) (acc ++ [(p, q)]) h3
    rw [this]; simp
theorem readReply_good {a : RepV} (ha : a.bad = false) : readReply a.bytes = (a, 0) := by
  have hl := badR_len ha
  simp only [RepV.bad, RepV.badH, List.any_cons, List.any_nil, Bool.or_false, Bool.or_eq_false_iff] at ha
  obtain ⟨⟨⟨⟨⟨⟨h1, h2, h3⟩, h4⟩, h5⟩, h6⟩, h7⟩, _⟩ := ha
  unfold readReply
  rw [if_neg (by omega), rep_bytes]
  simp only [readReplyF, readReplyG, stN_good h1, stN_good h2, stN_good h3, stB_good, stT_good h4, stN_good h5, vN_good h1, vN_good h2, vN_good h3, vB_good, vT_good h4, vN_good h5, Int.toNat_natCast]
  rw [list_good [] h6]
  simp only [stT_good h7, vT_good h7, stB_good, vB_good, end_good, if_true, List.nil_append]
theorem unrec_good {p : List UInt8 × List UInt8} (h : badT2 p = false) : unrec (txt2 p) = (p, 0) := by
  simp only [badT2, Bool.or_eq_false_iff] at h
  have e : txt2 p = txt p.1 ++ (txt p.2 ++ []) := by simp [txt2]
  rw [e]
  simp only [unrec, unrecG, stT_good h.1, stT_good h.2, vT_good h.1, vT_good h.2, end_good]
theorem unsh_good {s : ShV} (h1 : badT s.from_ = false) (h2 : badT s.to = false) (h3 : badN s.node = false) (h4 : badN s.epoch = false) : unsh s.bytes = (s, 0) := by
  have e : s.bytes = txt s.from_ ++ (txt s.to ++ (u32 s.node ++ (u32 s.epoch ++ []))) := by simp [ShV.bytes]
  rw [e]
  simp only [unsh, unshG, stT_good h1, stT_good h2, stN_good h3, stN_good h4, vT_good h1, vT_good h2, vN_good h3, vN_good h4, end_good]
theorem unla_good {x : LaV} (h : okLa x = true) : unla x.bytes = (x, 0) := by
  simp only [okLa, Bool.and_eq_true, Bool.not_eq_true'] at h
  have h1 := numB_bad h.2
  have h2 : badT x.rep.bytes = false := badT_of (by have := badR_len h.1; omega)
  have e : x.bytes = u32 x.seq ++ (txt x.rep.bytes ++ []) := by simp [LaV.bytes, h.1]
  rw [e]
  simp only [unla, unlaG, stN_good h1, stT_good h2, vN_good h1, vT_good h2, end_good, if_true, readReply_good h.1]
theorem lstRec_good : ∀ {l : List (List UInt8 × List UInt8)} (acc : List (List UInt8 × List UInt8)), (∀ x ∈ l, badT (txt2 x) = false ∧ unrec (txt2 x) = (x, 0)) → lstRec l.length ((l.flatMap fun x => txt (txt2 x)), 0) acc = (acc ++ l, 0)
  | [], acc, _ => by simp [lstRec, finRec, end_good]
  | x :: l, acc, h => by
    obtain ⟨h1, h2⟩ := h x (by simp)
    have := lstRec_good (l := l) (acc ++ [x]) fun y hy => h y (by simp [hy])
    simp only [List.flatMap_cons, List.length_cons, lstRec, if_true, stT_good h1, vT_good h1, h2]
    rw [this]; simp
theorem readRec_good {l : List (List UInt8 × List UInt8)} (hl : l.length ≤ 268435455) (h : ∀ x ∈ l, badT (txt2 x) = false ∧ unrec (txt2 x) = (x, 0)) : readRec (bytesRec l) = (l, 0) := by
  have hn : badN (l.length : Int) = false := badN_of (by omega) (by omega)
  simp only [readRec, bytesRec, vN_good hn, stN_good hn, Int.toNat_natCast]
  have := lstRec_good [] h
  rw [this]; simp
theorem lstSh_good : ∀ {l : List (ShV)} (acc : List (ShV)), (∀ x ∈ l, badT (ShV.bytes x) = false ∧ unsh (ShV.bytes x) = (x, 0)) → lstSh l.length ((l.flatMap fun x => txt (ShV.bytes x)), 0) acc = (acc ++ l, 0)
  | [], acc, _ => by simp [lstSh, finSh, end_good]
  | x :: l, acc, h => by
    obtain ⟨h1, h2⟩ := h x (by simp)
    have := lstSh_good (l := l) (acc ++ [x]) fun y hy => h y (by simp [hy])
    simp only [List.flatMap_cons, List.length_cons, lstSh, if_true, stT_good h1, vT_good h1, h2]
    rw [this]; simp
theorem readSh_good {l : List (ShV)} (hl : l.length ≤ 268435455) (h : ∀ x ∈ l, badT (ShV.bytes x) = false ∧ unsh (ShV.bytes x) = (x, 0)) : readSh (bytesSh l) = (l, 0) := by
  have hn : badN (l.length : Int) = false := badN_of (by omega) (by omega)
  simp only [readSh, bytesSh, vN_good hn, stN_good hn, Int.toNat_natCast]
  have := lstSh_good [] h
  rw [this]; simp
theorem lstLa_good : ∀ {l : List (LaV)} (acc : List (LaV)), (∀ x ∈ l, badT (LaV.bytes x) = false ∧ unla (LaV.bytes x) = (x, 0)) → lstLa l.length ((l.flatMap fun x => txt (LaV.bytes x)), 0) acc = (acc ++ l, 0)
  | [], acc, _ => by simp [lstLa, finLa, end_good]
  | x :: l, acc, h => by
    obtain ⟨h1, h2⟩ := h x (by simp)
    have := lstLa_good (l := l) (acc ++ [x]) fun y hy => h y (by simp [hy])
    simp only [List.flatMap_cons, List.length_cons, lstLa, if_true, stT_good h1, vT_good h1, h2]
    rw [this]; simp
theorem readLa_good {l : List (LaV)} (hl : l.length ≤ 268435455) (h : ∀ x ∈ l, badT (LaV.bytes x) = false ∧ unla (LaV.bytes x) = (x, 0)) : readLa (bytesLa l) = (l, 0) := by
  have hn : badN (l.length : Int) = false := badN_of (by omega) (by omega)
  simp only [readLa, bytesLa, vN_good hn, stN_good hn, Int.toNat_natCast]
  have := lstLa_good [] h
  rw [this]; simp
/-! A note, read. -/
def readChart (s : St) : (Int × List ShV) × St :=
  if (stT (stN s)).2 = 0 then (if (readSh (vT (stN s))).2 = 0 then ((vN s, (readSh (vT (stN s))).1), stT (stN s)) else ((0, []), ((stT (stN s)).1, 5))) else ((0, []), stT (stN s))
def readRows (s : St) : (List (List UInt8 × List UInt8) × List LaV) × St :=
  if (stT (stT s)).2 = 0 then (if (readRec (vT s)).2 = 0 ∧ (readLa (vT (stT s))).2 = 0 then (((readRec (vT s)).1, (readLa (vT (stT s))).1), stT (stT s)) else (([], []), ((stT (stT s)).1, 5))) else (([], []), stT (stT s))
def orE (s : St) (e : Int) : St := (s.1, if s.2 = 0 then e else s.2)
def readBody (n : NoteV) (s : St) : NoteV × St :=
  if n.kind = 1 then ({ n with ask := (readAsk (vT s)).1 }, orE (stT s) (readAsk (vT s)).2)
  else if n.kind = 2 then ({ n with rep := (readReply (vT s)).1 }, orE (stT s) (readReply (vT s)).2)
  else if n.kind = 4 ∨ n.kind = 6 then ({ n with aep := (readChart s).1.1, sh := (readChart s).1.2 }, (readChart s).2)
  else if n.kind = 7 ∨ n.kind = 11 ∨ n.kind = 10 ∨ n.kind = 12 ∨ n.kind = 8 ∨ n.kind = 9 then ({ n with sf := vT s, st := vT (stT s), l := (readRows (stT (stT s))).1.1, last := (readRows (stT (stT s))).1.2 }, (readRows (stT (stT s))).2)
  else (n, s)
def bare (k f t e i : Int) : NoteV := ⟨k, f, t, e, i, AskV.zero, RepV.zero, [], [], [], [], 0, []⟩
def NoteV.zero : NoteV := bare 0 0 0 0 0
def st5 (s : St) : St := stN (stN (stN (stN (stN s))))
def hdN (s : St) : NoteV := bare (vN s) (vN (stN s)) (vN (stN (stN s))) (vN (stN (stN (stN s)))) (vN (stN (stN (stN (stN s)))))
def finN (p : NoteV × St) : NoteV × Int := if rdEnd p.2.1 p.2.2 = 0 ∧ mayB p.1 = true then (p.1, 0) else (NoteV.zero, 5)
def readNote (bs : List UInt8) : NoteV × Int := finN (readBody (hdN (bs, 0)) (st5 (bs, 0)))
theorem noAsk_zero {a : AskV} (h : noAskB a = true) : a = AskV.zero := by
  simp only [noAskB, Bool.and_eq_true, decide_eq_true_eq] at h
  obtain ⟨h1, h2, h3, h4, h5, h6, h7, h8⟩ := h
  cases a
  simp only at h1 h2 h3 h4 h5 h6 h7 h8
  subst h1 h2 h3 h4 h5 h6 h7 h8
  rfl
theorem noRep_zero {a : RepV} (h : noRepB a = true) : a = RepV.zero := by
  simp only [noRepB, Bool.and_eq_true, decide_eq_true_eq, Bool.not_eq_true'] at h
  obtain ⟨h1, h2, h3, h4, h5, h6, h7, h8⟩ := h
  cases a
  simp only at h1 h2 h3 h4 h5 h6 h7 h8
  have h6 := List.length_eq_zero_iff.1 (Int.ofNat_eq_zero.1 h6)
  subst h1 h2 h3 h4 h5 h6 h7 h8
  rfl
/-- What a note that may be is like. -/
structure MayF (n : NoteV) : Prop where
  k1 : 1 ≤ n.kind
  k12 : n.kind ≤ 12
  from_ : badN n.from_ = false
  to : badN n.to = false
  epoch : badN n.epoch = false
  tick : badN n.tick = false
  abad : n.ask.bad = false
  rbad : n.rep.bad = false
  ask : n.kind ≠ 1 → n.ask = AskV.zero
  rep : n.kind ≠ 2 → n.rep = RepV.zero
  last : n.last.all okLa = true
  rows : n.kind ≠ 8 → n.kind ≠ 9 → n.l = [] ∧ n.last = []
  span : n.kind < 7 → n.sf = [] ∧ n.st = []
  maps : n.kind ≠ 4 → n.kind ≠ 6 → n.aep = 0 ∧ n.sh = []
  mapt : n.kind = 4 ∨ n.kind = 6 → atlasB n.aep n.sh = true ∧ numB n.aep = true
theorem party_bad {n : Int} (h : partyB n = true) : badN n = false := by
  simp only [partyB, Bool.or_eq_true, Bool.and_eq_true, decide_eq_true_eq] at h
  exact badN_of (by omega) (by omega)
theorem mayF {n : NoteV} (h : mayB n = true) : MayF n := by
  simp only [mayB, headB, asksB, spansB, Bool.and_eq_true, Bool.not_eq_true', decide_eq_false_iff_not] at h
  obtain ⟨⟨h1, h2, h3, h4, h5, h6, h7⟩, h8, ⟨⟨⟨h9, h10⟩, h11⟩, h12⟩, ⟨h13, h14, h15⟩, h16⟩ := h
  refine ⟨by omega, by omega, party_bad h3, party_bad h4, numB_bad h6, numB_bad h7, h9, h10, fun hk => ?_, fun hk => ?_, h13, fun k8 k9 => ?_, fun hk => ?_, fun k4 k6 => ?_, fun hk => ?_⟩
  · rcases Bool.or_eq_true_iff.1 h11 with h | h
    · exact absurd (of_decide_eq_true h) hk
    · exact noAsk_zero h
  · rcases Bool.or_eq_true_iff.1 h12 with h | h
    · exact absurd (of_decide_eq_true h) hk
    · exact noRep_zero h
  · rcases Bool.or_eq_true_iff.1 h14 with h | h
    · simp only [Bool.and_eq_true, decide_eq_true_eq] at h
      exact ⟨List.length_eq_zero_iff.1 (by omega), List.length_eq_zero_iff.1 (by omega)⟩
    · simp at h; omega
  · rcases Bool.or_eq_true_iff.1 h15 with h | h
    · simp only [Bool.and_eq_true, decide_eq_true_eq] at h
      exact h.2
    · simp at h; omega
  · unfold mapsB at h16
    rw [if_neg (by simp; omega)] at h16
    simp only [Bool.and_eq_true, decide_eq_true_eq] at h16
    exact ⟨h16.1, List.length_eq_zero_iff.1 (by omega)⟩
  · unfold mapsB at h16
    rw [if_pos (by simp; omega)] at h16
    simpa using h16
theorem head_good {n : NoteV} (h : MayF n) (w : List UInt8) : hdN (n.head ++ w, 0) = bare n.kind n.from_ n.to n.epoch n.tick ∧ st5 (n.head ++ w, 0) = (w, 0) := by
  have e : n.head ++ w = u32 n.kind ++ (u32 n.from_ ++ (u32 n.to ++ (u32 n.epoch ++ (u32 n.tick ++ w)))) := by simp [NoteV.head]
  have hk : badN n.kind = false := badN_of (by have := h.k1; omega) (by have := h.k12; omega)
  have h1 := h.from_; have h2 := h.to; have h3 := h.epoch; have h4 := h.tick
  rw [e]
  constructor
  · simp only [hdN, stN_good hk, stN_good h1, stN_good h2, stN_good h3, vN_good hk, vN_good h1, vN_good h2, vN_good h3, vN_good h4]
  · simp only [st5, stN_good hk, stN_good h1, stN_good h2, stN_good h3, stN_good h4]
theorem chart_good {n : NoteV} (h : MayF n) (hk : n.kind = 4 ∨ n.kind = 6) (hs : n.sz) : readChart (chartBy n, 0) = ((n.aep, n.sh), ([], 0)) := by
  obtain ⟨h1, h2⟩ := h.mapt hk
  have e : chartBy n = u32 n.aep ++ (txt (bytesSh n.sh) ++ []) := by simp [chartBy]
  have h3 := numB_bad h2
  have q := hs.shsum
  have h4 : badT (bytesSh n.sh) = false := badT_of (by rw [len_sh]; omega)
  have hin : ∀ x ∈ n.sh, x.bytes.length ≤ 100000000 := fun x hx => by
    have : (txt x.bytes).length ≤ (n.sh.flatMap fun x => txt x.bytes).length := by
      obtain ⟨a, b, hab⟩ := List.append_of_mem hx
      rw [hab]; simp only [List.flatMap_append, List.flatMap_cons, List.length_append]; omega
    rw [txt_len] at this; omega
  have h5 : readSh (bytesSh n.sh) = (n.sh, 0) := by
    refine readSh_good (by have := hs.sh; omega) fun x hx => ⟨badT_of (by have := hin x hx; omega), ?_⟩
    have hb := hin x hx
    simp only [ShV.bytes, List.flatMap_cons, List.flatMap_nil, List.append_nil, List.length_append, txt, u32_len] at hb
    simp only [atlasB, Bool.and_eq_true] at h1
    have ho := List.all_eq_true.1 h1.2.2.2.1 x hx
    simp only [shOk, Bool.and_eq_true, Bool.not_eq_true', decide_eq_false_iff_not] at ho
    simp only [numB, Bool.and_eq_true, decide_eq_true_eq] at h2
    exact unsh_good (badT_of (by omega)) (badT_of (by omega)) (badN_of (by omega) (by omega)) (badN_of (by omega) (by omega))
  rw [e]
  simp only [readChart, stN_good h3, stT_good h4, vN_good h3, vT_good h4, h5, if_true]
theorem rows_good {n : NoteV} (h : MayF n) (hs : n.sz) : readRows ([bytesRec n.l, bytesLa n.last].flatMap txt, 0) = ((n.l, n.last), ([], 0)) := by
  have e : [bytesRec n.l, bytesLa n.last].flatMap txt = txt (bytesRec n.l) ++ (txt (bytesLa n.last) ++ []) := by simp
  have q1 := hs.recs
  have q2 := hs.las
  have h1 : badT (bytesRec n.l) = false := badT_of (by rw [len_rec]; omega)
  have h2 : badT (bytesLa n.last) = false := badT_of (by rw [len_la]; omega)
  have i1 : ∀ x ∈ n.l, (txt2 x).length ≤ 100000000 := fun x hx => by
    have : (txt (txt2 x)).length ≤ (n.l.flatMap fun x => txt (txt2 x)).length := by
      obtain ⟨a, b, hab⟩ := List.append_of_mem hx
      rw [hab]; simp only [List.flatMap_append, List.flatMap_cons, List.length_append]; omega
    rw [txt_len] at this; omega
  have i2 : ∀ x ∈ n.last, x.bytes.length ≤ 100000000 := fun x hx => by
    have : (txt x.bytes).length ≤ (n.last.flatMap fun x => txt x.bytes).length := by
      obtain ⟨a, b, hab⟩ := List.append_of_mem hx
      rw [hab]; simp only [List.flatMap_append, List.flatMap_cons, List.length_append]; omega
    rw [txt_len] at this; omega
  have h3 : readRec (bytesRec n.l) = (n.l, 0) := by
    refine readRec_good (by have := hs.l; omega) fun x hx => ⟨badT_of (by have := i1 x hx; omega), unrec_good ?_⟩
    have hb := i1 x hx
    simp only [txt2, txt, List.length_append, u32_len] at hb
    simp only [badT2, Bool.or_eq_false_iff]
    exact ⟨badT_of (by omega), badT_of (by omega)⟩
  have h4 : readLa (bytesLa n.last) = (n.last, 0) := readLa_good (by have := hs.last; omega) fun x hx => ⟨badT_of (by have := i2 x hx; omega), unla_good (List.all_eq_true.1 h.last x hx)⟩
  rw [e]
  simp only [readRows, stT_good h1, stT_good h2, vT_good h1, vT_good h2, h3, h4, and_self, if_true]
theorem body_good {n : NoteV} (h : MayF n) (hs : n.sz) : readBody (bare n.kind n.from_ n.to n.epoch n.tick) (n.body, 0) = (n, ([], 0)) := by
  have h1 := h.k1
  have h12 := h.k12
  have hS := hs.span
  rw [total2] at hS
  have hA := h.ask
  have hR := h.rep
  have hRo := h.rows
  have hSp := h.span
  have hM := h.maps
  by_cases k1 : n.kind = 1
  · have la : badT n.ask.bytes = false := badT_of (by have := bad_len h.abad; omega)
    have e : n.body = txt n.ask.bytes ++ [] := by simp [NoteV.body, k1]
    have f : readBody (bare n.kind n.from_ n.to n.epoch n.tick) (n.body, 0) = ({ bare n.kind n.from_ n.to n.epoch n.tick with ask := n.ask }, ([], 0)) := by
      rw [e, readBody, if_pos (by exact k1)]
      simp only [stT_good la, vT_good la, readAsk_good h.abad, orE, if_true]
    rw [f]
    have a2 := hR (by omega)
    obtain ⟨a3, a4⟩ := hRo (by omega) (by omega)
    obtain ⟨a5, a6⟩ := hSp (by omega)
    obtain ⟨a7, a8⟩ := hM (by omega) (by omega)
    clear hA hR hRo hSp hM f e la hs h
    cases n
    simp only at a2 a3 a4 a5 a6 a7 a8
    subst a2 a3 a4 a5 a6 a7 a8
    rfl
  by_cases k2 : n.kind = 2
  · have la : badT n.rep.bytes = false := badT_of (by have := badR_len h.rbad; omega)
    have e : n.body = txt n.rep.bytes ++ [] := by simp [NoteV.body, k2]
    have f : readBody (bare n.kind n.from_ n.to n.epoch n.tick) (n.body, 0) = ({ bare n.kind n.from_ n.to n.epoch n.tick with rep := n.rep }, ([], 0)) := by
      rw [e, readBody, if_neg (by exact k1), if_pos (by exact k2)]
      simp only [stT_good la, vT_good la, readReply_good h.rbad, orE, if_true]
    rw [f]
    have a2 := hA k1
    obtain ⟨a3, a4⟩ := hRo (by omega) (by omega)
    obtain ⟨a5, a6⟩ := hSp (by omega)
    obtain ⟨a7, a8⟩ := hM (by omega) (by omega)
    clear hA hR hRo hSp hM f e la hs h
    cases n
    simp only at a2 a3 a4 a5 a6 a7 a8
    subst a2 a3 a4 a5 a6 a7 a8
    rfl
  have a1 := hA k1
  have a2 := hR k2
  by_cases k4 : n.kind = 4 ∨ n.kind = 6
  · have e : n.body = chartBy n := by simp only [NoteV.body, if_neg k1, if_neg k2, if_pos k4]
    have f : readBody (bare n.kind n.from_ n.to n.epoch n.tick) (n.body, 0) = ({ bare n.kind n.from_ n.to n.epoch n.tick with aep := n.aep, sh := n.sh }, ([], 0)) := by
      rw [e, readBody, if_neg (by exact k1), if_neg (by exact k2), if_pos (by exact k4), chart_good h k4 hs]
    rw [f]
    obtain ⟨a3, a4⟩ := hRo (by omega) (by omega)
    obtain ⟨a5, a6⟩ := hSp (by omega)
    clear hA hR hRo hSp hM f e hs h
    cases n
    simp only at a1 a2 a3 a4 a5 a6
    subst a1 a2 a3 a4 a5 a6
    rfl
  obtain ⟨a7, a8⟩ := hM (by omega) (by omega)
  by_cases k3 : n.kind = 3 ∨ n.kind = 5
  · have e : n.body = [] := by simp only [NoteV.body, if_neg k1, if_neg k2, if_neg k4, if_pos k3]
    have f : readBody (bare n.kind n.from_ n.to n.epoch n.tick) (n.body, 0) = (bare n.kind n.from_ n.to n.epoch n.tick, ([], 0)) := by
      have kk : ¬ ((bare n.kind n.from_ n.to n.epoch n.tick).kind = 7 ∨ (bare n.kind n.from_ n.to n.epoch n.tick).kind = 11 ∨ (bare n.kind n.from_ n.to n.epoch n.tick).kind = 10 ∨ (bare n.kind n.from_ n.to n.epoch n.tick).kind = 12 ∨ (bare n.kind n.from_ n.to n.epoch n.tick).kind = 8 ∨ (bare n.kind n.from_ n.to n.epoch n.tick).kind = 9) := by
        show ¬ (n.kind = 7 ∨ n.kind = 11 ∨ n.kind = 10 ∨ n.kind = 12 ∨ n.kind = 8 ∨ n.kind = 9)
        omega
      rw [e, readBody, if_neg (by exact k1), if_neg (by exact k2), if_neg (by exact k4), if_neg kk]
    rw [f]
    obtain ⟨a3, a4⟩ := hRo (by omega) (by omega)
    obtain ⟨a5, a6⟩ := hSp (by omega)
    clear hA hR hRo hSp hM f e hs h
    cases n
    simp only at a1 a2 a3 a4 a5 a6 a7 a8
    subst a1 a2 a3 a4 a5 a6 a7 a8
    rfl
  · have e : n.body = txt n.sf ++ (txt n.st ++ [bytesRec n.l, bytesLa n.last].flatMap txt) := by simp only [NoteV.body, if_neg k1, if_neg k2, if_neg k4, if_neg k3, rowsBy]; simp
    have t1 : badT n.sf = false := badT_of (by omega)
    have t2 : badT n.st = false := badT_of (by omega)
    have f : readBody (bare n.kind n.from_ n.to n.epoch n.tick) (n.body, 0) = ({ bare n.kind n.from_ n.to n.epoch n.tick with sf := n.sf, st := n.st, l := n.l, last := n.last }, ([], 0)) := by
      have kk : (bare n.kind n.from_ n.to n.epoch n.tick).kind = 7 ∨ (bare n.kind n.from_ n.to n.epoch n.tick).kind = 11 ∨ (bare n.kind n.from_ n.to n.epoch n.tick).kind = 10 ∨ (bare n.kind n.from_ n.to n.epoch n.tick).kind = 12 ∨ (bare n.kind n.from_ n.to n.epoch n.tick).kind = 8 ∨ (bare n.kind n.from_ n.to n.epoch n.tick).kind = 9 := by
        show n.kind = 7 ∨ n.kind = 11 ∨ n.kind = 10 ∨ n.kind = 12 ∨ n.kind = 8 ∨ n.kind = 9
        omega
      rw [e, readBody, if_neg (by exact k1), if_neg (by exact k2), if_neg (by exact k4), if_pos kk]
      simp only [stT_good t1, stT_good t2, vT_good t1, vT_good t2, rows_good h hs]
    rw [f]
    clear hA hR hRo hSp hM f e hs h t1 t2
    cases n
    simp only at a1 a2 a7 a8
    subst a1 a2 a7 a8
    rfl
/-- What is packed is read as it was. -/
theorem note_good {n : NoteV} (hm : mayB n = true) (hs : n.sz) : readNote n.bytes = (n, 0) := by
  have h := mayF hm
  obtain ⟨h1, h2⟩ := head_good h n.body
  unfold readNote NoteV.bytes
  rw [h1, h2, body_good h hs]
  simp only [finN, end_good, hm, and_self, if_true]
theorem bytes_inj {a b : NoteV} (ha : mayB a = true) (hb : mayB b = true) (sa : a.sz) (sb : b.sz) (h : a.bytes = b.bytes) : a = b := by
  have h1 := note_good ha sa
  rw [h, note_good hb sb] at h1
  exact (Prod.mk.inj h1).1.symm
end Go.Proofs.Ytndlgmciplckjab.note

/- Small rows make notes that are not too great; how the law reads its rows. No condition. -/
set_option linter.unusedVariables false
set_option linter.unusedSimpArgs false
namespace Go.Proofs.Ytndlgmciplckjab.note
open Go.ChangeShapes Go.WideShapes Go.ChangeAt Go.RowKit Go.Gz
set_option maxHeartbeats 4000000
set_option maxRecDepth 10000

/-! Sizes. -/
theorem flat_le {α : Type} {f : α → List UInt8} {c : Nat} : ∀ {l : List α}, (∀ x ∈ l, (f x).length ≤ c) → (l.flatMap f).length ≤ l.length * c
  | [], _ => by simp
  | x :: l, h => by
    have h1 := flat_le (f := f) (c := c) (l := l) fun y hy => h y (by simp [hy])
    have h2 := h x (by simp)
    simp only [List.flatMap_cons, List.length_append, List.length_cons, Nat.add_mul]; omega
theorem sum_nonneg (l : List (List UInt8 × List UInt8)) : 0 ≤ sumL l := by
  have := list_tot l
  by_cases h : 0 ≤ sumL l
  · exact h
  · have h1 : sumL l = ((l.flatMap txt2).length : Int) - 8 * l.length := by omega
    have : ∀ l : List (List UInt8 × List UInt8), 8 * l.length ≤ (l.flatMap txt2).length := by
      intro l
      induction l with
      | nil => simp
      | cons p l ih => simp only [List.flatMap_cons, List.length_append, txt2, txt_len, List.length_cons]; omega
    have := this l
    omega
theorem sum_mem {l : List (List UInt8 × List UInt8)} {p : List UInt8 × List UInt8} (h : p ∈ l) : (p.1.length : Int) + p.2.length ≤ sumL l := by
  obtain ⟨a, b, rfl⟩ := List.append_of_mem h
  have h1 := sum_nonneg a
  have h2 := sum_nonneg b
  have e : sumL (a ++ p :: b) = sumL a + ((p.1.length : Int) + p.2.length + sumL b) := by simp [sumL, List.sum_append]
  rw [e]; omega
theorem rep_small_len {a : RepV} (h : a.small = true) : a.bytes.length ≤ 60000 := by
  simp only [RepV.small, Bool.and_eq_true, decide_eq_true_eq] at h
  have := list_tot a.l
  have h3 := sum_nonneg a.l
  simp only [RepV.bytes, RepV.head, tb, List.length_append, List.flatMap_cons, List.flatMap_nil, txt_len, u32_len, List.length_nil, List.length_cons]
  omega
theorem txt2_len (p : List UInt8 × List UInt8) : (txt2 p).length = 8 + p.1.length + p.2.length := by simp only [txt2, List.length_append, txt_len]; omega
theorem sh_len (s : ShV) : s.bytes.length = 16 + s.from_.length + s.to.length := by
  simp only [ShV.bytes, List.flatMap_cons, List.flatMap_nil, List.append_nil, List.length_append, txt_len, u32_len]; omega
theorem la_len {x : LaV} (h : x.rep.small = true) : x.bytes.length ≤ 60010 := by
  have := rep_small_len h
  simp only [LaV.bytes, List.flatMap_cons, List.flatMap_nil, List.append_nil, List.length_append, txt_len, u32_len]
  by_cases hb : x.rep.bad = true
  · rw [if_pos hb]; simp
  · rw [if_neg hb]; omega
theorem made_sz {r : RowV} (h : r.smallP) : (made r).sz := by
  have h0 := h.sum
  have h1 := sum_nonneg r.l
  have h2 := sum_nonneg (r.sh.map ShV.span)
  have h3 := h.sh
  have h4 := h.l
  have h5 := h.lal
  have h6 := h.shl
  simp only [RowV.base] at h0
  have r1 : ∀ x ∈ r.l, (txt2 x).length ≤ 20008 := fun x hx => by
    have := sum_mem hx
    rw [txt2_len]; omega
  have s1 : ∀ x ∈ r.sh, x.bytes.length ≤ 3016 := fun x hx => by
    have := sum_mem (List.mem_map_of_mem (f := ShV.span) hx)
    simp only [ShV.span] at this
    rw [sh_len]; omega
  refine ⟨?_, ?_, ?_, ?_, ?_, ?_, ?_, ?_, ?_, ?_, ?_, ?_⟩
  · simp only [total, made, AskV.texts, List.flatMap_cons, List.flatMap_nil, List.append_nil, List.length_append, txt_len]; omega
  · have := rep_small_len h.rep; show r.rep.bytes.length ≤ _; omega
  · show total [r.sf, r.st] ≤ _; rw [total2]; omega
  · show r.l.length ≤ _; omega
  · show (r.last.map mkLa).length ≤ _; simp; omega
  · show r.sh.length ≤ _; omega
  · intro x hx; have := r1 x hx; omega
  · intro x hx
    obtain ⟨y, hy, rfl⟩ := List.mem_map.1 hx
    have := rep_small_len (h.last y hy)
    show y.bytes.length ≤ _; omega
  · intro x hx; have := s1 x hx; omega
  · have := flat_le (f := fun x => txt (txt2 x)) (c := 20012) (l := r.l) fun x hx => by rw [txt_len]; have := r1 x hx; omega
    show (r.l.flatMap _).length ≤ _; omega
  · have := flat_le (f := fun x : LaV => txt x.bytes) (c := 60014) (l := r.last.map mkLa) fun x hx => by
      obtain ⟨y, hy, rfl⟩ := List.mem_map.1 hx
      rw [txt_len]; have := la_len (x := mkLa y) (h.last y hy); omega
    rw [List.length_map] at this
    show ((r.last.map mkLa).flatMap _).length ≤ _; omega
  · have := flat_le (f := fun x : ShV => txt x.bytes) (c := 3020) (l := r.sh) fun x hx => by rw [txt_len]; have := s1 x hx; omega
    show (r.sh.flatMap _).length ≤ _; omega
theorem made_cmp {r : RowV} (h : r.smallP) : (made r).cmp := by
  have h4 := h.l
  have h5 := h.lal
  have h6 := h.shl
  have rl : ∀ x : RepV, x.small = true → x.l.length ≤ 300 := fun x hx => by
    simp only [RepV.small, Bool.and_eq_true, decide_eq_true_eq] at hx
    omega
  refine ⟨?_, ?_, ?_, ?_, ?_⟩
  · show r.l.length ≤ _; omega
  · show (r.last.map mkLa).length ≤ _; simp; omega
  · show r.sh.length ≤ _; omega
  · have := rl _ h.rep; show r.rep.l.length ≤ _; omega
  · intro x hx
    obtain ⟨y, hy, rfl⟩ := List.mem_map.1 hx
    have := rl y (h.last y hy)
    show y.l.length ≤ _; omega
/-! Cells that stay folded. -/
abbrev zN : List AV := [.int .i64 0, .int .i64 0, .int .i64 0, .int .i64 0, .int .i64 0, .int .i64 0, .int .i64 0, .int .i64 0, .str [], .str [], .str [], .str [], .int .i64 0, .int .i64 0, .int .i64 0, .int .i64 0, .bool false, .str [], .nilslice, .str [], .bool false, .str [], .str [], .nilslice, .nilslice, .int .i64 0, .nilslice]
theorem sub_note (n : NoteV) : sub n.cells 0 27 = some n.cells := rfl
theorem sub_row (r : RowV) : sub r.cells 0 27 = some r.cells := rfl
theorem nc_len (n : NoteV) : n.cells.length = 27 := rfl
theorem nc_cell (n : NoteV) : (n.cells.all fun x => x.isCell) = true := rfl
theorem put_note (n : NoteV) : put [.int .i64 0, .int .i64 0, .int .i64 0, .int .i64 0, .int .i64 0, .int .i64 0, .int .i64 0, .int .i64 0, .str [], .str [], .str [], .str [], .int .i64 0, .int .i64 0, .int .i64 0, .int .i64 0, .bool false, .str [], .nilslice, .str [], .bool false, .str [], .str [], .nilslice, .nilslice, .int .i64 0, .nilslice] 0 n.cells = some n.cells := rfl
theorem put_note2 (n m : NoteV) : put m.cells 0 n.cells = some n.cells := rfl
theorem row_inj {a b : RowV} (h : AV.agg a.cells = .agg b.cells) : a = b := by
  simp only [RowV.cells, AV.agg.injEq, List.cons.injEq, AV.int.injEq, AV.bool.injEq, AV.str.injEq, AV.imm.injEq, and_true, true_and] at h
  obtain ⟨h1, h2, h3, h4, h5, a1, a2, a3, a4, a5, a6, a7, a8, r1, r2, r3, r4, r5, r6, r7, r8, s1, s2, l1, l2, e1, l3⟩ := h
  have r6 := recs_inj r6
  have l1 := map_inj recC_inj l1
  have l2 := map_inj (fun x y hxy => rep_inj (by rw [hxy])) l2
  have l3 := map_inj sh_inj l3
  obtain ⟨k, f, t, ep, ti, ⟨b1, b2, b3, b4, b5, b6, b7, b8⟩, ⟨c1, c2, c3, c4, c5, c6, c7, c8⟩, sf, st, l, la, ae, sh⟩ := a
  obtain ⟨k', f', t', ep', ti', ⟨b1', b2', b3', b4', b5', b6', b7', b8'⟩, ⟨c1', c2', c3', c4', c5', c6', c7', c8'⟩, sf', st', l', la', ae', sh'⟩ := b
  simp only at *
  subst h1 h2 h3 h4 h5 a1 a2 a3 a4 a5 a6 a7 a8 r1 r2 r3 r4 r5 r6 r7 r8 s1 s2 l1 l2 e1 l3
  rfl
theorem madeD_eq {r : RowV} {σ : AHeap} {K : AV → AHeap → Prop} : madeD [.agg r.cells] σ K = (r.last.length ≤ 1000000 ∧ r.sh.length ≤ 1000000 ∧ K (.agg (made r).cells) σ) := by
  apply propext
  refine ⟨fun ⟨m, h1, h2, h3, h4⟩ => ?_, fun h => ⟨r, rfl, h.1, h.2.1, h.2.2⟩⟩
  have : r = m := row_inj (List.cons.inj h1).1
  subst this
  exact ⟨h2, h3, h4⟩
theorem packD_eq {n : NoteV} {σ : AHeap} {K : AV → AHeap → Prop} : packD [.agg n.cells] σ K = (n.sz ∧ K (packN n) σ) := by
  apply propext
  refine ⟨fun ⟨m, h1, h2, h3⟩ => ?_, fun h => ⟨n, rfl, h.1, h.2⟩⟩
  have : n = m := note_inj (List.cons.inj h1).1
  subst this
  exact ⟨h2, h3⟩
end Go.Proofs.Ytndlgmciplckjab.note

/- Rows of the law, read as data. No condition. No condition. -/
set_option linter.unusedVariables false
set_option linter.unusedSimpArgs false
namespace Go.Proofs.Ytndlgmciplckjab.note
open Go.ChangeShapes Go.WideShapes Go.ChangeAt Go.RowKit Go.Gz
set_option maxHeartbeats 4000000
set_option maxRecDepth 10000
theorem rdAsk : Rd Try.prog 29 AskV.cells AskV.okS := by
  have hu : Try.prog.underlying 29 = some (.struct (Try.prog.fieldsOf 29)) := by kernel_rfl
  have hf : (Try.prog.fieldsOf 29).toList = [⟨ "Do", 3, 0, false, "", "", 0⟩, ⟨ "Client", 3, 1, false, "", "", 8⟩, ⟨ "Seq", 3, 2, false, "", "", 16⟩, ⟨ "Text", 9, 3, false, "", "", 24⟩, ⟨ "Val", 9, 4, false, "", "", 40⟩, ⟨ "From", 9, 5, false, "", "", 56⟩, ⟨ "To", 9, 6, false, "", "", 72⟩, ⟨ "Limit", 3, 7, false, "", "", 88⟩] := by kernel_rfl
  have h := rdf_cons (P := Try.prog) (f := ⟨ "Do", 3, 0, false, "", "", 0⟩) (o := 0) rfl (rd_int (k := .i64) (by kernel_rfl))
    (rdf_cons (f := ⟨ "Client", 3, 1, false, "", "", 8⟩) (by kernel_rfl) (rd_int (k := .i64) (by kernel_rfl))
    (rdf_cons (f := ⟨ "Seq", 3, 2, false, "", "", 16⟩) (by kernel_rfl) (rd_int (k := .i64) (by kernel_rfl))
    (rdf_cons (f := ⟨ "Text", 9, 3, false, "", "", 24⟩) (by kernel_rfl) (rd_str (by kernel_rfl))
    (rdf_cons (f := ⟨ "Val", 9, 4, false, "", "", 40⟩) (by kernel_rfl) (rd_str (by kernel_rfl))
    (rdf_cons (f := ⟨ "From", 9, 5, false, "", "", 56⟩) (by kernel_rfl) (rd_str (by kernel_rfl))
    (rdf_cons (f := ⟨ "To", 9, 6, false, "", "", 72⟩) (by kernel_rfl) (rd_str (by kernel_rfl))
    (rdf_cons (f := ⟨ "Limit", 3, 7, false, "", "", 88⟩) (by kernel_rfl) (rd_int (k := .i64) (by kernel_rfl)) (rdf_nil _))))))))
  rw [← hf] at h
  exact (rd_struct hu (by kernel_rfl) h).map (fun x => ⟨x.1, x.2.1, x.2.2.1, x.2.2.2.1, x.2.2.2.2.1, x.2.2.2.2.2.1, x.2.2.2.2.2.2.1, x.2.2.2.2.2.2.2.1⟩) (fun x => rfl) (fun x hx => ⟨hx.2.2.2.1, hx.2.2.2.2.1, hx.2.2.2.2.2.1, hx.2.2.2.2.2.2.1⟩)
theorem rdRec : Rd Try.prog 84 (fun p : List UInt8 × List UInt8 => [.str p.1, .str p.2]) (fun p => p.1.length ≤ 140737488351232 ∧ p.2.length ≤ 140737488351232) := by
  have hu : Try.prog.underlying 84 = some (.struct (Try.prog.fieldsOf 84)) := by kernel_rfl
  have hf : (Try.prog.fieldsOf 84).toList = [⟨ "Text", 9, 0, false, "", "", 0⟩, ⟨ "Val", 9, 1, false, "", "", 16⟩] := by kernel_rfl
  have h := rdf_cons (P := Try.prog) (f := ⟨ "Text", 9, 0, false, "", "", 0⟩) (o := 0) rfl (rd_str (by kernel_rfl)) (rdf_cons (f := ⟨ "Val", 9, 1, false, "", "", 16⟩) (by kernel_rfl) (rd_str (by kernel_rfl)) (rdf_nil _))
  rw [← hf] at h
  exact (rd_struct hu (by kernel_rfl) h).map (fun x => (x.1, x.2.1)) (fun x => rfl) (fun x hx => ⟨hx.1, hx.2.1⟩)
theorem rdRep : Rd Try.prog 33 RepV.cells RepV.okS := by
  have hu : Try.prog.underlying 33 = some (.struct (Try.prog.fieldsOf 33)) := by kernel_rfl
  have hf : (Try.prog.fieldsOf 33).toList = [⟨ "Client", 3, 0, false, "", "", 0⟩, ⟨ "Seq", 3, 1, false, "", "", 8⟩, ⟨ "Err", 30, 2, false, "", "", 16⟩, ⟨ "Found", 4, 3, false, "", "", 24⟩, ⟨ "Val", 9, 4, false, "", "", 32⟩, ⟨ "L", 31, 5, false, "", "", 48⟩, ⟨ "Next", 9, 6, false, "", "", 72⟩, ⟨ "More", 4, 7, false, "", "", 88⟩] := by kernel_rfl
  have hsl := rd_slice (P := Try.prog) (t := 31) (e := 84) (by kernel_rfl) (by decide +kernel) rdRec
  have h := rdf_cons (P := Try.prog) (f := ⟨ "Client", 3, 0, false, "", "", 0⟩) (o := 0) rfl (rd_int (k := .i64) (by kernel_rfl))
    (rdf_cons (f := ⟨ "Seq", 3, 1, false, "", "", 8⟩) (by kernel_rfl) (rd_int (k := .i64) (by kernel_rfl))
    (rdf_cons (f := ⟨ "Err", 30, 2, false, "", "", 16⟩) (by kernel_rfl) (rd_int (k := .i64) (by kernel_rfl))
    (rdf_cons (f := ⟨ "Found", 4, 3, false, "", "", 24⟩) (by kernel_rfl) (rd_bool (by kernel_rfl))
    (rdf_cons (f := ⟨ "Val", 9, 4, false, "", "", 32⟩) (by kernel_rfl) (rd_str (by kernel_rfl))
    (rdf_cons (f := ⟨ "L", 31, 5, false, "", "", 48⟩) (by kernel_rfl) hsl
    (rdf_cons (f := ⟨ "Next", 9, 6, false, "", "", 72⟩) (by kernel_rfl) (rd_str (by kernel_rfl))
    (rdf_cons (f := ⟨ "More", 4, 7, false, "", "", 88⟩) (by kernel_rfl) (rd_bool (by kernel_rfl)) (rdf_nil _))))))))
  rw [← hf] at h
  have hb : Try.prog.bytesOf 84 = 32 := by kernel_rfl
  refine (rd_struct hu (by kernel_rfl) h).map (fun x => ⟨x.1, x.2.1, x.2.2.1, x.2.2.2.1, x.2.2.2.2.1, x.2.2.2.2.2.1, x.2.2.2.2.2.2.1, x.2.2.2.2.2.2.2.1⟩) (fun x => rfl) (fun x hx => ⟨hx.2.2.2.2.1, hx.2.2.2.2.2.2.1, ?_, hx.2.2.2.2.2.1.2⟩)
  have h1 := hx.2.2.2.2.2.1.1
  rw [hb] at h1
  have h2 : x.2.2.2.2.2.1.length * 32 ≤ 140737488351232 := h1
  show x.2.2.2.2.2.1.length ≤ 140737488351232
  omega
theorem rdSpan : Rd Try.prog 35 (fun p : List UInt8 × List UInt8 => [.str p.1, .str p.2]) pairS := by
  have hu : Try.prog.underlying 35 = some (.struct (Try.prog.fieldsOf 35)) := by kernel_rfl
  have hf : (Try.prog.fieldsOf 35).toList = [⟨ "From", 9, 0, false, "", "", 0⟩, ⟨ "To", 9, 1, false, "", "", 16⟩] := by kernel_rfl
  have h := rdf_cons (P := Try.prog) (f := ⟨ "From", 9, 0, false, "", "", 0⟩) (o := 0) rfl (rd_str (by kernel_rfl))
    (rdf_cons (f := ⟨ "To", 9, 1, false, "", "", 16⟩) (by kernel_rfl) (rd_str (by kernel_rfl)) (rdf_nil _))
  rw [← hf] at h
  exact (rd_struct hu (by kernel_rfl) h).map (fun x => (x.1, x.2.1)) (fun x => rfl) (fun x hx => ⟨hx.1, hx.2.1⟩)
theorem rdSh : Rd Try.prog 96 ShV.cells (fun s => pairS s.span) := by
  have hu : Try.prog.underlying 96 = some (.struct (Try.prog.fieldsOf 96)) := by kernel_rfl
  have hf : (Try.prog.fieldsOf 96).toList = [⟨ "Span", 35, 0, false, "", "", 0⟩, ⟨ "Node", 3, 2, false, "", "", 32⟩, ⟨ "Epoch", 3, 3, false, "", "", 40⟩] := by kernel_rfl
  have h := rdf_cons (P := Try.prog) (f := ⟨ "Span", 35, 0, false, "", "", 0⟩) (o := 0) rfl rdSpan
    (rdf_cons (f := ⟨ "Node", 3, 2, false, "", "", 32⟩) (by kernel_rfl) (rd_int (k := .i64) (by kernel_rfl))
    (rdf_cons (f := ⟨ "Epoch", 3, 3, false, "", "", 40⟩) (by kernel_rfl) (rd_int (k := .i64) (by kernel_rfl)) (rdf_nil _)))
  rw [← hf] at h
  exact (rd_struct hu (by kernel_rfl) h).map (U := ShV) (fun x => ⟨x.1.1, x.1.2, x.2.1, x.2.2.1⟩) (fun x => rfl) (fun x hx => by obtain ⟨h1, _⟩ := hx; exact ⟨h1.1, h1.2⟩)
theorem le_of_mul {n b : Nat} (hb : 1 ≤ b) (h : n * b ≤ reachBytes) : n ≤ big := by
  have h1 : n * 1 ≤ n * b := Nat.mul_le_mul_left n hb
  have h2 : reachBytes = big := rfl
  omega
theorem rdAt : Rd Try.prog 39 (fun a : Int × List ShV => [.int .i64 a.1, .imm (a.2.map ShV.cells) false false]) (fun a => a.2.length ≤ big ∧ ∀ s ∈ a.2, pairS s.span) := by
  have hu : Try.prog.underlying 39 = some (.struct (Try.prog.fieldsOf 39)) := by kernel_rfl
  have hf : (Try.prog.fieldsOf 39).toList = [⟨ "Epoch", 3, 0, false, "", "", 0⟩, ⟨ "L", 37, 1, false, "", "", 8⟩] := by kernel_rfl
  have hsl := rd_slice (P := Try.prog) (t := 37) (e := 96) (by kernel_rfl) (by decide +kernel) rdSh
  have h := rdf_cons (P := Try.prog) (f := ⟨ "Epoch", 3, 0, false, "", "", 0⟩) (o := 0) rfl (rd_int (k := .i64) (by kernel_rfl))
    (rdf_cons (f := ⟨ "L", 37, 1, false, "", "", 8⟩) (by kernel_rfl) hsl (rdf_nil _))
  rw [← hf] at h
  have hb : Try.prog.bytesOf 96 = 48 := by kernel_rfl
  refine (rd_struct hu (by kernel_rfl) h).map (fun x => (x.1, x.2.1)) (fun x => rfl) (fun x hx => ⟨le_of_mul (b := Try.prog.bytesOf 96) (by rw [hb]; decide) hx.2.1.1, hx.2.1.2⟩)
theorem rdRow : Rd Try.prog 41 RowV.cells RowV.okS := by
  have hu : Try.prog.underlying 41 = some (.struct (Try.prog.fieldsOf 41)) := by kernel_rfl
  have hf : (Try.prog.fieldsOf 41).toList = [⟨ "Kind", 3, 0, false, "", "", 0⟩, ⟨ "From", 3, 1, false, "", "", 8⟩, ⟨ "To", 3, 2, false, "", "", 16⟩, ⟨ "Epoch", 3, 3, false, "", "", 24⟩, ⟨ "Tick", 3, 4, false, "", "", 32⟩, ⟨ "Ask", 29, 5, false, "", "", 40⟩, ⟨ "Reply", 33, 13, false, "", "", 136⟩, ⟨ "Span", 35, 21, false, "", "", 232⟩, ⟨ "L", 31, 23, false, "", "", 264⟩, ⟨ "Last", 36, 24, false, "", "", 288⟩, ⟨ "Atlas", 39, 25, false, "", "", 312⟩] := by kernel_rfl
  have hl := rd_slice (P := Try.prog) (t := 31) (e := 84) (by kernel_rfl) (by decide +kernel) rdRec
  have hla := rd_slice (P := Try.prog) (t := 36) (e := 33) (by kernel_rfl) (by decide +kernel) rdRep
  have h := rdf_cons (P := Try.prog) (f := ⟨ "Kind", 3, 0, false, "", "", 0⟩) (o := 0) rfl (rd_int (k := .i64) (by kernel_rfl))
    (rdf_cons (f := ⟨ "From", 3, 1, false, "", "", 8⟩) (by kernel_rfl) (rd_int (k := .i64) (by kernel_rfl))
    (rdf_cons (f := ⟨ "To", 3, 2, false, "", "", 16⟩) (by kernel_rfl) (rd_int (k := .i64) (by kernel_rfl))
    (rdf_cons (f := ⟨ "Epoch", 3, 3, false, "", "", 24⟩) (by kernel_rfl) (rd_int (k := .i64) (by kernel_rfl))
    (rdf_cons (f := ⟨ "Tick", 3, 4, false, "", "", 32⟩) (by kernel_rfl) (rd_int (k := .i64) (by kernel_rfl))
    (rdf_cons (f := ⟨ "Ask", 29, 5, false, "", "", 40⟩) (by kernel_rfl) rdAsk
    (rdf_cons (f := ⟨ "Reply", 33, 13, false, "", "", 136⟩) (by kernel_rfl) rdRep
    (rdf_cons (f := ⟨ "Span", 35, 21, false, "", "", 232⟩) (by kernel_rfl) rdSpan
    (rdf_cons (f := ⟨ "L", 31, 23, false, "", "", 264⟩) (by kernel_rfl) hl
    (rdf_cons (f := ⟨ "Last", 36, 24, false, "", "", 288⟩) (by kernel_rfl) hla
    (rdf_cons (f := ⟨ "Atlas", 39, 25, false, "", "", 312⟩) (by kernel_rfl) rdAt (rdf_nil _)))))))))))
  rw [← hf] at h
  have hb1 : Try.prog.bytesOf 84 = 32 := by kernel_rfl
  have hb2 : Try.prog.bytesOf 33 = 96 := by kernel_rfl
  refine (rd_struct hu (by kernel_rfl) h).map (fun x => ⟨x.1, x.2.1, x.2.2.1, x.2.2.2.1, x.2.2.2.2.1, x.2.2.2.2.2.1, x.2.2.2.2.2.2.1, x.2.2.2.2.2.2.2.1.1, x.2.2.2.2.2.2.2.1.2, x.2.2.2.2.2.2.2.2.1, x.2.2.2.2.2.2.2.2.2.1, x.2.2.2.2.2.2.2.2.2.2.1.1, x.2.2.2.2.2.2.2.2.2.2.1.2⟩) (fun x => rfl) (fun x hx => ?_)
  obtain ⟨_, _, _, _, _, ha, hr, hs, hl', hla', hat, _⟩ := hx
  exact ⟨ha, hr, hs.1, hs.2, le_of_mul (b := Try.prog.bytesOf 84) (by rw [hb1]; decide) hl'.1, hl'.2, le_of_mul (b := Try.prog.bytesOf 33) (by rw [hb2]; decide) hla'.1, hla'.2, hat.1, hat.2⟩
end Go.Proofs.Ytndlgmciplckjab.note
