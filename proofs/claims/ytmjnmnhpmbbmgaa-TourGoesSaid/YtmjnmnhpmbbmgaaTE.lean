/- The reference's last answers, of the client 0: where they are, what is seen, what is noted. No condition. -/
import Derived.Test.YtmjnmnhpmbbmgaaTD
set_option linter.unusedVariables false
set_option linter.unusedSimpArgs false
namespace Go.Proofs.Ytmjnmnhpmbbmgaa.tour
open Go.ChangeShapes Go.WideShapes Go.ChangeAt Go.RowKit Go.Gz Go.Gz.H
abbrev r56_0 : List MOper := [⟨(some 4), .move (.c (.int .i64 0)), none⟩,
  ⟨(some 5), .move (.c (.bool false)), none⟩]
def b56_0 : SCode := .region r56_0
abbrev r56_1 : List MOper := [⟨(some 6), .move (.c (.int .i64 0)), none⟩]
def b56_1 : SCode := .region r56_1
abbrev r56_2 : List MOper := [⟨(some 7), .move (.t 6), none⟩,
  ⟨(some 8), .move (.t 0), none⟩,
  ⟨(some 9), .nilCheck (.t 8), none⟩,
  ⟨(some 10), .fieldAddr 0 (.t 9), none⟩,
  ⟨(some 11), .load1 (.t 10), none⟩,
  ⟨(some 12), .lenSl (.t 11), none⟩,
  ⟨(some 13), .bin .lss .num (.t 7) (.t 12), none⟩,
  ⟨(some 14), .move (.t 13), none⟩,
  ⟨(some 15), .move (.t 0), (some (14, true))⟩,
  ⟨(some 16), .nilCheck (.t 15), (some (14, true))⟩,
  ⟨(some 17), .fieldAddr 0 (.t 16), (some (14, true))⟩,
  ⟨(some 18), .load1 (.t 17), (some (14, true))⟩,
  ⟨(some 19), .move (.t 6), (some (14, true))⟩,
  ⟨(some 20), .indexAddr 9 (.t 18) (.t 19), (some (14, true))⟩,
  ⟨(some 21), .fieldAddr 1 (.t 20), (some (14, true))⟩,
  ⟨(some 22), .fieldAddr 0 (.t 21), (some (14, true))⟩,
  ⟨(some 23), .load1 (.t 22), (some (14, true))⟩,
  ⟨(some 24), .move (.t 1), (some (14, true))⟩,
  ⟨(some 25), .bin .lss .num (.t 23) (.t 24), (some (14, true))⟩,
  ⟨(some 26), .pick (.t 14) (.t 25) (.c (.bool false)), none⟩]
def b56_2 : SCode := .region r56_2
def b56_3 : SCode := .cond (.t 26) .skip (.exit 0)
def b56_4 : SCode := .seq b56_2 b56_3
abbrev r56_5 : List MOper := [⟨(some 27), .move (.t 6), none⟩,
  ⟨(some 28), .bin .add .num (.t 27) (.c (.int .i64 1)), none⟩,
  ⟨(some 6), .move (.t 28), none⟩]
def b56_5 : SCode := .region r56_5
def b56_6 : SCode := .block 1 b56_5
def b56_7 : SCode := .seq b56_4 b56_6
def b56_8 : SCode := .loop b56_7
def b56_9 : SCode := .block 0 b56_8
abbrev t56_10 : LTree := (.quiet ⟨(some 29), .move (.t 6), none⟩ 0
  (.quiet ⟨(some 30), .move (.t 6), none⟩ 1
  (.quiet ⟨(some 31), .move (.t 0), none⟩ 2
  (.quiet ⟨(some 32), .nilCheck (.t 31), none⟩ 3
  (.quiet ⟨(some 33), .fieldAddr 0 (.t 32), none⟩ 4
  (.quiet ⟨(some 34), .load1 (.t 33), none⟩ 5
  (.quiet ⟨(some 35), .lenSl (.t 34), none⟩ 6
  (.quiet ⟨(some 36), .bin .lss .num (.t 30) (.t 35), none⟩ 7
  (.quiet ⟨(some 37), .move (.t 36), none⟩ 8
  (.quiet ⟨(some 38), .move (.t 0), (some (37, true))⟩ 9
  (.quiet ⟨(some 39), .nilCheck (.t 38), (some (37, true))⟩ 10
  (.quiet ⟨(some 40), .fieldAddr 0 (.t 39), (some (37, true))⟩ 11
  (.quiet ⟨(some 41), .load1 (.t 40), (some (37, true))⟩ 12
  (.quiet ⟨(some 42), .move (.t 6), (some (37, true))⟩ 13
  (.quiet ⟨(some 43), .indexAddr 9 (.t 41) (.t 42), (some (37, true))⟩ 14
  (.quiet ⟨(some 44), .fieldAddr 1 (.t 43), (some (37, true))⟩ 15
  (.quiet ⟨(some 45), .fieldAddr 0 (.t 44), (some (37, true))⟩ 16
  (.quiet ⟨(some 46), .load1 (.t 45), (some (37, true))⟩ 17
  (.quiet ⟨(some 47), .move (.t 1), (some (37, true))⟩ 18
  (.quiet ⟨(some 48), .bin .eql .num (.t 46) (.t 47), (some (37, true))⟩ 19
  (.quiet ⟨(some 49), .pick (.t 37) (.t 48) (.c (.bool false)), none⟩ 20
  (.quiet ⟨(some 4), .move (.t 29), none⟩ 21
  (.quiet ⟨(some 5), .move (.t 49), none⟩ 22
  .leaf)))))))))))))))))))))))
def b56_10 : SCode := .draw t56_10
def b56_11 : SCode := .seq b56_10 .ret
def b56_12 : SCode := .seq b56_9 b56_11
def b56_13 : SCode := .seq b56_1 b56_12
def b56_14 : SCode := .seq b56_0 b56_13
def s56 : SFunc := ⟨50, [.t 4, .t 5], b56_14⟩
theorem c56 : sFn Try.prog 56 = some s56 := by kernel_rfl
theorem Z56 : XR b56_0 r56_0 ∧ XR b56_1 r56_1 ∧ XR b56_2 r56_2 ∧ XC b56_3 (.t 26) .skip (.exit 0) ∧ XS b56_4 b56_2 b56_3 ∧ XR b56_5 r56_5 ∧ XB b56_6 1 b56_5 ∧ XS b56_7 b56_4 b56_6 ∧ XB b56_9 0 b56_8 ∧ XT b56_10 t56_10 ∧ XS b56_11 b56_10 .ret ∧ XS b56_12 b56_9 b56_11 ∧ XS b56_13 b56_1 b56_12 ∧ XS b56_14 b56_0 b56_13 ∧ XY s56 50 b56_14 [.t 4, .t 5] := ⟨rfl, rfl, rfl, sC_cond, rfl, rfl, rfl, rfl, rfl, rfl, rfl, rfl, rfl, rfl, rfl⟩
abbrev r41_0 : List MOper := [⟨(some 6), .alloc [.int .i64 0, .int .i64 0, .int .i64 0, .bool false, .str [], .nilslice, .str [], .bool false], none⟩,
  ⟨(some 7), .move (.c (.int .i64 0)), none⟩]
def b41_0 : SCode := .region r41_0
abbrev r41_1 : List MOper := [⟨(some 12), .move (.t 0), none⟩,
  ⟨(some 13), .move (.t 1), none⟩,
  ⟨(some 14), .call 56 [(.t 12), (.t 13)], none⟩,
  ⟨(some 11), .move (.t 14), none⟩,
  ⟨(some 15), .extract (.t 11) 0, none⟩,
  ⟨(some 16), .extract (.t 11) 1, none⟩,
  ⟨(some 8), .move (.t 15), none⟩,
  ⟨(some 9), .move (.t 16), none⟩]
def b41_1 : SCode := .region r41_1
abbrev r41_2 : List MOper := [⟨(some 10), .move (.c (.int .i64 (-1))), none⟩]
def b41_2 : SCode := .region r41_2
abbrev r41_3 : List MOper := [⟨(some 17), .move (.t 9), none⟩]
def b41_3 : SCode := .region r41_3
abbrev r41_4 : List MOper := [⟨(some 18), .move (.t 0), none⟩,
  ⟨(some 19), .nilCheck (.t 18), none⟩,
  ⟨(some 20), .fieldAddr 0 (.t 19), none⟩,
  ⟨(some 21), .load1 (.t 20), none⟩,
  ⟨(some 22), .move (.t 8), none⟩,
  ⟨(some 23), .indexAddr 9 (.t 21) (.t 22), none⟩,
  ⟨(some 24), .fieldAddr 0 (.t 23), none⟩,
  ⟨(some 25), .load1 (.t 24), none⟩,
  ⟨(some 10), .move (.t 25), none⟩]
def b41_4 : SCode := .region r41_4
def b41_5 : SCode := .cond (.t 17) b41_4 .skip
def b41_6 : SCode := .seq b41_3 b41_5
abbrev r41_7 : List MOper := [⟨(some 27), .move (.t 2), none⟩,
  ⟨(some 28), .move (.t 10), none⟩,
  ⟨(some 29), .bin .gtr .num (.t 27) (.t 28), none⟩,
  ⟨(some 26), .move (.t 29), none⟩]
def b41_7 : SCode := .region r41_7
abbrev r41_8 : List MOper := [⟨(some 30), .build [.int .i64 0, .int .i64 0, .int .i64 0, .bool false, .str [], .nilslice, .str [], .bool false] [], none⟩,
  ⟨none, .store 8 (.t 6) (.t 30), none⟩,
  ⟨(some 7), .move (.c (.int .i64 0)), none⟩]
def b41_8 : SCode := .region r41_8
def b41_9 : SCode := .seq b41_8 .ret
abbrev r41_10 : List MOper := [⟨(some 32), .move (.t 2), none⟩,
  ⟨(some 33), .move (.t 10), none⟩,
  ⟨(some 34), .bin .eql .num (.t 32) (.t 33), none⟩,
  ⟨(some 35), .move (.t 34), none⟩,
  ⟨(some 36), .move (.t 9), (some (35, true))⟩,
  ⟨(some 37), .pick (.t 35) (.t 36) (.c (.bool false)), none⟩,
  ⟨(some 31), .move (.t 37), none⟩]
def b41_10 : SCode := .region r41_10
abbrev r41_11 : List MOper := [⟨(some 38), .move (.t 0), none⟩,
  ⟨(some 39), .nilCheck (.t 38), none⟩,
  ⟨(some 40), .fieldAddr 0 (.t 39), none⟩,
  ⟨(some 41), .load1 (.t 40), none⟩,
  ⟨(some 42), .move (.t 8), none⟩,
  ⟨(some 43), .indexAddr 9 (.t 41) (.t 42), none⟩,
  ⟨(some 44), .fieldAddr 1 (.t 43), none⟩,
  ⟨(some 45), .loadN 8 (.t 44), none⟩,
  ⟨none, .store 8 (.t 6) (.t 45), none⟩,
  ⟨(some 7), .move (.c (.int .i64 1)), none⟩]
def b41_11 : SCode := .region r41_11
def b41_12 : SCode := .seq b41_11 .ret
def b41_13 : SCode := .cond (.t 31) b41_12 .skip
def b41_14 : SCode := .seq b41_10 b41_13
def b41_15 : SCode := .cond (.t 26) b41_9 b41_14
def b41_16 : SCode := .seq b41_7 b41_15
def b41_17 : SCode := .block 0 b41_16
abbrev r41_18 : List MOper := [⟨(some 46), .build [.int .i64 0, .int .i64 0, .int .i64 0, .bool false, .str [], .nilslice, .str [], .bool false] [], none⟩,
  ⟨none, .store 8 (.t 6) (.t 46), none⟩,
  ⟨(some 7), .move (.c (.int .i64 2)), none⟩]
def b41_18 : SCode := .region r41_18
def b41_19 : SCode := .seq b41_18 .ret
def b41_20 : SCode := .seq b41_17 b41_19
def b41_21 : SCode := .seq b41_6 b41_20
def b41_22 : SCode := .seq b41_2 b41_21
def b41_23 : SCode := .seq b41_1 b41_22
def b41_24 : SCode := .seq b41_0 b41_23
def s41 : SFunc := ⟨47, [.cN 6 8, .t 7], b41_24⟩
theorem c41 : sFn Try.prog 41 = some s41 := by kernel_rfl
theorem Z41 : XR b41_0 r41_0 ∧ XR b41_1 r41_1 ∧ XR b41_2 r41_2 ∧ XR b41_3 r41_3 ∧ XR b41_4 r41_4 ∧ XC b41_5 (.t 17) b41_4 .skip ∧ XS b41_6 b41_3 b41_5 ∧ XR b41_7 r41_7 ∧ XR b41_8 r41_8 ∧ XS b41_9 b41_8 .ret ∧ XR b41_10 r41_10 ∧ XR b41_11 r41_11 ∧ XS b41_12 b41_11 .ret ∧ XC b41_13 (.t 31) b41_12 .skip ∧ XS b41_14 b41_10 b41_13 ∧ XC b41_15 (.t 26) b41_9 b41_14 ∧ XS b41_16 b41_7 b41_15 ∧ XB b41_17 0 b41_16 ∧ XR b41_18 r41_18 ∧ XS b41_19 b41_18 .ret ∧ XS b41_20 b41_17 b41_19 ∧ XS b41_21 b41_6 b41_20 ∧ XS b41_22 b41_2 b41_21 ∧ XS b41_23 b41_1 b41_22 ∧ XS b41_24 b41_0 b41_23 ∧ XY s41 47 b41_24 [.cN 6 8, .t 7] := ⟨rfl, rfl, rfl, rfl, rfl, sC_cond, rfl, rfl, rfl, rfl, rfl, rfl, rfl, sC_cond, rfl, sC_cond, rfl, rfl, rfl, rfl, rfl, rfl, rfl, rfl, rfl, rfl⟩
abbrev r36_0 : List MOper := [⟨(some 3), .box (.t 1), none⟩,
  ⟨(some 4), .move (.c (.bool false)), none⟩]
def b36_0 : SCode := .region r36_0
abbrev r36_1 : List MOper := [⟨(some 9), .move (.t 0), none⟩,
  ⟨(some 10), .fieldAddr 0 (.t 3), none⟩,
  ⟨(some 11), .load1 (.t 10), none⟩,
  ⟨(some 12), .call 56 [(.t 9), (.t 11)], none⟩,
  ⟨(some 8), .move (.t 12), none⟩,
  ⟨(some 13), .extract (.t 8) 0, none⟩,
  ⟨(some 14), .extract (.t 8) 1, none⟩,
  ⟨(some 5), .move (.t 13), none⟩,
  ⟨(some 6), .move (.t 14), none⟩]
def b36_1 : SCode := .region r36_1
abbrev t36_2 : LTree := (.quiet ⟨(some 15), .fieldAddr 1 (.t 3), none⟩ 0
  (.quiet ⟨(some 16), .load1 (.t 15), none⟩ 1
  (.quiet ⟨(some 17), .bin .lss .num (.t 16) (.c (.int .i64 0)), none⟩ 2
  (.quiet ⟨(some 18), .move (.t 17), none⟩ 3
  (.quiet ⟨(some 19), .move (.t 6), (some (18, false))⟩ 4
  (.quiet ⟨(some 20), .move (.t 19), (some (18, false))⟩ 5
  (.quiet ⟨(some 21), .fieldAddr 1 (.t 3), (some (20, true))⟩ 6
  (.quiet ⟨(some 22), .load1 (.t 21), (some (20, true))⟩ 7
  (.quiet ⟨(some 23), .move (.t 0), (some (20, true))⟩ 8
  (.quiet ⟨(some 24), .nilCheck (.t 23), (some (20, true))⟩ 9
  (.quiet ⟨(some 25), .fieldAddr 0 (.t 24), (some (20, true))⟩ 10
  (.quiet ⟨(some 26), .load1 (.t 25), (some (20, true))⟩ 11
  (.quiet ⟨(some 27), .move (.t 5), (some (20, true))⟩ 12
  (.quiet ⟨(some 28), .indexAddr 9 (.t 26) (.t 27), (some (20, true))⟩ 13
  (.quiet ⟨(some 29), .fieldAddr 0 (.t 28), (some (20, true))⟩ 14
  (.quiet ⟨(some 30), .load1 (.t 29), (some (20, true))⟩ 15
  (.quiet ⟨(some 31), .bin .leq .num (.t 22) (.t 30), (some (20, true))⟩ 16
  (.quiet ⟨(some 32), .pick (.t 20) (.t 31) (.c (.bool false)), (some (18, false))⟩ 17
  (.quiet ⟨(some 33), .pick (.t 18) (.c (.bool true)) (.t 32), none⟩ 18
  .leaf)))))))))))))))))))
def b36_2 : SCode := .draw t36_2
abbrev r36_3 : List MOper := [⟨(some 4), .move (.c (.bool false)), none⟩]
def b36_3 : SCode := .region r36_3
def b36_4 : SCode := .seq b36_3 .ret
def b36_5 : SCode := .cond (.t 33) b36_4 .skip
def b36_6 : SCode := .seq b36_2 b36_5
abbrev r36_7 : List MOper := [⟨(some 34), .fieldAddr 1 (.t 3), none⟩,
  ⟨(some 35), .load1 (.t 34), none⟩,
  ⟨(some 36), .loadN 8 (.t 3), none⟩,
  ⟨(some 37), .build [.int .i64 0, .int .i64 0, .int .i64 0, .int .i64 0, .bool false, .str [], .nilslice, .str [], .bool false] [(0, 1, (.t 35)), (1, 8, (.t 36))], none⟩,
  ⟨(some 7), .alloc [.int .i64 0, .int .i64 0, .int .i64 0, .int .i64 0, .bool false, .str [], .nilslice, .str [], .bool false], none⟩,
  ⟨none, .store 9 (.t 7) (.t 37), none⟩]
def b36_7 : SCode := .region r36_7
abbrev r36_8 : List MOper := [⟨(some 38), .move (.t 6), none⟩]
def b36_8 : SCode := .region r36_8
abbrev t36_9 : LTree := (.quiet ⟨(some 39), .move (.t 0), none⟩ 0
  (.quiet ⟨(some 40), .nilCheck (.t 39), none⟩ 1
  (.quiet ⟨(some 41), .fieldAddr 0 (.t 40), none⟩ 2
  (.quiet ⟨(some 42), .load1 (.t 41), none⟩ 3
  (.quiet ⟨(some 43), .move (.t 5), none⟩ 4
  (.quiet ⟨(some 44), .loadN 9 (.t 7), none⟩ 5
  (.quiet ⟨(some 45), .indexAddr 9 (.t 42) (.t 43), none⟩ 6
  (.loud ⟨none, .store 9 (.t 45) (.t 44), none⟩ []
  .leaf .stop))))))))
def b36_9 : SCode := .draw t36_9
abbrev t36_10 : LTree := (.quiet ⟨(some 46), .move (.t 0), none⟩ 0
  (.quiet ⟨(some 47), .move (.t 0), none⟩ 1
  (.quiet ⟨(some 48), .nilCheck (.t 47), none⟩ 2
  (.quiet ⟨(some 49), .fieldAddr 0 (.t 48), none⟩ 3
  (.quiet ⟨(some 50), .load1 (.t 49), none⟩ 4
  (.quiet ⟨(some 51), .move (.t 5), none⟩ 5
  (.quiet ⟨(some 52), .slice 9 (.t 50) none (some (.t 51)) none, none⟩ 6
  (.quiet ⟨(some 54), .loadN 9 (.t 7), none⟩ 8
  (.quiet ⟨(some 57), .move (.t 0), none⟩ 11
  (.quiet ⟨(some 58), .nilCheck (.t 57), none⟩ 12
  (.quiet ⟨(some 59), .fieldAddr 0 (.t 58), none⟩ 13
  (.quiet ⟨(some 60), .load1 (.t 59), none⟩ 14
  (.quiet ⟨(some 61), .move (.t 5), none⟩ 15
  (.quiet ⟨(some 62), .slice 9 (.t 60) (some (.t 61)) none none, none⟩ 16
  (.loud ⟨(some 53), .append 9 104 (.c (.nilslice)) (.t 52), none⟩ [8, 14]
  (.loud ⟨(some 55), .buildSlice [.int .i64 0, .int .i64 0, .int .i64 0, .int .i64 0, .bool false, .str [], .nilslice, .str [], .bool false] 9 1 [(0, 9, (.t 54))], none⟩ [4, 14]
  (.loud ⟨(some 56), .append 9 104 (.t 53) (.t 55), none⟩ [14]
  (.loud ⟨(some 63), .append 9 104 (.t 56) (.t 62), none⟩ []
  (.quiet ⟨(some 64), .nilCheck (.t 46), none⟩ 18
  (.quiet ⟨(some 65), .fieldAddr 0 (.t 64), none⟩ 19
  (.loud ⟨none, .store 1 (.t 65) (.t 63), none⟩ []
  .leaf .stop))) .stop) .stop) .stop) (.loud ⟨(some 55), .buildSlice [.int .i64 0, .int .i64 0, .int .i64 0, .int .i64 0, .bool false, .str [], .nilslice, .str [], .bool false] 9 1 [(0, 9, (.t 54))], none⟩ [4, 14]
  (.loud ⟨(some 53), .append 9 104 (.c (.nilslice)) (.t 52), none⟩ [8, 14]
  (.loud ⟨(some 56), .append 9 104 (.t 53) (.t 55), none⟩ [14]
  (.loud ⟨(some 63), .append 9 104 (.t 56) (.t 62), none⟩ []
  (.quiet ⟨(some 64), .nilCheck (.t 46), none⟩ 18
  (.quiet ⟨(some 65), .fieldAddr 0 (.t 64), none⟩ 19
  (.loud ⟨none, .store 1 (.t 65) (.t 63), none⟩ []
  .leaf .stop))) .stop) .stop) .stop) .stop))))))))))))))))
def b36_10 : SCode := .draw t36_10
def b36_11 : SCode := .cond (.t 38) b36_9 b36_10
def b36_12 : SCode := .seq b36_8 b36_11
abbrev r36_13 : List MOper := [⟨(some 4), .move (.c (.bool true)), none⟩]
def b36_13 : SCode := .region r36_13
def b36_14 : SCode := .seq b36_13 .ret
def b36_15 : SCode := .seq b36_12 b36_14
def b36_16 : SCode := .seq b36_7 b36_15
def b36_17 : SCode := .seq b36_6 b36_16
def b36_18 : SCode := .seq b36_1 b36_17
def b36_19 : SCode := .seq b36_0 b36_18
def s36 : SFunc := ⟨66, [.t 4], b36_19⟩
theorem c36 : sFn Try.prog 36 = some s36 := by kernel_rfl
theorem Z36 : XR b36_0 r36_0 ∧ XR b36_1 r36_1 ∧ XT b36_2 t36_2 ∧ XR b36_3 r36_3 ∧ XS b36_4 b36_3 .ret ∧ XC b36_5 (.t 33) b36_4 .skip ∧ XS b36_6 b36_2 b36_5 ∧ XR b36_7 r36_7 ∧ XR b36_8 r36_8 ∧ XT b36_9 t36_9 ∧ XT b36_10 t36_10 ∧ XC b36_11 (.t 38) b36_9 b36_10 ∧ XS b36_12 b36_8 b36_11 ∧ XR b36_13 r36_13 ∧ XS b36_14 b36_13 .ret ∧ XS b36_15 b36_12 b36_14 ∧ XS b36_16 b36_7 b36_15 ∧ XS b36_17 b36_6 b36_16 ∧ XS b36_18 b36_1 b36_17 ∧ XS b36_19 b36_0 b36_18 ∧ XY s36 66 b36_19 [.t 4] := ⟨rfl, rfl, rfl, rfl, rfl, sC_cond, rfl, rfl, rfl, rfl, rfl, sC_cond, rfl, rfl, rfl, rfl, rfl, rfl, rfl, rfl, rfl⟩

set_option maxHeartbeats 4000000
set_option maxRecDepth 10000
def onRow (s : Nat) (f : Bool) : List AV := [.int .i64 (s : Int), .int .i64 0, .int .i64 (s : Int), .int .i64 0, .bool f, .str [], .nilslice, .str [], .bool false]
def onC : Option (Nat × Bool) → List (List AV)
  | none => []
  | some p => [onRow p.1 p.2]
def OnceAt (σ : AHeap) (H off : Nat) (cells : List AV) (Ov : AV) (o : Option (Nat × Bool)) : Prop := hget σ H = some cells ∧ cells[off]? = some Ov ∧ Grow σ Ov 9 (onC o)
theorem Kp.once {σ τ : AHeap} {H off : Nat} {cells : List AV} {Ov : AV} {o} (hk : Kp σ τ) (h : OnceAt σ H off cells Ov o) : OnceAt τ H off cells Ov o := ⟨hk _ _ h.1, h.2.1, hk.grow h.2.2⟩
/-- Nil, or one row at its block. -/
theorem once_cases {σ : AHeap} {Ov : AV} {o} (h : Grow σ Ov 9 (onC o)) : (o = none ∧ ((Ov = .nilslice) ∨ ∃ d, Ov = .slice d 0 0 none 9 ∧ hget σ d = some [])) ∨ ∃ s f d, o = some (s, f) ∧ Ov = .slice d 0 1 none 9 ∧ hget σ d = some (onRow s f) := by
  cases o with
  | none =>
    refine .inl ⟨rfl, ?_⟩
    rcases h with ⟨rfl, _⟩ | ⟨d, rfl, hd, _⟩
    · exact .inl rfl
    · exact .inr ⟨d, rfl, hd⟩
  | some p =>
    obtain ⟨s, f⟩ := p
    rcases h with ⟨_, h0⟩ | ⟨d, rfl, hd, _⟩
    · cases h0
    · exact .inr ⟨s, f, d, rfl, rfl, by simpa [onC, onRow] using hd⟩
def oatD (args : List AV) (σ : AHeap) (K : AV → AHeap → Prop) : Prop := ∃ (H off : Nat) (cells : List AV) (Ov : AV) (o : Option (Nat × Bool)), args = [.ptr H off, .int .i64 0] ∧ OnceAt σ H off cells Ov o ∧ K (.tuple [.int .i64 0, .bool o.isSome]) σ
def oaI (σ0 : AHeap) (H off : Nat) (m : Nat) (e : Env) (σ : AHeap) : Prop := σ = σ0 ∧ e 0 = .ptr H off ∧ e 1 = .int .i64 0 ∧ e 6 = .int .i64 0
theorem oatD_ok (args : List AV) (σ : AHeap) (K : AV → AHeap → Prop) (h : oatD args σ K) : Tri Try.prog 56 args σ K := by
  obtain ⟨H, off, cells, Ov, o, rfl, ⟨hH, hc, hg⟩, h⟩ := h
  refine Tri.of_s c56 (noCall_sound _) ?_
  simp only [Z56, base1, ↓reduceIte, Nat.reduceAdd, Nat.reduceSub, Nat.reduceMul, Nat.reduceEqDiff, Nat.reduceLeDiff, Nat.reduceLT, Int.reduceLT, Int.reduceLE, Int.reduceEq, Int.reduceNe, Int.reduceToNat, Int.reduceAdd, Int.reduceSub, reduceCtorEq, Nat.reduceBEq, Nat.reduceBNe]
  refine sC_inv (a := b56_7) (oaI σ H off) 0 _ _ (.refl _ _ _) ⟨rfl, rfl, rfl, rfl⟩ ?_
  rintro m e σ' ⟨rfl, e0, e1, e6⟩
  rcases once_cases hg with ⟨rfl, rfl | ⟨d, rfl, hd⟩⟩ | ⟨s, f, d, rfl, rfl, hd⟩
  · simp only [Z56, base1, ↓reduceIte, Nat.reduceAdd, Nat.reduceSub, Nat.reduceMul, Nat.reduceEqDiff, Nat.reduceLeDiff, Nat.reduceLT, Int.reduceLT, Int.reduceLE, Int.reduceEq, Int.reduceNe, Int.reduceToNat, Int.reduceAdd, Int.reduceSub, reduceCtorEq, Nat.reduceBEq, Nat.reduceBNe, loopR_exit, loopR_ret, lenOf_nilS, e0, e1, e6, hH, hc]
    exact h
  · have l0 : lenOf (.slice d 0 0 none 9) = some 0 := rfl
    simp only [Z56, base1, ↓reduceIte, Nat.reduceAdd, Nat.reduceSub, Nat.reduceMul, Nat.reduceEqDiff, Nat.reduceLeDiff, Nat.reduceLT, Int.reduceLT, Int.reduceLE, Int.reduceEq, Int.reduceNe, Int.reduceToNat, Int.reduceAdd, Int.reduceSub, reduceCtorEq, Nat.reduceBEq, Nat.reduceBNe, loopR_exit, loopR_ret, l0, e0, e1, e6, hH, hc]
    exact h
  · have l0 : lenOf (.slice d 0 1 none 9) = some 1 := rfl
    have hcell : (onRow s f)[0 + 1]? = some (.int .i64 0) := rfl
    simp only [Z56, base1, ↓reduceIte, Nat.reduceAdd, Nat.reduceSub, Nat.reduceMul, Nat.reduceEqDiff, Nat.reduceLeDiff, Nat.reduceLT, Int.reduceLT, Int.reduceLE, Int.reduceEq, Int.reduceNe, Int.reduceToNat, Int.reduceAdd, Int.reduceSub, reduceCtorEq, Nat.reduceBEq, Nat.reduceBNe, loopR_exit, loopR_ret, l0, e0, e1, e6, hH, hc, hd, hcell]
    exact h
/-! A later number was not seen. -/
def nxtO (o : Option (Nat × Bool)) (s : Nat) : Bool := match o with
  | none => true
  | some p => decide (p.1 < s)
def zeroRep : List AV := [.int .i64 0, .int .i64 0, .int .i64 0, .bool false, .str [], .nilslice, .str [], .bool false]
def seeD (args : List AV) (σ : AHeap) (K : AV → AHeap → Prop) : Prop := ∃ (H off : Nat) (cells : List AV) (Ov : AV) (o : Option (Nat × Bool)) (s : Nat), args = [.ptr H off, .int .i64 0, .int .i64 (s : Int)] ∧ OnceAt σ H off cells Ov o ∧ nxtO o s = true ∧ ∀ σ', Kp σ σ' → K (.tuple [.agg zeroRep, .int .i64 0]) σ'
def U41 : PCall := rowQ 56 oatD noCall
theorem U41_app {f : FuncId} {args : List AV} {σ : AHeap} {K : AV → AHeap → Prop} : U41 f args σ K = rowQ 56 oatD noCall f args σ K := _root_.id rfl
theorem U41_sound : Sound Try.prog U41 := rowQ_sound oatD_ok (noCall_sound _)
theorem seeD_ok (args : List AV) (σ : AHeap) (K : AV → AHeap → Prop) (h : seeD args σ K) : Tri Try.prog 41 args σ K := by
  obtain ⟨H, off, cells, Ov, o, s, rfl, hO, hs, h⟩ := h
  refine Tri.of_s c41 U41_sound ?_
  simp only [U41_app, Z41, base1, ↓reduceIte, Nat.reduceAdd, Nat.reduceSub, Nat.reduceMul, Nat.reduceEqDiff, Nat.reduceLeDiff, Nat.reduceLT, Int.reduceLT, Int.reduceLE, Int.reduceEq, Int.reduceNe, Int.reduceToNat, Int.reduceAdd, Int.reduceSub, reduceCtorEq, Nat.reduceBEq, Nat.reduceBNe]
  have hO1 := (Kp.push (c := zeroRep)).once hO
  refine ⟨H, off, cells, Ov, o, rfl, hO1, ?_⟩
  obtain ⟨hH, hc, hg⟩ := hO1
  have hp := push_new (σ := σ) (c := zeroRep) rfl
  unfold zeroRep at hp hH h
  rcases once_cases hg with ⟨rfl, _⟩ | ⟨s0, f, d, rfl, rfl, hd⟩
  · have hlt : (-1 : Int) < (s : Int) := by omega
    simp only [U41_app, Z41, base1, ↓reduceIte, Nat.reduceAdd, Nat.reduceSub, Nat.reduceMul, Nat.reduceEqDiff, Nat.reduceLeDiff, Nat.reduceLT, Int.reduceLT, Int.reduceLE, Int.reduceEq, Int.reduceNe, Int.reduceToNat, Int.reduceAdd, Int.reduceSub, reduceCtorEq, Nat.reduceBEq, Nat.reduceBNe, Option.isSome_none, hp, set_same hp, hlt]
    exact h _ Kp.pushSet
  · have hlt : (s0 : Int) < (s : Int) := by
      have := of_decide_eq_true hs
      omega
    have hcell : (onRow s0 f)[0]? = some (.int .i64 (s0 : Int)) := rfl
    unfold zeroRep at hd
    simp only [U41_app, Z41, base1, ↓reduceIte, Nat.reduceAdd, Nat.reduceSub, Nat.reduceMul, Nat.reduceEqDiff, Nat.reduceLeDiff, Nat.reduceLT, Int.reduceLT, Int.reduceLE, Int.reduceEq, Int.reduceNe, Int.reduceToNat, Int.reduceAdd, Int.reduceSub, reduceCtorEq, Nat.reduceBEq, Nat.reduceBNe, Option.isSome_some, hp, set_same hp, hH, hc, hd, hcell, hlt]
    exact h _ Kp.pushSet
/-! It is noted. -/
abbrev repC (s : Nat) (f : Bool) : List AV := [.int .i64 0, .int .i64 (s : Int), .int .i64 0, .bool f, .str [], .nilslice, .str [], .bool false]
def notK (σ : AHeap) (H off : Nat) (cells : List AV) (Ov : AV) (s : Nat) (f : Bool) (K : AV → AHeap → Prop) : Prop :=
  ∀ σ' Ov', (∀ j c, hget σ j = some c → j ≠ H → LvD Ov ≠ some j → hget σ' j = some c) → (Ov' = Ov ∨ ∀ j c, hget σ j = some c → LvD Ov' ≠ some j) → hget σ' H = some (cells.set off Ov') → Grow σ' Ov' 9 (onC (some (s, f))) → K (.bool true) σ'
def notD (args : List AV) (σ : AHeap) (K : AV → AHeap → Prop) : Prop := ∃ (H off : Nat) (cells : List AV) (Ov : AV) (o : Option (Nat × Bool)) (s : Nat) (f : Bool), args = [.ptr H off, .agg (repC s f)] ∧ OnceAt σ H off cells Ov o ∧ LvD Ov ≠ some H ∧ nxtO o s = true ∧ notK σ H off cells Ov s f K
theorem notD_ok (args : List AV) (σ : AHeap) (K : AV → AHeap → Prop) (h : notD args σ K) : Tri Try.prog 36 args σ K := by
  obtain ⟨H, off, cells, Ov, o, s, f, rfl, hO, hOH, hs, h⟩ := h
  refine Tri.of_s c36 U41_sound ?_
  simp only [U41_app, Z36, base1, ↓reduceIte, Nat.reduceAdd, Nat.reduceSub, Nat.reduceMul, Nat.reduceEqDiff, Nat.reduceLeDiff, Nat.reduceLT, Int.reduceLT, Int.reduceLE, Int.reduceEq, Int.reduceNe, Int.reduceToNat, Int.reduceAdd, Int.reduceSub, reduceCtorEq, Nat.reduceBEq, Nat.reduceBNe]
  have kp1 : Kp σ (hpush σ (repC s f)) := Kp.push
  have hO1 := kp1.once hO
  have hp := push_new (σ := σ) (c := repC s f) rfl
  generalize hσ1 : hpush σ (repC s f) = σ1 at hO1 hp kp1
  have hc1 : (repC s f)[0]? = some (.int .i64 0) := rfl
  simp only [U41_app, Z36, base1, ↓reduceIte, Nat.reduceAdd, Nat.reduceSub, Nat.reduceMul, Nat.reduceEqDiff, Nat.reduceLeDiff, Nat.reduceLT, Int.reduceLT, Int.reduceLE, Int.reduceEq, Int.reduceNe, Int.reduceToNat, Int.reduceAdd, Int.reduceSub, reduceCtorEq, Nat.reduceBEq, Nat.reduceBNe, hσ1, hp, hc1]
  refine ⟨H, off, cells, Ov, o, rfl, hO1, ?_⟩
  obtain ⟨hH, hc, hg⟩ := hO1
  have hc2 : (repC s f)[1]? = some (.int .i64 (s : Int)) := rfl
  have hc3 : sub (repC s f) 0 8 = some (repC s f) := rfl
  have hs0 : ¬ (s : Int) < 0 := by omega
  have hoff : off < cells.length := (List.getElem?_eq_some_iff.1 hc).1
  let z9 : List AV := [.int .i64 0, .int .i64 0, .int .i64 0, .int .i64 0, .bool false, .str [], .nilslice, .str [], .bool false]
  have hp2 : hget (hpush σ1 [.int .i64 0, .int .i64 0, .int .i64 0, .int .i64 0, .bool false, .str [], .nilslice, .str [], .bool false]) σ1.length = some [.int .i64 0, .int .i64 0, .int .i64 0, .int .i64 0, .bool false, .str [], .nilslice, .str [], .bool false] := push_new rfl
  have hput : put [.int .i64 0, .int .i64 0, .int .i64 0, .int .i64 0, .bool false, .str [], .nilslice, .str [], .bool false] 0 (.int .i64 (s : Int) :: repC s f) = some (onRow s f) := rfl
  have kp2 : Kp σ1 (hset (hpush σ1 [.int .i64 0, .int .i64 0, .int .i64 0, .int .i64 0, .bool false, .str [], .nilslice, .str [], .bool false]) σ1.length (onRow s f)) := Kp.pushSet
  have hX : hget (hset (hpush σ1 [.int .i64 0, .int .i64 0, .int .i64 0, .int .i64 0, .bool false, .str [], .nilslice, .str [], .bool false]) σ1.length (onRow s f)) σ1.length = some (onRow s f) := set_same hp2
  generalize hσ2 : hset (hpush σ1 [.int .i64 0, .int .i64 0, .int .i64 0, .int .i64 0, .bool false, .str [], .nilslice, .str [], .bool false]) σ1.length (onRow s f) = σ2 at kp2 hX
  have k02 : Kp σ σ2 := kp1.trans kp2
  have hH2 := kp2 _ _ hH
  have hg2 := kp2.grow hg
  have h9 : sub (onRow s f) 0 9 = some (onRow s f) := rfl
  rcases once_cases hg with ⟨rfl, hov⟩ | ⟨s0, f0, d, rfl, rfl, hd⟩
  · obtain ⟨x, x1, x2⟩ := cut_to (sz := 104) (k := 0) hg2 (by decide)
    obtain ⟨y, y1, y2⟩ := cut_from (sz := 104) (k := 0) hg2 (by decide)
    obtain ⟨⟨v1, τ1, v2, τ2, v, τ, o0, o1, o2, o3, o4, o5, o6, o7, o8, o9, p1, p2, p3⟩, w1, π1, w2, π2, w, π, q0, q1, q2, q3, q4, q5, q6, q7, q8, q9, r1, r2, r3⟩ := ins_grow (b := 104) (by decide) hg2 (by decide) (by decide) (by decide) x2 y2 (onRow s f) rfl rfl
    have hτ := p1 _ _ hH2
    have hπ := r1 _ _ hH2
    have t1 := o0.1 _ _ hX
    have t2 := push_old (c := onRow s f) (o0.1 _ _ hH2)
    have t3 := q0.1 _ _ hX
    have t5 := o0.1 _ _ hH2
    have t6 := q0.1 _ _ hH2
    have t7 := o0.2 _ _ hH2
    have t8 := q0.2 _ _ hH2
    have t4 := push_old (c := onRow s f) hH2
    unfold onRow at hput hσ2 hX h9 o4 q1 t1 t2 t3 t4
    have x1' : evSlice 9 Ov none (some (.int .i64 0)) none = some x := x1
    have y1' : evSlice 9 Ov (some (.int .i64 0)) none none = some y := y1
    have fin : ∀ v τ, Kp σ2 τ → (∀ j c, hget σ2 j = some c → LvD v ≠ some j) → Grow τ v 9 [onRow s f] → K (.bool true) (hset τ H (cells.set off v)) := by
      intro v τ k1 k2 k3
      refine h _ v (fun j c hj hn _ => by rw [set_other (Ne.symm hn)]; exact k1 j c (k02 j c hj)) (.inr fun j c hj => k2 j c (k02 j c hj)) (set_same (k1 _ _ hH2)) ?_
      exact grow_frame k3 fun j c hj hd => by rw [set_other (fun e => k2 H _ hH2 (by rw [hd, e]))]; exact hj
    simp only [U41_app, Z36, base1, ↓reduceIte, Nat.reduceAdd, Nat.reduceSub, Nat.reduceMul, Nat.reduceEqDiff, Nat.reduceLeDiff, Nat.reduceLT, Int.reduceLT, Int.reduceLE, Int.reduceEq, Int.reduceNe, Int.reduceToNat, Int.reduceAdd, Int.reduceSub, reduceCtorEq, Nat.reduceBEq, Nat.reduceBNe, Option.isSome_none, hp, hc2, hc3, hs0, hp2, hput, hσ2, hX, h9, hH2, hc, x1', y1', o1, o2, o3, o4, o5, o6, o7, o8, o9, q1, q2, q3, q4, q5, q6, q7, q8, q9, hτ, hπ, t1, t2, t3, t4, t5, t6, t7, t8, put_one1 hoff]
    exact ⟨fin _ _ p1 p2 p3, fin _ _ r1 r2 r3⟩
  · have hle : ¬ (s : Int) ≤ (s0 : Int) := by
      have := of_decide_eq_true hs
      omega
    have hcell : (onRow s0 f0)[0]? = some (.int .i64 (s0 : Int)) := rfl
    have hd2 := kp2 _ _ hd
    have hput2 : put (onRow s0 f0) 0 (onRow s f) = some (onRow s f) := rfl
    have hdH : d ≠ H := fun e => hOH (by rw [e]; rfl)
    have hlen : (onRow s f).length = 9 := rfl
    have hall : (onRow s f).all (fun x => x.isCell) = true := rfl
    have hXd : hget (hset σ2 d (onRow s f)) σ1.length = some (onRow s f) := by rw [set_other (by have := hget_lt hd; omega)]; exact hX
    have hHd : hget (hset σ2 d (onRow s f)) H = some cells := by rw [set_other hdH]; exact hH2
    simp only [U41_app, Z36, base1, ↓reduceIte, Nat.reduceAdd, Nat.reduceSub, Nat.reduceMul, Nat.reduceEqDiff, Nat.reduceLeDiff, Nat.reduceLT, Int.reduceLT, Int.reduceLE, Int.reduceEq, Int.reduceNe, Int.reduceToNat, Int.reduceAdd, Int.reduceSub, reduceCtorEq, Nat.reduceBEq, Nat.reduceBNe, Option.isSome_some, hp, hc2, hc3, hs0, hH, hc, hd, hcell, hle, hp2, hput, hσ2, hX, h9, hH2, hd2, hput2, hlen, hall, hXd, hHd]
    have hcs : cells.set off (.slice d 0 1 none 9) = cells := by
      apply List.ext_getElem?
      intro i
      rw [List.getElem?_set]
      split
      · rename_i e; subst e; rw [hc]
      · rfl
    refine h (hset σ2 d (onRow s f)) (.slice d 0 1 none 9) (fun j c hj hn hm => by rw [set_other (fun e => hm (by rw [← e]; rfl))]; exact k02 j c hj) (.inl rfl) (by rw [hcs, set_other hdH]; exact hH2) ?_
    exact .inr ⟨d, rfl, by rw [set_same hd2]; simp [onC], by simp [onC, onRow], rfl⟩
end Go.Proofs.Ytmjnmnhpmbbmgaa.tour

/- Spans: whether one is empty, has a key, meets another. No condition. -/
set_option linter.unusedVariables false
set_option linter.unusedSimpArgs false
namespace Go.Proofs.Ytmjnmnhpmbbmgaa.tour
open Go.ChangeShapes Go.WideShapes Go.ChangeAt Go.RowKit Go.Gz Go.Gz.H
abbrev r33_0 : List MOper := [⟨(some 1), .box (.t 0), none⟩,
  ⟨(some 2), .move (.c (.bool false)), none⟩]
def b33_0 : SCode := .region r33_0
abbrev r33_1 : List MOper := [⟨(some 3), .fieldAddr 1 (.t 1), none⟩,
  ⟨(some 4), .load1 (.t 3), none⟩,
  ⟨(some 5), .bin .neq .num (.t 4) (.c (.str [])), none⟩,
  ⟨(some 6), .move (.t 5), none⟩,
  ⟨(some 7), .fieldAddr 0 (.t 1), (some (6, true))⟩,
  ⟨(some 8), .load1 (.t 7), (some (6, true))⟩,
  ⟨(some 9), .fieldAddr 1 (.t 1), (some (6, true))⟩,
  ⟨(some 10), .load1 (.t 9), (some (6, true))⟩,
  ⟨(some 11), .bin .geq .num (.t 8) (.t 10), (some (6, true))⟩,
  ⟨(some 12), .pick (.t 6) (.t 11) (.c (.bool false)), none⟩,
  ⟨(some 2), .move (.t 12), none⟩]
def b33_1 : SCode := .region r33_1
def b33_2 : SCode := .seq b33_1 .ret
def b33_3 : SCode := .seq b33_0 b33_2
def s33 : SFunc := ⟨13, [.t 2], b33_3⟩
theorem c33 : sFn Try.prog 33 = some s33 := by kernel_rfl
theorem Z33 : XR b33_0 r33_0 ∧ XR b33_1 r33_1 ∧ XS b33_2 b33_1 .ret ∧ XS b33_3 b33_0 b33_2 ∧ XY s33 13 b33_3 [.t 2] := ⟨rfl, rfl, rfl, rfl, rfl⟩
abbrev r34_0 : List MOper := [⟨(some 2), .box (.t 0), none⟩,
  ⟨(some 4), .move (.c (.bool false)), none⟩]
def b34_0 : SCode := .region r34_0
abbrev r34_1 : List MOper := [⟨(some 5), .move (.t 1), none⟩,
  ⟨(some 6), .fieldAddr 0 (.t 2), none⟩,
  ⟨(some 7), .load1 (.t 6), none⟩,
  ⟨(some 8), .bin .geq .num (.t 5) (.t 7), none⟩,
  ⟨(some 9), .move (.t 8), none⟩,
  ⟨(some 10), .move (.t 1), (some (9, true))⟩,
  ⟨(some 11), .fieldAddr 1 (.t 2), (some (9, true))⟩,
  ⟨(some 12), .load1 (.t 11), (some (9, true))⟩,
  ⟨(some 13), .bin .lss .num (.t 10) (.t 12), (some (9, true))⟩,
  ⟨(some 14), .move (.t 13), (some (9, true))⟩,
  ⟨(some 15), .fieldAddr 1 (.t 2), (some (14, false))⟩,
  ⟨(some 16), .load1 (.t 15), (some (14, false))⟩,
  ⟨(some 17), .bin .eql .num (.t 16) (.c (.str [])), (some (14, false))⟩,
  ⟨(some 18), .pick (.t 14) (.c (.bool true)) (.t 17), (some (9, true))⟩,
  ⟨(some 19), .pick (.t 9) (.t 18) (.c (.bool false)), none⟩,
  ⟨(some 4), .move (.t 19), none⟩]
def b34_1 : SCode := .region r34_1
def b34_2 : SCode := .seq b34_1 .ret
def b34_3 : SCode := .seq b34_0 b34_2
def s34 : SFunc := ⟨20, [.t 4], b34_3⟩
theorem c34 : sFn Try.prog 34 = some s34 := by kernel_rfl
theorem Z34 : XR b34_0 r34_0 ∧ XR b34_1 r34_1 ∧ XS b34_2 b34_1 .ret ∧ XS b34_3 b34_0 b34_2 ∧ XY s34 20 b34_3 [.t 4] := ⟨rfl, rfl, rfl, rfl, rfl⟩
abbrev r38_0 : List MOper := [⟨(some 2), .box (.t 0), none⟩,
  ⟨(some 3), .box (.t 1), none⟩,
  ⟨(some 4), .move (.c (.bool false)), none⟩]
def b38_0 : SCode := .region r38_0
abbrev r38_1 : List MOper := [⟨(some 5), .loadN 2 (.t 2), none⟩,
  ⟨(some 6), .call 33 [(.t 5)], none⟩,
  ⟨(some 7), .un .not (.t 6), none⟩,
  ⟨(some 8), .move (.t 7), none⟩,
  ⟨(some 9), .loadN 2 (.t 3), (some (8, true))⟩,
  ⟨(some 10), .call 33 [(.t 9)], (some (8, true))⟩,
  ⟨(some 11), .un .not (.t 10), (some (8, true))⟩,
  ⟨(some 12), .pick (.t 8) (.t 11) (.c (.bool false)), none⟩,
  ⟨(some 13), .move (.t 12), none⟩,
  ⟨(some 14), .fieldAddr 1 (.t 2), (some (13, true))⟩,
  ⟨(some 15), .load1 (.t 14), (some (13, true))⟩,
  ⟨(some 16), .bin .eql .num (.t 15) (.c (.str [])), (some (13, true))⟩,
  ⟨(some 17), .move (.t 16), (some (13, true))⟩,
  ⟨(some 18), .fieldAddr 0 (.t 3), (some (17, false))⟩,
  ⟨(some 19), .load1 (.t 18), (some (17, false))⟩,
  ⟨(some 20), .fieldAddr 1 (.t 2), (some (17, false))⟩,
  ⟨(some 21), .load1 (.t 20), (some (17, false))⟩,
  ⟨(some 22), .bin .lss .num (.t 19) (.t 21), (some (17, false))⟩,
  ⟨(some 23), .pick (.t 17) (.c (.bool true)) (.t 22), (some (13, true))⟩,
  ⟨(some 24), .pick (.t 13) (.t 23) (.c (.bool false)), none⟩,
  ⟨(some 25), .move (.t 24), none⟩,
  ⟨(some 26), .fieldAddr 1 (.t 3), (some (25, true))⟩,
  ⟨(some 27), .load1 (.t 26), (some (25, true))⟩,
  ⟨(some 28), .bin .eql .num (.t 27) (.c (.str [])), (some (25, true))⟩,
  ⟨(some 29), .move (.t 28), (some (25, true))⟩,
  ⟨(some 30), .fieldAddr 0 (.t 2), (some (29, false))⟩,
  ⟨(some 31), .load1 (.t 30), (some (29, false))⟩,
  ⟨(some 32), .fieldAddr 1 (.t 3), (some (29, false))⟩,
  ⟨(some 33), .load1 (.t 32), (some (29, false))⟩,
  ⟨(some 34), .bin .lss .num (.t 31) (.t 33), (some (29, false))⟩,
  ⟨(some 35), .pick (.t 29) (.c (.bool true)) (.t 34), (some (25, true))⟩,
  ⟨(some 36), .pick (.t 25) (.t 35) (.c (.bool false)), none⟩,
  ⟨(some 4), .move (.t 36), none⟩]
def b38_1 : SCode := .region r38_1
def b38_2 : SCode := .seq b38_1 .ret
def b38_3 : SCode := .seq b38_0 b38_2
def s38 : SFunc := ⟨37, [.t 4], b38_3⟩
theorem c38 : sFn Try.prog 38 = some s38 := by kernel_rfl
theorem Z38 : XR b38_0 r38_0 ∧ XR b38_1 r38_1 ∧ XS b38_2 b38_1 .ret ∧ XS b38_3 b38_0 b38_2 ∧ XY s38 37 b38_3 [.t 4] := ⟨rfl, rfl, rfl, rfl, rfl⟩

set_option maxHeartbeats 4000000
set_option maxRecDepth 10000
def emS (f t : Bs) : Bool := decide (t ≠ []) && !lessBytes f t
def hsS (f t key : Bs) : Bool := !lessBytes key f && (lessBytes key t || decide (t = []))
def mtS (a b c d : Bs) : Bool := !emS a b && !emS c d && (decide (b = []) || lessBytes c b) && (decide (d = []) || lessBytes a d)
theorem empty_ok (f t : Bs) : Tri Try.prog 33 [.agg [.str f, .str t]] [] fun r _ => r.pure = true ∧ r = .bool (emS f t) := by
  refine Tri.of_s c33 (noCall_sound _) ?_
  unfold emS
  by_cases h1 : t = []
  · simp only [Z33, base1, ↓reduceIte, Nat.reduceAdd, Nat.reduceSub, Nat.reduceMul, Nat.reduceEqDiff, Nat.reduceLeDiff, Nat.reduceLT, Int.reduceLT, Int.reduceLE, Int.reduceEq, Int.reduceNe, Int.reduceToNat, Int.reduceAdd, Int.reduceSub, reduceCtorEq, Nat.reduceBEq, Nat.reduceBNe, h1]; first | exact ⟨rfl, rfl⟩ | exact ⟨rfl, trivial⟩ | exact rfl
  · simp only [Z33, base1, ↓reduceIte, Nat.reduceAdd, Nat.reduceSub, Nat.reduceMul, Nat.reduceEqDiff, Nat.reduceLeDiff, Nat.reduceLT, Int.reduceLT, Int.reduceLE, Int.reduceEq, Int.reduceNe, Int.reduceToNat, Int.reduceAdd, Int.reduceSub, reduceCtorEq, Nat.reduceBEq, Nat.reduceBNe, h1]; first | exact ⟨rfl, rfl⟩ | exact ⟨rfl, trivial⟩ | exact rfl
def emptyD (args : List AV) (σ : AHeap) (K : AV → AHeap → Prop) : Prop := ∃ f t : Bs, args = [.agg [.str f, .str t]] ∧ K (.bool (emS f t)) σ
theorem emptyD_ok (args : List AV) (σ : AHeap) (K : AV → AHeap → Prop) (h : emptyD args σ K) : Tri Try.prog 33 args σ K := by
  obtain ⟨f, t, rfl, h⟩ := h
  exact (Tri.pureD rfl (empty_ok f t) σ).mono fun x σ' hr => by rw [hr.1, hr.2]; exact h
theorem has_ok (f t key : Bs) : Tri Try.prog 34 [.agg [.str f, .str t], .str key] [] fun r _ => r.pure = true ∧ r = .bool (hsS f t key) := by
  refine Tri.of_s c34 (noCall_sound _) ?_
  unfold hsS
  cases h1 : lessBytes key f with
  | true => simp only [Z34, base1, ↓reduceIte, Nat.reduceAdd, Nat.reduceSub, Nat.reduceMul, Nat.reduceEqDiff, Nat.reduceLeDiff, Nat.reduceLT, Int.reduceLT, Int.reduceLE, Int.reduceEq, Int.reduceNe, Int.reduceToNat, Int.reduceAdd, Int.reduceSub, reduceCtorEq, Nat.reduceBEq, Nat.reduceBNe, h1]; first | exact ⟨rfl, rfl⟩ | exact ⟨rfl, trivial⟩ | exact rfl
  | false =>
    cases h2 : lessBytes key t with
    | true => simp only [Z34, base1, ↓reduceIte, Nat.reduceAdd, Nat.reduceSub, Nat.reduceMul, Nat.reduceEqDiff, Nat.reduceLeDiff, Nat.reduceLT, Int.reduceLT, Int.reduceLE, Int.reduceEq, Int.reduceNe, Int.reduceToNat, Int.reduceAdd, Int.reduceSub, reduceCtorEq, Nat.reduceBEq, Nat.reduceBNe, h1, h2]; first | exact ⟨rfl, rfl⟩ | exact ⟨rfl, trivial⟩ | exact rfl
    | false => simp only [Z34, base1, ↓reduceIte, Nat.reduceAdd, Nat.reduceSub, Nat.reduceMul, Nat.reduceEqDiff, Nat.reduceLeDiff, Nat.reduceLT, Int.reduceLT, Int.reduceLE, Int.reduceEq, Int.reduceNe, Int.reduceToNat, Int.reduceAdd, Int.reduceSub, reduceCtorEq, Nat.reduceBEq, Nat.reduceBNe, h1, h2]; first | exact ⟨rfl, rfl⟩ | exact ⟨rfl, trivial⟩ | exact rfl
def hasD (args : List AV) (σ : AHeap) (K : AV → AHeap → Prop) : Prop := ∃ f t key : Bs, args = [.agg [.str f, .str t], .str key] ∧ K (.bool (hsS f t key)) σ
theorem hasD_ok (args : List AV) (σ : AHeap) (K : AV → AHeap → Prop) (h : hasD args σ K) : Tri Try.prog 34 args σ K := by
  obtain ⟨f, t, key, rfl, h⟩ := h
  exact (Tri.pureD rfl (has_ok f t key) σ).mono fun x σ' hr => by rw [hr.1, hr.2]; exact h
def U38 : PCall := rowQ 33 emptyD noCall
theorem U38_app {f : FuncId} {args : List AV} {σ : AHeap} {K : AV → AHeap → Prop} : U38 f args σ K = rowQ 33 emptyD noCall f args σ K := _root_.id rfl
theorem U38_sound : Sound Try.prog U38 := rowQ_sound emptyD_ok (noCall_sound _)
theorem emptyD_eq {f t : Bs} {σ : AHeap} {K : AV → AHeap → Prop} : emptyD [.agg [.str f, .str t]] σ K = K (.bool (emS f t)) σ := by
  refine propext ⟨fun ⟨f', t', h, hk⟩ => ?_, fun h => ⟨f, t, rfl, h⟩⟩
  simp only [List.cons.injEq, AV.agg.injEq, AV.str.injEq, and_true] at h
  rw [h.1, h.2]; exact hk
theorem meets_ok (a b c d : Bs) : Tri Try.prog 38 [.agg [.str a, .str b], .agg [.str c, .str d]] [] fun r _ => r.pure = true ∧ r = .bool (mtS a b c d) := by
  refine Tri.of_s c38 U38_sound ?_
  unfold mtS
  cases h1 : emS a b with
  | true => simp only [U38_app, emptyD_eq, Z38, base1, ↓reduceIte, Nat.reduceAdd, Nat.reduceSub, Nat.reduceMul, Nat.reduceEqDiff, Nat.reduceLeDiff, Nat.reduceLT, Int.reduceLT, Int.reduceLE, Int.reduceEq, Int.reduceNe, Int.reduceToNat, Int.reduceAdd, Int.reduceSub, reduceCtorEq, Nat.reduceBEq, Nat.reduceBNe, h1]; first | exact ⟨rfl, rfl⟩ | exact ⟨rfl, trivial⟩ | exact rfl
  | false =>
    cases h2 : emS c d with
    | true => simp only [U38_app, emptyD_eq, Z38, base1, ↓reduceIte, Nat.reduceAdd, Nat.reduceSub, Nat.reduceMul, Nat.reduceEqDiff, Nat.reduceLeDiff, Nat.reduceLT, Int.reduceLT, Int.reduceLE, Int.reduceEq, Int.reduceNe, Int.reduceToNat, Int.reduceAdd, Int.reduceSub, reduceCtorEq, Nat.reduceBEq, Nat.reduceBNe, h1, h2]; first | exact ⟨rfl, rfl⟩ | exact ⟨rfl, trivial⟩ | exact rfl
    | false =>
      by_cases h3 : b = []
      · subst h3
        by_cases h4 : d = []
        · subst h4
          simp only [U38_app, emptyD_eq, Z38, base1, ↓reduceIte, Nat.reduceAdd, Nat.reduceSub, Nat.reduceMul, Nat.reduceEqDiff, Nat.reduceLeDiff, Nat.reduceLT, Int.reduceLT, Int.reduceLE, Int.reduceEq, Int.reduceNe, Int.reduceToNat, Int.reduceAdd, Int.reduceSub, reduceCtorEq, Nat.reduceBEq, Nat.reduceBNe, h1, h2]; first | exact ⟨rfl, rfl⟩ | exact ⟨rfl, trivial⟩ | exact rfl
        · simp only [U38_app, emptyD_eq, Z38, base1, ↓reduceIte, Nat.reduceAdd, Nat.reduceSub, Nat.reduceMul, Nat.reduceEqDiff, Nat.reduceLeDiff, Nat.reduceLT, Int.reduceLT, Int.reduceLE, Int.reduceEq, Int.reduceNe, Int.reduceToNat, Int.reduceAdd, Int.reduceSub, reduceCtorEq, Nat.reduceBEq, Nat.reduceBNe, h1, h2, h4]; first | exact ⟨rfl, rfl⟩ | exact ⟨rfl, trivial⟩ | exact rfl
      · cases h5 : lessBytes c b with
        | false => simp only [U38_app, emptyD_eq, Z38, base1, ↓reduceIte, Nat.reduceAdd, Nat.reduceSub, Nat.reduceMul, Nat.reduceEqDiff, Nat.reduceLeDiff, Nat.reduceLT, Int.reduceLT, Int.reduceLE, Int.reduceEq, Int.reduceNe, Int.reduceToNat, Int.reduceAdd, Int.reduceSub, reduceCtorEq, Nat.reduceBEq, Nat.reduceBNe, h1, h2, h3, h5]; first | exact ⟨rfl, rfl⟩ | exact ⟨rfl, trivial⟩ | exact rfl
        | true =>
          by_cases h4 : d = []
          · subst h4
            simp only [U38_app, emptyD_eq, Z38, base1, ↓reduceIte, Nat.reduceAdd, Nat.reduceSub, Nat.reduceMul, Nat.reduceEqDiff, Nat.reduceLeDiff, Nat.reduceLT, Int.reduceLT, Int.reduceLE, Int.reduceEq, Int.reduceNe, Int.reduceToNat, Int.reduceAdd, Int.reduceSub, reduceCtorEq, Nat.reduceBEq, Nat.reduceBNe, h1, h2, h3, h5]; first | exact ⟨rfl, rfl⟩ | exact ⟨rfl, trivial⟩ | exact rfl
          · simp only [U38_app, emptyD_eq, Z38, base1, ↓reduceIte, Nat.reduceAdd, Nat.reduceSub, Nat.reduceMul, Nat.reduceEqDiff, Nat.reduceLeDiff, Nat.reduceLT, Int.reduceLT, Int.reduceLE, Int.reduceEq, Int.reduceNe, Int.reduceToNat, Int.reduceAdd, Int.reduceSub, reduceCtorEq, Nat.reduceBEq, Nat.reduceBNe, h1, h2, h3, h4, h5]; first | exact ⟨rfl, rfl⟩ | exact ⟨rfl, trivial⟩ | exact rfl
def meetsD (args : List AV) (σ : AHeap) (K : AV → AHeap → Prop) : Prop := ∃ a b c d : Bs, args = [.agg [.str a, .str b], .agg [.str c, .str d]] ∧ K (.bool (mtS a b c d)) σ
theorem meetsD_ok (args : List AV) (σ : AHeap) (K : AV → AHeap → Prop) (h : meetsD args σ K) : Tri Try.prog 38 args σ K := by
  obtain ⟨a, b, c, d, rfl, h⟩ := h
  exact (Tri.pureD rfl (meets_ok a b c d) σ).mono fun x σ' hr => by rw [hr.1, hr.2]; exact h
end Go.Proofs.Ytmjnmnhpmbbmgaa.tour

/- The reference's store: what it is in the heap; no held span is the same. No condition. -/
set_option linter.unusedVariables false
set_option linter.unusedSimpArgs false
namespace Go.Proofs.Ytmjnmnhpmbbmgaa.tour
open Go.ChangeShapes Go.WideShapes Go.ChangeAt Go.RowKit Go.Gz Go.Gz.H
abbrev r37_0 : List MOper := [⟨(some 4), .box (.t 1), none⟩,
  ⟨(some 6), .move (.c (.int .i64 0)), none⟩]
def b37_0 : SCode := .region r37_0
abbrev r37_1 : List MOper := [⟨(some 7), .move (.c (.int .i64 0)), none⟩]
def b37_1 : SCode := .region r37_1
abbrev r37_2 : List MOper := [⟨(some 8), .move (.t 7), none⟩,
  ⟨(some 9), .move (.t 0), none⟩,
  ⟨(some 10), .nilCheck (.t 9), none⟩,
  ⟨(some 11), .fieldAddr 5 (.t 10), none⟩,
  ⟨(some 12), .load1 (.t 11), none⟩,
  ⟨(some 13), .lenSl (.t 12), none⟩,
  ⟨(some 14), .bin .lss .num (.t 8) (.t 13), none⟩]
def b37_2 : SCode := .region r37_2
def b37_3 : SCode := .cond (.t 14) .skip (.exit 0)
def b37_4 : SCode := .seq b37_2 b37_3
abbrev t37_5 : LTree := (.quiet ⟨(some 17), .move (.t 0), none⟩ 0
  (.quiet ⟨(some 18), .nilCheck (.t 17), none⟩ 1
  (.quiet ⟨(some 19), .fieldAddr 5 (.t 18), none⟩ 2
  (.quiet ⟨(some 20), .load1 (.t 19), none⟩ 3
  (.quiet ⟨(some 21), .move (.t 7), none⟩ 4
  (.quiet ⟨(some 22), .indexAddr 6 (.t 20) (.t 21), none⟩ 5
  (.quiet ⟨(some 23), .fieldAddr 0 (.t 22), none⟩ 6
  (.quiet ⟨(some 24), .loadN 2 (.t 23), none⟩ 7
  (.quiet ⟨(some 25), .loadN 2 (.t 4), none⟩ 8
  (.quiet ⟨(some 26), .bin .eql (.flat [.s, .s]) (.t 24) (.t 25), none⟩ 9
  (.quiet ⟨(some 27), .move (.t 26), none⟩ 10
  (.quiet ⟨(some 28), .move (.t 0), (some (27, true))⟩ 11
  (.quiet ⟨(some 29), .nilCheck (.t 28), (some (27, true))⟩ 12
  (.quiet ⟨(some 30), .fieldAddr 5 (.t 29), (some (27, true))⟩ 13
  (.quiet ⟨(some 31), .load1 (.t 30), (some (27, true))⟩ 14
  (.quiet ⟨(some 32), .move (.t 7), (some (27, true))⟩ 15
  (.quiet ⟨(some 33), .indexAddr 6 (.t 31) (.t 32), (some (27, true))⟩ 16
  (.quiet ⟨(some 34), .fieldAddr 2 (.t 33), (some (27, true))⟩ 17
  (.quiet ⟨(some 35), .load1 (.t 34), (some (27, true))⟩ 18
  (.quiet ⟨(some 36), .move (.t 2), (some (27, true))⟩ 19
  (.quiet ⟨(some 37), .bin .eql .num (.t 35) (.t 36), (some (27, true))⟩ 20
  (.quiet ⟨(some 38), .pick (.t 27) (.t 37) (.c (.bool false)), none⟩ 21
  .leaf))))))))))))))))))))))
def b37_5 : SCode := .draw t37_5
abbrev r37_6 : List MOper := [⟨(some 39), .move (.t 7), none⟩,
  ⟨(some 6), .move (.t 39), none⟩]
def b37_6 : SCode := .region r37_6
def b37_7 : SCode := .seq b37_6 .ret
def b37_8 : SCode := .cond (.t 38) b37_7 .skip
def b37_9 : SCode := .seq b37_5 b37_8
def b37_10 : SCode := .block 1 b37_9
abbrev r37_11 : List MOper := [⟨(some 15), .move (.t 7), none⟩,
  ⟨(some 16), .bin .add .num (.t 15) (.c (.int .i64 1)), none⟩,
  ⟨(some 7), .move (.t 16), none⟩]
def b37_11 : SCode := .region r37_11
def b37_12 : SCode := .seq b37_10 b37_11
def b37_13 : SCode := .seq b37_4 b37_12
def b37_14 : SCode := .loop b37_13
def b37_15 : SCode := .block 0 b37_14
def b37_16 : SCode := .seq b37_1 b37_15
abbrev r37_17 : List MOper := [⟨(some 6), .move (.c (.int .i64 (-1))), none⟩]
def b37_17 : SCode := .region r37_17
def b37_18 : SCode := .seq b37_17 .ret
def b37_19 : SCode := .seq b37_16 b37_18
def b37_20 : SCode := .seq b37_0 b37_19
def s37 : SFunc := ⟨40, [.t 6], b37_20⟩
theorem c37 : sFn Try.prog 37 = some s37 := by kernel_rfl
theorem Z37 : XR b37_0 r37_0 ∧ XR b37_1 r37_1 ∧ XR b37_2 r37_2 ∧ XC b37_3 (.t 14) .skip (.exit 0) ∧ XS b37_4 b37_2 b37_3 ∧ XT b37_5 t37_5 ∧ XR b37_6 r37_6 ∧ XS b37_7 b37_6 .ret ∧ XC b37_8 (.t 38) b37_7 .skip ∧ XS b37_9 b37_5 b37_8 ∧ XB b37_10 1 b37_9 ∧ XR b37_11 r37_11 ∧ XS b37_12 b37_10 b37_11 ∧ XS b37_13 b37_4 b37_12 ∧ XB b37_15 0 b37_14 ∧ XS b37_16 b37_1 b37_15 ∧ XR b37_17 r37_17 ∧ XS b37_18 b37_17 .ret ∧ XS b37_19 b37_16 b37_18 ∧ XS b37_20 b37_0 b37_19 ∧ XY s37 40 b37_20 [.t 6] := ⟨rfl, rfl, rfl, sC_cond, rfl, rfl, rfl, rfl, sC_cond, rfl, rfl, rfl, rfl, rfl, rfl, rfl, rfl, rfl, rfl, rfl, rfl⟩

set_option maxHeartbeats 4000000
set_option maxRecDepth 10000
/-- A span that is held: its records, its answer, and where they lie. -/
structure HD where
  f : Bs
  t : Bs
  Mv : AV
  rows : List Rw
  Ov : AV
  o : Option (Nat × Bool)
abbrev heldC (h : HD) : List AV := [.str h.f, .str h.t, .int .i64 1, .bool false, h.Mv, h.Ov]
def HD.blk (h : HD) (d : Nat) : Prop := LvD h.Mv = some d ∨ LvD h.Ov = some d
def Own (S : Nat) (Lv : AV) (hs : List HD) (j : Nat) : Prop := j = S ∨ LvD Lv = some j ∨ ∃ h ∈ hs, h.blk j
structure Apart (S : Nat) (Lv : AV) (hs : List HD) : Prop where
  sl : LvD Lv ≠ some S
  sh : ∀ h ∈ hs, ∀ d, h.blk d → d ≠ S ∧ LvD Lv ≠ some d
  mo : ∀ h ∈ hs, ∀ d, LvD h.Mv = some d → LvD h.Ov ≠ some d
  hh : ∀ (i j : Nat) h k, hs[i]? = some h → hs[j]? = some k → i ≠ j → ∀ d, h.blk d → ¬ k.blk d
abbrev storeC (Lv : AV) : List AV := tabC ++ [.int .i64 1000, Lv, .int .i64 0]
structure StoreAt (σ : AHeap) (S : Nat) (Lv : AV) (hs : List HD) : Prop where
  st : hget σ S = some (storeC Lv)
  li : Grow σ Lv 6 (hs.map heldC)
  mv : ∀ h ∈ hs, Grow σ h.Mv 3 (rowC h.rows)
  ov : ∀ h ∈ hs, Grow σ h.Ov 9 (onC h.o)
  sz : ∀ h ∈ hs, h.rows.length ≤ 1000
  ln : hs.length ≤ 1000
  ap : Apart S Lv hs
theorem own_lt {σ : AHeap} {S : Nat} {Lv : AV} {hs : List HD} (h : StoreAt σ S Lv hs) {j : Nat} (hj : Own S Lv hs j) : j < σ.length := by
  rcases hj with rfl | hj | ⟨k, hk, hj⟩
  · exact hget_lt h.st
  · exact grow_old h.li j hj
  · rcases hj with hj | hj
    · exact grow_old (h.mv k hk) j hj
    · exact grow_old (h.ov k hk) j hj
/-- What the store has stays. -/
theorem StoreAt.frame {σ τ : AHeap} {S : Nat} {Lv : AV} {hs : List HD} (h : StoreAt σ S Lv hs) (hf : ∀ j c, hget σ j = some c → Own S Lv hs j → hget τ j = some c) : StoreAt τ S Lv hs :=
  ⟨hf _ _ h.st (.inl rfl), grow_frame h.li fun j c hj hd => hf j c hj (.inr (.inl hd)), fun k hk => grow_frame (h.mv k hk) fun j c hj hd => hf j c hj (.inr (.inr ⟨k, hk, .inl hd⟩)), fun k hk => grow_frame (h.ov k hk) fun j c hj hd => hf j c hj (.inr (.inr ⟨k, hk, .inr hd⟩)), h.sz, h.ln, h.ap⟩
theorem Kp.store {σ τ : AHeap} {S : Nat} {Lv : AV} {hs : List HD} (hk : Kp σ τ) (h : StoreAt σ S Lv hs) : StoreAt τ S Lv hs := h.frame fun j c hj _ => hk j c hj
/-- The rows that are held, as cells: nil, or a block. -/
theorem held_cases {σ : AHeap} {S : Nat} {Lv : AV} {hs : List HD} (h : StoreAt σ S Lv hs) : (Lv = .nilslice ∧ hs = []) ∨ ∃ H, Lv = .slice H 0 hs.length none 6 ∧ hget σ H = some (hs.map heldC).flatten := by
  rcases h.li with ⟨rfl, h0⟩ | ⟨d, h1, h2, _⟩
  · exact .inl ⟨rfl, by simpa using h0⟩
  · exact .inr ⟨d, by rw [h1]; simp, h2⟩
theorem held_len (hs : List HD) : ∀ r ∈ hs.map heldC, r.length = 6 := fun r hr => by
  obtain ⟨b, _, rfl⟩ := List.mem_map.1 hr
  rfl
theorem held_at {hs : List HD} {i : Nat} {h : HD} (hi : hs[i]? = some h) {j : Nat} {x : AV} (hj : (heldC h)[j]? = some x) : (hs.map heldC).flatten[i * 6 + j]? = some x :=
  flat_at (row := heldC h) (held_len hs) (by rw [List.getElem?_map, hi]; rfl) hj
theorem held_sub {hs : List HD} {i : Nat} {h : HD} (hi : hs[i]? = some h) (j n : Nat) (hn : j + n ≤ 6) : sub (hs.map heldC).flatten (i * 6 + j) n = some (((heldC h).drop j).take n) :=
  flat_sub (row := heldC h) (held_len hs) (by rw [List.getElem?_map, hi]; rfl) hn
def smI (σ0 : AHeap) (S X : Nat) (hs : List HD) (e0' : Int) (m : Nat) (e : Env) (σ : AHeap) : Prop := ∃ k : Nat, k ≤ hs.length ∧ m = hs.length - k ∧ σ = σ0 ∧ e 0 = .ptr S 0 ∧ e 2 = .int .i64 e0' ∧ e 4 = .ptr X 0 ∧ e 7 = .int .i64 (k : Int)
/-- No span that is held is the same. -/
def sameD (args : List AV) (σ : AHeap) (K : AV → AHeap → Prop) : Prop := ∃ (S : Nat) (Lv : AV) (hs : List HD) (f t : Bs) (n : Int), args = [.ptr S 0, .agg [.str f, .str t], .int .i64 n] ∧ StoreAt σ S Lv hs ∧ (∀ h ∈ hs, h.f ≠ f) ∧ ∀ σ', Kp σ σ' → K (.int .i64 (-1)) σ'
theorem sameD_ok (args : List AV) (σ : AHeap) (K : AV → AHeap → Prop) (h : sameD args σ K) : Tri Try.prog 37 args σ K := by
  obtain ⟨S, Lv, hs, f, t, n, rfl, hS, hne, h⟩ := h
  refine Tri.of_s c37 (noCall_sound _) ?_
  simp only [Z37, base1, ↓reduceIte, Nat.reduceAdd, Nat.reduceSub, Nat.reduceMul, Nat.reduceEqDiff, Nat.reduceLeDiff, Nat.reduceLT, Int.reduceLT, Int.reduceLE, Int.reduceEq, Int.reduceNe, Int.reduceToNat, Int.reduceAdd, Int.reduceSub, reduceCtorEq, Nat.reduceBEq, Nat.reduceBNe]
  have kp1 : Kp σ (hpush σ [.str f, .str t]) := Kp.push
  have hS1 := kp1.store hS
  have hX := push_new (σ := σ) (c := [.str f, .str t]) rfl
  have hfin := h _ kp1
  generalize hσ1 : hpush σ [.str f, .str t] = σ1 at hS1 hX kp1 hfin
  generalize σ.length = X at hX
  refine sC_inv (a := b37_13) (smI σ1 S X hs n) hs.length _ _ (.refl _ _ _) ⟨0, Nat.zero_le _, rfl, rfl, rfl, rfl, rfl, rfl⟩ ?_
  rintro m e σ' ⟨k, hk, hm, rfl, e0, e2, e4, e7⟩
  have hst := hS1.st
  have ht5 : (storeC Lv)[5]? = some Lv := rfl
  have hwr : IntKind.wrap .i64 ((k : Int) + 1) = ((k + 1 : Nat) : Int) := by rw [Gz.wrap64 (by have := hS.ln; omega)]; omega
  have hls : lenSl Lv = some hs.length := grow_lenS ⟨hS1.li, by simp⟩
  by_cases hlt' : (k : Int) < (hs.length : Int)
  · have hlt : k < hs.length := by omega
    have hge0 : (0 : Int) ≤ (k : Int) := by omega
    obtain ⟨x, hx⟩ : ∃ x, hs[k]? = some x := ⟨_, List.getElem?_eq_getElem hlt⟩
    rcases held_cases hS1 with ⟨_, h0⟩ | ⟨H, rfl, hH⟩
    · subst h0; cases hx
    · have c1 : sub (hs.map heldC).flatten (k * 6) 2 = some [.str x.f, .str x.t] := held_sub hx 0 2 (by decide)
      have hxf := hne x (List.mem_of_getElem? hx)
      have l0 : lenOf (.slice H 0 hs.length none 6) = some hs.length := rfl
      have hx2 : sub [AV.str f, .str t] 0 2 = some [.str f, .str t] := rfl
      simp only [Z37, base1, ↓reduceIte, Nat.reduceAdd, Nat.reduceSub, Nat.reduceMul, Nat.reduceEqDiff, Nat.reduceLeDiff, Nat.reduceLT, Int.reduceLT, Int.reduceLE, Int.reduceEq, Int.reduceNe, Int.reduceToNat, Int.reduceAdd, Int.reduceSub, reduceCtorEq, Nat.reduceBEq, Nat.reduceBNe, loopR_exit, loopR_ret, e0, e2, e4, e7, hst, ht5, l0, Option.map_some, hlt', hlt, hge0, Int.toNat_natCast, hH, c1, hX, hx2, hxf, Bool.false_and, hwr]
      rw [loopR_normal]
      exact ⟨hs.length - (k + 1), _, _, by omega, .refl _ _ _, k + 1, hlt, rfl, rfl, e0, e2, e4, rfl⟩
  · simp only [Z37, base1, ↓reduceIte, Nat.reduceAdd, Nat.reduceSub, Nat.reduceMul, Nat.reduceEqDiff, Nat.reduceLeDiff, Nat.reduceLT, Int.reduceLT, Int.reduceLE, Int.reduceEq, Int.reduceNe, Int.reduceToNat, Int.reduceAdd, Int.reduceSub, reduceCtorEq, Nat.reduceBEq, Nat.reduceBNe, loopR_exit, loopR_ret, e0, e2, e4, e7, hst, ht5, hls, Option.map_some, hlt']
    exact hfin
end Go.Proofs.Ytmjnmnhpmbbmgaa.tour
