/- The reference's atlas: where it says that one may be, the program says so. No condition. -/
import Derived.Test.YtndlgmciplckjaaNMay3
import Derived.Sort.Walk0
set_option linter.unusedVariables false
set_option linter.unusedSimpArgs false
namespace Go.Proofs.Ytndlgmciplckjaa.note
open Go.ChangeShapes Go.WideShapes Go.ChangeAt Go.RowKit Go.Gz
abbrev r90_0 : List MOper := [⟨(some 1), .box (.t 0), none⟩,
  ⟨(some 2), .move (.c (.bool false)), none⟩]
def b90_0 : SCode := .region r90_0
abbrev r90_1 : List MOper := [⟨(some 3), .fieldAddr 1 (.t 1), none⟩,
  ⟨(some 4), .load1 (.t 3), none⟩,
  ⟨(some 5), .bin .neq .num (.t 4) (.c (.str [])), none⟩,
  ⟨(some 6), .move (.t 5), none⟩,
  ⟨(some 7), .fieldAddr 0 (.t 1), (some (6, true))⟩,
  ⟨(some 8), .load1 (.t 7), (some (6, true))⟩,
  ⟨(some 9), .fieldAddr 1 (.t 1), (some (6, true))⟩,
  ⟨(some 10), .load1 (.t 9), (some (6, true))⟩,
  ⟨(some 11), .bin .geq .num (.t 8) (.t 10), (some (6, true))⟩,
  ⟨(some 12), .pick (.t 6) (.t 11) (.c (.bool false)), none⟩,
  ⟨(some 2), .move (.t 12), none⟩]
def b90_1 : SCode := .region r90_1
def b90_2 : SCode := .seq b90_1 .ret
def b90_3 : SCode := .seq b90_0 b90_2
def s90 : SFunc := ⟨13, [.t 2], b90_3⟩
theorem c90 : sFn Try.prog 90 = some s90 := by kernel_rfl
theorem Z90 : XR b90_0 r90_0 ∧ XR b90_1 r90_1 ∧ XS b90_2 b90_1 .ret ∧ XS b90_3 b90_0 b90_2 ∧ XY s90 13 b90_3 [.t 2] := ⟨rfl, rfl, rfl, rfl, rfl⟩
abbrev r79_0 : List MOper := [⟨(some 2), .move (.c (.bool false)), none⟩]
def b79_0 : SCode := .region r79_0
abbrev r79_1 : List MOper := [⟨(some 3), .move (.c (.int .i64 0)), none⟩]
def b79_1 : SCode := .region r79_1
abbrev r79_2 : List MOper := [⟨(some 6), .move (.t 3), none⟩,
  ⟨(some 7), .move (.t 0), none⟩,
  ⟨(some 8), .lenSl (.t 7), none⟩,
  ⟨(some 9), .bin .lss .num (.t 6) (.t 8), none⟩]
def b79_2 : SCode := .region r79_2
def b79_3 : SCode := .cond (.t 9) .skip (.exit 0)
def b79_4 : SCode := .seq b79_2 b79_3
abbrev r79_5 : List MOper := [⟨(some 12), .move (.t 3), none⟩,
  ⟨(some 13), .bin .eql .num (.t 12) (.c (.int .i64 0)), none⟩,
  ⟨(some 14), .move (.t 3), none⟩,
  ⟨(some 15), .move (.t 0), none⟩,
  ⟨(some 16), .lenSl (.t 15), none⟩,
  ⟨(some 17), .bin .sub .num (.t 16) (.c (.int .i64 1)), none⟩,
  ⟨(some 18), .bin .eql .num (.t 14) (.t 17), none⟩,
  ⟨(some 4), .move (.t 13), none⟩,
  ⟨(some 5), .move (.t 18), none⟩]
def b79_5 : SCode := .region r79_5
abbrev t79_6 : LTree := (.quiet ⟨(some 19), .move (.t 0), none⟩ 0
  (.quiet ⟨(some 20), .move (.t 3), none⟩ 1
  (.quiet ⟨(some 21), .indexAddr 2 (.t 19) (.t 20), none⟩ 2
  (.quiet ⟨(some 22), .loadN 2 (.t 21), none⟩ 3
  (.loud ⟨(some 23), .call 90 [(.t 22)], none⟩ []
  (.quiet ⟨(some 24), .move (.t 23), none⟩ 5
  (.quiet ⟨(some 25), .move (.t 4), (some (24, false))⟩ 6
  (.quiet ⟨(some 26), .move (.t 25), (some (24, false))⟩ 7
  (.quiet ⟨(some 27), .move (.t 0), (some (26, true))⟩ 8
  (.quiet ⟨(some 28), .move (.t 3), (some (26, true))⟩ 9
  (.quiet ⟨(some 29), .indexAddr 2 (.t 27) (.t 28), (some (26, true))⟩ 10
  (.quiet ⟨(some 30), .fieldAddr 0 (.t 29), (some (26, true))⟩ 11
  (.quiet ⟨(some 31), .load1 (.t 30), (some (26, true))⟩ 12
  (.quiet ⟨(some 32), .bin .neq .num (.t 31) (.c (.str [])), (some (26, true))⟩ 13
  (.quiet ⟨(some 33), .pick (.t 26) (.t 32) (.c (.bool false)), (some (24, false))⟩ 14
  (.quiet ⟨(some 34), .pick (.t 24) (.c (.bool true)) (.t 33), none⟩ 15
  (.quiet ⟨(some 35), .move (.t 34), none⟩ 16
  (.quiet ⟨(some 36), .move (.t 4), (some (35, false))⟩ 17
  (.quiet ⟨(some 37), .un .not (.t 36), (some (35, false))⟩ 18
  (.quiet ⟨(some 38), .move (.t 37), (some (35, false))⟩ 19
  (.quiet ⟨(some 39), .move (.t 0), (some (38, true))⟩ 20
  (.quiet ⟨(some 40), .move (.t 3), (some (38, true))⟩ 21
  (.quiet ⟨(some 41), .indexAddr 2 (.t 39) (.t 40), (some (38, true))⟩ 22
  (.quiet ⟨(some 42), .fieldAddr 0 (.t 41), (some (38, true))⟩ 23
  (.quiet ⟨(some 43), .load1 (.t 42), (some (38, true))⟩ 24
  (.quiet ⟨(some 44), .move (.t 0), (some (38, true))⟩ 25
  (.quiet ⟨(some 45), .move (.t 3), (some (38, true))⟩ 26
  (.quiet ⟨(some 46), .bin .sub .num (.t 45) (.c (.int .i64 1)), (some (38, true))⟩ 27
  (.quiet ⟨(some 47), .indexAddr 2 (.t 44) (.t 46), (some (38, true))⟩ 28
  (.quiet ⟨(some 48), .fieldAddr 1 (.t 47), (some (38, true))⟩ 29
  (.quiet ⟨(some 49), .load1 (.t 48), (some (38, true))⟩ 30
  (.quiet ⟨(some 50), .bin .neq .num (.t 43) (.t 49), (some (38, true))⟩ 31
  (.quiet ⟨(some 51), .pick (.t 38) (.t 50) (.c (.bool false)), (some (35, false))⟩ 32
  (.quiet ⟨(some 52), .pick (.t 35) (.c (.bool true)) (.t 51), none⟩ 33
  (.quiet ⟨(some 53), .move (.t 52), none⟩ 34
  (.quiet ⟨(some 54), .move (.t 5), (some (53, false))⟩ 35
  (.quiet ⟨(some 55), .move (.t 0), (some (53, false))⟩ 36
  (.quiet ⟨(some 56), .move (.t 3), (some (53, false))⟩ 37
  (.quiet ⟨(some 57), .indexAddr 2 (.t 55) (.t 56), (some (53, false))⟩ 38
  (.quiet ⟨(some 58), .fieldAddr 1 (.t 57), (some (53, false))⟩ 39
  (.quiet ⟨(some 59), .load1 (.t 58), (some (53, false))⟩ 40
  (.quiet ⟨(some 60), .bin .eql .num (.t 59) (.c (.str [])), (some (53, false))⟩ 41
  (.quiet ⟨(some 61), .bin .neq .bool (.t 54) (.t 60), (some (53, false))⟩ 42
  (.quiet ⟨(some 62), .pick (.t 53) (.c (.bool true)) (.t 61), none⟩ 43
  .leaf))))))))))))))))))))))))))))))))))))))) .stop)))))
def b79_6 : SCode := .draw t79_6
abbrev r79_7 : List MOper := [⟨(some 2), .move (.c (.bool false)), none⟩]
def b79_7 : SCode := .region r79_7
def b79_8 : SCode := .seq b79_7 .ret
def b79_9 : SCode := .cond (.t 62) b79_8 .skip
def b79_10 : SCode := .seq b79_6 b79_9
def b79_11 : SCode := .seq b79_5 b79_10
def b79_12 : SCode := .block 1 b79_11
abbrev r79_13 : List MOper := [⟨(some 10), .move (.t 3), none⟩,
  ⟨(some 11), .bin .add .num (.t 10) (.c (.int .i64 1)), none⟩,
  ⟨(some 3), .move (.t 11), none⟩]
def b79_13 : SCode := .region r79_13
def b79_14 : SCode := .seq b79_12 b79_13
def b79_15 : SCode := .seq b79_4 b79_14
def b79_16 : SCode := .loop b79_15
def b79_17 : SCode := .block 0 b79_16
def b79_18 : SCode := .seq b79_1 b79_17
abbrev r79_19 : List MOper := [⟨(some 63), .move (.t 0), none⟩,
  ⟨(some 64), .lenSl (.t 63), none⟩,
  ⟨(some 65), .bin .gtr .num (.t 64) (.c (.int .i64 0)), none⟩,
  ⟨(some 2), .move (.t 65), none⟩]
def b79_19 : SCode := .region r79_19
def b79_20 : SCode := .seq b79_19 .ret
def b79_21 : SCode := .seq b79_18 b79_20
def b79_22 : SCode := .seq b79_0 b79_21
def s79 : SFunc := ⟨66, [.t 2], b79_22⟩
theorem c79 : sFn Try.prog 79 = some s79 := by kernel_rfl
theorem Z79 : XR b79_0 r79_0 ∧ XR b79_1 r79_1 ∧ XR b79_2 r79_2 ∧ XC b79_3 (.t 9) .skip (.exit 0) ∧ XS b79_4 b79_2 b79_3 ∧ XR b79_5 r79_5 ∧ XT b79_6 t79_6 ∧ XR b79_7 r79_7 ∧ XS b79_8 b79_7 .ret ∧ XC b79_9 (.t 62) b79_8 .skip ∧ XS b79_10 b79_6 b79_9 ∧ XS b79_11 b79_5 b79_10 ∧ XB b79_12 1 b79_11 ∧ XR b79_13 r79_13 ∧ XS b79_14 b79_12 b79_13 ∧ XS b79_15 b79_4 b79_14 ∧ XB b79_17 0 b79_16 ∧ XS b79_18 b79_1 b79_17 ∧ XR b79_19 r79_19 ∧ XS b79_20 b79_19 .ret ∧ XS b79_21 b79_18 b79_20 ∧ XS b79_22 b79_0 b79_21 ∧ XY s79 66 b79_22 [.t 2] := ⟨rfl, rfl, rfl, sC_cond, rfl, rfl, rfl, rfl, rfl, sC_cond, rfl, rfl, rfl, rfl, rfl, rfl, rfl, rfl, rfl, rfl, rfl, rfl, rfl⟩
abbrev r51_0 : List MOper := [⟨(some 2), .box (.t 0), none⟩,
  ⟨(some 4), .move (.c (.bool false)), none⟩]
def b51_0 : SCode := .region r51_0
abbrev r51_1 : List MOper := [⟨(some 8), .move (.t 1), none⟩,
  ⟨(some 9), .bin .lss .num (.t 8) (.c (.int .i64 1)), none⟩,
  ⟨(some 10), .move (.t 9), none⟩,
  ⟨(some 11), .move (.t 1), (some (10, false))⟩,
  ⟨(some 12), .bin .gtr .num (.t 11) (.c (.int .i64 5)), (some (10, false))⟩,
  ⟨(some 13), .pick (.t 10) (.c (.bool true)) (.t 12), none⟩,
  ⟨(some 14), .move (.t 13), none⟩,
  ⟨(some 15), .fieldAddr 1 (.t 2), (some (14, false))⟩,
  ⟨(some 16), .load1 (.t 15), (some (14, false))⟩,
  ⟨(some 17), .lenSl (.t 16), (some (14, false))⟩,
  ⟨(some 18), .bin .lss .num (.t 17) (.c (.int .i64 1)), (some (14, false))⟩,
  ⟨(some 19), .pick (.t 14) (.c (.bool true)) (.t 18), none⟩,
  ⟨(some 20), .move (.t 19), none⟩,
  ⟨(some 21), .fieldAddr 1 (.t 2), (some (20, false))⟩,
  ⟨(some 22), .load1 (.t 21), (some (20, false))⟩,
  ⟨(some 23), .lenSl (.t 22), (some (20, false))⟩,
  ⟨(some 24), .bin .gtr .num (.t 23) (.c (.int .i64 12)), (some (20, false))⟩,
  ⟨(some 25), .pick (.t 20) (.c (.bool true)) (.t 24), none⟩,
  ⟨(some 26), .move (.t 25), none⟩,
  ⟨(some 27), .fieldAddr 0 (.t 2), (some (26, false))⟩,
  ⟨(some 28), .load1 (.t 27), (some (26, false))⟩,
  ⟨(some 29), .bin .lss .num (.t 28) (.c (.int .i64 1)), (some (26, false))⟩,
  ⟨(some 30), .pick (.t 26) (.c (.bool true)) (.t 29), none⟩]
def b51_1 : SCode := .region r51_1
abbrev r51_2 : List MOper := [⟨(some 4), .move (.c (.bool false)), none⟩]
def b51_2 : SCode := .region r51_2
def b51_3 : SCode := .seq b51_2 .ret
def b51_4 : SCode := .cond (.t 30) b51_3 .skip
def b51_5 : SCode := .seq b51_1 b51_4
abbrev r51_6 : List MOper := [⟨(some 5), .move (.c (.nilslice)), none⟩]
def b51_6 : SCode := .region r51_6
abbrev r51_7 : List MOper := [⟨(some 6), .move (.c (.int .i64 0)), none⟩]
def b51_7 : SCode := .region r51_7
abbrev r51_8 : List MOper := [⟨(some 31), .move (.t 6), none⟩,
  ⟨(some 32), .fieldAddr 1 (.t 2), none⟩,
  ⟨(some 33), .load1 (.t 32), none⟩,
  ⟨(some 34), .lenSl (.t 33), none⟩,
  ⟨(some 35), .bin .lss .num (.t 31) (.t 34), none⟩]
def b51_8 : SCode := .region r51_8
def b51_9 : SCode := .cond (.t 35) .skip (.exit 0)
def b51_10 : SCode := .seq b51_8 b51_9
abbrev r51_11 : List MOper := [⟨(some 38), .fieldAddr 1 (.t 2), none⟩,
  ⟨(some 39), .load1 (.t 38), none⟩,
  ⟨(some 40), .move (.t 6), none⟩,
  ⟨(some 41), .indexAddr 4 (.t 39) (.t 40), none⟩,
  ⟨(some 42), .loadN 4 (.t 41), none⟩,
  ⟨(some 7), .alloc [.str [], .str [], .int .i64 0, .int .i64 0], none⟩,
  ⟨none, .store 4 (.t 7) (.t 42), none⟩]
def b51_11 : SCode := .region r51_11
abbrev r51_12 : List MOper := [⟨(some 43), .fieldAddr 2 (.t 7), none⟩,
  ⟨(some 44), .load1 (.t 43), none⟩,
  ⟨(some 45), .bin .lss .num (.t 44) (.c (.int .i64 1)), none⟩,
  ⟨(some 46), .move (.t 45), none⟩,
  ⟨(some 47), .fieldAddr 2 (.t 7), (some (46, false))⟩,
  ⟨(some 48), .load1 (.t 47), (some (46, false))⟩,
  ⟨(some 49), .move (.t 1), (some (46, false))⟩,
  ⟨(some 50), .bin .gtr .num (.t 48) (.t 49), (some (46, false))⟩,
  ⟨(some 51), .pick (.t 46) (.c (.bool true)) (.t 50), none⟩,
  ⟨(some 52), .move (.t 51), none⟩,
  ⟨(some 53), .fieldAddr 3 (.t 7), (some (52, false))⟩,
  ⟨(some 54), .load1 (.t 53), (some (52, false))⟩,
  ⟨(some 55), .bin .lss .num (.t 54) (.c (.int .i64 1)), (some (52, false))⟩,
  ⟨(some 56), .pick (.t 52) (.c (.bool true)) (.t 55), none⟩,
  ⟨(some 57), .move (.t 56), none⟩,
  ⟨(some 58), .fieldAddr 3 (.t 7), (some (57, false))⟩,
  ⟨(some 59), .load1 (.t 58), (some (57, false))⟩,
  ⟨(some 60), .fieldAddr 0 (.t 2), (some (57, false))⟩,
  ⟨(some 61), .load1 (.t 60), (some (57, false))⟩,
  ⟨(some 62), .bin .gtr .num (.t 59) (.t 61), (some (57, false))⟩,
  ⟨(some 63), .pick (.t 57) (.c (.bool true)) (.t 62), none⟩]
def b51_12 : SCode := .region r51_12
abbrev r51_13 : List MOper := [⟨(some 4), .move (.c (.bool false)), none⟩]
def b51_13 : SCode := .region r51_13
def b51_14 : SCode := .seq b51_13 .ret
def b51_15 : SCode := .cond (.t 63) b51_14 .skip
def b51_16 : SCode := .seq b51_12 b51_15
abbrev r51_17 : List MOper := [⟨(some 64), .move (.t 5), none⟩,
  ⟨(some 65), .fieldAddr 0 (.t 7), none⟩,
  ⟨(some 66), .loadN 2 (.t 65), none⟩,
  ⟨(some 67), .buildSlice [.str [], .str []] 2 1 [(0, 2, (.t 66))], none⟩,
  ⟨(some 68), .append 2 32 (.t 64) (.t 67), none⟩,
  ⟨(some 5), .move (.t 68), none⟩]
def b51_17 : SCode := .region r51_17
def b51_18 : SCode := .seq b51_16 b51_17
def b51_19 : SCode := .seq b51_11 b51_18
def b51_20 : SCode := .block 1 b51_19
abbrev r51_21 : List MOper := [⟨(some 36), .move (.t 6), none⟩,
  ⟨(some 37), .bin .add .num (.t 36) (.c (.int .i64 1)), none⟩,
  ⟨(some 6), .move (.t 37), none⟩]
def b51_21 : SCode := .region r51_21
def b51_22 : SCode := .seq b51_20 b51_21
def b51_23 : SCode := .seq b51_10 b51_22
def b51_24 : SCode := .loop b51_23
def b51_25 : SCode := .block 0 b51_24
def b51_26 : SCode := .seq b51_7 b51_25
abbrev r51_27 : List MOper := [⟨(some 69), .move (.t 5), none⟩,
  ⟨(some 70), .call 79 [(.t 69)], none⟩,
  ⟨(some 4), .move (.t 70), none⟩]
def b51_27 : SCode := .region r51_27
def b51_28 : SCode := .seq b51_27 .ret
def b51_29 : SCode := .seq b51_26 b51_28
def b51_30 : SCode := .seq b51_6 b51_29
def b51_31 : SCode := .seq b51_5 b51_30
def b51_32 : SCode := .seq b51_0 b51_31
def s51 : SFunc := ⟨71, [.t 4], b51_32⟩
theorem c51 : sFn Try.prog 51 = some s51 := by kernel_rfl
theorem Z51 : XR b51_0 r51_0 ∧ XR b51_1 r51_1 ∧ XR b51_2 r51_2 ∧ XS b51_3 b51_2 .ret ∧ XC b51_4 (.t 30) b51_3 .skip ∧ XS b51_5 b51_1 b51_4 ∧ XR b51_6 r51_6 ∧ XR b51_7 r51_7 ∧ XR b51_8 r51_8 ∧ XC b51_9 (.t 35) .skip (.exit 0) ∧ XS b51_10 b51_8 b51_9 ∧ XR b51_11 r51_11 ∧ XR b51_12 r51_12 ∧ XR b51_13 r51_13 ∧ XS b51_14 b51_13 .ret ∧ XC b51_15 (.t 63) b51_14 .skip ∧ XS b51_16 b51_12 b51_15 ∧ XR b51_17 r51_17 ∧ XS b51_18 b51_16 b51_17 ∧ XS b51_19 b51_11 b51_18 ∧ XB b51_20 1 b51_19 ∧ XR b51_21 r51_21 ∧ XS b51_22 b51_20 b51_21 ∧ XS b51_23 b51_10 b51_22 ∧ XB b51_25 0 b51_24 ∧ XS b51_26 b51_7 b51_25 ∧ XR b51_27 r51_27 ∧ XS b51_28 b51_27 .ret ∧ XS b51_29 b51_26 b51_28 ∧ XS b51_30 b51_6 b51_29 ∧ XS b51_31 b51_5 b51_30 ∧ XS b51_32 b51_0 b51_31 ∧ XY s51 71 b51_32 [.t 4] := ⟨rfl, rfl, rfl, rfl, sC_cond, rfl, rfl, rfl, rfl, sC_cond, rfl, rfl, rfl, rfl, rfl, sC_cond, rfl, rfl, rfl, rfl, rfl, rfl, rfl, rfl, rfl, rfl, rfl, rfl, rfl, rfl, rfl, rfl, rfl⟩

set_option maxHeartbeats 4000000
set_option maxRecDepth 10000
theorem less_total (a b : List UInt8) : (!(lessBytes a b)) = (lessBytes b a || b == a) := by
  have h1 : lessBytes a b = decide (a < b) := bytesLess_eq a b
  have h2 : lessBytes b a = decide (b < a) := bytesLess_eq b a
  rw [h1, h2]
  by_cases h : a < b
  · have h3 : ¬ b < a := List.lt_asymm h
    have h4 : ¬ b = a := by rintro rfl; exact List.lt_irrefl _ h
    simp [h, h3, h4]
  · by_cases h' : b < a
    · simp [h, h']
    · have : b = a := List.le_antisymm h h'
      simp [h, h', this]
theorem rempty_ok (p : List UInt8 × List UInt8) : Tri Try.prog 90 [.agg (recC p)] [] fun r _ => r.pure = true ∧ r = .bool (emptyB p) := by
  refine Tri.of_s c90 (noCall_sound _) ?_
  cases h1 : decide (p.2 ≠ []) with
  | false =>
    simp only [recC, Z90, base1, baseE, ↓reduceIte, Nat.reduceAdd, Nat.reduceSub, Nat.reduceMul, Nat.reduceEqDiff, Nat.reduceLeDiff, Nat.reduceLT, Int.reduceLT, Int.reduceLE, Int.reduceEq, Int.reduceNe, Int.reduceToNat, Int.reduceAdd, Int.reduceSub, reduceCtorEq, Nat.reduceBEq, Nat.reduceBNe, h1]
    exact ⟨rfl, by simp only [emptyB, h1]; rfl⟩
  | true =>
    simp only [recC, Z90, base1, baseE, ↓reduceIte, Nat.reduceAdd, Nat.reduceSub, Nat.reduceMul, Nat.reduceEqDiff, Nat.reduceLeDiff, Nat.reduceLT, Int.reduceLT, Int.reduceLE, Int.reduceEq, Int.reduceNe, Int.reduceToNat, Int.reduceAdd, Int.reduceSub, reduceCtorEq, Nat.reduceBEq, Nat.reduceBNe, h1]
    exact ⟨rfl, by rw [less_total]; simp only [emptyB, h1, leB]; rfl⟩
theorem remptyD_ok (args : List AV) (σ : AHeap) (K : AV → AHeap → Prop) (h : emptyD args σ K) : Tri Try.prog 90 args σ K := by
  unfold emptyD at h
  split at h
  · rename_i f t
    exact (Tri.pureD rfl (rempty_ok (f, t)) _).mono fun r σ' hr => by rw [hr.1, hr.2]; exact h
  · exact h.elim
def ZA1 : PCall := rowQ 90 emptyD noCall
theorem ZA1_app {f : FuncId} {args : List AV} {σ : AHeap} {K : AV → AHeap → Prop} : ZA1 f args σ K = rowQ 90 emptyD noCall f args σ K := _root_.id rfl
theorem ZA1_sound : Sound Try.prog ZA1 := rowQ_sound remptyD_ok (noCall_sound _)
abbrev WhQ (l : List (List UInt8 × List UInt8)) (r : AV) (_ : AHeap) : Prop := r.pure = true ∧ ∃ b, r = .bool b ∧ (b = true → wholeB l = true)
theorem whF {l : List (List UInt8 × List UInt8)} {σ : AHeap} : WhQ l (.bool false) σ := ⟨rfl, false, rfl, fun h => by cases h⟩
def rwI (l : List (List UInt8 × List UInt8)) (n : Nat) (e : Env) (σ : AHeap) : Prop :=
  ∃ (i : Nat) (at_ : List UInt8), i ≤ l.length ∧ n = l.length - i ∧ wholeG i at_ (l.drop i) = wholeB l ∧ (i = 0 → at_ = []) ∧ (∀ j y, i = j + 1 → l[j]? = some y → at_ = y.2) ∧ (0 < i → (at_ = [] ↔ i = l.length)) ∧ e 0 = .imm (l.map recC) false false ∧ e 3 = .int .i64 (i : Int)
theorem rw_step (l : List (List UInt8 × List UInt8)) (hl : l.length ≤ 1000000) (n : Nat) (e : Env) (σ : AHeap) (h : rwI l n e σ) :
    sC ZA1 0 b79_15 (unw ZA1 0 (loopR ZA1 0 (RetQ [MRes.t 2] (WhQ l)) (.block 0 (.seq b79_20 .fin)) (rwI l) n) .fin) e σ := by
  obtain ⟨i, at_, hi, hn, hG, ha0, ha, hat, h0, h3⟩ := h
  have hml : (l.map recC).length = l.length := by simp
  rcases Nat.lt_or_ge i l.length with hlt | hge
  · have hlt' : (i : Int) < (l.length : Int) := by omega
    have hge0 : (0 : Int) ≤ (i : Int) := by omega
    obtain ⟨x, hx⟩ : ∃ x, l[i]? = some x := ⟨_, List.getElem?_eq_getElem hlt⟩
    have hxx : (l.map recC)[i]? = some [.str x.1, .str x.2] := by simp [hx, recC]
    have hw : IntKind.wrap .i64 ((i : Int) + 1) = ((i + 1 : Nat) : Int) := by rw [Gz.wrap64 (by omega)]; omega
    have hwl : IntKind.wrap .i64 ((l.length : Int) - 1) = ((l.length - 1 : Nat) : Int) := by rw [Gz.wrap64 (by omega)]; omega
    have hdr : l.drop i = x :: l.drop (i + 1) := by
      rw [List.drop_eq_getElem_cons hlt]; congr 1
      exact Option.some.inj ((List.getElem?_eq_getElem hlt).symm.trans hx)
    rw [hdr] at hG
    simp only [wholeG] at hG
    have hp : (x.1, x.2) = x := rfl
    have hla : decide ((i : Int) = ((l.length - 1 : Nat) : Int)) = decide (i + 1 = l.length) := by
      by_cases h : i + 1 = l.length
      · have h' : (i : Int) = ((l.length - 1 : Nat) : Int) := by omega
        simp [h, h']
      · have h' : ¬ (i : Int) = ((l.length - 1 : Nat) : Int) := by omega
        simp [h, h']
    have fin : ∀ e' : Env, ∀ σ', (emptyB x || decide (x.1 ≠ at_) || (decide (0 < i) && decide (at_ = []))) = false → (x.2 = [] ↔ i + 1 = l.length) → e' 0 = .imm (l.map recC) false false → e' 3 = .int .i64 ((i + 1 : Nat) : Int) → loopR ZA1 0 (RetQ [MRes.t 2] (WhQ l)) (.block 0 (.seq b79_20 .fin)) (rwI l) n .normal e' σ' := by
      intro e' σ' hb hx2 k0 k3
      rw [hb] at hG
      rw [loopR_normal]
      refine ⟨l.length - (i + 1), _, _, by omega, .refl _ _ _, i + 1, x.2, hlt, rfl, by simpa using hG, by omega, fun j y hj hy => ?_, fun _ => hx2, k0, k3⟩
      have : j = i := by omega
      subst this
      rw [hx] at hy; cases hy; rfl
    cases g1 : emptyB x with
    | true =>
      simp only [ZA1_app, Z79, base1, baseE, ↓reduceIte, Nat.reduceAdd, Nat.reduceSub, Nat.reduceMul, Nat.reduceEqDiff, Nat.reduceLeDiff, Nat.reduceLT, Int.reduceLT, Int.reduceLE, Int.reduceEq, Int.reduceNe, Int.reduceToNat, Int.reduceAdd, Int.reduceSub, reduceCtorEq, Nat.reduceBEq, Nat.reduceBNe, loopR_exit, loopR_ret, emptyD_eq, h0, h3, hlt', hlt, hge0, hxx, hml, hw, hwl, hla, Int.toNat_natCast, hp, g1]
      exact whF (σ := σ)
    | false =>
    by_cases hi0 : i = 0
    · subst hi0
      have hat0 := ha0 rfl
      subst hat0
      have hlt0 : (0 : Int) < (l.length : Int) := by omega
      have hla0 : decide ((0 : Int) = ((l.length - 1 : Nat) : Int)) = decide (0 + 1 = l.length) := hla
      cases g2 : decide (x.1 ≠ []) with
      | true =>
        simp only [ZA1_app, Z79, base1, baseE, ↓reduceIte, Nat.reduceAdd, Nat.reduceSub, Nat.reduceMul, Nat.reduceEqDiff, Nat.reduceLeDiff, Nat.reduceLT, Int.reduceLT, Int.reduceLE, Int.reduceEq, Int.reduceNe, Int.reduceToNat, Int.reduceAdd, Int.reduceSub, reduceCtorEq, Nat.reduceBEq, Nat.reduceBNe, loopR_exit, loopR_ret, emptyD_eq, h0, h3, hlt0, hlt, hxx, hml, hwl, hla0, Int.toNat_natCast, hp, g1, g2]
        exact whF (σ := σ)
      | false =>
        cases g3 : decide (x.2 = []) <;> cases g4 : decide (0 + 1 = l.length)
        case false.false =>
          simp only [ZA1_app, Z79, base1, baseE, ↓reduceIte, Nat.reduceAdd, Nat.reduceSub, Nat.reduceMul, Nat.reduceEqDiff, Nat.reduceLeDiff, Nat.reduceLT, Int.reduceLT, Int.reduceLE, Int.reduceEq, Int.reduceNe, Int.reduceToNat, Int.reduceAdd, Int.reduceSub, reduceCtorEq, Nat.reduceBEq, Nat.reduceBNe, loopR_exit, loopR_ret, emptyD_eq, h0, h3, hlt0, hlt, hxx, hml, hwl, hla0, Int.toNat_natCast, hp, g1, g2, g3, g4]
          refine fin _ _ (by simp [g1, g2]) ?_ ?_ ?_
          · rw [← decide_eq_decide, g3, g4]
          all_goals simp only [putD_some, putD_none, Nat.reduceEqDiff, ↓reduceIte, h0, h3] <;> rfl
        case true.true =>
          simp only [ZA1_app, Z79, base1, baseE, ↓reduceIte, Nat.reduceAdd, Nat.reduceSub, Nat.reduceMul, Nat.reduceEqDiff, Nat.reduceLeDiff, Nat.reduceLT, Int.reduceLT, Int.reduceLE, Int.reduceEq, Int.reduceNe, Int.reduceToNat, Int.reduceAdd, Int.reduceSub, reduceCtorEq, Nat.reduceBEq, Nat.reduceBNe, loopR_exit, loopR_ret, emptyD_eq, h0, h3, hlt0, hlt, hxx, hml, hwl, hla0, Int.toNat_natCast, hp, g1, g2, g3, g4]
          refine fin _ _ (by simp [g1, g2]) ?_ ?_ ?_
          · rw [← decide_eq_decide, g3, g4]
          all_goals simp only [putD_some, putD_none, Nat.reduceEqDiff, ↓reduceIte, h0, h3] <;> rfl
        all_goals
          simp only [ZA1_app, Z79, base1, baseE, ↓reduceIte, Nat.reduceAdd, Nat.reduceSub, Nat.reduceMul, Nat.reduceEqDiff, Nat.reduceLeDiff, Nat.reduceLT, Int.reduceLT, Int.reduceLE, Int.reduceEq, Int.reduceNe, Int.reduceToNat, Int.reduceAdd, Int.reduceSub, reduceCtorEq, Nat.reduceBEq, Nat.reduceBNe, loopR_exit, loopR_ret, emptyD_eq, h0, h3, hlt0, hlt, hxx, hml, hwl, hla0, Int.toNat_natCast, hp, g1, g2, g3, g4]
          exact whF (σ := σ)
    · have hi0' : ¬ (i : Int) = 0 := by omega
      obtain ⟨y, hy⟩ : ∃ y, l[i - 1]? = some y := ⟨_, List.getElem?_eq_getElem (by omega)⟩
      have hyy : (l.map recC)[i - 1]? = some [.str y.1, .str y.2] := by simp [hy, recC]
      have hay := ha (i - 1) y (by omega) hy
      have hane : at_ ≠ [] := fun h => by have := (hat (by omega)).1 h; omega
      have hwm : IntKind.wrap .i64 ((i : Int) - 1) = ((i - 1 : Nat) : Int) := by rw [Gz.wrap64 (by omega)]; omega
      have hgm : (0 : Int) ≤ ((i - 1 : Nat) : Int) := by omega
      have hlm : i - 1 < l.length := by omega
      rw [hay] at hG fin hane
      cases g2 : decide (x.1 ≠ y.2) with
      | true =>
        simp only [ZA1_app, Z79, base1, baseE, ↓reduceIte, Nat.reduceAdd, Nat.reduceSub, Nat.reduceMul, Nat.reduceEqDiff, Nat.reduceLeDiff, Nat.reduceLT, Int.reduceLT, Int.reduceLE, Int.reduceEq, Int.reduceNe, Int.reduceToNat, Int.reduceAdd, Int.reduceSub, reduceCtorEq, Nat.reduceBEq, Nat.reduceBNe, loopR_exit, loopR_ret, emptyD_eq, h0, h3, hlt', hlt, hge0, hxx, hyy, hml, hw, hwl, hwm, hgm, hlm, hla, hi0', Int.toNat_natCast, hp, g1, g2]
        exact whF (σ := σ)
      | false =>
        cases g3 : decide (x.2 = []) <;> cases g4 : decide (i + 1 = l.length)
        case false.false =>
          simp only [ZA1_app, Z79, base1, baseE, ↓reduceIte, Nat.reduceAdd, Nat.reduceSub, Nat.reduceMul, Nat.reduceEqDiff, Nat.reduceLeDiff, Nat.reduceLT, Int.reduceLT, Int.reduceLE, Int.reduceEq, Int.reduceNe, Int.reduceToNat, Int.reduceAdd, Int.reduceSub, reduceCtorEq, Nat.reduceBEq, Nat.reduceBNe, loopR_exit, loopR_ret, emptyD_eq, h0, h3, hlt', hlt, hge0, hxx, hyy, hml, hw, hwl, hwm, hgm, hlm, hla, hi0', Int.toNat_natCast, hp, g1, g2, g3, g4]
          refine fin _ _ (by simp [g1, g2, hane]) ?_ ?_ ?_
          · rw [← decide_eq_decide, g3, g4]
          all_goals simp only [putD_some, putD_none, Nat.reduceEqDiff, ↓reduceIte, h0, h3, hw]
        case true.true =>
          simp only [ZA1_app, Z79, base1, baseE, ↓reduceIte, Nat.reduceAdd, Nat.reduceSub, Nat.reduceMul, Nat.reduceEqDiff, Nat.reduceLeDiff, Nat.reduceLT, Int.reduceLT, Int.reduceLE, Int.reduceEq, Int.reduceNe, Int.reduceToNat, Int.reduceAdd, Int.reduceSub, reduceCtorEq, Nat.reduceBEq, Nat.reduceBNe, loopR_exit, loopR_ret, emptyD_eq, h0, h3, hlt', hlt, hge0, hxx, hyy, hml, hw, hwl, hwm, hgm, hlm, hla, hi0', Int.toNat_natCast, hp, g1, g2, g3, g4]
          refine fin _ _ (by simp [g1, g2, hane]) ?_ ?_ ?_
          · rw [← decide_eq_decide, g3, g4]
          all_goals simp only [putD_some, putD_none, Nat.reduceEqDiff, ↓reduceIte, h0, h3, hw]
        all_goals
          simp only [ZA1_app, Z79, base1, baseE, ↓reduceIte, Nat.reduceAdd, Nat.reduceSub, Nat.reduceMul, Nat.reduceEqDiff, Nat.reduceLeDiff, Nat.reduceLT, Int.reduceLT, Int.reduceLE, Int.reduceEq, Int.reduceNe, Int.reduceToNat, Int.reduceAdd, Int.reduceSub, reduceCtorEq, Nat.reduceBEq, Nat.reduceBNe, loopR_exit, loopR_ret, emptyD_eq, h0, h3, hlt', hlt, hge0, hxx, hyy, hml, hw, hwl, hwm, hgm, hlm, hla, hi0', Int.toNat_natCast, hp, g1, g2, g3, g4]
          exact whF (σ := σ)
  · have hlt' : ¬ (i : Int) < (l.length : Int) := by omega
    have hie : i = l.length := by omega
    subst hie
    have hd0 : l.drop l.length = [] := List.drop_length
    rw [hd0] at hG
    simp only [wholeG] at hG
    cases g1 : decide ((0 : Int) < (l.length : Int)) with
    | false =>
      simp only [ZA1_app, Z79, base1, baseE, ↓reduceIte, Nat.reduceAdd, Nat.reduceSub, Nat.reduceMul, Nat.reduceEqDiff, Nat.reduceLeDiff, Nat.reduceLT, Int.reduceLT, Int.reduceLE, Int.reduceEq, Int.reduceNe, Int.reduceToNat, Int.reduceAdd, Int.reduceSub, reduceCtorEq, Nat.reduceBEq, Nat.reduceBNe, loopR_exit, loopR_ret, h0, h3, hlt', hml, g1]
      exact whF (σ := σ)
    | true =>
      simp only [ZA1_app, Z79, base1, baseE, ↓reduceIte, Nat.reduceAdd, Nat.reduceSub, Nat.reduceMul, Nat.reduceEqDiff, Nat.reduceLeDiff, Nat.reduceLT, Int.reduceLT, Int.reduceLE, Int.reduceEq, Int.reduceNe, Int.reduceToNat, Int.reduceAdd, Int.reduceSub, reduceCtorEq, Nat.reduceBEq, Nat.reduceBNe, loopR_exit, loopR_ret, h0, h3, hlt', hml, g1]
      have h1 := of_decide_eq_true g1
      have h2 : 0 < l.length := by omega
      refine ⟨rfl, true, rfl, fun _ => ?_⟩
      rw [← hG, (hat h2).2 rfl]
      simp [h2]
theorem rwhole_ok (l : List (List UInt8 × List UInt8)) (hl : l.length ≤ 1000000) : Tri Try.prog 79 [.imm (l.map recC) false false] [] fun r _ => r.pure = true ∧ ∃ b, r = .bool b ∧ (b = true → wholeB l = true) := by
  refine Tri.of_s c79 ZA1_sound ?_
  have hml : (l.map recC).length = l.length := by simp
  simp only [ZA1_app, Z79, base1, baseE, ↓reduceIte, Nat.reduceAdd, Nat.reduceSub, Nat.reduceMul, Nat.reduceEqDiff, Nat.reduceLeDiff, Nat.reduceLT, Int.reduceLT, Int.reduceLE, Int.reduceEq, Int.reduceNe, Int.reduceToNat, Int.reduceAdd, Int.reduceSub, reduceCtorEq, Nat.reduceBEq, Nat.reduceBNe, hml]
  exact sC_inv (a := b79_15) (rwI l) l.length _ _ (.refl _ _ _) ⟨0, [], Nat.zero_le _, rfl, rfl, fun _ => rfl, fun j y hj => by omega, fun h => by omega, rfl, rfl⟩ (rw_step l hl)
def rwholeLD (args : List AV) (σ : AHeap) (K : AV → AHeap → Prop) : Prop := ∃ (Lv : AV) (l : List (List UInt8 × List UInt8)), args = [Lv] ∧ Grow σ Lv 2 (l.map recC) ∧ l.length ≤ 1000000 ∧ ∀ b, (b = true → wholeB l = true) → ∀ σ', K (.bool b) σ'
theorem rwholeLD_ok (args : List AV) (σ : AHeap) (K : AV → AHeap → Prop) (h : rwholeLD args σ K) : Tri Try.prog 79 args σ K := by
  obtain ⟨Lv, l, rfl, hg, hl, h⟩ := h
  obtain ⟨d, hd⟩ := grow_given hg (rowsRec_pure l)
  exact (Tri.give (args := [Lv]) (args1 := [.imm (l.map recC) false false]) d rfl (given1 hd) (rwhole_ok l hl)).mono fun r σ' ⟨⟨b, h1, h2⟩, h3⟩ => by rw [h1]; exact h b h2 _
def ZB1 : PCall := rowQ 79 rwholeLD noCall
theorem ZB1_app {f : FuncId} {args : List AV} {σ : AHeap} {K : AV → AHeap → Prop} : ZB1 f args σ K = rowQ 79 rwholeLD noCall f args σ K := _root_.id rfl
theorem ZB1_sound : Sound Try.prog ZB1 := rowQ_sound rwholeLD_ok (noCall_sound _)
def ramI (ep : Int) (sh : List ShV) (n : Nat) (e : Env) (σ : AHeap) : Prop :=
  ∃ (i : Nat) (Lv : AV), i ≤ sh.length ∧ n = sh.length - i ∧ hget σ 0 = some [.int .i64 ep, .imm (sh.map ShV.cells) false false] ∧ Grow σ Lv 2 (((sh.take i).map ShV.span).map recC) ∧ LvD Lv ≠ some 0 ∧ (sh.take i).all (shOk ep) = true ∧
    e 1 = .int .i64 5 ∧ e 2 = .ptr 0 0 ∧ e 5 = Lv ∧ e 6 = .int .i64 (i : Int)
theorem ram_step (ep : Int) (sh : List ShV) (hl : sh.length ≤ 1000000) (Q : AV → AHeap → Prop) (hF : sh.all (shOk ep) = false → ∀ σ, Q (.bool false) σ) (hT : sh.all (shOk ep) = true → ∀ b, (b = true → wholeB (sh.map ShV.span) = true) → ∀ σ, Q (.bool b) σ) (n : Nat) (e : Env) (σ : AHeap) (h : ramI ep sh n e σ) :
    sC ZB1 0 b51_23 (unw ZB1 0 (loopR ZB1 0 (RetQ [MRes.t 4] Q) (.block 0 (.seq b51_28 .fin)) (ramI ep sh) n) .fin) e σ := by
  obtain ⟨i, Lv, hi, hn, g0, hLv, d0, hall, e1, e2, e5, e6⟩ := h
  have hml : (sh.map ShV.cells).length = sh.length := by simp
  have h0l := hget_lt g0
  rcases Nat.lt_or_ge i sh.length with hlt | hge
  · have hlt' : (i : Int) < (sh.length : Int) := by omega
    have hge0 : (0 : Int) ≤ (i : Int) := by omega
    obtain ⟨x, hx⟩ : ∃ x, sh[i]? = some x := ⟨_, List.getElem?_eq_getElem hlt⟩
    have hxx : (sh.map ShV.cells)[i]? = some [.str x.from_, .str x.to, .int .i64 x.node, .int .i64 x.epoch] := by simp [hx, ShV.cells]
    have hw : IntKind.wrap .i64 ((i : Int) + 1) = ((i + 1 : Nat) : Int) := by rw [Gz.wrap64 (by omega)]; omega
    have htk : sh.take (i + 1) = sh.take i ++ [x] := by rw [List.take_add_one, hx]; rfl
    have sn : ∀ c c' : List AV, hget (hset (hpush σ c) (List.length σ) c') (List.length σ) = some c' := fun c c' => set_same push_new'
    have s0 : ∀ c c' : List AV, hget (hset (hpush σ c) (List.length σ) c') 0 = some [.int .i64 ep, .imm (sh.map ShV.cells) false false] := fun c c' => al_frame g0
    have bad : shOk ep x = false → ∀ σ, Q (.bool false) σ := fun hb => hF (by
      rw [Bool.eq_false_iff]; intro ha
      have := List.all_eq_true.1 ha x (List.mem_of_getElem? hx)
      rw [hb] at this; cases this)
    cases h1 : decide (x.node < 1) with
    | true =>
      simp only [ZB1_app, Z51, base1, ↓reduceIte, Nat.reduceAdd, Nat.reduceSub, Nat.reduceMul, Nat.reduceEqDiff, Nat.reduceLeDiff, Nat.reduceLT, Int.reduceLT, Int.reduceLE, Int.reduceEq, Int.reduceNe, Int.reduceToNat, Int.reduceAdd, Int.reduceSub, reduceCtorEq, Nat.reduceBEq, Nat.reduceBNe, loopR_exit, loopR_ret, e1, e2, e5, e6, g0, lenOf_imm, hlt', hlt, hge0, hxx, hml, Int.toNat_natCast, push_new', sn, s0, h1]
      exact bad (by simp only [shOk, h1]; rfl) _
    | false =>
    cases h2 : decide (5 < x.node) with
    | true =>
      simp only [ZB1_app, Z51, base1, ↓reduceIte, Nat.reduceAdd, Nat.reduceSub, Nat.reduceMul, Nat.reduceEqDiff, Nat.reduceLeDiff, Nat.reduceLT, Int.reduceLT, Int.reduceLE, Int.reduceEq, Int.reduceNe, Int.reduceToNat, Int.reduceAdd, Int.reduceSub, reduceCtorEq, Nat.reduceBEq, Nat.reduceBNe, loopR_exit, loopR_ret, e1, e2, e5, e6, g0, lenOf_imm, hlt', hlt, hge0, hxx, hml, Int.toNat_natCast, push_new', sn, s0, h1, h2]
      exact bad (by simp only [shOk, h1, h2]; rfl) _
    | false =>
    cases h3 : decide (x.epoch < 1) with
    | true =>
      simp only [ZB1_app, Z51, base1, ↓reduceIte, Nat.reduceAdd, Nat.reduceSub, Nat.reduceMul, Nat.reduceEqDiff, Nat.reduceLeDiff, Nat.reduceLT, Int.reduceLT, Int.reduceLE, Int.reduceEq, Int.reduceNe, Int.reduceToNat, Int.reduceAdd, Int.reduceSub, reduceCtorEq, Nat.reduceBEq, Nat.reduceBNe, loopR_exit, loopR_ret, e1, e2, e5, e6, g0, lenOf_imm, hlt', hlt, hge0, hxx, hml, Int.toNat_natCast, push_new', sn, s0, h1, h2, h3]
      exact bad (by simp only [shOk, h1, h2, h3]; rfl) _
    | false =>
    cases h4 : decide (ep < x.epoch) with
    | true =>
      simp only [ZB1_app, Z51, base1, ↓reduceIte, Nat.reduceAdd, Nat.reduceSub, Nat.reduceMul, Nat.reduceEqDiff, Nat.reduceLeDiff, Nat.reduceLT, Int.reduceLT, Int.reduceLE, Int.reduceEq, Int.reduceNe, Int.reduceToNat, Int.reduceAdd, Int.reduceSub, reduceCtorEq, Nat.reduceBEq, Nat.reduceBNe, loopR_exit, loopR_ret, e1, e2, e5, e6, g0, lenOf_imm, hlt', hlt, hge0, hxx, hml, Int.toNat_natCast, push_new', sn, s0, h1, h2, h3, h4]
      exact bad (by simp only [shOk, h1, h2, h3, h4]; rfl) _
    | false =>
    generalize hz : ([.str [], .str [], .int .i64 0, .int .i64 0] : List AV) = z at sn s0
    have v1 := grow_frame hLv (τ := hset (hpush σ z) σ.length x.cells) fun j c hj hd => al_frame hj
    have hs3 : (hset (hpush σ z) σ.length x.cells).length = σ.length + 1 := by rw [set_len, push_len]
    obtain ⟨v, τ, a1, a2, a3, a4, a5⟩ := grow_one (b := 32) (by decide) v1 (by simp; omega) (recC x.span) rfl rfl
    obtain ⟨q0, u0⟩ := a4 0 _ (al_frame g0) d0
    have lc := grow_cell hLv
    rw [hs3] at a1
    simp only [recC, ShV.span, ShV.cells] at a1
    subst hz
    simp only [ZB1_app, Z51, base1, ↓reduceIte, Nat.reduceAdd, Nat.reduceSub, Nat.reduceMul, Nat.reduceEqDiff, Nat.reduceLeDiff, Nat.reduceLT, Int.reduceLT, Int.reduceLE, Int.reduceEq, Int.reduceNe, Int.reduceToNat, Int.reduceAdd, Int.reduceSub, reduceCtorEq, Nat.reduceBEq, Nat.reduceBNe, loopR_exit, loopR_ret, e1, e2, e5, e6, g0, lenOf_imm, hlt', hlt, hge0, hxx, hml, Int.toNat_natCast, push_new', sn, s0, h1, h2, h3, h4, set_len, push_len, a1, a2, a3, hw]
    rw [loopR_normal]
    refine ⟨sh.length - (i + 1), _, _, by omega, .refl _ _ _, i + 1, v, hlt, rfl, q0, ?_, u0, ?_, ?_, ?_, ?_, ?_⟩
    · rw [htk]; simpa using a5
    · rw [htk, List.all_append, hall]
      simp only [List.all_cons, List.all_nil, shOk, h1, h2, h3, h4]; rfl
    all_goals simp only [putD_some, putD_none, Nat.reduceEqDiff, ↓reduceIte, e1, e2, e5, e6, g0, lenOf_imm, hw]
  · have hlt' : ¬ (i : Int) < (sh.length : Int) := by omega
    have hie : i = sh.length := by omega
    subst hie
    rw [List.take_length] at hLv hall
    simp only [ZB1_app, Z51, base1, ↓reduceIte, Nat.reduceAdd, Nat.reduceSub, Nat.reduceMul, Nat.reduceEqDiff, Nat.reduceLeDiff, Nat.reduceLT, Int.reduceLT, Int.reduceLE, Int.reduceEq, Int.reduceNe, Int.reduceToNat, Int.reduceAdd, Int.reduceSub, reduceCtorEq, Nat.reduceBEq, Nat.reduceBNe, loopR_exit, loopR_ret, e1, e2, e5, e6, g0, lenOf_imm, hml, hlt']
    exact ⟨Lv, sh.map ShV.span, rfl, hLv, by simpa using hl, fun b hb σ' => by simp only [ZB1_app, Z51, base1, ↓reduceIte, Nat.reduceAdd, Nat.reduceSub, Nat.reduceMul, Nat.reduceEqDiff, Nat.reduceLeDiff, Nat.reduceLT, Int.reduceLT, Int.reduceLE, Int.reduceEq, Int.reduceNe, Int.reduceToNat, Int.reduceAdd, Int.reduceSub, reduceCtorEq, Nat.reduceBEq, Nat.reduceBNe]; exact hT hall b hb σ'⟩
theorem ratlas_ok (ep : Int) (sh : List ShV) (hl : sh.length ≤ 1000000) : Tri Try.prog 51 [.agg [.int .i64 ep, .imm (sh.map ShV.cells) false false], .int .i64 5] [] fun r _ => r.pure = true ∧ ∃ b, r = .bool b ∧ (b = true → atlasB ep sh = true) := by
  refine Tri.of_s c51 ZB1_sound ?_
  have hml : (sh.map ShV.cells).length = sh.length := by simp
  have no : ∀ σ : AHeap, (AV.bool false).pure = true ∧ ∃ b, AV.bool false = .bool b ∧ (b = true → atlasB ep sh = true) := fun _ => ⟨rfl, false, rfl, fun h => by cases h⟩
  cases h1 : decide ((sh.length : Int) < 1) with
  | true => simp only [ZB1_app, Z51, base1, baseE, ↓reduceIte, Nat.reduceAdd, Nat.reduceSub, Nat.reduceMul, Nat.reduceEqDiff, Nat.reduceLeDiff, Nat.reduceLT, Int.reduceLT, Int.reduceLE, Int.reduceEq, Int.reduceNe, Int.reduceToNat, Int.reduceAdd, Int.reduceSub, reduceCtorEq, Nat.reduceBEq, Nat.reduceBNe, hml, h1]; exact no []
  | false =>
  cases h2 : decide (12 < (sh.length : Int)) with
  | true => simp only [ZB1_app, Z51, base1, baseE, ↓reduceIte, Nat.reduceAdd, Nat.reduceSub, Nat.reduceMul, Nat.reduceEqDiff, Nat.reduceLeDiff, Nat.reduceLT, Int.reduceLT, Int.reduceLE, Int.reduceEq, Int.reduceNe, Int.reduceToNat, Int.reduceAdd, Int.reduceSub, reduceCtorEq, Nat.reduceBEq, Nat.reduceBNe, hml, h1, h2]; exact no []
  | false =>
  cases h3 : decide (ep < 1) with
  | true => simp only [ZB1_app, Z51, base1, baseE, ↓reduceIte, Nat.reduceAdd, Nat.reduceSub, Nat.reduceMul, Nat.reduceEqDiff, Nat.reduceLeDiff, Nat.reduceLT, Int.reduceLT, Int.reduceLE, Int.reduceEq, Int.reduceNe, Int.reduceToNat, Int.reduceAdd, Int.reduceSub, reduceCtorEq, Nat.reduceBEq, Nat.reduceBNe, hml, h1, h2, h3]; exact no []
  | false =>
  simp only [ZB1_app, Z51, base1, baseE, ↓reduceIte, Nat.reduceAdd, Nat.reduceSub, Nat.reduceMul, Nat.reduceEqDiff, Nat.reduceLeDiff, Nat.reduceLT, Int.reduceLT, Int.reduceLE, Int.reduceEq, Int.reduceNe, Int.reduceToNat, Int.reduceAdd, Int.reduceSub, reduceCtorEq, Nat.reduceBEq, Nat.reduceBNe, hml, h1, h2, h3]
  refine sC_inv (a := b51_23) (ramI ep sh) sh.length _ _ (.refl _ _ _) ⟨0, .nilslice, Nat.zero_le _, rfl, rfl, .inl ⟨rfl, rfl⟩, by simp [LvD], rfl, rfl, rfl, rfl, rfl⟩ (ram_step ep sh hl _ (fun hf σ => no σ) (fun ht b hb σ => ⟨rfl, b, rfl, fun hb' => ?_⟩))
  simp only [atlasB, h1, h2, h3, ht, hb hb']; rfl
end Go.Proofs.Ytndlgmciplckjaa.note
