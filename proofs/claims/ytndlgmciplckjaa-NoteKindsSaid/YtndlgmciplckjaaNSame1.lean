/- Are two replies, two notes the same? So the program says. No condition. -/
import Derived.Test.YtndlgmciplckjaaNMade
set_option linter.unusedVariables false
set_option linter.unusedSimpArgs false
namespace Go.Proofs.Ytndlgmciplckjaa.note
open Go.ChangeShapes Go.WideShapes Go.ChangeAt Go.RowKit Go.Gz
section
variable {C : PCall} {n0 : Nat} {R : MExit → Env → AHeap → Prop} {k : Cont} {e : Env} {σ : AHeap}
abbrev r43_0 : List MOper := [⟨(some 2), .box (.t 0), none⟩,
  ⟨(some 3), .box (.t 1), none⟩,
  ⟨(some 4), .move (.c (.bool false)), none⟩]
def b43_0 : SCode := .region r43_0
abbrev r43_1 : List MOper := [⟨(some 6), .fieldAddr 0 (.t 2), none⟩,
  ⟨(some 7), .load1 (.t 6), none⟩,
  ⟨(some 8), .fieldAddr 0 (.t 3), none⟩,
  ⟨(some 9), .load1 (.t 8), none⟩,
  ⟨(some 10), .bin .neq .num (.t 7) (.t 9), none⟩,
  ⟨(some 11), .move (.t 10), none⟩,
  ⟨(some 12), .fieldAddr 1 (.t 2), (some (11, false))⟩,
  ⟨(some 13), .load1 (.t 12), (some (11, false))⟩,
  ⟨(some 14), .fieldAddr 1 (.t 3), (some (11, false))⟩,
  ⟨(some 15), .load1 (.t 14), (some (11, false))⟩,
  ⟨(some 16), .bin .neq .num (.t 13) (.t 15), (some (11, false))⟩,
  ⟨(some 17), .pick (.t 11) (.c (.bool true)) (.t 16), none⟩,
  ⟨(some 18), .move (.t 17), none⟩,
  ⟨(some 19), .fieldAddr 2 (.t 2), (some (18, false))⟩,
  ⟨(some 20), .load1 (.t 19), (some (18, false))⟩,
  ⟨(some 21), .fieldAddr 2 (.t 3), (some (18, false))⟩,
  ⟨(some 22), .load1 (.t 21), (some (18, false))⟩,
  ⟨(some 23), .bin .neq .num (.t 20) (.t 22), (some (18, false))⟩,
  ⟨(some 24), .pick (.t 18) (.c (.bool true)) (.t 23), none⟩,
  ⟨(some 25), .move (.t 24), none⟩,
  ⟨(some 26), .fieldAddr 3 (.t 2), (some (25, false))⟩,
  ⟨(some 27), .load1 (.t 26), (some (25, false))⟩,
  ⟨(some 28), .fieldAddr 3 (.t 3), (some (25, false))⟩,
  ⟨(some 29), .load1 (.t 28), (some (25, false))⟩,
  ⟨(some 30), .bin .neq .bool (.t 27) (.t 29), (some (25, false))⟩,
  ⟨(some 31), .pick (.t 25) (.c (.bool true)) (.t 30), none⟩,
  ⟨(some 32), .move (.t 31), none⟩,
  ⟨(some 33), .fieldAddr 4 (.t 2), (some (32, false))⟩,
  ⟨(some 34), .load1 (.t 33), (some (32, false))⟩,
  ⟨(some 35), .fieldAddr 4 (.t 3), (some (32, false))⟩,
  ⟨(some 36), .load1 (.t 35), (some (32, false))⟩,
  ⟨(some 37), .bin .neq .num (.t 34) (.t 36), (some (32, false))⟩,
  ⟨(some 38), .pick (.t 32) (.c (.bool true)) (.t 37), none⟩,
  ⟨(some 39), .move (.t 38), none⟩,
  ⟨(some 40), .fieldAddr 6 (.t 2), (some (39, false))⟩,
  ⟨(some 41), .load1 (.t 40), (some (39, false))⟩,
  ⟨(some 42), .fieldAddr 6 (.t 3), (some (39, false))⟩,
  ⟨(some 43), .load1 (.t 42), (some (39, false))⟩,
  ⟨(some 44), .bin .neq .num (.t 41) (.t 43), (some (39, false))⟩,
  ⟨(some 45), .pick (.t 39) (.c (.bool true)) (.t 44), none⟩,
  ⟨(some 46), .move (.t 45), none⟩,
  ⟨(some 47), .fieldAddr 7 (.t 2), (some (46, false))⟩,
  ⟨(some 48), .load1 (.t 47), (some (46, false))⟩,
  ⟨(some 49), .fieldAddr 7 (.t 3), (some (46, false))⟩,
  ⟨(some 50), .load1 (.t 49), (some (46, false))⟩,
  ⟨(some 51), .bin .neq .bool (.t 48) (.t 50), (some (46, false))⟩,
  ⟨(some 52), .pick (.t 46) (.c (.bool true)) (.t 51), none⟩,
  ⟨(some 53), .move (.t 52), none⟩,
  ⟨(some 54), .fieldAddr 5 (.t 2), (some (53, false))⟩,
  ⟨(some 55), .load1 (.t 54), (some (53, false))⟩,
  ⟨(some 56), .lenSl (.t 55), (some (53, false))⟩,
  ⟨(some 57), .fieldAddr 5 (.t 3), (some (53, false))⟩,
  ⟨(some 58), .load1 (.t 57), (some (53, false))⟩,
  ⟨(some 59), .lenSl (.t 58), (some (53, false))⟩,
  ⟨(some 60), .bin .neq .num (.t 56) (.t 59), (some (53, false))⟩,
  ⟨(some 61), .pick (.t 53) (.c (.bool true)) (.t 60), none⟩]
def b43_1 : SCode := .region r43_1
abbrev r43_2 : List MOper := [⟨(some 4), .move (.c (.bool false)), none⟩]
def b43_2 : SCode := .region r43_2
def b43_3 : SCode := .seq b43_2 .ret
def b43_4 : SCode := .cond (.t 61) b43_3 .skip
def b43_5 : SCode := .seq b43_1 b43_4
abbrev r43_6 : List MOper := [⟨(some 5), .move (.c (.int .i64 0)), none⟩]
def b43_6 : SCode := .region r43_6
abbrev r43_7 : List MOper := [⟨(some 62), .move (.t 5), none⟩,
  ⟨(some 63), .fieldAddr 5 (.t 2), none⟩,
  ⟨(some 64), .load1 (.t 63), none⟩,
  ⟨(some 65), .lenSl (.t 64), none⟩,
  ⟨(some 66), .bin .lss .num (.t 62) (.t 65), none⟩]
def b43_7 : SCode := .region r43_7
def b43_8 : SCode := .cond (.t 66) .skip (.exit 0)
def b43_9 : SCode := .seq b43_7 b43_8
abbrev t43_10 : LTree := (.quiet ⟨(some 69), .fieldAddr 5 (.t 2), none⟩ 0
  (.quiet ⟨(some 70), .load1 (.t 69), none⟩ 1
  (.quiet ⟨(some 71), .move (.t 5), none⟩ 2
  (.quiet ⟨(some 72), .indexAddr 2 (.t 70) (.t 71), none⟩ 3
  (.quiet ⟨(some 73), .loadN 2 (.t 72), none⟩ 4
  (.quiet ⟨(some 74), .fieldAddr 5 (.t 3), none⟩ 5
  (.quiet ⟨(some 75), .load1 (.t 74), none⟩ 6
  (.quiet ⟨(some 76), .move (.t 5), none⟩ 7
  (.quiet ⟨(some 77), .indexAddr 2 (.t 75) (.t 76), none⟩ 8
  (.quiet ⟨(some 78), .loadN 2 (.t 77), none⟩ 9
  (.quiet ⟨(some 79), .bin .neq (.flat [.s, .s]) (.t 73) (.t 78), none⟩ 10
  .leaf)))))))))))
def b43_10 : SCode := .draw t43_10
abbrev r43_11 : List MOper := [⟨(some 4), .move (.c (.bool false)), none⟩]
def b43_11 : SCode := .region r43_11
def b43_12 : SCode := .seq b43_11 .ret
def b43_13 : SCode := .cond (.t 79) b43_12 .skip
def b43_14 : SCode := .seq b43_10 b43_13
def b43_15 : SCode := .block 1 b43_14
abbrev r43_16 : List MOper := [⟨(some 67), .move (.t 5), none⟩,
  ⟨(some 68), .bin .add .num (.t 67) (.c (.int .i64 1)), none⟩,
  ⟨(some 5), .move (.t 68), none⟩]
def b43_16 : SCode := .region r43_16
def b43_17 : SCode := .seq b43_15 b43_16
def b43_18 : SCode := .seq b43_9 b43_17
def b43_19 : SCode := .loop b43_18
def b43_20 : SCode := .block 0 b43_19
def b43_21 : SCode := .seq b43_6 b43_20
abbrev r43_22 : List MOper := [⟨(some 4), .move (.c (.bool true)), none⟩]
def b43_22 : SCode := .region r43_22
def b43_23 : SCode := .seq b43_22 .ret
def b43_24 : SCode := .seq b43_21 b43_23
def b43_25 : SCode := .seq b43_5 b43_24
def b43_26 : SCode := .seq b43_0 b43_25
def s43 : SFunc := ⟨80, [.t 4], b43_26⟩
theorem c43 : sFn Try.prog 43 = some s43 := by kernel_rfl
theorem Z43 : XR b43_0 r43_0 ∧ XR b43_1 r43_1 ∧ XR b43_2 r43_2 ∧ XS b43_3 b43_2 .ret ∧ XC b43_4 (.t 61) b43_3 .skip ∧ XS b43_5 b43_1 b43_4 ∧ XR b43_6 r43_6 ∧ XR b43_7 r43_7 ∧ XC b43_8 (.t 66) .skip (.exit 0) ∧ XS b43_9 b43_7 b43_8 ∧ XT b43_10 t43_10 ∧ XR b43_11 r43_11 ∧ XS b43_12 b43_11 .ret ∧ XC b43_13 (.t 79) b43_12 .skip ∧ XS b43_14 b43_10 b43_13 ∧ XB b43_15 1 b43_14 ∧ XR b43_16 r43_16 ∧ XS b43_17 b43_15 b43_16 ∧ XS b43_18 b43_9 b43_17 ∧ XB b43_20 0 b43_19 ∧ XS b43_21 b43_6 b43_20 ∧ XR b43_22 r43_22 ∧ XS b43_23 b43_22 .ret ∧ XS b43_24 b43_21 b43_23 ∧ XS b43_25 b43_5 b43_24 ∧ XS b43_26 b43_0 b43_25 ∧ XY s43 80 b43_26 [.t 4] := ⟨rfl, rfl, rfl, rfl, sC_cond, rfl, rfl, rfl, sC_cond, rfl, rfl, rfl, rfl, sC_cond, rfl, rfl, rfl, rfl, rfl, rfl, rfl, rfl, rfl, rfl, rfl, rfl, rfl⟩
abbrev r44_0 : List MOper := [⟨(some 4), .move (.c (.bool false)), none⟩]
def b44_0 : SCode := .region r44_0
abbrev r44_1 : List MOper := [⟨(some 6), .move (.t 0), none⟩,
  ⟨(some 7), .lenSl (.t 6), none⟩,
  ⟨(some 8), .move (.t 1), none⟩,
  ⟨(some 9), .lenSl (.t 8), none⟩,
  ⟨(some 10), .bin .neq .num (.t 7) (.t 9), none⟩]
def b44_1 : SCode := .region r44_1
abbrev r44_2 : List MOper := [⟨(some 4), .move (.c (.bool false)), none⟩]
def b44_2 : SCode := .region r44_2
def b44_3 : SCode := .seq b44_2 .ret
def b44_4 : SCode := .cond (.t 10) b44_3 .skip
def b44_5 : SCode := .seq b44_1 b44_4
abbrev r44_6 : List MOper := [⟨(some 5), .move (.c (.int .i64 0)), none⟩]
def b44_6 : SCode := .region r44_6
abbrev r44_7 : List MOper := [⟨(some 11), .move (.t 5), none⟩,
  ⟨(some 12), .move (.t 0), none⟩,
  ⟨(some 13), .lenSl (.t 12), none⟩,
  ⟨(some 14), .bin .lss .num (.t 11) (.t 13), none⟩]
def b44_7 : SCode := .region r44_7
def b44_8 : SCode := .cond (.t 14) .skip (.exit 0)
def b44_9 : SCode := .seq b44_7 b44_8
abbrev t44_10 : LTree := (.quiet ⟨(some 17), .move (.t 0), none⟩ 0
  (.quiet ⟨(some 18), .move (.t 5), none⟩ 1
  (.quiet ⟨(some 19), .indexAddr 9 (.t 17) (.t 18), none⟩ 2
  (.quiet ⟨(some 20), .fieldAddr 0 (.t 19), none⟩ 3
  (.quiet ⟨(some 21), .load1 (.t 20), none⟩ 4
  (.quiet ⟨(some 22), .move (.t 1), none⟩ 5
  (.quiet ⟨(some 23), .move (.t 5), none⟩ 6
  (.quiet ⟨(some 24), .indexAddr 9 (.t 22) (.t 23), none⟩ 7
  (.quiet ⟨(some 25), .fieldAddr 0 (.t 24), none⟩ 8
  (.quiet ⟨(some 26), .load1 (.t 25), none⟩ 9
  (.quiet ⟨(some 27), .bin .neq .num (.t 21) (.t 26), none⟩ 10
  (.quiet ⟨(some 28), .move (.t 27), none⟩ 11
  (.quiet ⟨(some 29), .move (.t 0), (some (28, false))⟩ 12
  (.quiet ⟨(some 30), .move (.t 5), (some (28, false))⟩ 13
  (.quiet ⟨(some 31), .indexAddr 9 (.t 29) (.t 30), (some (28, false))⟩ 14
  (.quiet ⟨(some 32), .fieldAddr 1 (.t 31), (some (28, false))⟩ 15
  (.quiet ⟨(some 33), .loadN 8 (.t 32), (some (28, false))⟩ 16
  (.quiet ⟨(some 34), .move (.t 1), (some (28, false))⟩ 17
  (.quiet ⟨(some 35), .move (.t 5), (some (28, false))⟩ 18
  (.quiet ⟨(some 36), .indexAddr 9 (.t 34) (.t 35), (some (28, false))⟩ 19
  (.quiet ⟨(some 37), .fieldAddr 1 (.t 36), (some (28, false))⟩ 20
  (.quiet ⟨(some 38), .loadN 8 (.t 37), (some (28, false))⟩ 21
  (.loud ⟨(some 39), .call 43 [(.t 33), (.t 38)], (some (28, false))⟩ []
  (.quiet ⟨(some 40), .un .not (.t 39), (some (28, false))⟩ 23
  (.quiet ⟨(some 41), .pick (.t 28) (.c (.bool true)) (.t 40), none⟩ 24
  .leaf)) .stop)))))))))))))))))))))))
def b44_10 : SCode := .draw t44_10
abbrev r44_11 : List MOper := [⟨(some 4), .move (.c (.bool false)), none⟩]
def b44_11 : SCode := .region r44_11
def b44_12 : SCode := .seq b44_11 .ret
def b44_13 : SCode := .cond (.t 41) b44_12 .skip
def b44_14 : SCode := .seq b44_10 b44_13
def b44_15 : SCode := .block 1 b44_14
abbrev r44_16 : List MOper := [⟨(some 15), .move (.t 5), none⟩,
  ⟨(some 16), .bin .add .num (.t 15) (.c (.int .i64 1)), none⟩,
  ⟨(some 5), .move (.t 16), none⟩]
def b44_16 : SCode := .region r44_16
def b44_17 : SCode := .seq b44_15 b44_16
def b44_18 : SCode := .seq b44_9 b44_17
def b44_19 : SCode := .loop b44_18
def b44_20 : SCode := .block 0 b44_19
def b44_21 : SCode := .seq b44_6 b44_20
abbrev r44_22 : List MOper := [⟨(some 4), .move (.c (.bool true)), none⟩]
def b44_22 : SCode := .region r44_22
def b44_23 : SCode := .seq b44_22 .ret
def b44_24 : SCode := .seq b44_21 b44_23
def b44_25 : SCode := .seq b44_5 b44_24
def b44_26 : SCode := .seq b44_0 b44_25
def s44 : SFunc := ⟨42, [.t 4], b44_26⟩
theorem c44 : sFn Try.prog 44 = some s44 := by kernel_rfl
theorem x44_5 : XS b44_5 b44_1 b44_4 := rfl
theorem Z44 : XR b44_0 r44_0 ∧ XR b44_1 r44_1 ∧ XR b44_2 r44_2 ∧ XS b44_3 b44_2 .ret ∧ XC b44_4 (.t 10) b44_3 .skip ∧ XR b44_6 r44_6 ∧ XR b44_7 r44_7 ∧ XC b44_8 (.t 14) .skip (.exit 0) ∧ XS b44_9 b44_7 b44_8 ∧ XT b44_10 t44_10 ∧ XR b44_11 r44_11 ∧ XS b44_12 b44_11 .ret ∧ XC b44_13 (.t 41) b44_12 .skip ∧ XS b44_14 b44_10 b44_13 ∧ XB b44_15 1 b44_14 ∧ XR b44_16 r44_16 ∧ XS b44_17 b44_15 b44_16 ∧ XS b44_18 b44_9 b44_17 ∧ XB b44_20 0 b44_19 ∧ XS b44_21 b44_6 b44_20 ∧ XR b44_22 r44_22 ∧ XS b44_23 b44_22 .ret ∧ XS b44_24 b44_21 b44_23 ∧ XS b44_25 b44_5 b44_24 ∧ XS b44_26 b44_0 b44_25 ∧ XY s44 42 b44_26 [.t 4] := ⟨rfl, rfl, rfl, rfl, sC_cond, rfl, rfl, sC_cond, rfl, rfl, rfl, rfl, sC_cond, rfl, rfl, rfl, rfl, rfl, rfl, rfl, rfl, rfl, rfl, rfl, rfl, rfl⟩
abbrev r45_0 : List MOper := [⟨(some 2), .move (.c (.nilslice)), none⟩]
def b45_0 : SCode := .region r45_0
abbrev r45_1 : List MOper := [⟨(some 3), .move (.c (.nilslice)), none⟩]
def b45_1 : SCode := .region r45_1
abbrev r45_2 : List MOper := [⟨(some 4), .move (.c (.int .i64 0)), none⟩]
def b45_2 : SCode := .region r45_2
abbrev r45_3 : List MOper := [⟨(some 5), .move (.t 4), none⟩,
  ⟨(some 6), .move (.t 0), none⟩,
  ⟨(some 7), .lenSl (.t 6), none⟩,
  ⟨(some 8), .bin .lss .num (.t 5) (.t 7), none⟩]
def b45_3 : SCode := .region r45_3
def b45_4 : SCode := .cond (.t 8) .skip (.exit 0)
def b45_5 : SCode := .seq b45_3 b45_4
abbrev t45_6 : LTree := (.quiet ⟨(some 11), .move (.t 3), none⟩ 0
  (.quiet ⟨(some 12), .move (.t 0), none⟩ 1
  (.quiet ⟨(some 13), .move (.t 4), none⟩ 2
  (.quiet ⟨(some 14), .indexAddr 9 (.t 12) (.t 13), none⟩ 3
  (.quiet ⟨(some 15), .fieldAddr 0 (.t 14), none⟩ 4
  (.quiet ⟨(some 16), .load1 (.t 15), none⟩ 5
  (.quiet ⟨(some 17), .move (.t 0), none⟩ 6
  (.quiet ⟨(some 18), .move (.t 4), none⟩ 7
  (.quiet ⟨(some 19), .indexAddr 9 (.t 17) (.t 18), none⟩ 8
  (.quiet ⟨(some 20), .fieldAddr 1 (.t 19), none⟩ 9
  (.quiet ⟨(some 21), .loadN 8 (.t 20), none⟩ 10
  (.quiet ⟨(some 22), .build [.int .i64 0, .int .i64 0, .int .i64 0, .int .i64 0, .bool false, .str [], .nilslice, .str [], .bool false] [(0, 1, (.t 16)), (1, 8, (.t 21))], none⟩ 11
  (.loud ⟨(some 23), .buildSlice [.int .i64 0, .int .i64 0, .int .i64 0, .int .i64 0, .bool false, .str [], .nilslice, .str [], .bool false] 9 1 [(0, 9, (.t 22))], none⟩ []
  (.loud ⟨(some 24), .append 9 104 (.t 11) (.t 23), none⟩ []
  (.quiet ⟨(some 3), .move (.t 24), none⟩ 14
  .leaf) .stop) .stop)))))))))))))
def b45_6 : SCode := .draw t45_6
def b45_7 : SCode := .block 1 b45_6
abbrev r45_8 : List MOper := [⟨(some 9), .move (.t 4), none⟩,
  ⟨(some 10), .bin .add .num (.t 9) (.c (.int .i64 1)), none⟩,
  ⟨(some 4), .move (.t 10), none⟩]
def b45_8 : SCode := .region r45_8
def b45_9 : SCode := .seq b45_7 b45_8
def b45_10 : SCode := .seq b45_5 b45_9
def b45_11 : SCode := .loop b45_10
def b45_12 : SCode := .block 0 b45_11
def b45_13 : SCode := .seq b45_2 b45_12
abbrev r45_14 : List MOper := [⟨(some 25), .move (.t 3), none⟩,
  ⟨(some 2), .move (.t 25), none⟩]
def b45_14 : SCode := .region r45_14
def b45_15 : SCode := .seq b45_14 .ret
def b45_16 : SCode := .seq b45_13 b45_15
def b45_17 : SCode := .seq b45_1 b45_16
def b45_18 : SCode := .seq b45_0 b45_17
def s45 : SFunc := ⟨26, [.t 2], b45_18⟩
theorem c45 : sFn Try.prog 45 = some s45 := by kernel_rfl
theorem Z45 : XR b45_0 r45_0 ∧ XR b45_1 r45_1 ∧ XR b45_2 r45_2 ∧ XR b45_3 r45_3 ∧ XC b45_4 (.t 8) .skip (.exit 0) ∧ XS b45_5 b45_3 b45_4 ∧ XT b45_6 t45_6 ∧ XB b45_7 1 b45_6 ∧ XR b45_8 r45_8 ∧ XS b45_9 b45_7 b45_8 ∧ XS b45_10 b45_5 b45_9 ∧ XB b45_12 0 b45_11 ∧ XS b45_13 b45_2 b45_12 ∧ XR b45_14 r45_14 ∧ XS b45_15 b45_14 .ret ∧ XS b45_16 b45_13 b45_15 ∧ XS b45_17 b45_1 b45_16 ∧ XS b45_18 b45_0 b45_17 ∧ XY s45 26 b45_18 [.t 2] := ⟨rfl, rfl, rfl, rfl, sC_cond, rfl, rfl, rfl, rfl, rfl, rfl, rfl, rfl, rfl, rfl, rfl, rfl, rfl, rfl⟩
abbrev r46_0 : List MOper := [⟨(some 2), .box (.t 0), none⟩,
  ⟨(some 3), .box (.t 1), none⟩,
  ⟨(some 4), .move (.c (.bool false)), none⟩]
def b46_0 : SCode := .region r46_0
abbrev r46_1 : List MOper := [⟨(some 6), .fieldAddr 0 (.t 2), none⟩,
  ⟨(some 7), .load1 (.t 6), none⟩,
  ⟨(some 8), .fieldAddr 0 (.t 3), none⟩,
  ⟨(some 9), .load1 (.t 8), none⟩,
  ⟨(some 10), .bin .neq .num (.t 7) (.t 9), none⟩,
  ⟨(some 11), .move (.t 10), none⟩,
  ⟨(some 12), .fieldAddr 1 (.t 2), (some (11, false))⟩,
  ⟨(some 13), .load1 (.t 12), (some (11, false))⟩,
  ⟨(some 14), .lenSl (.t 13), (some (11, false))⟩,
  ⟨(some 15), .fieldAddr 1 (.t 3), (some (11, false))⟩,
  ⟨(some 16), .load1 (.t 15), (some (11, false))⟩,
  ⟨(some 17), .lenSl (.t 16), (some (11, false))⟩,
  ⟨(some 18), .bin .neq .num (.t 14) (.t 17), (some (11, false))⟩,
  ⟨(some 19), .pick (.t 11) (.c (.bool true)) (.t 18), none⟩]
def b46_1 : SCode := .region r46_1
abbrev r46_2 : List MOper := [⟨(some 4), .move (.c (.bool false)), none⟩]
def b46_2 : SCode := .region r46_2
def b46_3 : SCode := .seq b46_2 .ret
def b46_4 : SCode := .cond (.t 19) b46_3 .skip
def b46_5 : SCode := .seq b46_1 b46_4
abbrev r46_6 : List MOper := [⟨(some 5), .move (.c (.int .i64 0)), none⟩]
def b46_6 : SCode := .region r46_6
abbrev r46_7 : List MOper := [⟨(some 20), .move (.t 5), none⟩,
  ⟨(some 21), .fieldAddr 1 (.t 2), none⟩,
  ⟨(some 22), .load1 (.t 21), none⟩,
  ⟨(some 23), .lenSl (.t 22), none⟩,
  ⟨(some 24), .bin .lss .num (.t 20) (.t 23), none⟩]
def b46_7 : SCode := .region r46_7
def b46_8 : SCode := .cond (.t 24) .skip (.exit 0)
def b46_9 : SCode := .seq b46_7 b46_8
abbrev t46_10 : LTree := (.quiet ⟨(some 27), .fieldAddr 1 (.t 2), none⟩ 0
  (.quiet ⟨(some 28), .load1 (.t 27), none⟩ 1
  (.quiet ⟨(some 29), .move (.t 5), none⟩ 2
  (.quiet ⟨(some 30), .indexAddr 4 (.t 28) (.t 29), none⟩ 3
  (.quiet ⟨(some 31), .loadN 4 (.t 30), none⟩ 4
  (.quiet ⟨(some 32), .fieldAddr 1 (.t 3), none⟩ 5
  (.quiet ⟨(some 33), .load1 (.t 32), none⟩ 6
  (.quiet ⟨(some 34), .move (.t 5), none⟩ 7
  (.quiet ⟨(some 35), .indexAddr 4 (.t 33) (.t 34), none⟩ 8
  (.quiet ⟨(some 36), .loadN 4 (.t 35), none⟩ 9
  (.quiet ⟨(some 37), .bin .neq (.flat [.s, .s, .i, .i]) (.t 31) (.t 36), none⟩ 10
  .leaf)))))))))))
def b46_10 : SCode := .draw t46_10
abbrev r46_11 : List MOper := [⟨(some 4), .move (.c (.bool false)), none⟩]
def b46_11 : SCode := .region r46_11
def b46_12 : SCode := .seq b46_11 .ret
def b46_13 : SCode := .cond (.t 37) b46_12 .skip
def b46_14 : SCode := .seq b46_10 b46_13
def b46_15 : SCode := .block 1 b46_14
abbrev r46_16 : List MOper := [⟨(some 25), .move (.t 5), none⟩,
  ⟨(some 26), .bin .add .num (.t 25) (.c (.int .i64 1)), none⟩,
  ⟨(some 5), .move (.t 26), none⟩]
def b46_16 : SCode := .region r46_16
def b46_17 : SCode := .seq b46_15 b46_16
def b46_18 : SCode := .seq b46_9 b46_17
def b46_19 : SCode := .loop b46_18
def b46_20 : SCode := .block 0 b46_19
def b46_21 : SCode := .seq b46_6 b46_20
abbrev r46_22 : List MOper := [⟨(some 4), .move (.c (.bool true)), none⟩]
def b46_22 : SCode := .region r46_22
def b46_23 : SCode := .seq b46_22 .ret
def b46_24 : SCode := .seq b46_21 b46_23
def b46_25 : SCode := .seq b46_5 b46_24
def b46_26 : SCode := .seq b46_0 b46_25
def s46 : SFunc := ⟨38, [.t 4], b46_26⟩
theorem c46 : sFn Try.prog 46 = some s46 := by kernel_rfl
theorem Z46 : XR b46_0 r46_0 ∧ XR b46_1 r46_1 ∧ XR b46_2 r46_2 ∧ XS b46_3 b46_2 .ret ∧ XC b46_4 (.t 19) b46_3 .skip ∧ XS b46_5 b46_1 b46_4 ∧ XR b46_6 r46_6 ∧ XR b46_7 r46_7 ∧ XC b46_8 (.t 24) .skip (.exit 0) ∧ XS b46_9 b46_7 b46_8 ∧ XT b46_10 t46_10 ∧ XR b46_11 r46_11 ∧ XS b46_12 b46_11 .ret ∧ XC b46_13 (.t 37) b46_12 .skip ∧ XS b46_14 b46_10 b46_13 ∧ XB b46_15 1 b46_14 ∧ XR b46_16 r46_16 ∧ XS b46_17 b46_15 b46_16 ∧ XS b46_18 b46_9 b46_17 ∧ XB b46_20 0 b46_19 ∧ XS b46_21 b46_6 b46_20 ∧ XR b46_22 r46_22 ∧ XS b46_23 b46_22 .ret ∧ XS b46_24 b46_21 b46_23 ∧ XS b46_25 b46_5 b46_24 ∧ XS b46_26 b46_0 b46_25 ∧ XY s46 38 b46_26 [.t 4] := ⟨rfl, rfl, rfl, rfl, sC_cond, rfl, rfl, rfl, sC_cond, rfl, rfl, rfl, rfl, sC_cond, rfl, rfl, rfl, rfl, rfl, rfl, rfl, rfl, rfl, rfl, rfl, rfl, rfl⟩
abbrev r47_0 : List MOper := [⟨(some 1), .box (.t 0), none⟩,
  ⟨(some 2), .alloc [.int .i64 0, .nilslice], none⟩]
def b47_0 : SCode := .region r47_0
abbrev r47_1 : List MOper := [⟨(some 5), .fieldAddr 0 (.t 1), none⟩,
  ⟨(some 6), .load1 (.t 5), none⟩,
  ⟨(some 7), .build [.int .i64 0, .nilslice] [(0, 1, (.t 6))], none⟩,
  ⟨(some 3), .alloc [.int .i64 0, .nilslice], none⟩,
  ⟨none, .store 2 (.t 3) (.t 7), none⟩]
def b47_1 : SCode := .region r47_1
abbrev r47_2 : List MOper := [⟨(some 4), .move (.c (.int .i64 0)), none⟩]
def b47_2 : SCode := .region r47_2
abbrev r47_3 : List MOper := [⟨(some 8), .move (.t 4), none⟩,
  ⟨(some 9), .fieldAddr 1 (.t 1), none⟩,
  ⟨(some 10), .load1 (.t 9), none⟩,
  ⟨(some 11), .lenSl (.t 10), none⟩,
  ⟨(some 12), .bin .lss .num (.t 8) (.t 11), none⟩]
def b47_3 : SCode := .region r47_3
def b47_4 : SCode := .cond (.t 12) .skip (.exit 0)
def b47_5 : SCode := .seq b47_3 b47_4
abbrev t47_6 : LTree := (.quiet ⟨(some 15), .fieldAddr 1 (.t 3), none⟩ 0
  (.quiet ⟨(some 16), .load1 (.t 15), none⟩ 1
  (.quiet ⟨(some 17), .fieldAddr 1 (.t 1), none⟩ 2
  (.quiet ⟨(some 18), .load1 (.t 17), none⟩ 3
  (.quiet ⟨(some 19), .move (.t 4), none⟩ 4
  (.quiet ⟨(some 20), .indexAddr 4 (.t 18) (.t 19), none⟩ 5
  (.quiet ⟨(some 21), .fieldAddr 0 (.t 20), none⟩ 6
  (.quiet ⟨(some 22), .loadN 2 (.t 21), none⟩ 7
  (.quiet ⟨(some 23), .fieldAddr 1 (.t 1), none⟩ 8
  (.quiet ⟨(some 24), .load1 (.t 23), none⟩ 9
  (.quiet ⟨(some 25), .move (.t 4), none⟩ 10
  (.quiet ⟨(some 26), .indexAddr 4 (.t 24) (.t 25), none⟩ 11
  (.quiet ⟨(some 27), .fieldAddr 2 (.t 26), none⟩ 12
  (.quiet ⟨(some 28), .load1 (.t 27), none⟩ 13
  (.quiet ⟨(some 29), .fieldAddr 1 (.t 1), none⟩ 14
  (.quiet ⟨(some 30), .load1 (.t 29), none⟩ 15
  (.quiet ⟨(some 31), .move (.t 4), none⟩ 16
  (.quiet ⟨(some 32), .indexAddr 4 (.t 30) (.t 31), none⟩ 17
  (.quiet ⟨(some 33), .fieldAddr 3 (.t 32), none⟩ 18
  (.quiet ⟨(some 34), .load1 (.t 33), none⟩ 19
  (.quiet ⟨(some 35), .build [.str [], .str [], .int .i64 0, .int .i64 0] [(0, 2, (.t 22)), (2, 1, (.t 28)), (3, 1, (.t 34))], none⟩ 20
  (.loud ⟨(some 36), .buildSlice [.str [], .str [], .int .i64 0, .int .i64 0] 4 1 [(0, 4, (.t 35))], none⟩ [1]
  (.loud ⟨(some 37), .append 4 48 (.t 16) (.t 36), none⟩ []
  (.quiet ⟨(some 38), .fieldAddr 1 (.t 3), none⟩ 23
  (.loud ⟨none, .store 1 (.t 38) (.t 37), none⟩ []
  .leaf .stop)) .stop) .stop))))))))))))))))))))))
def b47_6 : SCode := .draw t47_6
def b47_7 : SCode := .block 1 b47_6
abbrev r47_8 : List MOper := [⟨(some 13), .move (.t 4), none⟩,
  ⟨(some 14), .bin .add .num (.t 13) (.c (.int .i64 1)), none⟩,
  ⟨(some 4), .move (.t 14), none⟩]
def b47_8 : SCode := .region r47_8
def b47_9 : SCode := .seq b47_7 b47_8
def b47_10 : SCode := .seq b47_5 b47_9
def b47_11 : SCode := .loop b47_10
def b47_12 : SCode := .block 0 b47_11
def b47_13 : SCode := .seq b47_2 b47_12
abbrev r47_14 : List MOper := [⟨(some 39), .loadN 2 (.t 3), none⟩,
  ⟨none, .store 2 (.t 2) (.t 39), none⟩]
def b47_14 : SCode := .region r47_14
def b47_15 : SCode := .seq b47_14 .ret
def b47_16 : SCode := .seq b47_13 b47_15
def b47_17 : SCode := .seq b47_1 b47_16
def b47_18 : SCode := .seq b47_0 b47_17
def s47 : SFunc := ⟨40, [.cN 2 2], b47_18⟩
theorem c47 : sFn Try.prog 47 = some s47 := by kernel_rfl
theorem Z47 : XR b47_0 r47_0 ∧ XR b47_1 r47_1 ∧ XR b47_2 r47_2 ∧ XR b47_3 r47_3 ∧ XC b47_4 (.t 12) .skip (.exit 0) ∧ XS b47_5 b47_3 b47_4 ∧ XT b47_6 t47_6 ∧ XB b47_7 1 b47_6 ∧ XR b47_8 r47_8 ∧ XS b47_9 b47_7 b47_8 ∧ XS b47_10 b47_5 b47_9 ∧ XB b47_12 0 b47_11 ∧ XS b47_13 b47_2 b47_12 ∧ XR b47_14 r47_14 ∧ XS b47_15 b47_14 .ret ∧ XS b47_16 b47_13 b47_15 ∧ XS b47_17 b47_1 b47_16 ∧ XS b47_18 b47_0 b47_17 ∧ XY s47 40 b47_18 [.cN 2 2] := ⟨rfl, rfl, rfl, rfl, sC_cond, rfl, rfl, rfl, rfl, rfl, rfl, rfl, rfl, rfl, rfl, rfl, rfl, rfl, rfl⟩

end
set_option maxHeartbeats 4000000
set_option maxRecDepth 10000
theorem take_eq {α : Type} {a b : List α} {i : Nat} {x y : α} (ht : a.take i = b.take i) (hx : a[i]? = some x) (hy : b[i]? = some y) (h : x = y) : a.take (i + 1) = b.take (i + 1) := by
  rw [List.take_add_one, List.take_add_one, ht, hx, hy, h]
theorem same_at {α : Type} {a b : List α} {i : Nat} {x y : α} (hx : a[i]? = some x) (hy : b[i]? = some y) (h : a = b) : x = y := by
  subst h; rw [hx] at hy; exact Option.some.inj hy
theorem ne_false {p : Prop} [Decidable p] (h : decide (¬ p) = false) : p := by
  by_cases hp : p
  · exact hp
  · simp [hp] at h
theorem bne_false {p q : Bool} (h : (!(p == q)) = false) : p = q := by cases p <;> cases q <;> simp at h <;> rfl
def SmB {α : Type} (a b : α) (r : AV) (_ : AHeap) : Prop := ∃ t, r = .bool t ∧ (t = true ↔ a = b)
theorem smB_pure {α : Type} {f : FuncId} {args : List AV} {a b : α} (h : Tri Try.prog f args [] (SmB a b)) : Tri Try.prog f args [] fun r _ => r.pure = true ∧ ∃ t, r = .bool t ∧ (t = true ↔ a = b) :=
  h.mono fun r _ ⟨t, h1, h2⟩ => ⟨by rw [h1]; rfl, t, h1, h2⟩
/-! Replies. -/
def srepI (a b : RepV) (n : Nat) (e : Env) (σ : AHeap) : Prop :=
  ∃ i : Nat, i ≤ a.l.length ∧ n = a.l.length - i ∧ σ = [some a.cells, some b.cells] ∧ a.l.take i = b.l.take i ∧ e 2 = .ptr 0 0 ∧ e 3 = .ptr 1 0 ∧ e 5 = .int .i64 (i : Int)
theorem srep_step (a b : RepV) (hl : a.l.length ≤ 1000000000000000) (hll : a.l.length = b.l.length) (hrest : a.l = b.l → a = b) (n : Nat) (e : Env) (σ : AHeap) (h : srepI a b n e σ) :
    sC noCall 0 b43_18 (unw noCall 0 (loopR noCall 0 (RetQ [MRes.t 4] (SmB a b)) (.block 0 (.seq b43_23 .fin)) (srepI a b) n) .fin) e σ := by
  obtain ⟨i, hi, hn, rfl, ht, e2, e3, e5⟩ := h
  rcases Nat.lt_or_ge i a.l.length with hlt | hge
  · have hlt' : (i : Int) < (a.l.length : Int) := by omega
    have hge0 : (0 : Int) ≤ (i : Int) := by omega
    have hltb' : (i : Int) < (b.l.length : Int) := by omega
    have hltb : i < b.l.length := by omega
    obtain ⟨x, hx⟩ : ∃ x, a.l[i]? = some x := ⟨_, List.getElem?_eq_getElem hlt⟩
    obtain ⟨y, hy⟩ : ∃ y, b.l[i]? = some y := ⟨_, List.getElem?_eq_getElem (by omega)⟩
    have hxx : (recs a.l)[i]? = some [.str x.1, .str x.2] := by simp [recs, hx]
    have hyy : (recs b.l)[i]? = some [.str y.1, .str y.2] := by simp [recs, hy]
    have hw : IntKind.wrap .i64 ((i : Int) + 1) = ((i + 1 : Nat) : Int) := by rw [Gz.wrap64 (by omega)]; omega
    cases h1 : decide (x.1 = y.1) with
    | false =>
      simp only [RepV.cells, Z43, base1, baseE, ↓reduceIte, Nat.reduceAdd, Nat.reduceSub, Nat.reduceMul, Nat.reduceEqDiff, Nat.reduceLeDiff, Nat.reduceLT, Int.reduceLT, Int.reduceLE, Int.reduceEq, Int.reduceNe, Int.reduceToNat, Int.reduceAdd, Int.reduceSub, reduceCtorEq, Nat.reduceBEq, Nat.reduceBNe, loopR_exit, loopR_ret, e2, e3, e5, hlt', hltb', hlt, hltb, hge0, hxx, hyy, recs_len, Int.toNat_natCast, h1]
      exact ⟨false, rfl, ⟨fun h => (by cases h), fun h => by
        have := same_at hx hy (by rw [h]); rw [this] at h1; simp at h1⟩⟩
    | true =>
      cases h2 : decide (x.2 = y.2) with
      | false =>
        simp only [RepV.cells, Z43, base1, baseE, ↓reduceIte, Nat.reduceAdd, Nat.reduceSub, Nat.reduceMul, Nat.reduceEqDiff, Nat.reduceLeDiff, Nat.reduceLT, Int.reduceLT, Int.reduceLE, Int.reduceEq, Int.reduceNe, Int.reduceToNat, Int.reduceAdd, Int.reduceSub, reduceCtorEq, Nat.reduceBEq, Nat.reduceBNe, loopR_exit, loopR_ret, e2, e3, e5, hlt', hltb', hlt, hltb, hge0, hxx, hyy, recs_len, Int.toNat_natCast, h1, h2]
        exact ⟨false, rfl, ⟨fun h => (by cases h), fun h => by
          have := same_at hx hy (by rw [h]); rw [this] at h2; simp at h2⟩⟩
      | true =>
        simp only [RepV.cells, Z43, base1, baseE, ↓reduceIte, Nat.reduceAdd, Nat.reduceSub, Nat.reduceMul, Nat.reduceEqDiff, Nat.reduceLeDiff, Nat.reduceLT, Int.reduceLT, Int.reduceLE, Int.reduceEq, Int.reduceNe, Int.reduceToNat, Int.reduceAdd, Int.reduceSub, reduceCtorEq, Nat.reduceBEq, Nat.reduceBNe, loopR_exit, loopR_ret, e2, e3, e5, hlt', hltb', hlt, hltb, hge0, hxx, hyy, recs_len, Int.toNat_natCast, h1, h2, hw]
        rw [loopR_normal]
        refine ⟨a.l.length - (i + 1), _, _, by omega, .refl _ _ _, i + 1, hlt, rfl, rfl, take_eq ht hx hy (Prod.ext (of_decide_eq_true h1) (of_decide_eq_true h2)), ?_, ?_, ?_⟩
        all_goals simp only [putD_some, putD_none, Nat.reduceEqDiff, ↓reduceIte, e2, e3, e5, hw]
  · have hlt' : ¬ (i : Int) < (a.l.length : Int) := by omega
    have hie : i = a.l.length := by omega
    subst hie
    rw [List.take_length, hll, List.take_length] at ht
    simp only [RepV.cells, Z43, base1, baseE, ↓reduceIte, Nat.reduceAdd, Nat.reduceSub, Nat.reduceMul, Nat.reduceEqDiff, Nat.reduceLeDiff, Nat.reduceLT, Int.reduceLT, Int.reduceLE, Int.reduceEq, Int.reduceNe, Int.reduceToNat, Int.reduceAdd, Int.reduceSub, reduceCtorEq, Nat.reduceBEq, Nat.reduceBNe, loopR_exit, loopR_ret, e2, e3, e5, hlt', recs_len]
    exact ⟨true, rfl, ⟨fun _ => hrest ht, fun _ => rfl⟩⟩
theorem sameRep_ok (a b : RepV) (hl : a.l.length ≤ 1000000000000000) : Tri Try.prog 43 [.agg a.cells, .agg b.cells] [] fun r _ => r.pure = true ∧ ∃ t, r = .bool t ∧ (t = true ↔ a = b) := by
  refine smB_pure (Tri.of_s c43 (noCall_sound _) ?_)
  cases h1 : decide (a.client ≠ b.client) with
  | true =>
    simp only [RepV.cells, Z43, base1, baseE, ↓reduceIte, Nat.reduceAdd, Nat.reduceSub, Nat.reduceMul, Nat.reduceEqDiff, Nat.reduceLeDiff, Nat.reduceLT, Int.reduceLT, Int.reduceLE, Int.reduceEq, Int.reduceNe, Int.reduceToNat, Int.reduceAdd, Int.reduceSub, reduceCtorEq, Nat.reduceBEq, Nat.reduceBNe, recs_len, h1]
    exact ⟨false, rfl, ⟨fun h => (by cases h), fun h => by rw [h] at h1; simp at h1⟩⟩
  | false =>
  cases h2 : decide (a.seq ≠ b.seq) with
  | true =>
    simp only [RepV.cells, Z43, base1, baseE, ↓reduceIte, Nat.reduceAdd, Nat.reduceSub, Nat.reduceMul, Nat.reduceEqDiff, Nat.reduceLeDiff, Nat.reduceLT, Int.reduceLT, Int.reduceLE, Int.reduceEq, Int.reduceNe, Int.reduceToNat, Int.reduceAdd, Int.reduceSub, reduceCtorEq, Nat.reduceBEq, Nat.reduceBNe, recs_len, h1, h2]
    exact ⟨false, rfl, ⟨fun h => (by cases h), fun h => by rw [h] at h2; simp at h2⟩⟩
  | false =>
  cases h3 : decide (a.err ≠ b.err) with
  | true =>
    simp only [RepV.cells, Z43, base1, baseE, ↓reduceIte, Nat.reduceAdd, Nat.reduceSub, Nat.reduceMul, Nat.reduceEqDiff, Nat.reduceLeDiff, Nat.reduceLT, Int.reduceLT, Int.reduceLE, Int.reduceEq, Int.reduceNe, Int.reduceToNat, Int.reduceAdd, Int.reduceSub, reduceCtorEq, Nat.reduceBEq, Nat.reduceBNe, recs_len, h1, h2, h3]
    exact ⟨false, rfl, ⟨fun h => (by cases h), fun h => by rw [h] at h3; simp at h3⟩⟩
  | false =>
  cases h4 : (!(a.found == b.found)) with
  | true =>
    simp only [RepV.cells, Z43, base1, baseE, ↓reduceIte, Nat.reduceAdd, Nat.reduceSub, Nat.reduceMul, Nat.reduceEqDiff, Nat.reduceLeDiff, Nat.reduceLT, Int.reduceLT, Int.reduceLE, Int.reduceEq, Int.reduceNe, Int.reduceToNat, Int.reduceAdd, Int.reduceSub, reduceCtorEq, Nat.reduceBEq, Nat.reduceBNe, recs_len, h1, h2, h3, h4]
    exact ⟨false, rfl, ⟨fun h => (by cases h), fun h => by rw [h] at h4; simp at h4⟩⟩
  | false =>
  cases h5 : decide (a.val ≠ b.val) with
  | true =>
    simp only [RepV.cells, Z43, base1, baseE, ↓reduceIte, Nat.reduceAdd, Nat.reduceSub, Nat.reduceMul, Nat.reduceEqDiff, Nat.reduceLeDiff, Nat.reduceLT, Int.reduceLT, Int.reduceLE, Int.reduceEq, Int.reduceNe, Int.reduceToNat, Int.reduceAdd, Int.reduceSub, reduceCtorEq, Nat.reduceBEq, Nat.reduceBNe, recs_len, h1, h2, h3, h4, h5]
    exact ⟨false, rfl, ⟨fun h => (by cases h), fun h => by rw [h] at h5; simp at h5⟩⟩
  | false =>
  cases h6 : decide (a.next ≠ b.next) with
  | true =>
    simp only [RepV.cells, Z43, base1, baseE, ↓reduceIte, Nat.reduceAdd, Nat.reduceSub, Nat.reduceMul, Nat.reduceEqDiff, Nat.reduceLeDiff, Nat.reduceLT, Int.reduceLT, Int.reduceLE, Int.reduceEq, Int.reduceNe, Int.reduceToNat, Int.reduceAdd, Int.reduceSub, reduceCtorEq, Nat.reduceBEq, Nat.reduceBNe, recs_len, h1, h2, h3, h4, h5, h6]
    exact ⟨false, rfl, ⟨fun h => (by cases h), fun h => by rw [h] at h6; simp at h6⟩⟩
  | false =>
  cases h7 : (!(a.more == b.more)) with
  | true =>
    simp only [RepV.cells, Z43, base1, baseE, ↓reduceIte, Nat.reduceAdd, Nat.reduceSub, Nat.reduceMul, Nat.reduceEqDiff, Nat.reduceLeDiff, Nat.reduceLT, Int.reduceLT, Int.reduceLE, Int.reduceEq, Int.reduceNe, Int.reduceToNat, Int.reduceAdd, Int.reduceSub, reduceCtorEq, Nat.reduceBEq, Nat.reduceBNe, recs_len, h1, h2, h3, h4, h5, h6, h7]
    exact ⟨false, rfl, ⟨fun h => (by cases h), fun h => by rw [h] at h7; simp at h7⟩⟩
  | false =>
  cases h8 : decide ((a.l.length : Int) ≠ (b.l.length : Int)) with
  | true =>
    simp only [RepV.cells, Z43, base1, baseE, ↓reduceIte, Nat.reduceAdd, Nat.reduceSub, Nat.reduceMul, Nat.reduceEqDiff, Nat.reduceLeDiff, Nat.reduceLT, Int.reduceLT, Int.reduceLE, Int.reduceEq, Int.reduceNe, Int.reduceToNat, Int.reduceAdd, Int.reduceSub, reduceCtorEq, Nat.reduceBEq, Nat.reduceBNe, recs_len, h1, h2, h3, h4, h5, h6, h7, h8]
    exact ⟨false, rfl, ⟨fun h => (by cases h), fun h => by rw [h] at h8; simp at h8⟩⟩
  | false =>
  have hll : a.l.length = b.l.length := by have := ne_false h8; omega
  have hrest : a.l = b.l → a = b := fun h => by
    have p1 := ne_false h1; have p2 := ne_false h2; have p3 := ne_false h3; have p4 := bne_false h4; have p5 := ne_false h5; have p6 := ne_false h6; have p7 := bne_false h7
    clear h1 h2 h3 h4 h5 h6 h7 h8 hll hl
    cases a; cases b
    simp only at p1 p2 p3 p4 p5 p6 p7 h
    subst p1 p2 p3 p4 p5 p6 p7 h
    rfl
  simp only [RepV.cells, Z43, base1, baseE, ↓reduceIte, Nat.reduceAdd, Nat.reduceSub, Nat.reduceMul, Nat.reduceEqDiff, Nat.reduceLeDiff, Nat.reduceLT, Int.reduceLT, Int.reduceLE, Int.reduceEq, Int.reduceNe, Int.reduceToNat, Int.reduceAdd, Int.reduceSub, reduceCtorEq, Nat.reduceBEq, Nat.reduceBNe, recs_len, h1, h2, h3, h4, h5, h6, h7, h8]
  exact sC_inv (a := b43_18) (srepI a b) a.l.length _ _ (.refl _ _ _) ⟨0, Nat.zero_le _, rfl, rfl, rfl, rfl, rfl, rfl⟩ (srep_step a b hl hll hrest)
def sameRepD (args : List AV) (σ : AHeap) (K : AV → AHeap → Prop) : Prop := ∃ a b : RepV, args = [.agg a.cells, .agg b.cells] ∧ a.l.length ≤ 1000000000000000 ∧ ∀ t, (t = true ↔ a = b) → K (.bool t) σ
theorem sameRepD_ok (args : List AV) (σ : AHeap) (K : AV → AHeap → Prop) (h : sameRepD args σ K) : Tri Try.prog 43 args σ K := by
  obtain ⟨a, b, rfl, hl, h⟩ := h
  exact (Tri.pureD (by simp only [pureL, rep_pure, Bool.and_self]) (sameRep_ok a b hl) σ).mono fun r σ' ⟨⟨t, h1, h2⟩, h3⟩ => by rw [h1, h3]; exact h t h2
/-! Last replies, shards: as they are. -/
def mbI (l : List LaV) (n : Nat) (e : Env) (σ : AHeap) : Prop :=
  ∃ (i : Nat) (Lv : AV), i ≤ l.length ∧ n = l.length - i ∧ Grow σ Lv 9 ((l.take i).map LaV.cells) ∧ e 0 = .imm (l.map LaV.cells) false false ∧ e 3 = Lv ∧ e 4 = .int .i64 (i : Int)
theorem mb_step (l : List LaV) (hl : l.length ≤ 1000000) (n : Nat) (e : Env) (σ : AHeap) (h : mbI l n e σ) :
    sC noCall 0 b45_10 (unw noCall 0 (loopR noCall 0 (RetQ [MRes.t 2] (ImmQ (l.map LaV.cells))) (.block 0 (.seq b45_15 .fin)) (mbI l) n) .fin) e σ := by
  obtain ⟨i, Lv, hi, hn, hLv, e0, e3, e4⟩ := h
  have hml : (l.map LaV.cells).length = l.length := by simp
  have lc := grow_cell hLv
  rcases Nat.lt_or_ge i l.length with hlt | hge
  · have hlt' : (i : Int) < (l.length : Int) := by omega
    have hge0 : (0 : Int) ≤ (i : Int) := by omega
    obtain ⟨x, hx⟩ : ∃ x, l[i]? = some x := ⟨_, List.getElem?_eq_getElem hlt⟩
    have hxx : (l.map LaV.cells)[i]? = some [.int .i64 x.seq, .int .i64 x.rep.client, .int .i64 x.rep.seq, .int .i64 x.rep.err, .bool x.rep.found, .str x.rep.val, .imm (recs x.rep.l) false false, .str x.rep.next, .bool x.rep.more] := by simp [hx, LaV.cells, RepV.cells]
    have hw : IntKind.wrap .i64 ((i : Int) + 1) = ((i + 1 : Nat) : Int) := by rw [Gz.wrap64 (by omega)]; omega
    have htk : l.take (i + 1) = l.take i ++ [x] := by rw [List.take_add_one, hx]; rfl
    obtain ⟨v, τ, a1, a2, a3, a4, a5⟩ := grow_one (b := 104) (by decide) hLv (by simp; omega) x.cells rfl rfl
    simp only [LaV.cells, RepV.cells] at a1
    simp only [Z45, base1, ↓reduceIte, Nat.reduceAdd, Nat.reduceSub, Nat.reduceMul, Nat.reduceEqDiff, Nat.reduceLeDiff, Nat.reduceLT, Int.reduceLT, Int.reduceLE, Int.reduceEq, Int.reduceNe, Int.reduceToNat, Int.reduceAdd, Int.reduceSub, reduceCtorEq, Nat.reduceBEq, Nat.reduceBNe, lenOf_imm, loopR_exit, loopR_ret, e0, e3, e4, hlt', hlt, hge0, hxx, hml, hw, Int.toNat_natCast, a1, a2, a3]
    rw [loopR_normal]
    refine ⟨l.length - (i + 1), _, _, by omega, .refl _ _ _, i + 1, v, hlt, rfl, ?_, ?_, ?_, ?_⟩
    · rw [htk]; simpa using a5
    all_goals simp only [putD_some, putD_none, Nat.reduceEqDiff, ↓reduceIte, e0, e3, e4, hw]
  · have hlt' : ¬ (i : Int) < (l.length : Int) := by omega
    have hie : i = l.length := by omega
    subst hie
    rw [List.take_length] at hLv
    simp only [Z45, base1, ↓reduceIte, Nat.reduceAdd, Nat.reduceSub, Nat.reduceMul, Nat.reduceEqDiff, Nat.reduceLeDiff, Nat.reduceLT, Int.reduceLT, Int.reduceLE, Int.reduceEq, Int.reduceNe, Int.reduceToNat, Int.reduceAdd, Int.reduceSub, reduceCtorEq, Nat.reduceBEq, Nat.reduceBNe, lenOf_imm, loopR_exit, loopR_ret, e0, e3, e4, hlt', hml]
    exact grow_frz hLv (rowsLa_pure l)
theorem backL_ok (l : List LaV) (hl : l.length ≤ 1000000) : Tri Try.prog 45 [.imm (l.map LaV.cells) false false] [] fun r _ => r.pure = true ∧ r = .imm (l.map LaV.cells) false false := by
  refine Tri.frozen (Q := ImmQ (l.map LaV.cells)) (Tri.of_s c45 (noCall_sound _) ?_) (fun r σ hr => ⟨_, hr, by simp only [AV.pure, rowsLa_pure], rfl⟩)
  simp only [Z45, base1, baseE, ↓reduceIte, Nat.reduceAdd, Nat.reduceSub, Nat.reduceMul, Nat.reduceEqDiff, Nat.reduceLeDiff, Nat.reduceLT, Int.reduceLT, Int.reduceLE, Int.reduceEq, Int.reduceNe, Int.reduceToNat, Int.reduceAdd, Int.reduceSub, reduceCtorEq, Nat.reduceBEq, Nat.reduceBNe]
  exact sC_inv (a := b45_10) (mbI l) l.length _ _ (.refl _ _ _) ⟨0, .nilslice, Nat.zero_le _, rfl, .inl ⟨rfl, rfl⟩, rfl, rfl, rfl⟩ (mb_step l hl)
def mb14I (ep : Int) (sh : List ShV) (n : Nat) (e : Env) (σ : AHeap) : Prop :=
  ∃ (i : Nat) (Lv : AV), i ≤ sh.length ∧ n = sh.length - i ∧ hget σ 0 = some [.int .i64 ep, .imm (sh.map ShV.cells) false false] ∧ hget σ 1 = some [.int .i64 0, .nilslice] ∧ hget σ 2 = some [.int .i64 ep, Lv] ∧ Grow σ Lv 4 ((sh.take i).map ShV.cells) ∧ LvD Lv ≠ some 0 ∧ LvD Lv ≠ some 1 ∧ LvD Lv ≠ some 2 ∧
    e 1 = .ptr 0 0 ∧ e 2 = .ptr 1 0 ∧ e 3 = .ptr 2 0 ∧ e 4 = .int .i64 (i : Int)
theorem mb14_step (ep : Int) (sh : List ShV) (hl : sh.length ≤ 1000000) (n : Nat) (e : Env) (σ : AHeap) (h : mb14I ep sh n e σ) :
    sC noCall 0 b47_10 (unw noCall 0 (loopR noCall 0 (RetQ [MRes.cN 2 2] (AtQ ep sh)) (.block 0 (.seq b47_15 .fin)) (mb14I ep sh) n) .fin) e σ := by
  obtain ⟨i, Lv, hi, hn, g0, g1, g2, hLv, d0, d1, d2, e1, e2, e3, e4⟩ := h
  have hml : (sh.map ShV.cells).length = sh.length := by simp
  have lc := grow_cell hLv
  rcases Nat.lt_or_ge i sh.length with hlt | hge
  · have hlt' : (i : Int) < (sh.length : Int) := by omega
    have hge0 : (0 : Int) ≤ (i : Int) := by omega
    obtain ⟨x, hx⟩ : ∃ x, sh[i]? = some x := ⟨_, List.getElem?_eq_getElem hlt⟩
    have hxx : (sh.map ShV.cells)[i]? = some [.str x.from_, .str x.to, .int .i64 x.node, .int .i64 x.epoch] := by simp [hx, ShV.cells]
    have hw : IntKind.wrap .i64 ((i : Int) + 1) = ((i + 1 : Nat) : Int) := by rw [Gz.wrap64 (by omega)]; omega
    have htk : sh.take (i + 1) = sh.take i ++ [x] := by rw [List.take_add_one, hx]; rfl
    obtain ⟨v, τ, a1, a2, a3, a4, a5⟩ := grow_one (b := 48) (by decide) hLv (by simp; omega) x.cells rfl rfl
    obtain ⟨q0, u0⟩ := a4 0 _ g0 d0
    obtain ⟨q1, u1⟩ := a4 1 _ g1 d1
    obtain ⟨q2, u2⟩ := a4 2 _ g2 d2
    simp only [ShV.cells] at a1
    have p2 : ∀ c : List AV, hget (hpush σ c) 2 = some [.int .i64 ep, Lv] := fun c => push_old g2
    simp only [Z47, base1, ↓reduceIte, Nat.reduceAdd, Nat.reduceSub, Nat.reduceMul, Nat.reduceEqDiff, Nat.reduceLeDiff, Nat.reduceLT, Int.reduceLT, Int.reduceLE, Int.reduceEq, Int.reduceNe, Int.reduceToNat, Int.reduceAdd, Int.reduceSub, reduceCtorEq, Nat.reduceBEq, Nat.reduceBNe, lenOf_imm, loopR_exit, loopR_ret, e1, e2, e3, e4, g0, g1, g2, p2, q2, hlt', hlt, hge0, hxx, hml, hw, Int.toNat_natCast, a1, a2, a3]
    rw [loopR_normal]
    refine ⟨sh.length - (i + 1), _, _, by omega, .refl _ _ _, i + 1, v, hlt, rfl, by rw [set_other (by decide)]; exact q0, by rw [set_other (by decide)]; exact q1, set_same q2, ?_, u0, u1, u2, ?_, ?_, ?_, ?_⟩
    · rw [htk]
      refine grow_frame (by simpa using a5) fun j c hj hd => ?_
      rw [set_other (fun e => u2 (by rw [hd, e]))]; exact hj
    all_goals simp only [putD_some, putD_none, Nat.reduceEqDiff, ↓reduceIte, e1, e2, e3, e4, hw]
  · have hlt' : ¬ (i : Int) < (sh.length : Int) := by omega
    have hie : i = sh.length := by omega
    subst hie
    rw [List.take_length] at hLv
    have s1 : ∀ c : List AV, hget (hset σ 1 c) 1 = some c := fun c => set_same g1
    simp only [Z47, base1, ↓reduceIte, Nat.reduceAdd, Nat.reduceSub, Nat.reduceMul, Nat.reduceEqDiff, Nat.reduceLeDiff, Nat.reduceLT, Int.reduceLT, Int.reduceLE, Int.reduceEq, Int.reduceNe, Int.reduceToNat, Int.reduceAdd, Int.reduceSub, reduceCtorEq, Nat.reduceBEq, Nat.reduceBNe, lenOf_imm, loopR_exit, loopR_ret, e1, e2, e3, e4, g0, g1, g2, s1, hlt', hml, lc]
    refine frz_at (grow_frz (grow_frame hLv fun j c hj hd => ?_) (rowsSh_pure sh))
    rw [set_other (fun e => d1 (by rw [hd, e]))]; exact hj
theorem back14_ok (ep : Int) (sh : List ShV) (hl : sh.length ≤ 1000000) : Tri Try.prog 47 [.agg [.int .i64 ep, .imm (sh.map ShV.cells) false false]] [] fun r _ => r.pure = true ∧ r = .agg [.int .i64 ep, .imm (sh.map ShV.cells) false false] := by
  refine Tri.frozen (Q := AtQ ep sh) (Tri.of_s c47 (noCall_sound _) ?_) (fun r σ hr => ⟨_, hr, by simp only [AV.pure, pureL, rowsSh_pure, Bool.and_self], rfl⟩)
  simp only [Z47, base1, baseE, ↓reduceIte, Nat.reduceAdd, Nat.reduceSub, Nat.reduceMul, Nat.reduceEqDiff, Nat.reduceLeDiff, Nat.reduceLT, Int.reduceLT, Int.reduceLE, Int.reduceEq, Int.reduceNe, Int.reduceToNat, Int.reduceAdd, Int.reduceSub, reduceCtorEq, Nat.reduceBEq, Nat.reduceBNe]
  exact sC_inv (a := b47_10) (mb14I ep sh) sh.length _ _ (.refl _ _ _) ⟨0, .nilslice, Nat.zero_le _, rfl, rfl, rfl, rfl, .inl ⟨rfl, rfl⟩, by simp [LvD], by simp [LvD], by simp [LvD], rfl, rfl, rfl, rfl⟩ (mb14_step ep sh hl)
/-! Last replies. -/
def L1 : PCall := rowQ 43 sameRepD noCall
theorem L1_app {f : FuncId} {args : List AV} {σ : AHeap} {K : AV → AHeap → Prop} : L1 f args σ K = rowQ 43 sameRepD noCall f args σ K := _root_.id rfl
theorem L1_sound : Sound Try.prog L1 := rowQ_sound sameRepD_ok (noCall_sound _)
def slaI (a b : List LaV) (n : Nat) (e : Env) (σ : AHeap) : Prop :=
  ∃ i : Nat, i ≤ a.length ∧ n = a.length - i ∧ a.take i = b.take i ∧ e 0 = .imm (a.map LaV.cells) false false ∧ e 1 = .imm (b.map LaV.cells) false false ∧ e 5 = .int .i64 (i : Int)
theorem sla_step (a b : List LaV) (hl : a.length ≤ 1000000) (hr : ∀ x ∈ a, x.rep.l.length ≤ 1000000000000000) (hll : a.length = b.length) (n : Nat) (e : Env) (σ : AHeap) (h : slaI a b n e σ) :
    sC L1 0 b44_18 (unw L1 0 (loopR L1 0 (RetQ [MRes.t 4] (SmB a b)) (.block 0 (.seq b44_23 .fin)) (slaI a b) n) .fin) e σ := by
  obtain ⟨i, hi, hn, ht, e0, e1, e5⟩ := h
  have hma : (a.map LaV.cells).length = a.length := by simp
  have hmb : (b.map LaV.cells).length = b.length := by simp
  rcases Nat.lt_or_ge i a.length with hlt | hge
  · have hlt' : (i : Int) < (a.length : Int) := by omega
    have hge0 : (0 : Int) ≤ (i : Int) := by omega
    have hltb' : (i : Int) < (b.length : Int) := by omega
    have hltb : i < b.length := by omega
    obtain ⟨x, hx⟩ : ∃ x, a[i]? = some x := ⟨_, List.getElem?_eq_getElem hlt⟩
    obtain ⟨y, hy⟩ : ∃ y, b[i]? = some y := ⟨_, List.getElem?_eq_getElem (by omega)⟩
    have hxx : (a.map LaV.cells)[i]? = some (.int .i64 x.seq :: x.rep.cells) := by simp [hx, LaV.cells]
    have hyy : (b.map LaV.cells)[i]? = some (.int .i64 y.seq :: y.rep.cells) := by simp [hy, LaV.cells]
    simp only [RepV.cells] at hxx hyy
    have hw : IntKind.wrap .i64 ((i : Int) + 1) = ((i + 1 : Nat) : Int) := by rw [Gz.wrap64 (by omega)]; omega
    cases h1 : decide (x.seq ≠ y.seq) with
    | true =>
      simp only [L1_app, Z44, x44_5, base1, baseE, ↓reduceIte, Nat.reduceAdd, Nat.reduceSub, Nat.reduceMul, Nat.reduceEqDiff, Nat.reduceLeDiff, Nat.reduceLT, Int.reduceLT, Int.reduceLE, Int.reduceEq, Int.reduceNe, Int.reduceToNat, Int.reduceAdd, Int.reduceSub, reduceCtorEq, Nat.reduceBEq, Nat.reduceBNe, loopR_exit, loopR_ret, e0, e1, e5, hlt', hltb', hlt, hltb, hge0, hxx, hyy, hma, hmb, Int.toNat_natCast, h1]
      exact ⟨false, rfl, ⟨fun h => (by cases h), fun h => by
        have := same_at hx hy h; rw [this] at h1; simp at h1⟩⟩
    | false =>
      simp only [L1_app, Z44, x44_5, base1, baseE, ↓reduceIte, Nat.reduceAdd, Nat.reduceSub, Nat.reduceMul, Nat.reduceEqDiff, Nat.reduceLeDiff, Nat.reduceLT, Int.reduceLT, Int.reduceLE, Int.reduceEq, Int.reduceNe, Int.reduceToNat, Int.reduceAdd, Int.reduceSub, reduceCtorEq, Nat.reduceBEq, Nat.reduceBNe, loopR_exit, loopR_ret, e0, e1, e5, hlt', hltb', hlt, hltb, hge0, hxx, hyy, hma, hmb, Int.toNat_natCast, h1]
      refine ⟨x.rep, y.rep, rfl, hr x (List.mem_of_getElem? hx), fun t htt => ?_⟩
      cases t with
      | false =>
        simp only [L1_app, Z44, x44_5, base1, baseE, ↓reduceIte, Nat.reduceAdd, Nat.reduceSub, Nat.reduceMul, Nat.reduceEqDiff, Nat.reduceLeDiff, Nat.reduceLT, Int.reduceLT, Int.reduceLE, Int.reduceEq, Int.reduceNe, Int.reduceToNat, Int.reduceAdd, Int.reduceSub, reduceCtorEq, Nat.reduceBEq, Nat.reduceBNe, loopR_exit, loopR_ret, e0, e1, e5]
        exact ⟨false, rfl, ⟨fun h => (by cases h), fun h => by
          have h9 := same_at hx hy h
          exact htt.2 (by rw [h9])⟩⟩
      | true =>
        have hrep := htt.1 rfl
        have hseq := ne_false h1
        simp only [L1_app, Z44, x44_5, base1, baseE, ↓reduceIte, Nat.reduceAdd, Nat.reduceSub, Nat.reduceMul, Nat.reduceEqDiff, Nat.reduceLeDiff, Nat.reduceLT, Int.reduceLT, Int.reduceLE, Int.reduceEq, Int.reduceNe, Int.reduceToNat, Int.reduceAdd, Int.reduceSub, reduceCtorEq, Nat.reduceBEq, Nat.reduceBNe, loopR_exit, loopR_ret, e0, e1, e5, hw]
        rw [loopR_normal]
        refine ⟨a.length - (i + 1), _, _, by omega, .refl _ _ _, i + 1, hlt, rfl, take_eq ht hx hy ?_, ?_, ?_, ?_⟩
        · cases x; cases y; simp only at hrep hseq; rw [hrep, hseq]
        all_goals simp only [putD_some, putD_none, Nat.reduceEqDiff, ↓reduceIte, e0, e1, e5, hw]
  · have hlt' : ¬ (i : Int) < (a.length : Int) := by omega
    have hie : i = a.length := by omega
    subst hie
    rw [List.take_length, hll, List.take_length] at ht
    simp only [L1_app, Z44, x44_5, base1, baseE, ↓reduceIte, Nat.reduceAdd, Nat.reduceSub, Nat.reduceMul, Nat.reduceEqDiff, Nat.reduceLeDiff, Nat.reduceLT, Int.reduceLT, Int.reduceLE, Int.reduceEq, Int.reduceNe, Int.reduceToNat, Int.reduceAdd, Int.reduceSub, reduceCtorEq, Nat.reduceBEq, Nat.reduceBNe, loopR_exit, loopR_ret, e0, e1, e5, hlt', hma]
    exact ⟨true, rfl, ⟨fun _ => ht, fun _ => rfl⟩⟩
theorem sameLa_ok (a b : List LaV) (hl : a.length ≤ 1000000) (hr : ∀ x ∈ a, x.rep.l.length ≤ 1000000000000000) : Tri Try.prog 44 [.imm (a.map LaV.cells) false false, .imm (b.map LaV.cells) false false] [] fun r _ => r.pure = true ∧ ∃ t, r = .bool t ∧ (t = true ↔ a = b) := by
  refine smB_pure (Tri.of_s c44 L1_sound ?_)
  have hma : (a.map LaV.cells).length = a.length := by simp
  have hmb : (b.map LaV.cells).length = b.length := by simp
  cases h1 : decide ((a.length : Int) ≠ (b.length : Int)) with
  | true =>
    simp only [L1_app, Z44, x44_5, base1, baseE, ↓reduceIte, Nat.reduceAdd, Nat.reduceSub, Nat.reduceMul, Nat.reduceEqDiff, Nat.reduceLeDiff, Nat.reduceLT, Int.reduceLT, Int.reduceLE, Int.reduceEq, Int.reduceNe, Int.reduceToNat, Int.reduceAdd, Int.reduceSub, reduceCtorEq, Nat.reduceBEq, Nat.reduceBNe, hma, hmb, h1]
    exact ⟨false, rfl, ⟨fun h => (by cases h), fun h => by rw [h] at h1; simp at h1⟩⟩
  | false =>
    have hll : a.length = b.length := by have := ne_false h1; omega
    simp only [L1_app, Z44, x44_5, base1, baseE, ↓reduceIte, Nat.reduceAdd, Nat.reduceSub, Nat.reduceMul, Nat.reduceEqDiff, Nat.reduceLeDiff, Nat.reduceLT, Int.reduceLT, Int.reduceLE, Int.reduceEq, Int.reduceNe, Int.reduceToNat, Int.reduceAdd, Int.reduceSub, reduceCtorEq, Nat.reduceBEq, Nat.reduceBNe, hma, hmb, h1]
    exact sC_inv (a := b44_18) (slaI a b) a.length _ _ (.refl _ _ _) ⟨0, Nat.zero_le _, rfl, rfl, rfl, rfl, rfl⟩ (sla_step a b hl hr hll)
/-! Atlases. -/
def satI (ea : Int) (a : List ShV) (eb : Int) (b : List ShV) (n : Nat) (e : Env) (σ : AHeap) : Prop :=
  ∃ i : Nat, i ≤ a.length ∧ n = a.length - i ∧ σ = [some [.int .i64 ea, .imm (a.map ShV.cells) false false], some [.int .i64 eb, .imm (b.map ShV.cells) false false]] ∧ a.take i = b.take i ∧ e 2 = .ptr 0 0 ∧ e 3 = .ptr 1 0 ∧ e 5 = .int .i64 (i : Int)
theorem sat_step (ea : Int) (a : List ShV) (eb : Int) (b : List ShV) (hl : a.length ≤ 1000000) (hll : a.length = b.length) (hee : ea = eb) (n : Nat) (e : Env) (σ : AHeap) (h : satI ea a eb b n e σ) :
    sC noCall 0 b46_18 (unw noCall 0 (loopR noCall 0 (RetQ [MRes.t 4] (SmB (ea, a) (eb, b))) (.block 0 (.seq b46_23 .fin)) (satI ea a eb b) n) .fin) e σ := by
  obtain ⟨i, hi, hn, rfl, ht, e2, e3, e5⟩ := h
  have hma : (a.map ShV.cells).length = a.length := by simp
  have hmb : (b.map ShV.cells).length = b.length := by simp
  rcases Nat.lt_or_ge i a.length with hlt | hge
  · have hlt' : (i : Int) < (a.length : Int) := by omega
    have hge0 : (0 : Int) ≤ (i : Int) := by omega
    have hltb' : (i : Int) < (b.length : Int) := by omega
    have hltb : i < b.length := by omega
    obtain ⟨x, hx⟩ : ∃ x, a[i]? = some x := ⟨_, List.getElem?_eq_getElem hlt⟩
    obtain ⟨y, hy⟩ : ∃ y, b[i]? = some y := ⟨_, List.getElem?_eq_getElem (by omega)⟩
    have hxx : (a.map ShV.cells)[i]? = some [.str x.from_, .str x.to, .int .i64 x.node, .int .i64 x.epoch] := by simp [hx, ShV.cells]
    have hyy : (b.map ShV.cells)[i]? = some [.str y.from_, .str y.to, .int .i64 y.node, .int .i64 y.epoch] := by simp [hy, ShV.cells]
    have hw : IntKind.wrap .i64 ((i : Int) + 1) = ((i + 1 : Nat) : Int) := by rw [Gz.wrap64 (by omega)]; omega
    cases h1 : decide (x.from_ = y.from_) <;> cases h2 : decide (x.to = y.to) <;> cases h3 : decide (x.node = y.node) <;> cases h4 : decide (x.epoch = y.epoch)
    rotate_right 1
    · simp only [Z46, base1, baseE, ↓reduceIte, Nat.reduceAdd, Nat.reduceSub, Nat.reduceMul, Nat.reduceEqDiff, Nat.reduceLeDiff, Nat.reduceLT, Int.reduceLT, Int.reduceLE, Int.reduceEq, Int.reduceNe, Int.reduceToNat, Int.reduceAdd, Int.reduceSub, reduceCtorEq, Nat.reduceBEq, Nat.reduceBNe, loopR_exit, loopR_ret, e2, e3, e5, hlt', hltb', hlt, hltb, hge0, hxx, hyy, hma, hmb, Int.toNat_natCast, h1, h2, h3, h4, hw]
      rw [loopR_normal]
      refine ⟨a.length - (i + 1), _, _, by omega, .refl _ _ _, i + 1, hlt, rfl, rfl, take_eq ht hx hy ?_, ?_, ?_, ?_⟩
      · have h1 := of_decide_eq_true h1; have h2 := of_decide_eq_true h2; have h3 := of_decide_eq_true h3; have h4 := of_decide_eq_true h4
        cases x; cases y; simp only at h1 h2 h3 h4; rw [h1, h2, h3, h4]
      all_goals simp only [putD_some, putD_none, Nat.reduceEqDiff, ↓reduceIte, e2, e3, e5, hw]
    all_goals
      simp only [Z46, base1, baseE, ↓reduceIte, Nat.reduceAdd, Nat.reduceSub, Nat.reduceMul, Nat.reduceEqDiff, Nat.reduceLeDiff, Nat.reduceLT, Int.reduceLT, Int.reduceLE, Int.reduceEq, Int.reduceNe, Int.reduceToNat, Int.reduceAdd, Int.reduceSub, reduceCtorEq, Nat.reduceBEq, Nat.reduceBNe, loopR_exit, loopR_ret, e2, e3, e5, hlt', hltb', hlt, hltb, hge0, hxx, hyy, hma, hmb, Int.toNat_natCast, h1, h2, h3, h4]
      exact ⟨false, rfl, ⟨fun h => (by cases h), fun h => by
        have h9 := same_at hx hy (Prod.mk.inj h).2; rw [h9] at h1 h2 h3 h4; simp at h1 h2 h3 h4⟩⟩
  · have hlt' : ¬ (i : Int) < (a.length : Int) := by omega
    have hie : i = a.length := by omega
    subst hie
    rw [List.take_length, hll, List.take_length] at ht
    simp only [Z46, base1, baseE, ↓reduceIte, Nat.reduceAdd, Nat.reduceSub, Nat.reduceMul, Nat.reduceEqDiff, Nat.reduceLeDiff, Nat.reduceLT, Int.reduceLT, Int.reduceLE, Int.reduceEq, Int.reduceNe, Int.reduceToNat, Int.reduceAdd, Int.reduceSub, reduceCtorEq, Nat.reduceBEq, Nat.reduceBNe, loopR_exit, loopR_ret, e2, e3, e5, hlt', hma]
    exact ⟨true, rfl, ⟨fun _ => by rw [hee, ht], fun _ => rfl⟩⟩
theorem sameAt_ok (ea : Int) (a : List ShV) (eb : Int) (b : List ShV) (hl : a.length ≤ 1000000) : Tri Try.prog 46 [.agg [.int .i64 ea, .imm (a.map ShV.cells) false false], .agg [.int .i64 eb, .imm (b.map ShV.cells) false false]] [] fun r _ => r.pure = true ∧ ∃ t, r = .bool t ∧ (t = true ↔ (ea, a) = (eb, b)) := by
  refine smB_pure (Tri.of_s c46 (noCall_sound _) ?_)
  have hma : (a.map ShV.cells).length = a.length := by simp
  have hmb : (b.map ShV.cells).length = b.length := by simp
  cases h1 : decide (ea ≠ eb) with
  | true =>
    simp only [Z46, base1, baseE, ↓reduceIte, Nat.reduceAdd, Nat.reduceSub, Nat.reduceMul, Nat.reduceEqDiff, Nat.reduceLeDiff, Nat.reduceLT, Int.reduceLT, Int.reduceLE, Int.reduceEq, Int.reduceNe, Int.reduceToNat, Int.reduceAdd, Int.reduceSub, reduceCtorEq, Nat.reduceBEq, Nat.reduceBNe, hma, hmb, h1]
    exact ⟨false, rfl, ⟨fun h => (by cases h), fun h => by rw [(Prod.mk.inj h).1] at h1; simp at h1⟩⟩
  | false =>
  cases h2 : decide ((a.length : Int) ≠ (b.length : Int)) with
  | true =>
    simp only [Z46, base1, baseE, ↓reduceIte, Nat.reduceAdd, Nat.reduceSub, Nat.reduceMul, Nat.reduceEqDiff, Nat.reduceLeDiff, Nat.reduceLT, Int.reduceLT, Int.reduceLE, Int.reduceEq, Int.reduceNe, Int.reduceToNat, Int.reduceAdd, Int.reduceSub, reduceCtorEq, Nat.reduceBEq, Nat.reduceBNe, hma, hmb, h1, h2]
    exact ⟨false, rfl, ⟨fun h => (by cases h), fun h => by rw [(Prod.mk.inj h).2] at h2; simp at h2⟩⟩
  | false =>
    have hll : a.length = b.length := by have := ne_false h2; omega
    simp only [Z46, base1, baseE, ↓reduceIte, Nat.reduceAdd, Nat.reduceSub, Nat.reduceMul, Nat.reduceEqDiff, Nat.reduceLeDiff, Nat.reduceLT, Int.reduceLT, Int.reduceLE, Int.reduceEq, Int.reduceNe, Int.reduceToNat, Int.reduceAdd, Int.reduceSub, reduceCtorEq, Nat.reduceBEq, Nat.reduceBNe, hma, hmb, h1, h2]
    exact sC_inv (a := b46_18) (satI ea a eb b) a.length _ _ (.refl _ _ _) ⟨0, Nat.zero_le _, rfl, rfl, rfl, rfl, rfl, rfl⟩ (sat_step ea a eb b hl hll (ne_false h1))
end Go.Proofs.Ytndlgmciplckjaa.note
