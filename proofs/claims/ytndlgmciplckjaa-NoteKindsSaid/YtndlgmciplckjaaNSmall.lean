/- What Small says of a row: where it says yes the row is small. No condition. -/
import Derived.Test.YtndlgmciplckjaaNMay4
set_option linter.unusedVariables false
set_option linter.unusedSimpArgs false
namespace Go.Proofs.Ytndlgmciplckjaa.note
open Go.ChangeShapes Go.WideShapes Go.ChangeAt Go.RowKit Go.Gz
section
variable {C : PCall} {n0 : Nat} {R : MExit → Env → AHeap → Prop} {k : Cont} {e : Env} {σ : AHeap}
abbrev r10_0 : List MOper := [⟨(some 1), .box (.t 0), none⟩,
  ⟨(some 2), .move (.c (.bool false)), none⟩]
def b10_0 : SCode := .region r10_0
abbrev r10_1 : List MOper := [⟨(some 6), .fieldAddr 5 (.t 1), none⟩,
  ⟨(some 7), .fieldAddr 3 (.t 6), none⟩,
  ⟨(some 8), .load1 (.t 7), none⟩,
  ⟨(some 9), .lenStr (.t 8), none⟩,
  ⟨(some 10), .fieldAddr 5 (.t 1), none⟩,
  ⟨(some 11), .fieldAddr 4 (.t 10), none⟩,
  ⟨(some 12), .load1 (.t 11), none⟩,
  ⟨(some 13), .lenStr (.t 12), none⟩,
  ⟨(some 14), .bin .add .num (.t 9) (.t 13), none⟩,
  ⟨(some 15), .fieldAddr 5 (.t 1), none⟩,
  ⟨(some 16), .fieldAddr 5 (.t 15), none⟩,
  ⟨(some 17), .load1 (.t 16), none⟩,
  ⟨(some 18), .lenStr (.t 17), none⟩,
  ⟨(some 19), .bin .add .num (.t 14) (.t 18), none⟩,
  ⟨(some 20), .fieldAddr 5 (.t 1), none⟩,
  ⟨(some 21), .fieldAddr 6 (.t 20), none⟩,
  ⟨(some 22), .load1 (.t 21), none⟩,
  ⟨(some 23), .lenStr (.t 22), none⟩,
  ⟨(some 24), .bin .add .num (.t 19) (.t 23), none⟩,
  ⟨(some 25), .fieldAddr 21 (.t 1), none⟩,
  ⟨(some 26), .fieldAddr 0 (.t 25), none⟩,
  ⟨(some 27), .load1 (.t 26), none⟩,
  ⟨(some 28), .lenStr (.t 27), none⟩,
  ⟨(some 29), .bin .add .num (.t 24) (.t 28), none⟩,
  ⟨(some 30), .fieldAddr 21 (.t 1), none⟩,
  ⟨(some 31), .fieldAddr 1 (.t 30), none⟩,
  ⟨(some 32), .load1 (.t 31), none⟩,
  ⟨(some 33), .lenStr (.t 32), none⟩,
  ⟨(some 34), .bin .add .num (.t 29) (.t 33), none⟩,
  ⟨(some 3), .move (.t 34), none⟩]
def b10_1 : SCode := .region r10_1
abbrev r10_2 : List MOper := [⟨(some 4), .move (.c (.int .i64 0)), none⟩]
def b10_2 : SCode := .region r10_2
abbrev r10_3 : List MOper := [⟨(some 35), .move (.t 4), none⟩,
  ⟨(some 36), .fieldAddr 23 (.t 1), none⟩,
  ⟨(some 37), .load1 (.t 36), none⟩,
  ⟨(some 38), .lenSl (.t 37), none⟩,
  ⟨(some 39), .bin .lss .num (.t 35) (.t 38), none⟩]
def b10_3 : SCode := .region r10_3
def b10_4 : SCode := .cond (.t 39) .skip (.exit 0)
def b10_5 : SCode := .seq b10_3 b10_4
abbrev t10_6 : LTree := (.quiet ⟨(some 42), .move (.t 3), none⟩ 0
  (.quiet ⟨(some 43), .fieldAddr 23 (.t 1), none⟩ 1
  (.quiet ⟨(some 44), .load1 (.t 43), none⟩ 2
  (.quiet ⟨(some 45), .move (.t 4), none⟩ 3
  (.quiet ⟨(some 46), .indexAddr 2 (.t 44) (.t 45), none⟩ 4
  (.quiet ⟨(some 47), .fieldAddr 0 (.t 46), none⟩ 5
  (.quiet ⟨(some 48), .load1 (.t 47), none⟩ 6
  (.quiet ⟨(some 49), .lenStr (.t 48), none⟩ 7
  (.quiet ⟨(some 50), .bin .add .num (.t 42) (.t 49), none⟩ 8
  (.quiet ⟨(some 51), .fieldAddr 23 (.t 1), none⟩ 9
  (.quiet ⟨(some 52), .load1 (.t 51), none⟩ 10
  (.quiet ⟨(some 53), .move (.t 4), none⟩ 11
  (.quiet ⟨(some 54), .indexAddr 2 (.t 52) (.t 53), none⟩ 12
  (.quiet ⟨(some 55), .fieldAddr 1 (.t 54), none⟩ 13
  (.quiet ⟨(some 56), .load1 (.t 55), none⟩ 14
  (.quiet ⟨(some 57), .lenStr (.t 56), none⟩ 15
  (.quiet ⟨(some 58), .bin .add .num (.t 50) (.t 57), none⟩ 16
  (.quiet ⟨(some 3), .move (.t 58), none⟩ 17
  .leaf))))))))))))))))))
def b10_6 : SCode := .draw t10_6
def b10_7 : SCode := .block 1 b10_6
abbrev r10_8 : List MOper := [⟨(some 40), .move (.t 4), none⟩,
  ⟨(some 41), .bin .add .num (.t 40) (.c (.int .i64 1)), none⟩,
  ⟨(some 4), .move (.t 41), none⟩]
def b10_8 : SCode := .region r10_8
def b10_9 : SCode := .seq b10_7 b10_8
def b10_10 : SCode := .seq b10_5 b10_9
def b10_11 : SCode := .loop b10_10
def b10_12 : SCode := .block 0 b10_11
def b10_13 : SCode := .seq b10_2 b10_12
abbrev r10_14 : List MOper := [⟨(some 5), .move (.c (.int .i64 0)), none⟩]
def b10_14 : SCode := .region r10_14
abbrev r10_15 : List MOper := [⟨(some 59), .move (.t 5), none⟩,
  ⟨(some 60), .fieldAddr 24 (.t 1), none⟩,
  ⟨(some 61), .load1 (.t 60), none⟩,
  ⟨(some 62), .lenSl (.t 61), none⟩,
  ⟨(some 63), .bin .lss .num (.t 59) (.t 62), none⟩]
def b10_15 : SCode := .region r10_15
def b10_16 : SCode := .cond (.t 63) .skip (.exit 2)
def b10_17 : SCode := .seq b10_15 b10_16
abbrev r10_18 : List MOper := [⟨(some 66), .move (.t 5), none⟩,
  ⟨(some 67), .bin .gtr .num (.t 66) (.c (.int .i64 20)), none⟩,
  ⟨(some 68), .move (.t 67), none⟩,
  ⟨(some 69), .fieldAddr 24 (.t 1), (some (68, false))⟩,
  ⟨(some 70), .load1 (.t 69), (some (68, false))⟩,
  ⟨(some 71), .move (.t 5), (some (68, false))⟩,
  ⟨(some 72), .indexAddr 8 (.t 70) (.t 71), (some (68, false))⟩,
  ⟨(some 73), .loadN 8 (.t 72), (some (68, false))⟩,
  ⟨(some 74), .call 24 [(.t 73)], (some (68, false))⟩,
  ⟨(some 75), .un .not (.t 74), (some (68, false))⟩,
  ⟨(some 76), .pick (.t 68) (.c (.bool true)) (.t 75), none⟩,
  ⟨(some 77), .move (.t 76), none⟩,
  ⟨(some 78), .fieldAddr 24 (.t 1), (some (77, false))⟩,
  ⟨(some 79), .load1 (.t 78), (some (77, false))⟩,
  ⟨(some 80), .move (.t 5), (some (77, false))⟩,
  ⟨(some 81), .indexAddr 8 (.t 79) (.t 80), (some (77, false))⟩,
  ⟨(some 82), .fieldAddr 4 (.t 81), (some (77, false))⟩,
  ⟨(some 83), .load1 (.t 82), (some (77, false))⟩,
  ⟨(some 84), .lenStr (.t 83), (some (77, false))⟩,
  ⟨(some 85), .bin .gtr .num (.t 84) (.c (.int .i64 500)), (some (77, false))⟩,
  ⟨(some 86), .pick (.t 77) (.c (.bool true)) (.t 85), none⟩]
def b10_18 : SCode := .region r10_18
abbrev r10_19 : List MOper := [⟨(some 2), .move (.c (.bool false)), none⟩]
def b10_19 : SCode := .region r10_19
def b10_20 : SCode := .seq b10_19 .ret
def b10_21 : SCode := .cond (.t 86) b10_20 .skip
def b10_22 : SCode := .seq b10_18 b10_21
def b10_23 : SCode := .block 3 b10_22
abbrev r10_24 : List MOper := [⟨(some 64), .move (.t 5), none⟩,
  ⟨(some 65), .bin .add .num (.t 64) (.c (.int .i64 1)), none⟩,
  ⟨(some 5), .move (.t 65), none⟩]
def b10_24 : SCode := .region r10_24
def b10_25 : SCode := .seq b10_23 b10_24
def b10_26 : SCode := .seq b10_17 b10_25
def b10_27 : SCode := .loop b10_26
def b10_28 : SCode := .block 2 b10_27
def b10_29 : SCode := .seq b10_14 b10_28
abbrev r10_30 : List MOper := [⟨(some 87), .move (.t 3), none⟩,
  ⟨(some 88), .bin .leq .num (.t 87) (.c (.int .i64 20000)), none⟩,
  ⟨(some 89), .move (.t 88), none⟩,
  ⟨(some 90), .fieldAddr 23 (.t 1), (some (89, true))⟩,
  ⟨(some 91), .load1 (.t 90), (some (89, true))⟩,
  ⟨(some 92), .lenSl (.t 91), (some (89, true))⟩,
  ⟨(some 93), .bin .leq .num (.t 92) (.c (.int .i64 100)), (some (89, true))⟩,
  ⟨(some 94), .pick (.t 89) (.t 93) (.c (.bool false)), none⟩,
  ⟨(some 95), .move (.t 94), none⟩,
  ⟨(some 96), .fieldAddr 25 (.t 1), (some (95, true))⟩,
  ⟨(some 97), .loadN 2 (.t 96), (some (95, true))⟩,
  ⟨(some 98), .call 25 [(.t 97)], (some (95, true))⟩,
  ⟨(some 99), .pick (.t 95) (.t 98) (.c (.bool false)), none⟩,
  ⟨(some 100), .move (.t 99), none⟩,
  ⟨(some 101), .fieldAddr 13 (.t 1), (some (100, true))⟩,
  ⟨(some 102), .loadN 8 (.t 101), (some (100, true))⟩,
  ⟨(some 103), .call 24 [(.t 102)], (some (100, true))⟩,
  ⟨(some 104), .pick (.t 100) (.t 103) (.c (.bool false)), none⟩,
  ⟨(some 2), .move (.t 104), none⟩]
def b10_30 : SCode := .region r10_30
def b10_31 : SCode := .seq b10_30 .ret
def b10_32 : SCode := .seq b10_29 b10_31
def b10_33 : SCode := .seq b10_13 b10_32
def b10_34 : SCode := .seq b10_1 b10_33
def b10_35 : SCode := .seq b10_0 b10_34
def s10 : SFunc := ⟨105, [.t 2], b10_35⟩
theorem c10 : sFn Try.prog 10 = some s10 := by kernel_rfl
theorem x10_32 : XS b10_32 b10_29 b10_31 := rfl
theorem Z10 : XR b10_0 r10_0 ∧ XR b10_1 r10_1 ∧ XR b10_2 r10_2 ∧ XR b10_3 r10_3 ∧ XC b10_4 (.t 39) .skip (.exit 0) ∧ XS b10_5 b10_3 b10_4 ∧ XT b10_6 t10_6 ∧ XB b10_7 1 b10_6 ∧ XR b10_8 r10_8 ∧ XS b10_9 b10_7 b10_8 ∧ XS b10_10 b10_5 b10_9 ∧ XB b10_12 0 b10_11 ∧ XS b10_13 b10_2 b10_12 ∧ XR b10_14 r10_14 ∧ XR b10_15 r10_15 ∧ XC b10_16 (.t 63) .skip (.exit 2) ∧ XS b10_17 b10_15 b10_16 ∧ XR b10_18 r10_18 ∧ XR b10_19 r10_19 ∧ XS b10_20 b10_19 .ret ∧ XC b10_21 (.t 86) b10_20 .skip ∧ XS b10_22 b10_18 b10_21 ∧ XB b10_23 3 b10_22 ∧ XR b10_24 r10_24 ∧ XS b10_25 b10_23 b10_24 ∧ XS b10_26 b10_17 b10_25 ∧ XB b10_28 2 b10_27 ∧ XS b10_29 b10_14 b10_28 ∧ XR b10_30 r10_30 ∧ XS b10_31 b10_30 .ret ∧ XS b10_33 b10_13 b10_32 ∧ XS b10_34 b10_1 b10_33 ∧ XS b10_35 b10_0 b10_34 ∧ XY s10 105 b10_35 [.t 2] := ⟨rfl, rfl, rfl, rfl, sC_cond, rfl, rfl, rfl, rfl, rfl, rfl, rfl, rfl, rfl, rfl, sC_cond, rfl, rfl, rfl, rfl, sC_cond, rfl, rfl, rfl, rfl, rfl, rfl, rfl, rfl, rfl, rfl, rfl, rfl, rfl⟩
abbrev r25_0 : List MOper := [⟨(some 1), .box (.t 0), none⟩,
  ⟨(some 2), .move (.c (.bool false)), none⟩]
def b25_0 : SCode := .region r25_0
abbrev r25_1 : List MOper := [⟨(some 3), .move (.c (.nilslice)), none⟩]
def b25_1 : SCode := .region r25_1
abbrev r25_2 : List MOper := [⟨(some 4), .move (.c (.int .i64 0)), none⟩]
def b25_2 : SCode := .region r25_2
abbrev r25_3 : List MOper := [⟨(some 5), .move (.t 4), none⟩,
  ⟨(some 6), .fieldAddr 1 (.t 1), none⟩,
  ⟨(some 7), .load1 (.t 6), none⟩,
  ⟨(some 8), .lenSl (.t 7), none⟩,
  ⟨(some 9), .bin .lss .num (.t 5) (.t 8), none⟩,
  ⟨(some 10), .move (.t 9), none⟩,
  ⟨(some 11), .move (.t 4), (some (10, true))⟩,
  ⟨(some 12), .bin .lss .num (.t 11) (.c (.int .i64 100)), (some (10, true))⟩,
  ⟨(some 13), .pick (.t 10) (.t 12) (.c (.bool false)), none⟩]
def b25_3 : SCode := .region r25_3
def b25_4 : SCode := .cond (.t 13) .skip (.exit 0)
def b25_5 : SCode := .seq b25_3 b25_4
abbrev r25_6 : List MOper := [⟨(some 16), .move (.t 3), none⟩,
  ⟨(some 17), .fieldAddr 1 (.t 1), none⟩,
  ⟨(some 18), .load1 (.t 17), none⟩,
  ⟨(some 19), .move (.t 4), none⟩,
  ⟨(some 20), .indexAddr 4 (.t 18) (.t 19), none⟩,
  ⟨(some 21), .fieldAddr 0 (.t 20), none⟩,
  ⟨(some 22), .loadN 2 (.t 21), none⟩,
  ⟨(some 23), .buildSlice [.str [], .str []] 2 1 [(0, 2, (.t 22))], none⟩,
  ⟨(some 24), .append 2 32 (.t 16) (.t 23), none⟩,
  ⟨(some 3), .move (.t 24), none⟩]
def b25_6 : SCode := .region r25_6
def b25_7 : SCode := .block 1 b25_6
abbrev r25_8 : List MOper := [⟨(some 14), .move (.t 4), none⟩,
  ⟨(some 15), .bin .add .num (.t 14) (.c (.int .i64 1)), none⟩,
  ⟨(some 4), .move (.t 15), none⟩]
def b25_8 : SCode := .region r25_8
def b25_9 : SCode := .seq b25_7 b25_8
def b25_10 : SCode := .seq b25_5 b25_9
def b25_11 : SCode := .loop b25_10
def b25_12 : SCode := .block 0 b25_11
def b25_13 : SCode := .seq b25_2 b25_12
abbrev r25_14 : List MOper := [⟨(some 25), .fieldAddr 1 (.t 1), none⟩,
  ⟨(some 26), .load1 (.t 25), none⟩,
  ⟨(some 27), .lenSl (.t 26), none⟩,
  ⟨(some 28), .bin .leq .num (.t 27) (.c (.int .i64 60)), none⟩,
  ⟨(some 29), .move (.t 28), none⟩,
  ⟨(some 30), .move (.t 3), (some (29, true))⟩,
  ⟨(some 31), .call 58 [(.t 30)], (some (29, true))⟩,
  ⟨(some 32), .pick (.t 29) (.t 31) (.c (.bool false)), none⟩,
  ⟨(some 2), .move (.t 32), none⟩]
def b25_14 : SCode := .region r25_14
def b25_15 : SCode := .seq b25_14 .ret
def b25_16 : SCode := .seq b25_13 b25_15
def b25_17 : SCode := .seq b25_1 b25_16
def b25_18 : SCode := .seq b25_0 b25_17
def s25 : SFunc := ⟨33, [.t 2], b25_18⟩
theorem c25 : sFn Try.prog 25 = some s25 := by kernel_rfl
theorem x25_15 : XS b25_15 b25_14 .ret := rfl
theorem Z25 : XR b25_0 r25_0 ∧ XR b25_1 r25_1 ∧ XR b25_2 r25_2 ∧ XR b25_3 r25_3 ∧ XC b25_4 (.t 13) .skip (.exit 0) ∧ XS b25_5 b25_3 b25_4 ∧ XR b25_6 r25_6 ∧ XB b25_7 1 b25_6 ∧ XR b25_8 r25_8 ∧ XS b25_9 b25_7 b25_8 ∧ XS b25_10 b25_5 b25_9 ∧ XB b25_12 0 b25_11 ∧ XS b25_13 b25_2 b25_12 ∧ XR b25_14 r25_14 ∧ XS b25_16 b25_13 b25_15 ∧ XS b25_17 b25_1 b25_16 ∧ XS b25_18 b25_0 b25_17 ∧ XY s25 33 b25_18 [.t 2] := ⟨rfl, rfl, rfl, rfl, sC_cond, rfl, rfl, rfl, rfl, rfl, rfl, rfl, rfl, rfl, rfl, rfl, rfl, rfl⟩
abbrev r58_0 : List MOper := [⟨(some 2), .move (.c (.bool false)), none⟩]
def b58_0 : SCode := .region r58_0
abbrev r58_1 : List MOper := [⟨(some 3), .move (.c (.int .i64 0)), none⟩]
def b58_1 : SCode := .region r58_1
abbrev r58_2 : List MOper := [⟨(some 4), .move (.c (.int .i64 0)), none⟩]
def b58_2 : SCode := .region r58_2
abbrev r58_3 : List MOper := [⟨(some 5), .move (.t 4), none⟩,
  ⟨(some 6), .move (.t 0), none⟩,
  ⟨(some 7), .lenSl (.t 6), none⟩,
  ⟨(some 8), .bin .lss .num (.t 5) (.t 7), none⟩]
def b58_3 : SCode := .region r58_3
def b58_4 : SCode := .cond (.t 8) .skip (.exit 0)
def b58_5 : SCode := .seq b58_3 b58_4
abbrev t58_6 : LTree := (.quiet ⟨(some 11), .move (.t 3), none⟩ 0
  (.quiet ⟨(some 12), .move (.t 0), none⟩ 1
  (.quiet ⟨(some 13), .move (.t 4), none⟩ 2
  (.quiet ⟨(some 14), .indexAddr 2 (.t 12) (.t 13), none⟩ 3
  (.quiet ⟨(some 15), .fieldAddr 0 (.t 14), none⟩ 4
  (.quiet ⟨(some 16), .load1 (.t 15), none⟩ 5
  (.quiet ⟨(some 17), .lenStr (.t 16), none⟩ 6
  (.quiet ⟨(some 18), .bin .add .num (.t 11) (.t 17), none⟩ 7
  (.quiet ⟨(some 19), .move (.t 0), none⟩ 8
  (.quiet ⟨(some 20), .move (.t 4), none⟩ 9
  (.quiet ⟨(some 21), .indexAddr 2 (.t 19) (.t 20), none⟩ 10
  (.quiet ⟨(some 22), .fieldAddr 1 (.t 21), none⟩ 11
  (.quiet ⟨(some 23), .load1 (.t 22), none⟩ 12
  (.quiet ⟨(some 24), .lenStr (.t 23), none⟩ 13
  (.quiet ⟨(some 25), .bin .add .num (.t 18) (.t 24), none⟩ 14
  (.quiet ⟨(some 3), .move (.t 25), none⟩ 15
  .leaf))))))))))))))))
def b58_6 : SCode := .draw t58_6
def b58_7 : SCode := .block 1 b58_6
abbrev r58_8 : List MOper := [⟨(some 9), .move (.t 4), none⟩,
  ⟨(some 10), .bin .add .num (.t 9) (.c (.int .i64 1)), none⟩,
  ⟨(some 4), .move (.t 10), none⟩]
def b58_8 : SCode := .region r58_8
def b58_9 : SCode := .seq b58_7 b58_8
def b58_10 : SCode := .seq b58_5 b58_9
def b58_11 : SCode := .loop b58_10
def b58_12 : SCode := .block 0 b58_11
def b58_13 : SCode := .seq b58_2 b58_12
abbrev r58_14 : List MOper := [⟨(some 26), .move (.t 0), none⟩,
  ⟨(some 27), .lenSl (.t 26), none⟩,
  ⟨(some 28), .bin .leq .num (.t 27) (.c (.int .i64 60)), none⟩,
  ⟨(some 29), .move (.t 28), none⟩,
  ⟨(some 30), .move (.t 3), (some (29, true))⟩,
  ⟨(some 31), .bin .leq .num (.t 30) (.c (.int .i64 3000)), (some (29, true))⟩,
  ⟨(some 32), .pick (.t 29) (.t 31) (.c (.bool false)), none⟩,
  ⟨(some 2), .move (.t 32), none⟩]
def b58_14 : SCode := .region r58_14
def b58_15 : SCode := .seq b58_14 .ret
def b58_16 : SCode := .seq b58_13 b58_15
def b58_17 : SCode := .seq b58_1 b58_16
def b58_18 : SCode := .seq b58_0 b58_17
def s58 : SFunc := ⟨33, [.t 2], b58_18⟩
theorem c58 : sFn Try.prog 58 = some s58 := by kernel_rfl
theorem Z58 : XR b58_0 r58_0 ∧ XR b58_1 r58_1 ∧ XR b58_2 r58_2 ∧ XR b58_3 r58_3 ∧ XC b58_4 (.t 8) .skip (.exit 0) ∧ XS b58_5 b58_3 b58_4 ∧ XT b58_6 t58_6 ∧ XB b58_7 1 b58_6 ∧ XR b58_8 r58_8 ∧ XS b58_9 b58_7 b58_8 ∧ XS b58_10 b58_5 b58_9 ∧ XB b58_12 0 b58_11 ∧ XS b58_13 b58_2 b58_12 ∧ XR b58_14 r58_14 ∧ XS b58_15 b58_14 .ret ∧ XS b58_16 b58_13 b58_15 ∧ XS b58_17 b58_1 b58_16 ∧ XS b58_18 b58_0 b58_17 ∧ XY s58 33 b58_18 [.t 2] := ⟨rfl, rfl, rfl, rfl, sC_cond, rfl, rfl, rfl, rfl, rfl, rfl, rfl, rfl, rfl, rfl, rfl, rfl, rfl, rfl⟩

end
set_option maxHeartbeats 4000000
set_option maxRecDepth 10000

structure RowV where
  kind : Int
  from_ : Int
  to : Int
  epoch : Int
  tick : Int
  ask : AskV
  rep : RepV
  sf : List UInt8
  st : List UInt8
  l : List (List UInt8 × List UInt8)
  last : List RepV
  aep : Int
  sh : List ShV
def RowV.cells (r : RowV) : List AV := [.int .i64 r.kind, .int .i64 r.from_, .int .i64 r.to, .int .i64 r.epoch, .int .i64 r.tick, .int .i64 r.ask.do_, .int .i64 r.ask.client, .int .i64 r.ask.seq, .str r.ask.text, .str r.ask.val, .str r.ask.from_, .str r.ask.to, .int .i64 r.ask.limit, .int .i64 r.rep.client, .int .i64 r.rep.seq, .int .i64 r.rep.err, .bool r.rep.found, .str r.rep.val, .imm (recs r.rep.l) false false, .str r.rep.next, .bool r.rep.more, .str r.sf, .str r.st, .imm (r.l.map recC) false false, .imm (r.last.map RepV.cells) false false, .int .i64 r.aep, .imm (r.sh.map ShV.cells) false false]
theorem rowsRep_pure (l : List RepV) : pureLL (l.map RepV.cells) = true := pureLL_of fun r hr => by
  obtain ⟨x, _, rfl⟩ := List.mem_map.1 hr
  simpa [AV.pure] using rep_pure x
theorem row_pure (r : RowV) : (AV.agg r.cells).pure = true := by
  have h1 := recs_pure r.rep.l
  have h2 := rowsRec_pure r.l
  have h3 := rowsRep_pure r.last
  have h4 := rowsSh_pure r.sh
  simp only [AV.pure, RowV.cells, pureL, h1, h2, h3, h4, Bool.and_self]
abbrev big : Nat := 140737488351232
def pairS (p : List UInt8 × List UInt8) : Prop := p.1.length ≤ big ∧ p.2.length ≤ big
structure RowV.okS (r : RowV) : Prop where
  ask : r.ask.okS
  rep : r.rep.okS
  sf : r.sf.length ≤ big
  st : r.st.length ≤ big
  ll : r.l.length ≤ big
  l : ∀ p ∈ r.l, pairS p
  lal : r.last.length ≤ big
  last : ∀ p ∈ r.last, p.okS
  shl : r.sh.length ≤ big
  sh : ∀ s ∈ r.sh, pairS s.span
def RowV.base (r : RowV) : Int := (r.ask.text.length : Int) + r.ask.val.length + r.ask.from_.length + r.ask.to.length + r.sf.length + r.st.length
structure RowV.smallP (r : RowV) : Prop where
  sum : r.base + sumL r.l ≤ 20000
  l : r.l.length ≤ 100
  lal : r.last.length ≤ 21
  last : ∀ x ∈ r.last, x.small = true
  shl : r.sh.length ≤ 60
  sh : sumL (r.sh.map ShV.span) ≤ 3000
  rep : r.rep.small = true
theorem sumL_take {l : List (List UInt8 × List UInt8)} {i : Nat} {x : List UInt8 × List UInt8} (hx : l[i]? = some x) : sumL (l.take (i + 1)) = sumL (l.take i) + ((x.1.length : Int) + x.2.length) := by
  rw [List.take_add_one, hx]
  simp [sumL, List.sum_append]
theorem sumL_le {l : List (List UInt8 × List UInt8)} (h : ∀ p ∈ l, pairS p) (i : Nat) : 0 ≤ sumL (l.take i) ∧ sumL (l.take i) ≤ (l.take i).length * 281474976702464 := sumL_bound fun p hp => h p (List.mem_of_mem_take hp)
/-! Few. -/
def fewP (l : List (List UInt8 × List UInt8)) : Prop := l.length ≤ 60 ∧ sumL l ≤ 3000
def fwI (l : List (List UInt8 × List UInt8)) (n : Nat) (e : Env) (σ : AHeap) : Prop :=
  ∃ i : Nat, i ≤ l.length ∧ n = l.length - i ∧ e 0 = .imm (l.map recC) false false ∧ e 3 = .int .i64 (sumL (l.take i)) ∧ e 4 = .int .i64 (i : Int)
theorem fw_step (l : List (List UInt8 × List UInt8)) (hl : l.length ≤ 100) (hp : ∀ p ∈ l, pairS p) (n : Nat) (e : Env) (σ : AHeap) (h : fwI l n e σ) :
    sC noCall 0 b58_10 (unw noCall 0 (loopR noCall 0 (RetQ [MRes.t 2] fun r _ => ∃ b, r = .bool b ∧ (b = true → fewP l)) (.block 0 (.seq b58_15 .fin)) (fwI l) n) .fin) e σ := by
  obtain ⟨i, hi, hn, e0, e3, e4⟩ := h
  have hml : (l.map recC).length = l.length := by simp
  rcases Nat.lt_or_ge i l.length with hlt | hge
  · have hlt' : (i : Int) < (l.length : Int) := by omega
    have hge0 : (0 : Int) ≤ (i : Int) := by omega
    obtain ⟨x, hx⟩ : ∃ x, l[i]? = some x := ⟨_, List.getElem?_eq_getElem hlt⟩
    have hxx : (l.map recC)[i]? = some [.str x.1, .str x.2] := by simp [hx, recC]
    have hw : IntKind.wrap .i64 ((i : Int) + 1) = ((i + 1 : Nat) : Int) := by rw [Gz.wrap64 (by omega)]; omega
    obtain ⟨q1, q2⟩ := hp x (List.mem_of_getElem? hx)
    obtain ⟨q3, q4⟩ := sumL_le hp i
    have q5 : (l.take i).length ≤ 100 := by rw [List.length_take]; omega
    have hs := sumL_take hx
    have w1 : IntKind.wrap .i64 (sumL (l.take i) + (x.1.length : Int)) = sumL (l.take i) + (x.1.length : Int) := Gz.wrap64 (by simp only [big] at q1 q2; omega)
    have w2 : IntKind.wrap .i64 (sumL (l.take i) + (x.1.length : Int) + (x.2.length : Int)) = sumL (l.take (i + 1)) := by rw [hs, Gz.wrap64 (by simp only [big] at q1 q2; omega)]; omega
    simp only [Z58, base1, baseE, ↓reduceIte, Nat.reduceAdd, Nat.reduceSub, Nat.reduceMul, Nat.reduceEqDiff, Nat.reduceLeDiff, Nat.reduceLT, Int.reduceLT, Int.reduceLE, Int.reduceEq, Int.reduceNe, Int.reduceToNat, Int.reduceAdd, Int.reduceSub, reduceCtorEq, Nat.reduceBEq, Nat.reduceBNe, loopR_exit, loopR_ret, e0, e3, e4, hlt', hlt, hge0, hxx, hml, hw, w1, w2, Int.toNat_natCast]
    rw [loopR_normal]
    refine ⟨l.length - (i + 1), _, _, by omega, .refl _ _ _, i + 1, hlt, rfl, ?_, ?_, ?_⟩
    all_goals simp only [putD_some, putD_none, Nat.reduceEqDiff, ↓reduceIte, e0, e3, e4, hw, w1, w2]
  · have hlt' : ¬ (i : Int) < (l.length : Int) := by omega
    have hie : i = l.length := by omega
    subst hie
    rw [List.take_length] at e3
    cases g1 : decide ((l.length : Int) ≤ 60) with
    | false =>
      simp only [Z58, base1, baseE, ↓reduceIte, Nat.reduceAdd, Nat.reduceSub, Nat.reduceMul, Nat.reduceEqDiff, Nat.reduceLeDiff, Nat.reduceLT, Int.reduceLT, Int.reduceLE, Int.reduceEq, Int.reduceNe, Int.reduceToNat, Int.reduceAdd, Int.reduceSub, reduceCtorEq, Nat.reduceBEq, Nat.reduceBNe, loopR_exit, loopR_ret, e0, e3, e4, hlt', hml, g1]
      exact ⟨_, rfl, by simp⟩
    | true =>
      cases g2 : decide (sumL l ≤ 3000) with
      | false =>
        simp only [Z58, base1, baseE, ↓reduceIte, Nat.reduceAdd, Nat.reduceSub, Nat.reduceMul, Nat.reduceEqDiff, Nat.reduceLeDiff, Nat.reduceLT, Int.reduceLT, Int.reduceLE, Int.reduceEq, Int.reduceNe, Int.reduceToNat, Int.reduceAdd, Int.reduceSub, reduceCtorEq, Nat.reduceBEq, Nat.reduceBNe, loopR_exit, loopR_ret, e0, e3, e4, hlt', hml, g1, g2]
        exact ⟨_, rfl, by simp⟩
      | true =>
        simp only [Z58, base1, baseE, ↓reduceIte, Nat.reduceAdd, Nat.reduceSub, Nat.reduceMul, Nat.reduceEqDiff, Nat.reduceLeDiff, Nat.reduceLT, Int.reduceLT, Int.reduceLE, Int.reduceEq, Int.reduceNe, Int.reduceToNat, Int.reduceAdd, Int.reduceSub, reduceCtorEq, Nat.reduceBEq, Nat.reduceBNe, loopR_exit, loopR_ret, e0, e3, e4, hlt', hml, g1, g2]
        exact ⟨_, rfl, fun _ => ⟨by have := of_decide_eq_true g1; omega, of_decide_eq_true g2⟩⟩
theorem few_ok (l : List (List UInt8 × List UInt8)) (hl : l.length ≤ 100) (hp : ∀ p ∈ l, pairS p) : Tri Try.prog 58 [.imm (l.map recC) false false] [] fun r _ => r.pure = true ∧ ∃ b, r = .bool b ∧ (b = true → fewP l) := by
  have key : Tri Try.prog 58 [.imm (l.map recC) false false] [] fun r _ => ∃ b, r = .bool b ∧ (b = true → fewP l) := by
    refine Tri.of_s c58 (noCall_sound _) ?_
    have hml : (l.map recC).length = l.length := by simp
    simp only [Z58, base1, baseE, ↓reduceIte, Nat.reduceAdd, Nat.reduceSub, Nat.reduceMul, Nat.reduceEqDiff, Nat.reduceLeDiff, Nat.reduceLT, Int.reduceLT, Int.reduceLE, Int.reduceEq, Int.reduceNe, Int.reduceToNat, Int.reduceAdd, Int.reduceSub, reduceCtorEq, Nat.reduceBEq, Nat.reduceBNe, hml]
    exact sC_inv (a := b58_10) (fwI l) l.length _ _ (.refl _ _ _) ⟨0, Nat.zero_le _, rfl, rfl, rfl, rfl⟩ (fw_step l hl hp)
  exact key.mono fun r _ ⟨b, h1, h2⟩ => ⟨by rw [h1]; rfl, b, h1, h2⟩
def fewD (args : List AV) (σ : AHeap) (K : AV → AHeap → Prop) : Prop := ∃ (Lv : AV) (l : List (List UInt8 × List UInt8)), args = [Lv] ∧ Grow σ Lv 2 (l.map recC) ∧ l.length ≤ 100 ∧ (∀ p ∈ l, pairS p) ∧ ∀ b, (b = true → fewP l) → ∀ σ', K (.bool b) σ'
theorem fewD_ok (args : List AV) (σ : AHeap) (K : AV → AHeap → Prop) (h : fewD args σ K) : Tri Try.prog 58 args σ K := by
  obtain ⟨Lv, l, rfl, hg, hl, hp, h⟩ := h
  obtain ⟨d, hd⟩ := grow_given hg (rowsRec_pure l)
  exact (Tri.give (args := [Lv]) (args1 := [.imm (l.map recC) false false]) d rfl (given1 hd) (few_ok l hl hp)).mono fun r σ' ⟨⟨b, h1, h2⟩, _⟩ => by rw [h1]; exact h b h2 _
/-! A small atlas. -/
def F58 : PCall := rowQ 58 fewD noCall
theorem F58_app {f : FuncId} {args : List AV} {σ : AHeap} {K : AV → AHeap → Prop} : F58 f args σ K = rowQ 58 fewD noCall f args σ K := _root_.id rfl
theorem F58_sound : Sound Try.prog F58 := rowQ_sound fewD_ok (noCall_sound _)
def atlP (sh : List ShV) : Prop := sh.length ≤ 60 ∧ sumL (sh.map ShV.span) ≤ 3000
def asI (ep : Int) (sh : List ShV) (n : Nat) (e : Env) (σ : AHeap) : Prop :=
  ∃ (i : Nat) (Lv : AV), i ≤ sh.length ∧ i ≤ 100 ∧ n = sh.length - i ∧ hget σ 0 = some [.int .i64 ep, .imm (sh.map ShV.cells) false false] ∧ Grow σ Lv 2 (((sh.take i).map ShV.span).map recC) ∧ LvD Lv ≠ some 0 ∧ e 1 = .ptr 0 0 ∧ e 3 = Lv ∧ e 4 = .int .i64 (i : Int)
theorem as_step (ep : Int) (sh : List ShV) (hl : sh.length ≤ big) (hp : ∀ s ∈ sh, pairS s.span) (n : Nat) (e : Env) (σ : AHeap) (h : asI ep sh n e σ) :
    sC F58 0 b25_10 (unw F58 0 (loopR F58 0 (RetQ [MRes.t 2] fun r _ => ∃ b, r = .bool b ∧ (b = true → atlP sh)) (.block 0 (.seq b25_15 .fin)) (asI ep sh) n) .fin) e σ := by
  obtain ⟨i, Lv, hi, hi2, hn, g0, hLv, d0, e1, e3, e4⟩ := h
  have hml : (sh.map ShV.cells).length = sh.length := by simp
  have lc := grow_cell hLv
  have fin : ¬ (i < sh.length ∧ i < 100) → ∀ e' : Env, e' 1 = .ptr 0 0 → e' 3 = Lv → sC F58 0 b25_15 (unw F58 0 (RetQ [MRes.t 2] fun r _ => ∃ b, r = .bool b ∧ (b = true → atlP sh)) .fin) e' σ := by
    intro hno e' k1 k3
    cases g1 : decide ((sh.length : Int) ≤ 60) with
    | false =>
      simp only [F58_app, Z25, x25_15, base1, ↓reduceIte, Nat.reduceAdd, Nat.reduceSub, Nat.reduceMul, Nat.reduceEqDiff, Nat.reduceLeDiff, Nat.reduceLT, Int.reduceLT, Int.reduceLE, Int.reduceEq, Int.reduceNe, Int.reduceToNat, Int.reduceAdd, Int.reduceSub, reduceCtorEq, Nat.reduceBEq, Nat.reduceBNe, lenOf_imm, k1, k3, g0, hml, g1]
      exact ⟨_, rfl, by simp⟩
    | true =>
      simp only [F58_app, Z25, x25_15, base1, ↓reduceIte, Nat.reduceAdd, Nat.reduceSub, Nat.reduceMul, Nat.reduceEqDiff, Nat.reduceLeDiff, Nat.reduceLT, Int.reduceLT, Int.reduceLE, Int.reduceEq, Int.reduceNe, Int.reduceToNat, Int.reduceAdd, Int.reduceSub, reduceCtorEq, Nat.reduceBEq, Nat.reduceBNe, lenOf_imm, k1, k3, g0, hml, g1]
      have h60 := of_decide_eq_true g1
      have hii : i = sh.length := by omega
      subst hii
      rw [List.take_length] at hLv
      refine ⟨Lv, sh.map ShV.span, rfl, hLv, by simp; omega, fun p hp' => ?_, fun b hb σ' => ?_⟩
      · obtain ⟨s, hs, rfl⟩ := List.mem_map.1 hp'
        exact hp s hs
      · simp only [F58_app, Z25, x25_15, base1, ↓reduceIte, Nat.reduceAdd, Nat.reduceSub, Nat.reduceMul, Nat.reduceEqDiff, Nat.reduceLeDiff, Nat.reduceLT, Int.reduceLT, Int.reduceLE, Int.reduceEq, Int.reduceNe, Int.reduceToNat, Int.reduceAdd, Int.reduceSub, reduceCtorEq, Nat.reduceBEq, Nat.reduceBNe, lenOf_imm, k1, k3]
        exact ⟨b, rfl, fun h => ⟨by have := (hb h).1; simpa using this, (hb h).2⟩⟩
  rcases Nat.lt_or_ge i sh.length with hlt | hge
  · have hlt' : (i : Int) < (sh.length : Int) := by omega
    have hge0 : (0 : Int) ≤ (i : Int) := by omega
    rcases Nat.lt_or_ge i 100 with hlt1 | hge1
    · have hlt2 : (i : Int) < 100 := by omega
      obtain ⟨x, hx⟩ : ∃ x, sh[i]? = some x := ⟨_, List.getElem?_eq_getElem hlt⟩
      have hxx : (sh.map ShV.cells)[i]? = some [.str x.from_, .str x.to, .int .i64 x.node, .int .i64 x.epoch] := by simp [hx, ShV.cells]
      have hw : IntKind.wrap .i64 ((i : Int) + 1) = ((i + 1 : Nat) : Int) := by rw [Gz.wrap64 (by omega)]; omega
      have htk : sh.take (i + 1) = sh.take i ++ [x] := by rw [List.take_add_one, hx]; rfl
      obtain ⟨v, τ, a1, a2, a3, a4, a5⟩ := grow_one (b := 32) (by decide) hLv (by simp; omega) (recC x.span) rfl rfl
      obtain ⟨q0, u0⟩ := a4 0 _ g0 d0
      simp only [recC, ShV.span] at a1
      simp only [F58_app, Z25, x25_15, base1, ↓reduceIte, Nat.reduceAdd, Nat.reduceSub, Nat.reduceMul, Nat.reduceEqDiff, Nat.reduceLeDiff, Nat.reduceLT, Int.reduceLT, Int.reduceLE, Int.reduceEq, Int.reduceNe, Int.reduceToNat, Int.reduceAdd, Int.reduceSub, reduceCtorEq, Nat.reduceBEq, Nat.reduceBNe, lenOf_imm, loopR_exit, loopR_ret, e1, e3, e4, hlt', hlt, hlt2, hge0, g0, hxx, hml, hw, Int.toNat_natCast, a1, a2, a3]
      rw [loopR_normal]
      refine ⟨sh.length - (i + 1), _, _, by omega, .refl _ _ _, i + 1, v, hlt, hlt1, rfl, q0, ?_, u0, ?_, ?_, ?_⟩
      · rw [htk]; simpa using a5
      all_goals simp only [putD_some, putD_none, Nat.reduceEqDiff, ↓reduceIte, e1, e3, e4, hw]
    · have hlt2 : ¬ (i : Int) < 100 := by omega
      simp only [F58_app, Z25, base1, ↓reduceIte, Nat.reduceAdd, Nat.reduceSub, Nat.reduceMul, Nat.reduceEqDiff, Nat.reduceLeDiff, Nat.reduceLT, Int.reduceLT, Int.reduceLE, Int.reduceEq, Int.reduceNe, Int.reduceToNat, Int.reduceAdd, Int.reduceSub, reduceCtorEq, Nat.reduceBEq, Nat.reduceBNe, lenOf_imm, loopR_exit, loopR_ret, e1, e3, e4, hlt', hlt2, g0, hml]
      exact fin (by omega) _ (by simp only [putD_some, putD_none, Nat.reduceEqDiff, ↓reduceIte, e1]) (by simp only [putD_some, putD_none, Nat.reduceEqDiff, ↓reduceIte, e3])
  · have hlt' : ¬ (i : Int) < (sh.length : Int) := by omega
    simp only [F58_app, Z25, base1, ↓reduceIte, Nat.reduceAdd, Nat.reduceSub, Nat.reduceMul, Nat.reduceEqDiff, Nat.reduceLeDiff, Nat.reduceLT, Int.reduceLT, Int.reduceLE, Int.reduceEq, Int.reduceNe, Int.reduceToNat, Int.reduceAdd, Int.reduceSub, reduceCtorEq, Nat.reduceBEq, Nat.reduceBNe, lenOf_imm, loopR_exit, loopR_ret, e1, e3, e4, hlt', g0, hml]
    exact fin (by omega) _ (by simp only [putD_some, putD_none, Nat.reduceEqDiff, ↓reduceIte, e1]) (by simp only [putD_some, putD_none, Nat.reduceEqDiff, ↓reduceIte, e3])
theorem atlSmall_ok (ep : Int) (sh : List ShV) (hl : sh.length ≤ big) (hp : ∀ s ∈ sh, pairS s.span) : Tri Try.prog 25 [.agg [.int .i64 ep, .imm (sh.map ShV.cells) false false]] [] fun r _ => r.pure = true ∧ ∃ b, r = .bool b ∧ (b = true → atlP sh) := by
  have key : Tri Try.prog 25 [.agg [.int .i64 ep, .imm (sh.map ShV.cells) false false]] [] fun r _ => ∃ b, r = .bool b ∧ (b = true → atlP sh) := by
    refine Tri.of_s c25 F58_sound ?_
    simp only [F58_app, Z25, x25_15, base1, baseE, ↓reduceIte, Nat.reduceAdd, Nat.reduceSub, Nat.reduceMul, Nat.reduceEqDiff, Nat.reduceLeDiff, Nat.reduceLT, Int.reduceLT, Int.reduceLE, Int.reduceEq, Int.reduceNe, Int.reduceToNat, Int.reduceAdd, Int.reduceSub, reduceCtorEq, Nat.reduceBEq, Nat.reduceBNe]
    exact sC_inv (a := b25_10) (asI ep sh) sh.length _ _ (.refl _ _ _) ⟨0, .nilslice, Nat.zero_le _, by omega, rfl, rfl, .inl ⟨rfl, rfl⟩, by simp [LvD], rfl, rfl, rfl⟩ (as_step ep sh hl hp)
  exact key.mono fun r _ ⟨b, h1, h2⟩ => ⟨by rw [h1]; rfl, b, h1, h2⟩
def atlSmallD (args : List AV) (σ : AHeap) (K : AV → AHeap → Prop) : Prop := ∃ (ep : Int) (sh : List ShV), args = [.agg [.int .i64 ep, .imm (sh.map ShV.cells) false false]] ∧ sh.length ≤ big ∧ (∀ s ∈ sh, pairS s.span) ∧ ∀ b, (b = true → atlP sh) → K (.bool b) σ
theorem atlSmallD_ok (args : List AV) (σ : AHeap) (K : AV → AHeap → Prop) (h : atlSmallD args σ K) : Tri Try.prog 25 args σ K := by
  obtain ⟨ep, sh, rfl, hl, hp, h⟩ := h
  exact (Tri.pureD (by simp only [pureL, AV.pure, rowsSh_pure, Bool.and_self]) (atlSmall_ok ep sh hl hp) σ).mono fun r σ' ⟨⟨b, h1, h2⟩, h3⟩ => by rw [h1, h3]; exact h b h2
def smallRPD (args : List AV) (σ : AHeap) (K : AV → AHeap → Prop) : Prop := ∃ r : RepV, args = [.agg r.cells] ∧ r.okS ∧ K (.bool r.small) σ
theorem smallRPD_eq {a : RepV} {σ : AHeap} {K : AV → AHeap → Prop} : smallRPD [.agg [.int .i64 a.client, .int .i64 a.seq, .int .i64 a.err, .bool a.found, .str a.val, .imm (recs a.l) false false, .str a.next, .bool a.more]] σ K = (a.okS ∧ K (.bool a.small) σ) := by
  apply propext
  refine ⟨fun ⟨r, h1, h2, h3⟩ => ?_, fun h => ⟨a, rfl, h.1, h.2⟩⟩
  have : a = r := rep_inj (List.cons.inj h1).1
  subst this
  exact ⟨h2, h3⟩
theorem smallRPD_ok (args : List AV) (σ : AHeap) (K : AV → AHeap → Prop) (h : smallRPD args σ K) : Tri Try.prog 24 args σ K := by
  obtain ⟨r, rfl, hs, h⟩ := h
  exact (Tri.pureD (by simp only [pureL, rep_pure, Bool.and_self]) ((smallR_ok r hs).mono fun x _ hx => ⟨by rw [hx.2]; rfl, hx.2⟩) σ).mono fun x σ' hx => by rw [hx.1, hx.2]; exact h
/-! Small. -/
def T10 : PCall := rowQ 24 smallRPD (rowQ 25 atlSmallD noCall)
theorem T10_app {f : FuncId} {args : List AV} {σ : AHeap} {K : AV → AHeap → Prop} : T10 f args σ K = rowQ 24 smallRPD (rowQ 25 atlSmallD noCall) f args σ K := _root_.id rfl
theorem T10_sound : Sound Try.prog T10 := rowQ_sound smallRPD_ok (rowQ_sound atlSmallD_ok (noCall_sound _))
def SmQ (r : RowV) (x : AV) (_ : AHeap) : Prop := ∃ b, x = .bool b ∧ (b = true → r.smallP)
def saI (r : RowV) (n : Nat) (e : Env) (σ : AHeap) : Prop :=
  ∃ (i : Nat) (v : Int), i ≤ r.l.length ∧ n = r.l.length - i ∧ σ = [some r.cells] ∧ e 1 = .ptr 0 0 ∧ e 3 = .int .i64 v ∧ e 4 = .int .i64 (i : Int) ∧ (r.l.length ≤ 100 → v = r.base + sumL (r.l.take i))
def sbI (r : RowV) (v : Int) (n : Nat) (e : Env) (σ : AHeap) : Prop :=
  ∃ i : Nat, i ≤ r.last.length ∧ i ≤ 21 ∧ n = r.last.length - i ∧ σ = [some r.cells] ∧ e 1 = .ptr 0 0 ∧ e 3 = .int .i64 v ∧ e 5 = .int .i64 (i : Int) ∧ ∀ x ∈ r.last.take i, x.small = true
theorem sb_step (r : RowV) (h : r.okS) (v : Int) (hv : r.l.length ≤ 100 → v = r.base + sumL r.l) (n : Nat) (e : Env) (σ : AHeap) (hI : sbI r v n e σ) :
    sC T10 0 b10_26 (unw T10 0 (loopR T10 0 (RetQ [MRes.t 2] (SmQ r)) (.block 2 (.seq b10_31 .fin)) (sbI r v) n) .fin) e σ := by
  obtain ⟨i, hi, hi2, hn, rfl, e1, e3, e5, hall⟩ := hI
  have hml : (r.last.map RepV.cells).length = r.last.length := by simp
  have hm2 : (r.l.map recC).length = r.l.length := by simp
  have no : ∀ x : AV, x = .bool false → SmQ r x [some r.cells] := fun x hx => ⟨false, hx, fun h => by cases h⟩
  rcases Nat.lt_or_ge i r.last.length with hlt | hge
  · have hlt' : (i : Int) < (r.last.length : Int) := by omega
    have hge0 : (0 : Int) ≤ (i : Int) := by omega
    obtain ⟨x, hx⟩ : ∃ x, r.last[i]? = some x := ⟨_, List.getElem?_eq_getElem hlt⟩
    have hxx : (r.last.map RepV.cells)[i]? = some [.int .i64 x.client, .int .i64 x.seq, .int .i64 x.err, .bool x.found, .str x.val, .imm (recs x.l) false false, .str x.next, .bool x.more] := by simp [hx, RepV.cells]
    have hw : IntKind.wrap .i64 ((i : Int) + 1) = ((i + 1 : Nat) : Int) := by rw [Gz.wrap64 (by omega)]; omega
    have htk : r.last.take (i + 1) = r.last.take i ++ [x] := by rw [List.take_add_one, hx]; rfl
    have hxs := h.last x (List.mem_of_getElem? hx)
    rcases Nat.lt_or_ge 20 i with h20 | h20
    · have h20' : (20 : Int) < (i : Int) := by omega
      simp only [RowV.cells, T10_app, Z10, x10_32, base1, baseE, ↓reduceIte, Nat.reduceAdd, Nat.reduceSub, Nat.reduceMul, Nat.reduceEqDiff, Nat.reduceLeDiff, Nat.reduceLT, Int.reduceLT, Int.reduceLE, Int.reduceEq, Int.reduceNe, Int.reduceToNat, Int.reduceAdd, Int.reduceSub, reduceCtorEq, Nat.reduceBEq, Nat.reduceBNe, loopR_exit, loopR_ret, smallRPD_eq, e1, e3, e5, hlt', hlt, hge0, hxx, hml, Int.toNat_natCast, h20']
      exact ⟨_, rfl, fun h => by cases h⟩
    · have h20' : ¬ (20 : Int) < (i : Int) := by omega
      cases g1 : x.small with
      | false =>
        simp only [RowV.cells, T10_app, Z10, x10_32, base1, baseE, ↓reduceIte, Nat.reduceAdd, Nat.reduceSub, Nat.reduceMul, Nat.reduceEqDiff, Nat.reduceLeDiff, Nat.reduceLT, Int.reduceLT, Int.reduceLE, Int.reduceEq, Int.reduceNe, Int.reduceToNat, Int.reduceAdd, Int.reduceSub, reduceCtorEq, Nat.reduceBEq, Nat.reduceBNe, loopR_exit, loopR_ret, smallRPD_eq, e1, e3, e5, hlt', hlt, hge0, hxx, hml, Int.toNat_natCast, h20', hxs, g1]
        exact ⟨_, rfl, fun h => by cases h⟩
      | true =>
        cases g2 : decide (500 < (x.val.length : Int)) with
        | true =>
          simp only [RowV.cells, T10_app, Z10, x10_32, base1, baseE, ↓reduceIte, Nat.reduceAdd, Nat.reduceSub, Nat.reduceMul, Nat.reduceEqDiff, Nat.reduceLeDiff, Nat.reduceLT, Int.reduceLT, Int.reduceLE, Int.reduceEq, Int.reduceNe, Int.reduceToNat, Int.reduceAdd, Int.reduceSub, reduceCtorEq, Nat.reduceBEq, Nat.reduceBNe, loopR_exit, loopR_ret, smallRPD_eq, e1, e3, e5, hlt', hlt, hge0, hxx, hml, Int.toNat_natCast, h20', hxs, g1, g2]
          exact ⟨_, rfl, fun h => by cases h⟩
        | false =>
          simp only [RowV.cells, T10_app, Z10, x10_32, base1, baseE, ↓reduceIte, Nat.reduceAdd, Nat.reduceSub, Nat.reduceMul, Nat.reduceEqDiff, Nat.reduceLeDiff, Nat.reduceLT, Int.reduceLT, Int.reduceLE, Int.reduceEq, Int.reduceNe, Int.reduceToNat, Int.reduceAdd, Int.reduceSub, reduceCtorEq, Nat.reduceBEq, Nat.reduceBNe, loopR_exit, loopR_ret, smallRPD_eq, e1, e3, e5, hlt', hlt, hge0, hxx, hml, Int.toNat_natCast, h20', hxs, g1, g2, hw]
          rw [loopR_normal]
          refine ⟨r.last.length - (i + 1), _, _, by omega, .refl _ _ _, i + 1, hlt, by omega, rfl, rfl, ?_, ?_, ?_, ?_⟩
          rotate_right 1
          · intro y hy
            rw [htk] at hy
            rcases List.mem_append.1 hy with hy | hy
            · exact hall y hy
            · simp at hy; rw [hy]; exact g1
          all_goals simp only [putD_some, putD_none, Nat.reduceEqDiff, ↓reduceIte, e1, e3, e5, hw]
  · have hlt' : ¬ (i : Int) < (r.last.length : Int) := by omega
    have hie : i = r.last.length := by omega
    subst hie
    rw [List.take_length] at hall
    cases g1 : decide (v ≤ 20000) with
    | false =>
      simp only [RowV.cells, T10_app, Z10, x10_32, base1, baseE, ↓reduceIte, Nat.reduceAdd, Nat.reduceSub, Nat.reduceMul, Nat.reduceEqDiff, Nat.reduceLeDiff, Nat.reduceLT, Int.reduceLT, Int.reduceLE, Int.reduceEq, Int.reduceNe, Int.reduceToNat, Int.reduceAdd, Int.reduceSub, reduceCtorEq, Nat.reduceBEq, Nat.reduceBNe, loopR_exit, loopR_ret, e1, e3, e5, hlt', hml, g1]
      exact ⟨_, rfl, fun h => by cases h⟩
    | true =>
    cases g2 : decide ((r.l.length : Int) ≤ 100) with
    | false =>
      simp only [RowV.cells, T10_app, Z10, x10_32, base1, baseE, ↓reduceIte, Nat.reduceAdd, Nat.reduceSub, Nat.reduceMul, Nat.reduceEqDiff, Nat.reduceLeDiff, Nat.reduceLT, Int.reduceLT, Int.reduceLE, Int.reduceEq, Int.reduceNe, Int.reduceToNat, Int.reduceAdd, Int.reduceSub, reduceCtorEq, Nat.reduceBEq, Nat.reduceBNe, loopR_exit, loopR_ret, e1, e3, e5, hlt', hml, hm2, g1, g2]
      exact ⟨_, rfl, fun h => by cases h⟩
    | true =>
    simp only [RowV.cells, T10_app, Z10, x10_32, base1, baseE, ↓reduceIte, Nat.reduceAdd, Nat.reduceSub, Nat.reduceMul, Nat.reduceEqDiff, Nat.reduceLeDiff, Nat.reduceLT, Int.reduceLT, Int.reduceLE, Int.reduceEq, Int.reduceNe, Int.reduceToNat, Int.reduceAdd, Int.reduceSub, reduceCtorEq, Nat.reduceBEq, Nat.reduceBNe, loopR_exit, loopR_ret, e1, e3, e5, hlt', hml, hm2, g1, g2]
    refine ⟨r.aep, r.sh, rfl, h.shl, h.sh, fun b hb => ?_⟩
    have hrr := h.rep
    cases b with
    | false =>
      simp only [RowV.cells, T10_app, Z10, x10_32, base1, baseE, ↓reduceIte, Nat.reduceAdd, Nat.reduceSub, Nat.reduceMul, Nat.reduceEqDiff, Nat.reduceLeDiff, Nat.reduceLT, Int.reduceLT, Int.reduceLE, Int.reduceEq, Int.reduceNe, Int.reduceToNat, Int.reduceAdd, Int.reduceSub, reduceCtorEq, Nat.reduceBEq, Nat.reduceBNe, e1, e3, e5]
      exact ⟨_, rfl, fun h => by cases h⟩
    | true =>
      cases g3 : r.rep.small with
      | false =>
        simp only [RowV.cells, T10_app, Z10, x10_32, base1, baseE, ↓reduceIte, Nat.reduceAdd, Nat.reduceSub, Nat.reduceMul, Nat.reduceEqDiff, Nat.reduceLeDiff, Nat.reduceLT, Int.reduceLT, Int.reduceLE, Int.reduceEq, Int.reduceNe, Int.reduceToNat, Int.reduceAdd, Int.reduceSub, reduceCtorEq, Nat.reduceBEq, Nat.reduceBNe, smallRPD_eq, e1, e3, e5, hrr, g3]
        exact ⟨_, rfl, fun h => by cases h⟩
      | true =>
        simp only [RowV.cells, T10_app, Z10, x10_32, base1, baseE, ↓reduceIte, Nat.reduceAdd, Nat.reduceSub, Nat.reduceMul, Nat.reduceEqDiff, Nat.reduceLeDiff, Nat.reduceLT, Int.reduceLT, Int.reduceLE, Int.reduceEq, Int.reduceNe, Int.reduceToNat, Int.reduceAdd, Int.reduceSub, reduceCtorEq, Nat.reduceBEq, Nat.reduceBNe, smallRPD_eq, e1, e3, e5, hrr, g3]
        have p1 := of_decide_eq_true g1
        have p2 := of_decide_eq_true g2
        have p3 : r.l.length ≤ 100 := by omega
        exact ⟨true, rfl, fun _ => ⟨by rw [← hv p3]; exact p1, p3, hi2, hall, (hb rfl).1, (hb rfl).2, g3⟩⟩
theorem sa_step (r : RowV) (h : r.okS) (n : Nat) (e : Env) (σ : AHeap) (hI : saI r n e σ) :
    sC T10 0 b10_10 (unw T10 0 (loopR T10 0 (RetQ [MRes.t 2] (SmQ r)) (.block 0 (.seq b10_32 .fin)) (saI r) n) .fin) e σ := by
  obtain ⟨i, v, hi, hn, rfl, e1, e3, e4, hv⟩ := hI
  have hml : (r.l.map recC).length = r.l.length := by simp
  have hll := h.ll
  rcases Nat.lt_or_ge i r.l.length with hlt | hge
  · have hlt' : (i : Int) < (r.l.length : Int) := by omega
    have hge0 : (0 : Int) ≤ (i : Int) := by omega
    obtain ⟨x, hx⟩ : ∃ x, r.l[i]? = some x := ⟨_, List.getElem?_eq_getElem hlt⟩
    have hxx : (r.l.map recC)[i]? = some [.str x.1, .str x.2] := by simp [hx, recC]
    have hw : IntKind.wrap .i64 ((i : Int) + 1) = ((i + 1 : Nat) : Int) := by rw [Gz.wrap64 (by simp only [big] at hll; omega)]; omega
    have hvv : r.l.length ≤ 100 → IntKind.wrap .i64 (IntKind.wrap .i64 (v + (x.1.length : Int)) + (x.2.length : Int)) = r.base + sumL (r.l.take (i + 1)) := by
      intro h100
      obtain ⟨q1, q2⟩ := h.l x (List.mem_of_getElem? hx)
      obtain ⟨q3, q4⟩ := sumL_le h.l i
      have q5 : (r.l.take i).length ≤ 100 := by rw [List.length_take]; omega
      obtain ⟨b1, b2, b3, b4⟩ := h.ask
      have b5 := h.sf
      have b6 := h.st
      have hb : 0 ≤ r.base ∧ r.base ≤ 6 * 140737488351232 := by simp only [RowV.base, big] at *; omega
      rw [hv h100, sumL_take hx]
      simp only [big] at q1 q2
      generalize sumL (r.l.take i) = S at q3 q4 ⊢
      generalize r.base = B at hb ⊢
      rw [Gz.wrap64 (z := B + S + (x.1.length : Int)) (by omega), Gz.wrap64 (by omega)]
      omega
    simp only [RowV.cells, T10_app, Z10, x10_32, base1, baseE, ↓reduceIte, Nat.reduceAdd, Nat.reduceSub, Nat.reduceMul, Nat.reduceEqDiff, Nat.reduceLeDiff, Nat.reduceLT, Int.reduceLT, Int.reduceLE, Int.reduceEq, Int.reduceNe, Int.reduceToNat, Int.reduceAdd, Int.reduceSub, reduceCtorEq, Nat.reduceBEq, Nat.reduceBNe, loopR_exit, loopR_ret, e1, e3, e4, hlt', hlt, hge0, hxx, hml, hw, Int.toNat_natCast]
    rw [loopR_normal]
    refine ⟨r.l.length - (i + 1), _, _, by omega, .refl _ _ _, i + 1, _, hlt, rfl, rfl, ?_, ?_, ?_, hvv⟩
    all_goals simp only [putD_some, putD_none, Nat.reduceEqDiff, ↓reduceIte, e1, e3, e4, hw]
  · have hlt' : ¬ (i : Int) < (r.l.length : Int) := by omega
    have hie : i = r.l.length := by omega
    subst hie
    rw [List.take_length] at hv
    simp only [T10_app, Z10, base1, baseE, ↓reduceIte, Nat.reduceAdd, Nat.reduceSub, Nat.reduceMul, Nat.reduceEqDiff, Nat.reduceLeDiff, Nat.reduceLT, Int.reduceLT, Int.reduceLE, Int.reduceEq, Int.reduceNe, Int.reduceToNat, Int.reduceAdd, Int.reduceSub, reduceCtorEq, Nat.reduceBEq, Nat.reduceBNe, loopR_exit, loopR_ret, e1, e3, e4]
    simp only [RowV.cells, T10_app, Z10, x10_32, base1, baseE, ↓reduceIte, Nat.reduceAdd, Nat.reduceSub, Nat.reduceMul, Nat.reduceEqDiff, Nat.reduceLeDiff, Nat.reduceLT, Int.reduceLT, Int.reduceLE, Int.reduceEq, Int.reduceNe, Int.reduceToNat, Int.reduceAdd, Int.reduceSub, reduceCtorEq, Nat.reduceBEq, Nat.reduceBNe, loopR_exit, loopR_ret, e1, e3, e4, hlt', hml]
    exact sC_inv (a := b10_26) (sbI r v) r.last.length _ _ (.refl _ _ _) ⟨0, Nat.zero_le _, by omega, rfl, rfl, e1, e3, rfl, by simp⟩ (sb_step r h v hv)
theorem small_ok (r : RowV) (h : r.okS) : Tri Try.prog 10 [.agg r.cells] [] fun x _ => x.pure = true ∧ ∃ b, x = .bool b ∧ (b = true → r.smallP) := by
  have key : Tri Try.prog 10 [.agg r.cells] [] (SmQ r) := by
    refine Tri.of_s c10 T10_sound ?_
    obtain ⟨b1, b2, b3, b4⟩ := h.ask
    have b5 := h.sf
    have b6 := h.st
    simp only [big] at b5 b6
    have w1 : IntKind.wrap .i64 ((r.ask.text.length : Int) + r.ask.val.length) = (r.ask.text.length : Int) + r.ask.val.length := Gz.wrap64 (by omega)
    have w2 : IntKind.wrap .i64 ((r.ask.text.length : Int) + r.ask.val.length + r.ask.from_.length) = (r.ask.text.length : Int) + r.ask.val.length + r.ask.from_.length := Gz.wrap64 (by omega)
    have w3 : IntKind.wrap .i64 ((r.ask.text.length : Int) + r.ask.val.length + r.ask.from_.length + r.ask.to.length) = (r.ask.text.length : Int) + r.ask.val.length + r.ask.from_.length + r.ask.to.length := Gz.wrap64 (by omega)
    have w4 : IntKind.wrap .i64 ((r.ask.text.length : Int) + r.ask.val.length + r.ask.from_.length + r.ask.to.length + r.sf.length) = (r.ask.text.length : Int) + r.ask.val.length + r.ask.from_.length + r.ask.to.length + r.sf.length := Gz.wrap64 (by omega)
    have w5 : IntKind.wrap .i64 ((r.ask.text.length : Int) + r.ask.val.length + r.ask.from_.length + r.ask.to.length + r.sf.length + r.st.length) = r.base := Gz.wrap64 (by omega)
    simp only [RowV.cells, T10_app, Z10, x10_32, base1, baseE, ↓reduceIte, Nat.reduceAdd, Nat.reduceSub, Nat.reduceMul, Nat.reduceEqDiff, Nat.reduceLeDiff, Nat.reduceLT, Int.reduceLT, Int.reduceLE, Int.reduceEq, Int.reduceNe, Int.reduceToNat, Int.reduceAdd, Int.reduceSub, reduceCtorEq, Nat.reduceBEq, Nat.reduceBNe, w1, w2, w3, w4, w5]
    exact sC_inv (a := b10_10) (saI r) r.l.length _ _ (.refl _ _ _) ⟨0, r.base, Nat.zero_le _, rfl, rfl, rfl, rfl, rfl, fun _ => by simp [sumL]⟩ (sa_step r h)
  exact key.mono fun x _ ⟨b, h1, h2⟩ => ⟨by rw [h1]; rfl, b, h1, h2⟩
def smallD (args : List AV) (σ : AHeap) (K : AV → AHeap → Prop) : Prop := ∃ r : RowV, args = [.agg r.cells] ∧ r.okS ∧ ∀ b, (b = true → r.smallP) → K (.bool b) σ
theorem smallD_ok (args : List AV) (σ : AHeap) (K : AV → AHeap → Prop) (h : smallD args σ K) : Tri Try.prog 10 args σ K := by
  obtain ⟨r, rfl, hs, h⟩ := h
  exact (Tri.pureD (by simp only [pureL, row_pure, Bool.and_self]) (small_ok r hs) σ).mono fun x σ' ⟨⟨b, h1, h2⟩, h3⟩ => by rw [h1, h3]; exact h b h2
end Go.Proofs.Ytndlgmciplckjaa.note
