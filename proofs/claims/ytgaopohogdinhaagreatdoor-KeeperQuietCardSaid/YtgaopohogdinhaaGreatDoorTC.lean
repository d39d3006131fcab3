/- What Small says of a row: where it says yes the row is small. No condition. -/
import Derived.Test.YtgaopohogdinhaaGreatDoorTB
set_option linter.unusedVariables false
set_option linter.unusedSimpArgs false
namespace Go.Proofs.YtgaopohogdinhaaGreatDoor.note
open Go.ChangeShapes Go.WideShapes Go.ChangeAt Go.RowKit Go.Gz
section
variable {C : PCall} {n0 : Nat} {R : MExit → Env → AHeap → Prop} {k : Cont} {e : Env} {σ : AHeap}
abbrev r14_0 : List MOper := [⟨(some 1), .box (.t 0), none⟩,
  ⟨(some 2), .move (.c (.bool false)), none⟩]
def b14_0 : SCode := .region r14_0
abbrev r14_1 : List MOper := [⟨(some 6), .fieldAddr 5 (.t 1), none⟩,
  ⟨(some 7), .fieldAddr 3 (.t 6), none⟩,
  ⟨(some 8), .load1 (.t 7), none⟩,
  ⟨(some 9), .lenStr (.t 8), none⟩,
  ⟨(some 10), .fieldAddr 5 (.t 1), none⟩,
  ⟨(some 11), .fieldAddr 4 (.t 10), none⟩,
  ⟨(some 12), .load1 (.t 11), none⟩,
  ⟨(some 13), .lenStr (.t 12), none⟩,
  ⟨(some 14), .bin .add .num (.t 9) (.t 13), none⟩,
  ⟨(some 15), .fieldAddr 5 (.t 1), none⟩,
  ⟨(some 16), .fieldAddr 5 (.t 15), none⟩,
  ⟨(some 17), .load1 (.t 16), none⟩,
  ⟨(some 18), .lenStr (.t 17), none⟩,
  ⟨(some 19), .bin .add .num (.t 14) (.t 18), none⟩,
  ⟨(some 20), .fieldAddr 5 (.t 1), none⟩,
  ⟨(some 21), .fieldAddr 6 (.t 20), none⟩,
  ⟨(some 22), .load1 (.t 21), none⟩,
  ⟨(some 23), .lenStr (.t 22), none⟩,
  ⟨(some 24), .bin .add .num (.t 19) (.t 23), none⟩,
  ⟨(some 25), .fieldAddr 21 (.t 1), none⟩,
  ⟨(some 26), .fieldAddr 0 (.t 25), none⟩,
  ⟨(some 27), .load1 (.t 26), none⟩,
  ⟨(some 28), .lenStr (.t 27), none⟩,
  ⟨(some 29), .bin .add .num (.t 24) (.t 28), none⟩,
  ⟨(some 30), .fieldAddr 21 (.t 1), none⟩,
  ⟨(some 31), .fieldAddr 1 (.t 30), none⟩,
  ⟨(some 32), .load1 (.t 31), none⟩,
  ⟨(some 33), .lenStr (.t 32), none⟩,
  ⟨(some 34), .bin .add .num (.t 29) (.t 33), none⟩,
  ⟨(some 3), .move (.t 34), none⟩]
def b14_1 : SCode := .region r14_1
abbrev r14_2 : List MOper := [⟨(some 4), .move (.c (.int .i64 0)), none⟩]
def b14_2 : SCode := .region r14_2
abbrev r14_3 : List MOper := [⟨(some 35), .move (.t 4), none⟩,
  ⟨(some 36), .fieldAddr 23 (.t 1), none⟩,
  ⟨(some 37), .load1 (.t 36), none⟩,
  ⟨(some 38), .lenSl (.t 37), none⟩,
  ⟨(some 39), .bin .lss .num (.t 35) (.t 38), none⟩]
def b14_3 : SCode := .region r14_3
def b14_4 : SCode := .cond (.t 39) .skip (.exit 0)
def b14_5 : SCode := .seq b14_3 b14_4
abbrev t14_6 : LTree := (.quiet ⟨(some 42), .move (.t 3), none⟩ 0
  (.quiet ⟨(some 43), .fieldAddr 23 (.t 1), none⟩ 1
  (.quiet ⟨(some 44), .load1 (.t 43), none⟩ 2
  (.quiet ⟨(some 45), .move (.t 4), none⟩ 3
  (.quiet ⟨(some 46), .indexAddr 2 (.t 44) (.t 45), none⟩ 4
  (.quiet ⟨(some 47), .fieldAddr 0 (.t 46), none⟩ 5
  (.quiet ⟨(some 48), .load1 (.t 47), none⟩ 6
  (.quiet ⟨(some 49), .lenStr (.t 48), none⟩ 7
  (.quiet ⟨(some 50), .bin .add .num (.t 42) (.t 49), none⟩ 8
  (.quiet ⟨(some 51), .fieldAddr 23 (.t 1), none⟩ 9
  (.quiet ⟨(some 52), .load1 (.t 51), none⟩ 10
  (.quiet ⟨(some 53), .move (.t 4), none⟩ 11
  (.quiet ⟨(some 54), .indexAddr 2 (.t 52) (.t 53), none⟩ 12
  (.quiet ⟨(some 55), .fieldAddr 1 (.t 54), none⟩ 13
  (.quiet ⟨(some 56), .load1 (.t 55), none⟩ 14
  (.quiet ⟨(some 57), .lenStr (.t 56), none⟩ 15
  (.quiet ⟨(some 58), .bin .add .num (.t 50) (.t 57), none⟩ 16
  (.quiet ⟨(some 3), .move (.t 58), none⟩ 17
  .leaf))))))))))))))))))
def b14_6 : SCode := .draw t14_6
def b14_7 : SCode := .block 1 b14_6
abbrev r14_8 : List MOper := [⟨(some 40), .move (.t 4), none⟩,
  ⟨(some 41), .bin .add .num (.t 40) (.c (.int .i64 1)), none⟩,
  ⟨(some 4), .move (.t 41), none⟩]
def b14_8 : SCode := .region r14_8
def b14_9 : SCode := .seq b14_7 b14_8
def b14_10 : SCode := .seq b14_5 b14_9
def b14_11 : SCode := .loop b14_10
def b14_12 : SCode := .block 0 b14_11
def b14_13 : SCode := .seq b14_2 b14_12
abbrev r14_14 : List MOper := [⟨(some 5), .move (.c (.int .i64 0)), none⟩]
def b14_14 : SCode := .region r14_14
abbrev r14_15 : List MOper := [⟨(some 59), .move (.t 5), none⟩,
  ⟨(some 60), .fieldAddr 24 (.t 1), none⟩,
  ⟨(some 61), .load1 (.t 60), none⟩,
  ⟨(some 62), .lenSl (.t 61), none⟩,
  ⟨(some 63), .bin .lss .num (.t 59) (.t 62), none⟩]
def b14_15 : SCode := .region r14_15
def b14_16 : SCode := .cond (.t 63) .skip (.exit 2)
def b14_17 : SCode := .seq b14_15 b14_16
abbrev r14_18 : List MOper := [⟨(some 66), .move (.t 5), none⟩,
  ⟨(some 67), .bin .gtr .num (.t 66) (.c (.int .i64 20)), none⟩,
  ⟨(some 68), .move (.t 67), none⟩,
  ⟨(some 69), .fieldAddr 24 (.t 1), (some (68, false))⟩,
  ⟨(some 70), .load1 (.t 69), (some (68, false))⟩,
  ⟨(some 71), .move (.t 5), (some (68, false))⟩,
  ⟨(some 72), .indexAddr 8 (.t 70) (.t 71), (some (68, false))⟩,
  ⟨(some 73), .loadN 8 (.t 72), (some (68, false))⟩,
  ⟨(some 74), .call 26 [(.t 73)], (some (68, false))⟩,
  ⟨(some 75), .un .not (.t 74), (some (68, false))⟩,
  ⟨(some 76), .pick (.t 68) (.c (.bool true)) (.t 75), none⟩,
  ⟨(some 77), .move (.t 76), none⟩,
  ⟨(some 78), .fieldAddr 24 (.t 1), (some (77, false))⟩,
  ⟨(some 79), .load1 (.t 78), (some (77, false))⟩,
  ⟨(some 80), .move (.t 5), (some (77, false))⟩,
  ⟨(some 81), .indexAddr 8 (.t 79) (.t 80), (some (77, false))⟩,
  ⟨(some 82), .fieldAddr 4 (.t 81), (some (77, false))⟩,
  ⟨(some 83), .load1 (.t 82), (some (77, false))⟩,
  ⟨(some 84), .lenStr (.t 83), (some (77, false))⟩,
  ⟨(some 85), .bin .gtr .num (.t 84) (.c (.int .i64 500)), (some (77, false))⟩,
  ⟨(some 86), .pick (.t 77) (.c (.bool true)) (.t 85), none⟩]
def b14_18 : SCode := .region r14_18
abbrev r14_19 : List MOper := [⟨(some 2), .move (.c (.bool false)), none⟩]
def b14_19 : SCode := .region r14_19
def b14_20 : SCode := .seq b14_19 .ret
def b14_21 : SCode := .cond (.t 86) b14_20 .skip
def b14_22 : SCode := .seq b14_18 b14_21
def b14_23 : SCode := .block 3 b14_22
abbrev r14_24 : List MOper := [⟨(some 64), .move (.t 5), none⟩,
  ⟨(some 65), .bin .add .num (.t 64) (.c (.int .i64 1)), none⟩,
  ⟨(some 5), .move (.t 65), none⟩]
def b14_24 : SCode := .region r14_24
def b14_25 : SCode := .seq b14_23 b14_24
def b14_26 : SCode := .seq b14_17 b14_25
def b14_27 : SCode := .loop b14_26
def b14_28 : SCode := .block 2 b14_27
def b14_29 : SCode := .seq b14_14 b14_28
abbrev r14_30 : List MOper := [⟨(some 87), .move (.t 3), none⟩,
  ⟨(some 88), .bin .leq .num (.t 87) (.c (.int .i64 20000)), none⟩,
  ⟨(some 89), .move (.t 88), none⟩,
  ⟨(some 90), .fieldAddr 23 (.t 1), (some (89, true))⟩,
  ⟨(some 91), .load1 (.t 90), (some (89, true))⟩,
  ⟨(some 92), .lenSl (.t 91), (some (89, true))⟩,
  ⟨(some 93), .bin .leq .num (.t 92) (.c (.int .i64 100)), (some (89, true))⟩,
  ⟨(some 94), .pick (.t 89) (.t 93) (.c (.bool false)), none⟩,
  ⟨(some 95), .move (.t 94), none⟩,
  ⟨(some 96), .fieldAddr 25 (.t 1), (some (95, true))⟩,
  ⟨(some 97), .loadN 2 (.t 96), (some (95, true))⟩,
  ⟨(some 98), .call 27 [(.t 97)], (some (95, true))⟩,
  ⟨(some 99), .pick (.t 95) (.t 98) (.c (.bool false)), none⟩,
  ⟨(some 100), .move (.t 99), none⟩,
  ⟨(some 101), .fieldAddr 13 (.t 1), (some (100, true))⟩,
  ⟨(some 102), .loadN 8 (.t 101), (some (100, true))⟩,
  ⟨(some 103), .call 26 [(.t 102)], (some (100, true))⟩,
  ⟨(some 104), .pick (.t 100) (.t 103) (.c (.bool false)), none⟩,
  ⟨(some 2), .move (.t 104), none⟩]
def b14_30 : SCode := .region r14_30
def b14_31 : SCode := .seq b14_30 .ret
def b14_32 : SCode := .seq b14_29 b14_31
def b14_33 : SCode := .seq b14_13 b14_32
def b14_34 : SCode := .seq b14_1 b14_33
def b14_35 : SCode := .seq b14_0 b14_34
def s14 : SFunc := ⟨105, [.t 2], b14_35⟩
theorem c14 : sFn Tryz.prog 14 = some s14 := by kernel_rfl
theorem x14_32 : XS b14_32 b14_29 b14_31 := rfl
theorem Z14 : XR b14_0 r14_0 ∧ XR b14_1 r14_1 ∧ XR b14_2 r14_2 ∧ XR b14_3 r14_3 ∧ XC b14_4 (.t 39) .skip (.exit 0) ∧ XS b14_5 b14_3 b14_4 ∧ XT b14_6 t14_6 ∧ XB b14_7 1 b14_6 ∧ XR b14_8 r14_8 ∧ XS b14_9 b14_7 b14_8 ∧ XS b14_10 b14_5 b14_9 ∧ XB b14_12 0 b14_11 ∧ XS b14_13 b14_2 b14_12 ∧ XR b14_14 r14_14 ∧ XR b14_15 r14_15 ∧ XC b14_16 (.t 63) .skip (.exit 2) ∧ XS b14_17 b14_15 b14_16 ∧ XR b14_18 r14_18 ∧ XR b14_19 r14_19 ∧ XS b14_20 b14_19 .ret ∧ XC b14_21 (.t 86) b14_20 .skip ∧ XS b14_22 b14_18 b14_21 ∧ XB b14_23 3 b14_22 ∧ XR b14_24 r14_24 ∧ XS b14_25 b14_23 b14_24 ∧ XS b14_26 b14_17 b14_25 ∧ XB b14_28 2 b14_27 ∧ XS b14_29 b14_14 b14_28 ∧ XR b14_30 r14_30 ∧ XS b14_31 b14_30 .ret ∧ XS b14_33 b14_13 b14_32 ∧ XS b14_34 b14_1 b14_33 ∧ XS b14_35 b14_0 b14_34 ∧ XY s14 105 b14_35 [.t 2] := ⟨rfl, rfl, rfl, rfl, sC_cond, rfl, rfl, rfl, rfl, rfl, rfl, rfl, rfl, rfl, rfl, sC_cond, rfl, rfl, rfl, rfl, sC_cond, rfl, rfl, rfl, rfl, rfl, rfl, rfl, rfl, rfl, rfl, rfl, rfl, rfl⟩
abbrev r27_0 : List MOper := [⟨(some 1), .box (.t 0), none⟩,
  ⟨(some 2), .move (.c (.bool false)), none⟩]
def b27_0 : SCode := .region r27_0
abbrev r27_1 : List MOper := [⟨(some 3), .move (.c (.nilslice)), none⟩]
def b27_1 : SCode := .region r27_1
abbrev r27_2 : List MOper := [⟨(some 4), .move (.c (.int .i64 0)), none⟩]
def b27_2 : SCode := .region r27_2
abbrev r27_3 : List MOper := [⟨(some 5), .move (.t 4), none⟩,
  ⟨(some 6), .fieldAddr 1 (.t 1), none⟩,
  ⟨(some 7), .load1 (.t 6), none⟩,
  ⟨(some 8), .lenSl (.t 7), none⟩,
  ⟨(some 9), .bin .lss .num (.t 5) (.t 8), none⟩,
  ⟨(some 10), .move (.t 9), none⟩,
  ⟨(some 11), .move (.t 4), (some (10, true))⟩,
  ⟨(some 12), .bin .lss .num (.t 11) (.c (.int .i64 100)), (some (10, true))⟩,
  ⟨(some 13), .pick (.t 10) (.t 12) (.c (.bool false)), none⟩]
def b27_3 : SCode := .region r27_3
def b27_4 : SCode := .cond (.t 13) .skip (.exit 0)
def b27_5 : SCode := .seq b27_3 b27_4
abbrev r27_6 : List MOper := [⟨(some 16), .move (.t 3), none⟩,
  ⟨(some 17), .fieldAddr 1 (.t 1), none⟩,
  ⟨(some 18), .load1 (.t 17), none⟩,
  ⟨(some 19), .move (.t 4), none⟩,
  ⟨(some 20), .indexAddr 4 (.t 18) (.t 19), none⟩,
  ⟨(some 21), .fieldAddr 0 (.t 20), none⟩,
  ⟨(some 22), .loadN 2 (.t 21), none⟩,
  ⟨(some 23), .buildSlice [.str [], .str []] 2 1 [(0, 2, (.t 22))], none⟩,
  ⟨(some 24), .append 2 32 (.t 16) (.t 23), none⟩,
  ⟨(some 3), .move (.t 24), none⟩]
def b27_6 : SCode := .region r27_6
def b27_7 : SCode := .block 1 b27_6
abbrev r27_8 : List MOper := [⟨(some 14), .move (.t 4), none⟩,
  ⟨(some 15), .bin .add .num (.t 14) (.c (.int .i64 1)), none⟩,
  ⟨(some 4), .move (.t 15), none⟩]
def b27_8 : SCode := .region r27_8
def b27_9 : SCode := .seq b27_7 b27_8
def b27_10 : SCode := .seq b27_5 b27_9
def b27_11 : SCode := .loop b27_10
def b27_12 : SCode := .block 0 b27_11
def b27_13 : SCode := .seq b27_2 b27_12
abbrev r27_14 : List MOper := [⟨(some 25), .fieldAddr 1 (.t 1), none⟩,
  ⟨(some 26), .load1 (.t 25), none⟩,
  ⟨(some 27), .lenSl (.t 26), none⟩,
  ⟨(some 28), .bin .leq .num (.t 27) (.c (.int .i64 60)), none⟩,
  ⟨(some 29), .move (.t 28), none⟩,
  ⟨(some 30), .move (.t 3), (some (29, true))⟩,
  ⟨(some 31), .call 53 [(.t 30)], (some (29, true))⟩,
  ⟨(some 32), .pick (.t 29) (.t 31) (.c (.bool false)), none⟩,
  ⟨(some 2), .move (.t 32), none⟩]
def b27_14 : SCode := .region r27_14
def b27_15 : SCode := .seq b27_14 .ret
def b27_16 : SCode := .seq b27_13 b27_15
def b27_17 : SCode := .seq b27_1 b27_16
def b27_18 : SCode := .seq b27_0 b27_17
def s27 : SFunc := ⟨33, [.t 2], b27_18⟩
theorem c27 : sFn Tryz.prog 27 = some s27 := by kernel_rfl
theorem x27_15 : XS b27_15 b27_14 .ret := rfl
theorem Z27 : XR b27_0 r27_0 ∧ XR b27_1 r27_1 ∧ XR b27_2 r27_2 ∧ XR b27_3 r27_3 ∧ XC b27_4 (.t 13) .skip (.exit 0) ∧ XS b27_5 b27_3 b27_4 ∧ XR b27_6 r27_6 ∧ XB b27_7 1 b27_6 ∧ XR b27_8 r27_8 ∧ XS b27_9 b27_7 b27_8 ∧ XS b27_10 b27_5 b27_9 ∧ XB b27_12 0 b27_11 ∧ XS b27_13 b27_2 b27_12 ∧ XR b27_14 r27_14 ∧ XS b27_16 b27_13 b27_15 ∧ XS b27_17 b27_1 b27_16 ∧ XS b27_18 b27_0 b27_17 ∧ XY s27 33 b27_18 [.t 2] := ⟨rfl, rfl, rfl, rfl, sC_cond, rfl, rfl, rfl, rfl, rfl, rfl, rfl, rfl, rfl, rfl, rfl, rfl, rfl⟩
abbrev r53_0 : List MOper := [⟨(some 2), .move (.c (.bool false)), none⟩]
def b53_0 : SCode := .region r53_0
abbrev r53_1 : List MOper := [⟨(some 3), .move (.c (.int .i64 0)), none⟩]
def b53_1 : SCode := .region r53_1
abbrev r53_2 : List MOper := [⟨(some 4), .move (.c (.int .i64 0)), none⟩]
def b53_2 : SCode := .region r53_2
abbrev r53_3 : List MOper := [⟨(some 5), .move (.t 4), none⟩,
  ⟨(some 6), .move (.t 0), none⟩,
  ⟨(some 7), .lenSl (.t 6), none⟩,
  ⟨(some 8), .bin .lss .num (.t 5) (.t 7), none⟩]
def b53_3 : SCode := .region r53_3
def b53_4 : SCode := .cond (.t 8) .skip (.exit 0)
def b53_5 : SCode := .seq b53_3 b53_4
abbrev t53_6 : LTree := (.quiet ⟨(some 11), .move (.t 3), none⟩ 0
  (.quiet ⟨(some 12), .move (.t 0), none⟩ 1
  (.quiet ⟨(some 13), .move (.t 4), none⟩ 2
  (.quiet ⟨(some 14), .indexAddr 2 (.t 12) (.t 13), none⟩ 3
  (.quiet ⟨(some 15), .fieldAddr 0 (.t 14), none⟩ 4
  (.quiet ⟨(some 16), .load1 (.t 15), none⟩ 5
  (.quiet ⟨(some 17), .lenStr (.t 16), none⟩ 6
  (.quiet ⟨(some 18), .bin .add .num (.t 11) (.t 17), none⟩ 7
  (.quiet ⟨(some 19), .move (.t 0), none⟩ 8
  (.quiet ⟨(some 20), .move (.t 4), none⟩ 9
  (.quiet ⟨(some 21), .indexAddr 2 (.t 19) (.t 20), none⟩ 10
  (.quiet ⟨(some 22), .fieldAddr 1 (.t 21), none⟩ 11
  (.quiet ⟨(some 23), .load1 (.t 22), none⟩ 12
  (.quiet ⟨(some 24), .lenStr (.t 23), none⟩ 13
  (.quiet ⟨(some 25), .bin .add .num (.t 18) (.t 24), none⟩ 14
  (.quiet ⟨(some 3), .move (.t 25), none⟩ 15
  .leaf))))))))))))))))
def b53_6 : SCode := .draw t53_6
def b53_7 : SCode := .block 1 b53_6
abbrev r53_8 : List MOper := [⟨(some 9), .move (.t 4), none⟩,
  ⟨(some 10), .bin .add .num (.t 9) (.c (.int .i64 1)), none⟩,
  ⟨(some 4), .move (.t 10), none⟩]
def b53_8 : SCode := .region r53_8
def b53_9 : SCode := .seq b53_7 b53_8
def b53_10 : SCode := .seq b53_5 b53_9
def b53_11 : SCode := .loop b53_10
def b53_12 : SCode := .block 0 b53_11
def b53_13 : SCode := .seq b53_2 b53_12
abbrev r53_14 : List MOper := [⟨(some 26), .move (.t 0), none⟩,
  ⟨(some 27), .lenSl (.t 26), none⟩,
  ⟨(some 28), .bin .leq .num (.t 27) (.c (.int .i64 60)), none⟩,
  ⟨(some 29), .move (.t 28), none⟩,
  ⟨(some 30), .move (.t 3), (some (29, true))⟩,
  ⟨(some 31), .bin .leq .num (.t 30) (.c (.int .i64 3000)), (some (29, true))⟩,
  ⟨(some 32), .pick (.t 29) (.t 31) (.c (.bool false)), none⟩,
  ⟨(some 2), .move (.t 32), none⟩]
def b53_14 : SCode := .region r53_14
def b53_15 : SCode := .seq b53_14 .ret
def b53_16 : SCode := .seq b53_13 b53_15
def b53_17 : SCode := .seq b53_1 b53_16
def b53_18 : SCode := .seq b53_0 b53_17
def s53 : SFunc := ⟨33, [.t 2], b53_18⟩
theorem c53 : sFn Tryz.prog 53 = some s53 := by kernel_rfl
theorem Z53 : XR b53_0 r53_0 ∧ XR b53_1 r53_1 ∧ XR b53_2 r53_2 ∧ XR b53_3 r53_3 ∧ XC b53_4 (.t 8) .skip (.exit 0) ∧ XS b53_5 b53_3 b53_4 ∧ XT b53_6 t53_6 ∧ XB b53_7 1 b53_6 ∧ XR b53_8 r53_8 ∧ XS b53_9 b53_7 b53_8 ∧ XS b53_10 b53_5 b53_9 ∧ XB b53_12 0 b53_11 ∧ XS b53_13 b53_2 b53_12 ∧ XR b53_14 r53_14 ∧ XS b53_15 b53_14 .ret ∧ XS b53_16 b53_13 b53_15 ∧ XS b53_17 b53_1 b53_16 ∧ XS b53_18 b53_0 b53_17 ∧ XY s53 33 b53_18 [.t 2] := ⟨rfl, rfl, rfl, rfl, sC_cond, rfl, rfl, rfl, rfl, rfl, rfl, rfl, rfl, rfl, rfl, rfl, rfl, rfl, rfl⟩

end
set_option maxHeartbeats 4000000
set_option maxRecDepth 10000

structure RowV where
  kind : Int
  from_ : Int
  to : Int
  epoch : Int
  tick : Int
  ask : AskV
  rep : RepV
  sf : List UInt8
  st : List UInt8
  l : List (List UInt8 × List UInt8)
  last : List RepV
  aep : Int
  sh : List ShV
def RowV.cells (r : RowV) : List AV := [.int .i64 r.kind, .int .i64 r.from_, .int .i64 r.to, .int .i64 r.epoch, .int .i64 r.tick, .int .i64 r.ask.do_, .int .i64 r.ask.client, .int .i64 r.ask.seq, .str r.ask.text, .str r.ask.val, .str r.ask.from_, .str r.ask.to, .int .i64 r.ask.limit, .int .i64 r.rep.client, .int .i64 r.rep.seq, .int .i64 r.rep.err, .bool r.rep.found, .str r.rep.val, .imm (recs r.rep.l) false false, .str r.rep.next, .bool r.rep.more, .str r.sf, .str r.st, .imm (r.l.map recC) false false, .imm (r.last.map RepV.cells) false false, .int .i64 r.aep, .imm (r.sh.map ShV.cells) false false]
theorem rowsRep_pure (l : List RepV) : pureLL (l.map RepV.cells) = true := pureLL_of fun r hr => by
  obtain ⟨x, _, rfl⟩ := List.mem_map.1 hr
  simpa [AV.pure] using rep_pure x
theorem row_pure (r : RowV) : (AV.agg r.cells).pure = true := by
  have h1 := recs_pure r.rep.l
  have h2 := rowsRec_pure r.l
  have h3 := rowsRep_pure r.last
  have h4 := rowsSh_pure r.sh
  simp only [AV.pure, RowV.cells, pureL, h1, h2, h3, h4, Bool.and_self]
abbrev big : Nat := 140737488351232
def pairS (p : List UInt8 × List UInt8) : Prop := p.1.length ≤ big ∧ p.2.length ≤ big
structure RowV.okS (r : RowV) : Prop where
  ask : r.ask.okS
  rep : r.rep.okS
  sf : r.sf.length ≤ big
  st : r.st.length ≤ big
  ll : r.l.length ≤ big
  l : ∀ p ∈ r.l, pairS p
  lal : r.last.length ≤ big
  last : ∀ p ∈ r.last, p.okS
  shl : r.sh.length ≤ big
  sh : ∀ s ∈ r.sh, pairS s.span
def RowV.base (r : RowV) : Int := (r.ask.text.length : Int) + r.ask.val.length + r.ask.from_.length + r.ask.to.length + r.sf.length + r.st.length
structure RowV.smallP (r : RowV) : Prop where
  sum : r.base + sumL r.l ≤ 20000
  l : r.l.length ≤ 100
  lal : r.last.length ≤ 21
  last : ∀ x ∈ r.last, x.small = true
  shl : r.sh.length ≤ 60
  sh : sumL (r.sh.map ShV.span) ≤ 3000
  rep : r.rep.small = true
theorem sumL_take {l : List (List UInt8 × List UInt8)} {i : Nat} {x : List UInt8 × List UInt8} (hx : l[i]? = some x) : sumL (l.take (i + 1)) = sumL (l.take i) + ((x.1.length : Int) + x.2.length) := by
  rw [List.take_add_one, hx]
  simp [sumL, List.sum_append]
theorem sumL_le {l : List (List UInt8 × List UInt8)} (h : ∀ p ∈ l, pairS p) (i : Nat) : 0 ≤ sumL (l.take i) ∧ sumL (l.take i) ≤ (l.take i).length * 281474976702464 := sumL_bound fun p hp => h p (List.mem_of_mem_take hp)
/-! Few. -/
def fewP (l : List (List UInt8 × List UInt8)) : Prop := l.length ≤ 60 ∧ sumL l ≤ 3000
def fwI (l : List (List UInt8 × List UInt8)) (n : Nat) (e : Env) (σ : AHeap) : Prop :=
  ∃ i : Nat, i ≤ l.length ∧ n = l.length - i ∧ e 0 = .imm (l.map recC) false false ∧ e 3 = .int .i64 (sumL (l.take i)) ∧ e 4 = .int .i64 (i : Int)
theorem fw_step (l : List (List UInt8 × List UInt8)) (hl : l.length ≤ 100) (hp : ∀ p ∈ l, pairS p) (n : Nat) (e : Env) (σ : AHeap) (h : fwI l n e σ) :
    sC noCall 0 b53_10 (unw noCall 0 (loopR noCall 0 (RetQ [MRes.t 2] fun r _ => ∃ b, r = .bool b ∧ (b = true → fewP l)) (.block 0 (.seq b53_15 .fin)) (fwI l) n) .fin) e σ := by
  obtain ⟨i, hi, hn, e0, e3, e4⟩ := h
  have hml : (l.map recC).length = l.length := by simp
  rcases Nat.lt_or_ge i l.length with hlt | hge
  · have hlt' : (i : Int) < (l.length : Int) := by omega
    have hge0 : (0 : Int) ≤ (i : Int) := by omega
    obtain ⟨x, hx⟩ : ∃ x, l[i]? = some x := ⟨_, List.getElem?_eq_getElem hlt⟩
    have hxx : (l.map recC)[i]? = some [.str x.1, .str x.2] := by simp [hx, recC]
    have hw : IntKind.wrap .i64 ((i : Int) + 1) = ((i + 1 : Nat) : Int) := by rw [Gz.wrap64 (by omega)]; omega
    obtain ⟨q1, q2⟩ := hp x (List.mem_of_getElem? hx)
    obtain ⟨q3, q4⟩ := sumL_le hp i
    have q5 : (l.take i).length ≤ 100 := by rw [List.length_take]; omega
    have hs := sumL_take hx
    have w1 : IntKind.wrap .i64 (sumL (l.take i) + (x.1.length : Int)) = sumL (l.take i) + (x.1.length : Int) := Gz.wrap64 (by simp only [big] at q1 q2; omega)
    have w2 : IntKind.wrap .i64 (sumL (l.take i) + (x.1.length : Int) + (x.2.length : Int)) = sumL (l.take (i + 1)) := by rw [hs, Gz.wrap64 (by simp only [big] at q1 q2; omega)]; omega
    simp only [Z53, base1, baseE, ↓reduceIte, Nat.reduceAdd, Nat.reduceSub, Nat.reduceMul, Nat.reduceEqDiff, Nat.reduceLeDiff, Nat.reduceLT, Int.reduceLT, Int.reduceLE, Int.reduceEq, Int.reduceNe, Int.reduceToNat, Int.reduceAdd, Int.reduceSub, reduceCtorEq, Nat.reduceBEq, Nat.reduceBNe, loopR_exit, loopR_ret, e0, e3, e4, hlt', hlt, hge0, hxx, hml, hw, w1, w2, Int.toNat_natCast]
    rw [loopR_normal]
    refine ⟨l.length - (i + 1), _, _, by omega, .refl _ _ _, i + 1, hlt, rfl, ?_, ?_, ?_⟩
    all_goals simp only [putD_some, putD_none, Nat.reduceEqDiff, ↓reduceIte, e0, e3, e4, hw, w1, w2]
  · have hlt' : ¬ (i : Int) < (l.length : Int) := by omega
    have hie : i = l.length := by omega
    subst hie
    rw [List.take_length] at e3
    cases g1 : decide ((l.length : Int) ≤ 60) with
    | false =>
      simp only [Z53, base1, baseE, ↓reduceIte, Nat.reduceAdd, Nat.reduceSub, Nat.reduceMul, Nat.reduceEqDiff, Nat.reduceLeDiff, Nat.reduceLT, Int.reduceLT, Int.reduceLE, Int.reduceEq, Int.reduceNe, Int.reduceToNat, Int.reduceAdd, Int.reduceSub, reduceCtorEq, Nat.reduceBEq, Nat.reduceBNe, loopR_exit, loopR_ret, e0, e3, e4, hlt', hml, g1]
      exact ⟨_, rfl, by simp⟩
    | true =>
      cases g2 : decide (sumL l ≤ 3000) with
      | false =>
        simp only [Z53, base1, baseE, ↓reduceIte, Nat.reduceAdd, Nat.reduceSub, Nat.reduceMul, Nat.reduceEqDiff, Nat.reduceLeDiff, Nat.reduceLT, Int.reduceLT, Int.reduceLE, Int.reduceEq, Int.reduceNe, Int.reduceToNat, Int.reduceAdd, Int.reduceSub, reduceCtorEq, Nat.reduceBEq, Nat.reduceBNe, loopR_exit, loopR_ret, e0, e3, e4, hlt', hml, g1, g2]
        exact ⟨_, rfl, by simp⟩
      | true =>
        simp only [Z53, base1, baseE, ↓reduceIte, Nat.reduceAdd, Nat.reduceSub, Nat.reduceMul, Nat.reduceEqDiff, Nat.reduceLeDiff, Nat.reduceLT, Int.reduceLT, Int.reduceLE, Int.reduceEq, Int.reduceNe, Int.reduceToNat, Int.reduceAdd, Int.reduceSub, reduceCtorEq, Nat.reduceBEq, Nat.reduceBNe, loopR_exit, loopR_ret, e0, e3, e4, hlt', hml, g1, g2]
        exact ⟨_, rfl, fun _ => ⟨by have := of_decide_eq_true g1; omega, of_decide_eq_true g2⟩⟩
theorem few_ok (l : List (List UInt8 × List UInt8)) (hl : l.length ≤ 100) (hp : ∀ p ∈ l, pairS p) : Tri Tryz.prog 53 [.imm (l.map recC) false false] [] fun r _ => r.pure = true ∧ ∃ b, r = .bool b ∧ (b = true → fewP l) := by
  have key : Tri Tryz.prog 53 [.imm (l.map recC) false false] [] fun r _ => ∃ b, r = .bool b ∧ (b = true → fewP l) := by
    refine Tri.of_s c53 (noCall_sound _) ?_
    have hml : (l.map recC).length = l.length := by simp
    simp only [Z53, base1, baseE, ↓reduceIte, Nat.reduceAdd, Nat.reduceSub, Nat.reduceMul, Nat.reduceEqDiff, Nat.reduceLeDiff, Nat.reduceLT, Int.reduceLT, Int.reduceLE, Int.reduceEq, Int.reduceNe, Int.reduceToNat, Int.reduceAdd, Int.reduceSub, reduceCtorEq, Nat.reduceBEq, Nat.reduceBNe, hml]
    exact sC_inv (a := b53_10) (fwI l) l.length _ _ (.refl _ _ _) ⟨0, Nat.zero_le _, rfl, rfl, rfl, rfl⟩ (fw_step l hl hp)
  exact key.mono fun r _ ⟨b, h1, h2⟩ => ⟨by rw [h1]; rfl, b, h1, h2⟩
def fewD (args : List AV) (σ : AHeap) (K : AV → AHeap → Prop) : Prop := ∃ (Lv : AV) (l : List (List UInt8 × List UInt8)), args = [Lv] ∧ Grow σ Lv 2 (l.map recC) ∧ l.length ≤ 100 ∧ (∀ p ∈ l, pairS p) ∧ ∀ b, (b = true → fewP l) → ∀ σ', K (.bool b) σ'
theorem fewD_ok (args : List AV) (σ : AHeap) (K : AV → AHeap → Prop) (h : fewD args σ K) : Tri Tryz.prog 53 args σ K := by
  obtain ⟨Lv, l, rfl, hg, hl, hp, h⟩ := h
  obtain ⟨d, hd⟩ := grow_given hg (rowsRec_pure l)
  exact (Tri.give (args := [Lv]) (args1 := [.imm (l.map recC) false false]) d rfl (given1 hd) (few_ok l hl hp)).mono fun r σ' ⟨⟨b, h1, h2⟩, _⟩ => by rw [h1]; exact h b h2 _
/-! A small atlas. -/
def F58 : PCall := rowQ 53 fewD noCall
theorem F58_app {f : FuncId} {args : List AV} {σ : AHeap} {K : AV → AHeap → Prop} : F58 f args σ K = rowQ 53 fewD noCall f args σ K := _root_.id rfl
theorem F58_sound : Sound Tryz.prog F58 := rowQ_sound fewD_ok (noCall_sound _)
def atlP (sh : List ShV) : Prop := sh.length ≤ 60 ∧ sumL (sh.map ShV.span) ≤ 3000
def asI (ep : Int) (sh : List ShV) (n : Nat) (e : Env) (σ : AHeap) : Prop :=
  ∃ (i : Nat) (Lv : AV), i ≤ sh.length ∧ i ≤ 100 ∧ n = sh.length - i ∧ hget σ 0 = some [.int .i64 ep, .imm (sh.map ShV.cells) false false] ∧ Grow σ Lv 2 (((sh.take i).map ShV.span).map recC) ∧ LvD Lv ≠ some 0 ∧ e 1 = .ptr 0 0 ∧ e 3 = Lv ∧ e 4 = .int .i64 (i : Int)
theorem as_step (ep : Int) (sh : List ShV) (hl : sh.length ≤ big) (hp : ∀ s ∈ sh, pairS s.span) (n : Nat) (e : Env) (σ : AHeap) (h : asI ep sh n e σ) :
    sC F58 0 b27_10 (unw F58 0 (loopR F58 0 (RetQ [MRes.t 2] fun r _ => ∃ b, r = .bool b ∧ (b = true → atlP sh)) (.block 0 (.seq b27_15 .fin)) (asI ep sh) n) .fin) e σ := by
  obtain ⟨i, Lv, hi, hi2, hn, g0, hLv, d0, e1, e3, e4⟩ := h
  have hml : (sh.map ShV.cells).length = sh.length := by simp
  have lc := grow_cell hLv
  have fin : ¬ (i < sh.length ∧ i < 100) → ∀ e' : Env, e' 1 = .ptr 0 0 → e' 3 = Lv → sC F58 0 b27_15 (unw F58 0 (RetQ [MRes.t 2] fun r _ => ∃ b, r = .bool b ∧ (b = true → atlP sh)) .fin) e' σ := by
    intro hno e' k1 k3
    cases g1 : decide ((sh.length : Int) ≤ 60) with
    | false =>
      simp only [F58_app, Z27, x27_15, base1, ↓reduceIte, Nat.reduceAdd, Nat.reduceSub, Nat.reduceMul, Nat.reduceEqDiff, Nat.reduceLeDiff, Nat.reduceLT, Int.reduceLT, Int.reduceLE, Int.reduceEq, Int.reduceNe, Int.reduceToNat, Int.reduceAdd, Int.reduceSub, reduceCtorEq, Nat.reduceBEq, Nat.reduceBNe, lenOf_imm, k1, k3, g0, hml, g1]
      exact ⟨_, rfl, by simp⟩
    | true =>
      simp only [F58_app, Z27, x27_15, base1, ↓reduceIte, Nat.reduceAdd, Nat.reduceSub, Nat.reduceMul, Nat.reduceEqDiff, Nat.reduceLeDiff, Nat.reduceLT, Int.reduceLT, Int.reduceLE, Int.reduceEq, Int.reduceNe, Int.reduceToNat, Int.reduceAdd, Int.reduceSub, reduceCtorEq, Nat.reduceBEq, Nat.reduceBNe, lenOf_imm, k1, k3, g0, hml, g1]
      have h60 := of_decide_eq_true g1
      have hii : i = sh.length := by omega
      subst hii
      rw [List.take_length] at hLv
      refine ⟨Lv, sh.map ShV.span, rfl, hLv, by simp; omega, fun p hp' => ?_, fun b hb σ' => ?_⟩
      · obtain ⟨s, hs, rfl⟩ := List.mem_map.1 hp'
        exact hp s hs
      · simp only [F58_app, Z27, x27_15, base1, ↓reduceIte, Nat.reduceAdd, Nat.reduceSub, Nat.reduceMul, Nat.reduceEqDiff, Nat.reduceLeDiff, Nat.reduceLT, Int.reduceLT, Int.reduceLE, Int.reduceEq, Int.reduceNe, Int.reduceToNat, Int.reduceAdd, Int.reduceSub, reduceCtorEq, Nat.reduceBEq, Nat.reduceBNe, lenOf_imm, k1, k3]
        exact ⟨b, rfl, fun h => ⟨by have := (hb h).1; simpa using this, (hb h).2⟩⟩
  rcases Nat.lt_or_ge i sh.length with hlt | hge
  · have hlt' : (i : Int) < (sh.length : Int) := by omega
    have hge0 : (0 : Int) ≤ (i : Int) := by omega
    rcases Nat.lt_or_ge i 100 with hlt1 | hge1
    · have hlt2 : (i : Int) < 100 := by omega
      obtain ⟨x, hx⟩ : ∃ x, sh[i]? = some x := ⟨_, List.getElem?_eq_getElem hlt⟩
      have hxx : (sh.map ShV.cells)[i]? = some [.str x.from_, .str x.to, .int .i64 x.node, .int .i64 x.epoch] := by simp [hx, ShV.cells]
      have hw : IntKind.wrap .i64 ((i : Int) + 1) = ((i + 1 : Nat) : Int) := by rw [Gz.wrap64 (by omega)]; omega
      have htk : sh.take (i + 1) = sh.take i ++ [x] := by rw [List.take_add_one, hx]; rfl
      obtain ⟨v, τ, a1, a2, a3, a4, a5⟩ := grow_one (b := 32) (by decide) hLv (by simp; omega) (recC x.span) rfl rfl
      obtain ⟨q0, u0⟩ := a4 0 _ g0 d0
      simp only [recC, ShV.span] at a1
      simp only [F58_app, Z27, x27_15, base1, ↓reduceIte, Nat.reduceAdd, Nat.reduceSub, Nat.reduceMul, Nat.reduceEqDiff, Nat.reduceLeDiff, Nat.reduceLT, Int.reduceLT, Int.reduceLE, Int.reduceEq, Int.reduceNe, Int.reduceToNat, Int.reduceAdd, Int.reduceSub, reduceCtorEq, Nat.reduceBEq, Nat.reduceBNe, lenOf_imm, loopR_exit, loopR_ret, e1, e3, e4, hlt', hlt, hlt2, hge0, g0, hxx, hml, hw, Int.toNat_natCast, a1, a2, a3]
      rw [loopR_normal]
      refine ⟨sh.length - (i + 1), _, _, by omega, .refl _ _ _, i + 1, v, hlt, hlt1, rfl, q0, ?_, u0, ?_, ?_, ?_⟩
      · rw [htk]; simpa using a5
      all_goals simp only [putD_some, putD_none, Nat.reduceEqDiff, ↓reduceIte, e1, e3, e4, hw]
    · have hlt2 : ¬ (i : Int) < 100 := by omega
      simp only [F58_app, Z27, base1, ↓reduceIte, Nat.reduceAdd, Nat.reduceSub, Nat.reduceMul, Nat.reduceEqDiff, Nat.reduceLeDiff, Nat.reduceLT, Int.reduceLT, Int.reduceLE, Int.reduceEq, Int.reduceNe, Int.reduceToNat, Int.reduceAdd, Int.reduceSub, reduceCtorEq, Nat.reduceBEq, Nat.reduceBNe, lenOf_imm, loopR_exit, loopR_ret, e1, e3, e4, hlt', hlt2, g0, hml]
      exact fin (by omega) _ (by simp only [putD_some, putD_none, Nat.reduceEqDiff, ↓reduceIte, e1]) (by simp only [putD_some, putD_none, Nat.reduceEqDiff, ↓reduceIte, e3])
  · have hlt' : ¬ (i : Int) < (sh.length : Int) := by omega
    simp only [F58_app, Z27, base1, ↓reduceIte, Nat.reduceAdd, Nat.reduceSub, Nat.reduceMul, Nat.reduceEqDiff, Nat.reduceLeDiff, Nat.reduceLT, Int.reduceLT, Int.reduceLE, Int.reduceEq, Int.reduceNe, Int.reduceToNat, Int.reduceAdd, Int.reduceSub, reduceCtorEq, Nat.reduceBEq, Nat.reduceBNe, lenOf_imm, loopR_exit, loopR_ret, e1, e3, e4, hlt', g0, hml]
    exact fin (by omega) _ (by simp only [putD_some, putD_none, Nat.reduceEqDiff, ↓reduceIte, e1]) (by simp only [putD_some, putD_none, Nat.reduceEqDiff, ↓reduceIte, e3])
theorem atlSmall_ok (ep : Int) (sh : List ShV) (hl : sh.length ≤ big) (hp : ∀ s ∈ sh, pairS s.span) : Tri Tryz.prog 27 [.agg [.int .i64 ep, .imm (sh.map ShV.cells) false false]] [] fun r _ => r.pure = true ∧ ∃ b, r = .bool b ∧ (b = true → atlP sh) := by
  have key : Tri Tryz.prog 27 [.agg [.int .i64 ep, .imm (sh.map ShV.cells) false false]] [] fun r _ => ∃ b, r = .bool b ∧ (b = true → atlP sh) := by
    refine Tri.of_s c27 F58_sound ?_
    simp only [F58_app, Z27, x27_15, base1, baseE, ↓reduceIte, Nat.reduceAdd, Nat.reduceSub, Nat.reduceMul, Nat.reduceEqDiff, Nat.reduceLeDiff, Nat.reduceLT, Int.reduceLT, Int.reduceLE, Int.reduceEq, Int.reduceNe, Int.reduceToNat, Int.reduceAdd, Int.reduceSub, reduceCtorEq, Nat.reduceBEq, Nat.reduceBNe]
    exact sC_inv (a := b27_10) (asI ep sh) sh.length _ _ (.refl _ _ _) ⟨0, .nilslice, Nat.zero_le _, by omega, rfl, rfl, .inl ⟨rfl, rfl⟩, by simp [LvD], rfl, rfl, rfl⟩ (as_step ep sh hl hp)
  exact key.mono fun r _ ⟨b, h1, h2⟩ => ⟨by rw [h1]; rfl, b, h1, h2⟩
def atlSmallD (args : List AV) (σ : AHeap) (K : AV → AHeap → Prop) : Prop := ∃ (ep : Int) (sh : List ShV), args = [.agg [.int .i64 ep, .imm (sh.map ShV.cells) false false]] ∧ sh.length ≤ big ∧ (∀ s ∈ sh, pairS s.span) ∧ ∀ b, (b = true → atlP sh) → K (.bool b) σ
theorem atlSmallD_ok (args : List AV) (σ : AHeap) (K : AV → AHeap → Prop) (h : atlSmallD args σ K) : Tri Tryz.prog 27 args σ K := by
  obtain ⟨ep, sh, rfl, hl, hp, h⟩ := h
  exact (Tri.pureD (by simp only [pureL, AV.pure, rowsSh_pure, Bool.and_self]) (atlSmall_ok ep sh hl hp) σ).mono fun r σ' ⟨⟨b, h1, h2⟩, h3⟩ => by rw [h1, h3]; exact h b h2
def smallRPD (args : List AV) (σ : AHeap) (K : AV → AHeap → Prop) : Prop := ∃ r : RepV, args = [.agg r.cells] ∧ r.okS ∧ K (.bool r.small) σ
theorem smallRPD_eq {a : RepV} {σ : AHeap} {K : AV → AHeap → Prop} : smallRPD [.agg [.int .i64 a.client, .int .i64 a.seq, .int .i64 a.err, .bool a.found, .str a.val, .imm (recs a.l) false false, .str a.next, .bool a.more]] σ K = (a.okS ∧ K (.bool a.small) σ) := by
  apply propext
  refine ⟨fun ⟨r, h1, h2, h3⟩ => ?_, fun h => ⟨a, rfl, h.1, h.2⟩⟩
  have : a = r := rep_inj (List.cons.inj h1).1
  subst this
  exact ⟨h2, h3⟩
theorem smallRPD_ok (args : List AV) (σ : AHeap) (K : AV → AHeap → Prop) (h : smallRPD args σ K) : Tri Tryz.prog 26 args σ K := by
  obtain ⟨r, rfl, hs, h⟩ := h
  exact (Tri.pureD (by simp only [pureL, rep_pure, Bool.and_self]) ((smallR_ok r hs).mono fun x _ hx => ⟨by rw [hx.2]; rfl, hx.2⟩) σ).mono fun x σ' hx => by rw [hx.1, hx.2]; exact h
/-! Small. -/
def T10 : PCall := rowQ 26 smallRPD (rowQ 27 atlSmallD noCall)
theorem T10_app {f : FuncId} {args : List AV} {σ : AHeap} {K : AV → AHeap → Prop} : T10 f args σ K = rowQ 26 smallRPD (rowQ 27 atlSmallD noCall) f args σ K := _root_.id rfl
theorem T10_sound : Sound Tryz.prog T10 := rowQ_sound smallRPD_ok (rowQ_sound atlSmallD_ok (noCall_sound _))
def SmQ (r : RowV) (x : AV) (_ : AHeap) : Prop := ∃ b, x = .bool b ∧ (b = true → r.smallP)
def saI (r : RowV) (n : Nat) (e : Env) (σ : AHeap) : Prop :=
  ∃ (i : Nat) (v : Int), i ≤ r.l.length ∧ n = r.l.length - i ∧ σ = [some r.cells] ∧ e 1 = .ptr 0 0 ∧ e 3 = .int .i64 v ∧ e 4 = .int .i64 (i : Int) ∧ (r.l.length ≤ 100 → v = r.base + sumL (r.l.take i))
def sbI (r : RowV) (v : Int) (n : Nat) (e : Env) (σ : AHeap) : Prop :=
  ∃ i : Nat, i ≤ r.last.length ∧ i ≤ 21 ∧ n = r.last.length - i ∧ σ = [some r.cells] ∧ e 1 = .ptr 0 0 ∧ e 3 = .int .i64 v ∧ e 5 = .int .i64 (i : Int) ∧ ∀ x ∈ r.last.take i, x.small = true
theorem sb_step (r : RowV) (h : r.okS) (v : Int) (hv : r.l.length ≤ 100 → v = r.base + sumL r.l) (n : Nat) (e : Env) (σ : AHeap) (hI : sbI r v n e σ) :
    sC T10 0 b14_26 (unw T10 0 (loopR T10 0 (RetQ [MRes.t 2] (SmQ r)) (.block 2 (.seq b14_31 .fin)) (sbI r v) n) .fin) e σ := by
  obtain ⟨i, hi, hi2, hn, rfl, e1, e3, e5, hall⟩ := hI
  have hml : (r.last.map RepV.cells).length = r.last.length := by simp
  have hm2 : (r.l.map recC).length = r.l.length := by simp
  have no : ∀ x : AV, x = .bool false → SmQ r x [some r.cells] := fun x hx => ⟨false, hx, fun h => by cases h⟩
  rcases Nat.lt_or_ge i r.last.length with hlt | hge
  · have hlt' : (i : Int) < (r.last.length : Int) := by omega
    have hge0 : (0 : Int) ≤ (i : Int) := by omega
    obtain ⟨x, hx⟩ : ∃ x, r.last[i]? = some x := ⟨_, List.getElem?_eq_getElem hlt⟩
    have hxx : (r.last.map RepV.cells)[i]? = some [.int .i64 x.client, .int .i64 x.seq, .int .i64 x.err, .bool x.found, .str x.val, .imm (recs x.l) false false, .str x.next, .bool x.more] := by simp [hx, RepV.cells]
    have hw : IntKind.wrap .i64 ((i : Int) + 1) = ((i + 1 : Nat) : Int) := by rw [Gz.wrap64 (by omega)]; omega
    have htk : r.last.take (i + 1) = r.last.take i ++ [x] := by rw [List.take_add_one, hx]; rfl
    have hxs := h.last x (List.mem_of_getElem? hx)
    rcases Nat.lt_or_ge 20 i with h20 | h20
    · have h20' : (20 : Int) < (i : Int) := by omega
      simp only [RowV.cells, T10_app, Z14, x14_32, base1, baseE, ↓reduceIte, Nat.reduceAdd, Nat.reduceSub, Nat.reduceMul, Nat.reduceEqDiff, Nat.reduceLeDiff, Nat.reduceLT, Int.reduceLT, Int.reduceLE, Int.reduceEq, Int.reduceNe, Int.reduceToNat, Int.reduceAdd, Int.reduceSub, reduceCtorEq, Nat.reduceBEq, Nat.reduceBNe, loopR_exit, loopR_ret, smallRPD_eq, e1, e3, e5, hlt', hlt, hge0, hxx, hml, Int.toNat_natCast, h20']
      exact ⟨_, rfl, fun h => by cases h⟩
    · have h20' : ¬ (20 : Int) < (i : Int) := by omega
      cases g1 : x.small with
      | false =>
        simp only [RowV.cells, T10_app, Z14, x14_32, base1, baseE, ↓reduceIte, Nat.reduceAdd, Nat.reduceSub, Nat.reduceMul, Nat.reduceEqDiff, Nat.reduceLeDiff, Nat.reduceLT, Int.reduceLT, Int.reduceLE, Int.reduceEq, Int.reduceNe, Int.reduceToNat, Int.reduceAdd, Int.reduceSub, reduceCtorEq, Nat.reduceBEq, Nat.reduceBNe, loopR_exit, loopR_ret, smallRPD_eq, e1, e3, e5, hlt', hlt, hge0, hxx, hml, Int.toNat_natCast, h20', hxs, g1]
        exact ⟨_, rfl, fun h => by cases h⟩
      | true =>
        cases g2 : decide (500 < (x.val.length : Int)) with
        | true =>
          simp only [RowV.cells, T10_app, Z14, x14_32, base1, baseE, ↓reduceIte, Nat.reduceAdd, Nat.reduceSub, Nat.reduceMul, Nat.reduceEqDiff, Nat.reduceLeDiff, Nat.reduceLT, Int.reduceLT, Int.reduceLE, Int.reduceEq, Int.reduceNe, Int.reduceToNat, Int.reduceAdd, Int.reduceSub, reduceCtorEq, Nat.reduceBEq, Nat.reduceBNe, loopR_exit, loopR_ret, smallRPD_eq, e1, e3, e5, hlt', hlt, hge0, hxx, hml, Int.toNat_natCast, h20', hxs, g1, g2]
          exact ⟨_, rfl, fun h => by cases h⟩
        | false =>
          simp only [RowV.cells, T10_app, Z14, x14_32, base1, baseE, ↓reduceIte, Nat.reduceAdd, Nat.reduceSub, Nat.reduceMul, Nat.reduceEqDiff, Nat.reduceLeDiff, Nat.reduceLT, Int.reduceLT, Int.reduceLE, Int.reduceEq, Int.reduceNe, Int.reduceToNat, Int.reduceAdd, Int.reduceSub, reduceCtorEq, Nat.reduceBEq, Nat.reduceBNe, loopR_exit, loopR_ret, smallRPD_eq, e1, e3, e5, hlt', hlt, hge0, hxx, hml, Int.toNat_natCast, h20', hxs, g1, g2, hw]
          rw [loopR_normal]
          refine ⟨r.last.length - (i + 1), _, _, by omega, .refl _ _ _, i + 1, hlt, by omega, rfl, rfl, ?_, ?_, ?_, ?_⟩
          rotate_right 1
          · intro y hy
            rw [htk] at hy
            rcases List.mem_append.1 hy with hy | hy
            · exact hall y hy
            · simp at hy; rw [hy]; exact g1
          all_goals simp only [putD_some, putD_none, Nat.reduceEqDiff, ↓reduceIte, e1, e3, e5, hw]
  · have hlt' : ¬ (i : Int) < (r.last.length : Int) := by omega
    have hie : i = r.last.length := by omega
    subst hie
    rw [List.take_length] at hall
    cases g1 : decide (v ≤ 20000) with
    | false =>
      simp only [RowV.cells, T10_app, Z14, x14_32, base1, baseE, ↓reduceIte, Nat.reduceAdd, Nat.reduceSub, Nat.reduceMul, Nat.reduceEqDiff, Nat.reduceLeDiff, Nat.reduceLT, Int.reduceLT, Int.reduceLE, Int.reduceEq, Int.reduceNe, Int.reduceToNat, Int.reduceAdd, Int.reduceSub, reduceCtorEq, Nat.reduceBEq, Nat.reduceBNe, loopR_exit, loopR_ret, e1, e3, e5, hlt', hml, g1]
      exact ⟨_, rfl, fun h => by cases h⟩
    | true =>
    cases g2 : decide ((r.l.length : Int) ≤ 100) with
    | false =>
      simp only [RowV.cells, T10_app, Z14, x14_32, base1, baseE, ↓reduceIte, Nat.reduceAdd, Nat.reduceSub, Nat.reduceMul, Nat.reduceEqDiff, Nat.reduceLeDiff, Nat.reduceLT, Int.reduceLT, Int.reduceLE, Int.reduceEq, Int.reduceNe, Int.reduceToNat, Int.reduceAdd, Int.reduceSub, reduceCtorEq, Nat.reduceBEq, Nat.reduceBNe, loopR_exit, loopR_ret, e1, e3, e5, hlt', hml, hm2, g1, g2]
      exact ⟨_, rfl, fun h => by cases h⟩
    | true =>
    simp only [RowV.cells, T10_app, Z14, x14_32, base1, baseE, ↓reduceIte, Nat.reduceAdd, Nat.reduceSub, Nat.reduceMul, Nat.reduceEqDiff, Nat.reduceLeDiff, Nat.reduceLT, Int.reduceLT, Int.reduceLE, Int.reduceEq, Int.reduceNe, Int.reduceToNat, Int.reduceAdd, Int.reduceSub, reduceCtorEq, Nat.reduceBEq, Nat.reduceBNe, loopR_exit, loopR_ret, e1, e3, e5, hlt', hml, hm2, g1, g2]
    refine ⟨r.aep, r.sh, rfl, h.shl, h.sh, fun b hb => ?_⟩
    have hrr := h.rep
    cases b with
    | false =>
      simp only [RowV.cells, T10_app, Z14, x14_32, base1, baseE, ↓reduceIte, Nat.reduceAdd, Nat.reduceSub, Nat.reduceMul, Nat.reduceEqDiff, Nat.reduceLeDiff, Nat.reduceLT, Int.reduceLT, Int.reduceLE, Int.reduceEq, Int.reduceNe, Int.reduceToNat, Int.reduceAdd, Int.reduceSub, reduceCtorEq, Nat.reduceBEq, Nat.reduceBNe, e1, e3, e5]
      exact ⟨_, rfl, fun h => by cases h⟩
    | true =>
      cases g3 : r.rep.small with
      | false =>
        simp only [RowV.cells, T10_app, Z14, x14_32, base1, baseE, ↓reduceIte, Nat.reduceAdd, Nat.reduceSub, Nat.reduceMul, Nat.reduceEqDiff, Nat.reduceLeDiff, Nat.reduceLT, Int.reduceLT, Int.reduceLE, Int.reduceEq, Int.reduceNe, Int.reduceToNat, Int.reduceAdd, Int.reduceSub, reduceCtorEq, Nat.reduceBEq, Nat.reduceBNe, smallRPD_eq, e1, e3, e5, hrr, g3]
        exact ⟨_, rfl, fun h => by cases h⟩
      | true =>
        simp only [RowV.cells, T10_app, Z14, x14_32, base1, baseE, ↓reduceIte, Nat.reduceAdd, Nat.reduceSub, Nat.reduceMul, Nat.reduceEqDiff, Nat.reduceLeDiff, Nat.reduceLT, Int.reduceLT, Int.reduceLE, Int.reduceEq, Int.reduceNe, Int.reduceToNat, Int.reduceAdd, Int.reduceSub, reduceCtorEq, Nat.reduceBEq, Nat.reduceBNe, smallRPD_eq, e1, e3, e5, hrr, g3]
        have p1 := of_decide_eq_true g1
        have p2 := of_decide_eq_true g2
        have p3 : r.l.length ≤ 100 := by omega
        exact ⟨true, rfl, fun _ => ⟨by rw [← hv p3]; exact p1, p3, hi2, hall, (hb rfl).1, (hb rfl).2, g3⟩⟩
theorem sa_step (r : RowV) (h : r.okS) (n : Nat) (e : Env) (σ : AHeap) (hI : saI r n e σ) :
    sC T10 0 b14_10 (unw T10 0 (loopR T10 0 (RetQ [MRes.t 2] (SmQ r)) (.block 0 (.seq b14_32 .fin)) (saI r) n) .fin) e σ := by
  obtain ⟨i, v, hi, hn, rfl, e1, e3, e4, hv⟩ := hI
  have hml : (r.l.map recC).length = r.l.length := by simp
  have hll := h.ll
  rcases Nat.lt_or_ge i r.l.length with hlt | hge
  · have hlt' : (i : Int) < (r.l.length : Int) := by omega
    have hge0 : (0 : Int) ≤ (i : Int) := by omega
    obtain ⟨x, hx⟩ : ∃ x, r.l[i]? = some x := ⟨_, List.getElem?_eq_getElem hlt⟩
    have hxx : (r.l.map recC)[i]? = some [.str x.1, .str x.2] := by simp [hx, recC]
    have hw : IntKind.wrap .i64 ((i : Int) + 1) = ((i + 1 : Nat) : Int) := by rw [Gz.wrap64 (by simp only [big] at hll; omega)]; omega
    have hvv : r.l.length ≤ 100 → IntKind.wrap .i64 (IntKind.wrap .i64 (v + (x.1.length : Int)) + (x.2.length : Int)) = r.base + sumL (r.l.take (i + 1)) := by
      intro h100
      obtain ⟨q1, q2⟩ := h.l x (List.mem_of_getElem? hx)
      obtain ⟨q3, q4⟩ := sumL_le h.l i
      have q5 : (r.l.take i).length ≤ 100 := by rw [List.length_take]; omega
      obtain ⟨b1, b2, b3, b4⟩ := h.ask
      have b5 := h.sf
      have b6 := h.st
      have hb : 0 ≤ r.base ∧ r.base ≤ 6 * 140737488351232 := by simp only [RowV.base, big] at *; omega
      rw [hv h100, sumL_take hx]
      simp only [big] at q1 q2
      generalize sumL (r.l.take i) = S at q3 q4 ⊢
      generalize r.base = B at hb ⊢
      rw [Gz.wrap64 (z := B + S + (x.1.length : Int)) (by omega), Gz.wrap64 (by omega)]
      omega
    simp only [RowV.cells, T10_app, Z14, x14_32, base1, baseE, ↓reduceIte, Nat.reduceAdd, Nat.reduceSub, Nat.reduceMul, Nat.reduceEqDiff, Nat.reduceLeDiff, Nat.reduceLT, Int.reduceLT, Int.reduceLE, Int.reduceEq, Int.reduceNe, Int.reduceToNat, Int.reduceAdd, Int.reduceSub, reduceCtorEq, Nat.reduceBEq, Nat.reduceBNe, loopR_exit, loopR_ret, e1, e3, e4, hlt', hlt, hge0, hxx, hml, hw, Int.toNat_natCast]
    rw [loopR_normal]
    refine ⟨r.l.length - (i + 1), _, _, by omega, .refl _ _ _, i + 1, _, hlt, rfl, rfl, ?_, ?_, ?_, hvv⟩
    all_goals simp only [putD_some, putD_none, Nat.reduceEqDiff, ↓reduceIte, e1, e3, e4, hw]
  · have hlt' : ¬ (i : Int) < (r.l.length : Int) := by omega
    have hie : i = r.l.length := by omega
    subst hie
    rw [List.take_length] at hv
    simp only [T10_app, Z14, base1, baseE, ↓reduceIte, Nat.reduceAdd, Nat.reduceSub, Nat.reduceMul, Nat.reduceEqDiff, Nat.reduceLeDiff, Nat.reduceLT, Int.reduceLT, Int.reduceLE, Int.reduceEq, Int.reduceNe, Int.reduceToNat, Int.reduceAdd, Int.reduceSub, reduceCtorEq, Nat.reduceBEq, Nat.reduceBNe, loopR_exit, loopR_ret, e1, e3, e4]
    simp only [RowV.cells, T10_app, Z14, x14_32, base1, baseE, ↓reduceIte, Nat.reduceAdd, Nat.reduceSub, Nat.reduceMul, Nat.reduceEqDiff, Nat.reduceLeDiff, Nat.reduceLT, Int.reduceLT, Int.reduceLE, Int.reduceEq, Int.reduceNe, Int.reduceToNat, Int.reduceAdd, Int.reduceSub, reduceCtorEq, Nat.reduceBEq, Nat.reduceBNe, loopR_exit, loopR_ret, e1, e3, e4, hlt', hml]
    exact sC_inv (a := b14_26) (sbI r v) r.last.length _ _ (.refl _ _ _) ⟨0, Nat.zero_le _, by omega, rfl, rfl, e1, e3, rfl, by simp⟩ (sb_step r h v hv)
theorem small_ok (r : RowV) (h : r.okS) : Tri Tryz.prog 14 [.agg r.cells] [] fun x _ => x.pure = true ∧ ∃ b, x = .bool b ∧ (b = true → r.smallP) := by
  have key : Tri Tryz.prog 14 [.agg r.cells] [] (SmQ r) := by
    refine Tri.of_s c14 T10_sound ?_
    obtain ⟨b1, b2, b3, b4⟩ := h.ask
    have b5 := h.sf
    have b6 := h.st
    simp only [big] at b5 b6
    have w1 : IntKind.wrap .i64 ((r.ask.text.length : Int) + r.ask.val.length) = (r.ask.text.length : Int) + r.ask.val.length := Gz.wrap64 (by omega)
    have w2 : IntKind.wrap .i64 ((r.ask.text.length : Int) + r.ask.val.length + r.ask.from_.length) = (r.ask.text.length : Int) + r.ask.val.length + r.ask.from_.length := Gz.wrap64 (by omega)
    have w3 : IntKind.wrap .i64 ((r.ask.text.length : Int) + r.ask.val.length + r.ask.from_.length + r.ask.to.length) = (r.ask.text.length : Int) + r.ask.val.length + r.ask.from_.length + r.ask.to.length := Gz.wrap64 (by omega)
    have w4 : IntKind.wrap .i64 ((r.ask.text.length : Int) + r.ask.val.length + r.ask.from_.length + r.ask.to.length + r.sf.length) = (r.ask.text.length : Int) + r.ask.val.length + r.ask.from_.length + r.ask.to.length + r.sf.length := Gz.wrap64 (by omega)
    have w5 : IntKind.wrap .i64 ((r.ask.text.length : Int) + r.ask.val.length + r.ask.from_.length + r.ask.to.length + r.sf.length + r.st.length) = r.base := Gz.wrap64 (by omega)
    simp only [RowV.cells, T10_app, Z14, x14_32, base1, baseE, ↓reduceIte, Nat.reduceAdd, Nat.reduceSub, Nat.reduceMul, Nat.reduceEqDiff, Nat.reduceLeDiff, Nat.reduceLT, Int.reduceLT, Int.reduceLE, Int.reduceEq, Int.reduceNe, Int.reduceToNat, Int.reduceAdd, Int.reduceSub, reduceCtorEq, Nat.reduceBEq, Nat.reduceBNe, w1, w2, w3, w4, w5]
    exact sC_inv (a := b14_10) (saI r) r.l.length _ _ (.refl _ _ _) ⟨0, r.base, Nat.zero_le _, rfl, rfl, rfl, rfl, rfl, fun _ => by simp [sumL]⟩ (sa_step r h)
  exact key.mono fun x _ ⟨b, h1, h2⟩ => ⟨by rw [h1]; rfl, b, h1, h2⟩
def smallD (args : List AV) (σ : AHeap) (K : AV → AHeap → Prop) : Prop := ∃ r : RowV, args = [.agg r.cells] ∧ r.okS ∧ ∀ b, (b = true → r.smallP) → K (.bool b) σ
theorem smallD_ok (args : List AV) (σ : AHeap) (K : AV → AHeap → Prop) (h : smallD args σ K) : Tri Tryz.prog 14 args σ K := by
  obtain ⟨r, rfl, hs, h⟩ := h
  exact (Tri.pureD (by simp only [pureL, row_pure, Bool.and_self]) (small_ok r hs) σ).mono fun x σ' ⟨⟨b, h1, h2⟩, h3⟩ => by rw [h1, h3]; exact h b h2
end Go.Proofs.YtgaopohogdinhaaGreatDoor.note

/- The note that Made makes of a row. No condition. -/
set_option linter.unusedVariables false
set_option linter.unusedSimpArgs false
namespace Go.Proofs.YtgaopohogdinhaaGreatDoor.note
open Go.ChangeShapes Go.WideShapes Go.ChangeAt Go.RowKit Go.Gz
section
variable {C : PCall} {n0 : Nat} {R : MExit → Env → AHeap → Prop} {k : Cont} {e : Env} {σ : AHeap}
abbrev r15_0 : List MOper := [⟨(some 1), .box (.t 0), none⟩,
  ⟨(some 2), .alloc [.int .i64 0, .int .i64 0, .int .i64 0, .int .i64 0, .int .i64 0, .int .i64 0, .int .i64 0, .int .i64 0, .str [], .str [], .str [], .str [], .int .i64 0, .int .i64 0, .int .i64 0, .int .i64 0, .bool false, .str [], .nilslice, .str [], .bool false, .str [], .str [], .nilslice, .nilslice, .int .i64 0, .nilslice], none⟩]
def b15_0 : SCode := .region r15_0
abbrev r15_1 : List MOper := [⟨(some 5), .fieldAddr 0 (.t 1), none⟩,
  ⟨(some 6), .load1 (.t 5), none⟩,
  ⟨(some 7), .fieldAddr 1 (.t 1), none⟩,
  ⟨(some 8), .load1 (.t 7), none⟩,
  ⟨(some 9), .fieldAddr 2 (.t 1), none⟩,
  ⟨(some 10), .load1 (.t 9), none⟩,
  ⟨(some 11), .fieldAddr 3 (.t 1), none⟩,
  ⟨(some 12), .load1 (.t 11), none⟩,
  ⟨(some 13), .fieldAddr 4 (.t 1), none⟩,
  ⟨(some 14), .load1 (.t 13), none⟩,
  ⟨(some 15), .fieldAddr 5 (.t 1), none⟩,
  ⟨(some 16), .loadN 8 (.t 15), none⟩,
  ⟨(some 17), .fieldAddr 13 (.t 1), none⟩,
  ⟨(some 18), .loadN 8 (.t 17), none⟩,
  ⟨(some 19), .fieldAddr 21 (.t 1), none⟩,
  ⟨(some 20), .loadN 2 (.t 19), none⟩,
  ⟨(some 21), .fieldAddr 23 (.t 1), none⟩,
  ⟨(some 22), .load1 (.t 21), none⟩,
  ⟨(some 23), .build [.int .i64 0, .int .i64 0, .int .i64 0, .int .i64 0, .int .i64 0, .int .i64 0, .int .i64 0, .int .i64 0, .str [], .str [], .str [], .str [], .int .i64 0, .int .i64 0, .int .i64 0, .int .i64 0, .bool false, .str [], .nilslice, .str [], .bool false, .str [], .str [], .nilslice, .nilslice, .int .i64 0, .nilslice] [(0, 1, (.t 6)), (1, 1, (.t 8)), (2, 1, (.t 10)), (3, 1, (.t 12)), (4, 1, (.t 14)), (5, 8, (.t 16)), (13, 8, (.t 18)), (21, 2, (.t 20)), (23, 1, (.t 22))], none⟩,
  ⟨(some 3), .alloc [.int .i64 0, .int .i64 0, .int .i64 0, .int .i64 0, .int .i64 0, .int .i64 0, .int .i64 0, .int .i64 0, .str [], .str [], .str [], .str [], .int .i64 0, .int .i64 0, .int .i64 0, .int .i64 0, .bool false, .str [], .nilslice, .str [], .bool false, .str [], .str [], .nilslice, .nilslice, .int .i64 0, .nilslice], none⟩,
  ⟨none, .store 27 (.t 3) (.t 23), none⟩]
def b15_1 : SCode := .region r15_1
abbrev r15_2 : List MOper := [⟨(some 4), .move (.c (.int .i64 0)), none⟩]
def b15_2 : SCode := .region r15_2
abbrev r15_3 : List MOper := [⟨(some 24), .move (.t 4), none⟩,
  ⟨(some 25), .fieldAddr 24 (.t 1), none⟩,
  ⟨(some 26), .load1 (.t 25), none⟩,
  ⟨(some 27), .lenSl (.t 26), none⟩,
  ⟨(some 28), .bin .lss .num (.t 24) (.t 27), none⟩]
def b15_3 : SCode := .region r15_3
def b15_4 : SCode := .cond (.t 28) .skip (.exit 0)
def b15_5 : SCode := .seq b15_3 b15_4
abbrev t15_6 : LTree := (.quiet ⟨(some 31), .fieldAddr 24 (.t 3), none⟩ 0
  (.quiet ⟨(some 32), .load1 (.t 31), none⟩ 1
  (.quiet ⟨(some 33), .fieldAddr 24 (.t 1), none⟩ 2
  (.quiet ⟨(some 34), .load1 (.t 33), none⟩ 3
  (.quiet ⟨(some 35), .move (.t 4), none⟩ 4
  (.quiet ⟨(some 36), .indexAddr 8 (.t 34) (.t 35), none⟩ 5
  (.quiet ⟨(some 37), .fieldAddr 1 (.t 36), none⟩ 6
  (.quiet ⟨(some 38), .load1 (.t 37), none⟩ 7
  (.quiet ⟨(some 39), .fieldAddr 24 (.t 1), none⟩ 8
  (.quiet ⟨(some 40), .load1 (.t 39), none⟩ 9
  (.quiet ⟨(some 41), .move (.t 4), none⟩ 10
  (.quiet ⟨(some 42), .indexAddr 8 (.t 40) (.t 41), none⟩ 11
  (.quiet ⟨(some 43), .loadN 8 (.t 42), none⟩ 12
  (.quiet ⟨(some 44), .build [.int .i64 0, .int .i64 0, .int .i64 0, .int .i64 0, .bool false, .str [], .nilslice, .str [], .bool false] [(0, 1, (.t 38)), (1, 8, (.t 43))], none⟩ 13
  (.loud ⟨(some 45), .buildSlice [.int .i64 0, .int .i64 0, .int .i64 0, .int .i64 0, .bool false, .str [], .nilslice, .str [], .bool false] 9 1 [(0, 9, (.t 44))], none⟩ [1]
  (.loud ⟨(some 46), .call 28 [(.t 45)], none⟩ [1]
  (.loud ⟨(some 47), .append 9 104 (.t 32) (.t 46), none⟩ []
  (.quiet ⟨(some 48), .fieldAddr 24 (.t 3), none⟩ 17
  (.loud ⟨none, .store 1 (.t 48) (.t 47), none⟩ []
  .leaf .stop)) .stop) .stop) .stop)))))))))))))))
def b15_6 : SCode := .draw t15_6
def b15_7 : SCode := .block 1 b15_6
abbrev r15_8 : List MOper := [⟨(some 29), .move (.t 4), none⟩,
  ⟨(some 30), .bin .add .num (.t 29) (.c (.int .i64 1)), none⟩,
  ⟨(some 4), .move (.t 30), none⟩]
def b15_8 : SCode := .region r15_8
def b15_9 : SCode := .seq b15_7 b15_8
def b15_10 : SCode := .seq b15_5 b15_9
def b15_11 : SCode := .loop b15_10
def b15_12 : SCode := .block 0 b15_11
def b15_13 : SCode := .seq b15_2 b15_12
abbrev r15_14 : List MOper := [⟨(some 49), .fieldAddr 25 (.t 1), none⟩,
  ⟨(some 50), .fieldAddr 0 (.t 49), none⟩,
  ⟨(some 51), .load1 (.t 50), none⟩,
  ⟨(some 52), .bin .neq .num (.t 51) (.c (.int .i64 0)), none⟩,
  ⟨(some 53), .move (.t 52), none⟩,
  ⟨(some 54), .fieldAddr 25 (.t 1), (some (53, false))⟩,
  ⟨(some 55), .fieldAddr 1 (.t 54), (some (53, false))⟩,
  ⟨(some 56), .load1 (.t 55), (some (53, false))⟩,
  ⟨(some 57), .lenSl (.t 56), (some (53, false))⟩,
  ⟨(some 58), .bin .gtr .num (.t 57) (.c (.int .i64 0)), (some (53, false))⟩,
  ⟨(some 59), .pick (.t 53) (.c (.bool true)) (.t 58), none⟩]
def b15_14 : SCode := .region r15_14
abbrev r15_15 : List MOper := [⟨(some 60), .fieldAddr 25 (.t 1), none⟩,
  ⟨(some 61), .loadN 2 (.t 60), none⟩,
  ⟨(some 62), .call 11 [(.t 61)], none⟩,
  ⟨(some 63), .fieldAddr 25 (.t 3), none⟩,
  ⟨none, .store 2 (.t 63) (.t 62), none⟩]
def b15_15 : SCode := .region r15_15
def b15_16 : SCode := .cond (.t 59) b15_15 .skip
def b15_17 : SCode := .seq b15_14 b15_16
abbrev r15_18 : List MOper := [⟨(some 64), .loadN 27 (.t 3), none⟩,
  ⟨none, .store 27 (.t 2) (.t 64), none⟩]
def b15_18 : SCode := .region r15_18
def b15_19 : SCode := .seq b15_18 .ret
def b15_20 : SCode := .seq b15_17 b15_19
def b15_21 : SCode := .seq b15_13 b15_20
def b15_22 : SCode := .seq b15_1 b15_21
def b15_23 : SCode := .seq b15_0 b15_22
def s15 : SFunc := ⟨65, [.cN 2 27], b15_23⟩
theorem c15 : sFn Tryz.prog 15 = some s15 := by kernel_rfl
theorem Z15 : XR b15_0 r15_0 ∧ XR b15_1 r15_1 ∧ XR b15_2 r15_2 ∧ XR b15_3 r15_3 ∧ XC b15_4 (.t 28) .skip (.exit 0) ∧ XS b15_5 b15_3 b15_4 ∧ XT b15_6 t15_6 ∧ XB b15_7 1 b15_6 ∧ XR b15_8 r15_8 ∧ XS b15_9 b15_7 b15_8 ∧ XS b15_10 b15_5 b15_9 ∧ XB b15_12 0 b15_11 ∧ XS b15_13 b15_2 b15_12 ∧ XR b15_14 r15_14 ∧ XR b15_15 r15_15 ∧ XC b15_16 (.t 59) b15_15 .skip ∧ XS b15_17 b15_14 b15_16 ∧ XR b15_18 r15_18 ∧ XS b15_19 b15_18 .ret ∧ XS b15_20 b15_17 b15_19 ∧ XS b15_21 b15_13 b15_20 ∧ XS b15_22 b15_1 b15_21 ∧ XS b15_23 b15_0 b15_22 ∧ XY s15 65 b15_23 [.cN 2 27] := ⟨rfl, rfl, rfl, rfl, sC_cond, rfl, rfl, rfl, rfl, rfl, rfl, rfl, rfl, rfl, rfl, sC_cond, rfl, rfl, rfl, rfl, rfl, rfl, rfl, rfl⟩
abbrev r28_0 : List MOper := [⟨(some 2), .move (.c (.nilslice)), none⟩]
def b28_0 : SCode := .region r28_0
abbrev r28_1 : List MOper := [⟨(some 3), .move (.c (.nilslice)), none⟩]
def b28_1 : SCode := .region r28_1
abbrev r28_2 : List MOper := [⟨(some 4), .move (.c (.int .i64 0)), none⟩]
def b28_2 : SCode := .region r28_2
abbrev r28_3 : List MOper := [⟨(some 5), .move (.t 4), none⟩,
  ⟨(some 6), .move (.t 0), none⟩,
  ⟨(some 7), .lenSl (.t 6), none⟩,
  ⟨(some 8), .bin .lss .num (.t 5) (.t 7), none⟩]
def b28_3 : SCode := .region r28_3
def b28_4 : SCode := .cond (.t 8) .skip (.exit 0)
def b28_5 : SCode := .seq b28_3 b28_4
abbrev t28_6 : LTree := (.quiet ⟨(some 11), .move (.t 3), none⟩ 0
  (.quiet ⟨(some 12), .move (.t 0), none⟩ 1
  (.quiet ⟨(some 13), .move (.t 4), none⟩ 2
  (.quiet ⟨(some 14), .indexAddr 9 (.t 12) (.t 13), none⟩ 3
  (.quiet ⟨(some 15), .fieldAddr 0 (.t 14), none⟩ 4
  (.quiet ⟨(some 16), .load1 (.t 15), none⟩ 5
  (.quiet ⟨(some 17), .move (.t 0), none⟩ 6
  (.quiet ⟨(some 18), .move (.t 4), none⟩ 7
  (.quiet ⟨(some 19), .indexAddr 9 (.t 17) (.t 18), none⟩ 8
  (.quiet ⟨(some 20), .fieldAddr 1 (.t 19), none⟩ 9
  (.quiet ⟨(some 21), .loadN 8 (.t 20), none⟩ 10
  (.quiet ⟨(some 22), .build [.int .i64 0, .int .i64 0, .int .i64 0, .int .i64 0, .bool false, .str [], .nilslice, .str [], .bool false] [(0, 1, (.t 16)), (1, 8, (.t 21))], none⟩ 11
  (.loud ⟨(some 23), .buildSlice [.int .i64 0, .int .i64 0, .int .i64 0, .int .i64 0, .bool false, .str [], .nilslice, .str [], .bool false] 9 1 [(0, 9, (.t 22))], none⟩ []
  (.loud ⟨(some 24), .append 9 104 (.t 11) (.t 23), none⟩ []
  (.quiet ⟨(some 3), .move (.t 24), none⟩ 14
  .leaf) .stop) .stop)))))))))))))
def b28_6 : SCode := .draw t28_6
def b28_7 : SCode := .block 1 b28_6
abbrev r28_8 : List MOper := [⟨(some 9), .move (.t 4), none⟩,
  ⟨(some 10), .bin .add .num (.t 9) (.c (.int .i64 1)), none⟩,
  ⟨(some 4), .move (.t 10), none⟩]
def b28_8 : SCode := .region r28_8
def b28_9 : SCode := .seq b28_7 b28_8
def b28_10 : SCode := .seq b28_5 b28_9
def b28_11 : SCode := .loop b28_10
def b28_12 : SCode := .block 0 b28_11
def b28_13 : SCode := .seq b28_2 b28_12
abbrev r28_14 : List MOper := [⟨(some 25), .move (.t 3), none⟩,
  ⟨(some 2), .move (.t 25), none⟩]
def b28_14 : SCode := .region r28_14
def b28_15 : SCode := .seq b28_14 .ret
def b28_16 : SCode := .seq b28_13 b28_15
def b28_17 : SCode := .seq b28_1 b28_16
def b28_18 : SCode := .seq b28_0 b28_17
def s28 : SFunc := ⟨26, [.t 2], b28_18⟩
theorem c28 : sFn Tryz.prog 28 = some s28 := by kernel_rfl
theorem Z28 : XR b28_0 r28_0 ∧ XR b28_1 r28_1 ∧ XR b28_2 r28_2 ∧ XR b28_3 r28_3 ∧ XC b28_4 (.t 8) .skip (.exit 0) ∧ XS b28_5 b28_3 b28_4 ∧ XT b28_6 t28_6 ∧ XB b28_7 1 b28_6 ∧ XR b28_8 r28_8 ∧ XS b28_9 b28_7 b28_8 ∧ XS b28_10 b28_5 b28_9 ∧ XB b28_12 0 b28_11 ∧ XS b28_13 b28_2 b28_12 ∧ XR b28_14 r28_14 ∧ XS b28_15 b28_14 .ret ∧ XS b28_16 b28_13 b28_15 ∧ XS b28_17 b28_1 b28_16 ∧ XS b28_18 b28_0 b28_17 ∧ XY s28 26 b28_18 [.t 2] := ⟨rfl, rfl, rfl, rfl, sC_cond, rfl, rfl, rfl, rfl, rfl, rfl, rfl, rfl, rfl, rfl, rfl, rfl, rfl, rfl⟩
abbrev r11_0 : List MOper := [⟨(some 1), .box (.t 0), none⟩,
  ⟨(some 2), .alloc [.int .i64 0, .nilslice], none⟩]
def b11_0 : SCode := .region r11_0
abbrev r11_1 : List MOper := [⟨(some 5), .fieldAddr 0 (.t 1), none⟩,
  ⟨(some 6), .load1 (.t 5), none⟩,
  ⟨(some 7), .build [.int .i64 0, .nilslice] [(0, 1, (.t 6))], none⟩,
  ⟨(some 3), .alloc [.int .i64 0, .nilslice], none⟩,
  ⟨none, .store 2 (.t 3) (.t 7), none⟩]
def b11_1 : SCode := .region r11_1
abbrev r11_2 : List MOper := [⟨(some 4), .move (.c (.int .i64 0)), none⟩]
def b11_2 : SCode := .region r11_2
abbrev r11_3 : List MOper := [⟨(some 8), .move (.t 4), none⟩,
  ⟨(some 9), .fieldAddr 1 (.t 1), none⟩,
  ⟨(some 10), .load1 (.t 9), none⟩,
  ⟨(some 11), .lenSl (.t 10), none⟩,
  ⟨(some 12), .bin .lss .num (.t 8) (.t 11), none⟩]
def b11_3 : SCode := .region r11_3
def b11_4 : SCode := .cond (.t 12) .skip (.exit 0)
def b11_5 : SCode := .seq b11_3 b11_4
abbrev t11_6 : LTree := (.quiet ⟨(some 15), .fieldAddr 1 (.t 3), none⟩ 0
  (.quiet ⟨(some 16), .load1 (.t 15), none⟩ 1
  (.quiet ⟨(some 17), .fieldAddr 1 (.t 1), none⟩ 2
  (.quiet ⟨(some 18), .load1 (.t 17), none⟩ 3
  (.quiet ⟨(some 19), .move (.t 4), none⟩ 4
  (.quiet ⟨(some 20), .indexAddr 4 (.t 18) (.t 19), none⟩ 5
  (.quiet ⟨(some 21), .fieldAddr 0 (.t 20), none⟩ 6
  (.quiet ⟨(some 22), .loadN 2 (.t 21), none⟩ 7
  (.quiet ⟨(some 23), .fieldAddr 1 (.t 1), none⟩ 8
  (.quiet ⟨(some 24), .load1 (.t 23), none⟩ 9
  (.quiet ⟨(some 25), .move (.t 4), none⟩ 10
  (.quiet ⟨(some 26), .indexAddr 4 (.t 24) (.t 25), none⟩ 11
  (.quiet ⟨(some 27), .fieldAddr 2 (.t 26), none⟩ 12
  (.quiet ⟨(some 28), .load1 (.t 27), none⟩ 13
  (.quiet ⟨(some 29), .fieldAddr 1 (.t 1), none⟩ 14
  (.quiet ⟨(some 30), .load1 (.t 29), none⟩ 15
  (.quiet ⟨(some 31), .move (.t 4), none⟩ 16
  (.quiet ⟨(some 32), .indexAddr 4 (.t 30) (.t 31), none⟩ 17
  (.quiet ⟨(some 33), .fieldAddr 3 (.t 32), none⟩ 18
  (.quiet ⟨(some 34), .load1 (.t 33), none⟩ 19
  (.quiet ⟨(some 35), .build [.str [], .str [], .int .i64 0, .int .i64 0] [(0, 2, (.t 22)), (2, 1, (.t 28)), (3, 1, (.t 34))], none⟩ 20
  (.loud ⟨(some 36), .buildSlice [.str [], .str [], .int .i64 0, .int .i64 0] 4 1 [(0, 4, (.t 35))], none⟩ [1]
  (.loud ⟨(some 37), .append 4 48 (.t 16) (.t 36), none⟩ []
  (.quiet ⟨(some 38), .fieldAddr 1 (.t 3), none⟩ 23
  (.loud ⟨none, .store 1 (.t 38) (.t 37), none⟩ []
  .leaf .stop)) .stop) .stop))))))))))))))))))))))
def b11_6 : SCode := .draw t11_6
def b11_7 : SCode := .block 1 b11_6
abbrev r11_8 : List MOper := [⟨(some 13), .move (.t 4), none⟩,
  ⟨(some 14), .bin .add .num (.t 13) (.c (.int .i64 1)), none⟩,
  ⟨(some 4), .move (.t 14), none⟩]
def b11_8 : SCode := .region r11_8
def b11_9 : SCode := .seq b11_7 b11_8
def b11_10 : SCode := .seq b11_5 b11_9
def b11_11 : SCode := .loop b11_10
def b11_12 : SCode := .block 0 b11_11
def b11_13 : SCode := .seq b11_2 b11_12
abbrev r11_14 : List MOper := [⟨(some 39), .loadN 2 (.t 3), none⟩,
  ⟨none, .store 2 (.t 2) (.t 39), none⟩]
def b11_14 : SCode := .region r11_14
def b11_15 : SCode := .seq b11_14 .ret
def b11_16 : SCode := .seq b11_13 b11_15
def b11_17 : SCode := .seq b11_1 b11_16
def b11_18 : SCode := .seq b11_0 b11_17
def s11 : SFunc := ⟨40, [.cN 2 2], b11_18⟩
theorem c11 : sFn Tryz.prog 11 = some s11 := by kernel_rfl
theorem Z11 : XR b11_0 r11_0 ∧ XR b11_1 r11_1 ∧ XR b11_2 r11_2 ∧ XR b11_3 r11_3 ∧ XC b11_4 (.t 12) .skip (.exit 0) ∧ XS b11_5 b11_3 b11_4 ∧ XT b11_6 t11_6 ∧ XB b11_7 1 b11_6 ∧ XR b11_8 r11_8 ∧ XS b11_9 b11_7 b11_8 ∧ XS b11_10 b11_5 b11_9 ∧ XB b11_12 0 b11_11 ∧ XS b11_13 b11_2 b11_12 ∧ XR b11_14 r11_14 ∧ XS b11_15 b11_14 .ret ∧ XS b11_16 b11_13 b11_15 ∧ XS b11_17 b11_1 b11_16 ∧ XS b11_18 b11_0 b11_17 ∧ XY s11 40 b11_18 [.cN 2 2] := ⟨rfl, rfl, rfl, rfl, sC_cond, rfl, rfl, rfl, rfl, rfl, rfl, rfl, rfl, rfl, rfl, rfl, rfl, rfl, rfl⟩

end
set_option maxHeartbeats 4000000
set_option maxRecDepth 10000
theorem Fr1.kill {σ : AHeap} {c : List AV} {id : Nat} : Fr1 σ (hkill (hpush σ c) σ.length) id := fun j d hj _ => by
  have := hget_lt hj
  rw [kill_other (by omega)]; exact push_old hj

/-! Last replies, shards: as they are. -/
def mlI (l : List LaV) (n : Nat) (e : Env) (σ : AHeap) : Prop :=
  ∃ (i : Nat) (Lv : AV), i ≤ l.length ∧ n = l.length - i ∧ Grow σ Lv 9 ((l.take i).map LaV.cells) ∧ e 0 = .imm (l.map LaV.cells) false false ∧ e 3 = Lv ∧ e 4 = .int .i64 (i : Int)
def ImmQ (rows : List (List AV)) (r : AV) (σ : AHeap) : Prop := Frz σ r (.imm rows false false)
theorem ml_step (l : List LaV) (hl : l.length ≤ 1000000) (n : Nat) (e : Env) (σ : AHeap) (h : mlI l n e σ) :
    sC noCall 0 b28_10 (unw noCall 0 (loopR noCall 0 (RetQ [MRes.t 2] (ImmQ (l.map LaV.cells))) (.block 0 (.seq b28_15 .fin)) (mlI l) n) .fin) e σ := by
  obtain ⟨i, Lv, hi, hn, hLv, e0, e3, e4⟩ := h
  have hml : (l.map LaV.cells).length = l.length := by simp
  have lc := grow_cell hLv
  rcases Nat.lt_or_ge i l.length with hlt | hge
  · have hlt' : (i : Int) < (l.length : Int) := by omega
    have hge0 : (0 : Int) ≤ (i : Int) := by omega
    obtain ⟨x, hx⟩ : ∃ x, l[i]? = some x := ⟨_, List.getElem?_eq_getElem hlt⟩
    have hxx : (l.map LaV.cells)[i]? = some [.int .i64 x.seq, .int .i64 x.rep.client, .int .i64 x.rep.seq, .int .i64 x.rep.err, .bool x.rep.found, .str x.rep.val, .imm (recs x.rep.l) false false, .str x.rep.next, .bool x.rep.more] := by simp [hx, LaV.cells, RepV.cells]
    have hw : IntKind.wrap .i64 ((i : Int) + 1) = ((i + 1 : Nat) : Int) := by rw [Gz.wrap64 (by omega)]; omega
    have htk : l.take (i + 1) = l.take i ++ [x] := by rw [List.take_add_one, hx]; rfl
    obtain ⟨v, τ, a1, a2, a3, a4, a5⟩ := grow_one (b := 104) (by decide) hLv (by simp; omega) x.cells rfl rfl
    simp only [LaV.cells, RepV.cells] at a1
    simp only [Z28, base1, ↓reduceIte, Nat.reduceAdd, Nat.reduceSub, Nat.reduceMul, Nat.reduceEqDiff, Nat.reduceLeDiff, Nat.reduceLT, Int.reduceLT, Int.reduceLE, Int.reduceEq, Int.reduceNe, Int.reduceToNat, Int.reduceAdd, Int.reduceSub, reduceCtorEq, Nat.reduceBEq, Nat.reduceBNe, lenOf_imm, loopR_exit, loopR_ret, e0, e3, e4, hlt', hlt, hge0, hxx, hml, hw, Int.toNat_natCast, a1, a2, a3]
    rw [loopR_normal]
    refine ⟨l.length - (i + 1), _, _, by omega, .refl _ _ _, i + 1, v, hlt, rfl, ?_, ?_, ?_, ?_⟩
    · rw [htk]; simpa using a5
    all_goals simp only [putD_some, putD_none, Nat.reduceEqDiff, ↓reduceIte, e0, e3, e4, hw]
  · have hlt' : ¬ (i : Int) < (l.length : Int) := by omega
    have hie : i = l.length := by omega
    subst hie
    rw [List.take_length] at hLv
    simp only [Z28, base1, ↓reduceIte, Nat.reduceAdd, Nat.reduceSub, Nat.reduceMul, Nat.reduceEqDiff, Nat.reduceLeDiff, Nat.reduceLT, Int.reduceLT, Int.reduceLE, Int.reduceEq, Int.reduceNe, Int.reduceToNat, Int.reduceAdd, Int.reduceSub, reduceCtorEq, Nat.reduceBEq, Nat.reduceBNe, lenOf_imm, loopR_exit, loopR_ret, e0, e3, e4, hlt', hml]
    exact grow_frz hLv (rowsLa_pure l)
theorem madeL_ok (l : List LaV) (hl : l.length ≤ 1000000) : Tri Tryz.prog 28 [.imm (l.map LaV.cells) false false] [] fun r _ => r.pure = true ∧ r = .imm (l.map LaV.cells) false false := by
  refine Tri.frozen (Q := ImmQ (l.map LaV.cells)) (Tri.of_s c28 (noCall_sound _) ?_) (fun r σ hr => ⟨_, hr, by simp only [AV.pure, rowsLa_pure], rfl⟩)
  simp only [Z28, base1, baseE, ↓reduceIte, Nat.reduceAdd, Nat.reduceSub, Nat.reduceMul, Nat.reduceEqDiff, Nat.reduceLeDiff, Nat.reduceLT, Int.reduceLT, Int.reduceLE, Int.reduceEq, Int.reduceNe, Int.reduceToNat, Int.reduceAdd, Int.reduceSub, reduceCtorEq, Nat.reduceBEq, Nat.reduceBNe]
  exact sC_inv (a := b28_10) (mlI l) l.length _ _ (.refl _ _ _) ⟨0, .nilslice, Nat.zero_le _, rfl, .inl ⟨rfl, rfl⟩, rfl, rfl, rfl⟩ (ml_step l hl)
def madeLD (args : List AV) (σ : AHeap) (K : AV → AHeap → Prop) : Prop := ∃ (d : Nat) (x : LaV), args = [.slice d 0 1 (some 1) 9] ∧ hget σ d = some x.cells ∧ K (.imm [x.cells] false false) (hkill σ d)
theorem madeLD_ok (args : List AV) (σ : AHeap) (K : AV → AHeap → Prop) (h : madeLD args σ K) : Tri Tryz.prog 28 args σ K := by
  obtain ⟨d, x, rfl, hd, h⟩ := h
  have hg : Given σ d (.slice d 0 1 (some 1) 9) (.imm ([x].map LaV.cells) false false) := .inr (.inr ⟨0, 1, some 1, 9, _, [x.cells], rfl, rfl, hd, by rw [show [x.cells].flatten = x.cells by simp]; exact sub_all rfl, rfl, by simp [LaV.cells, RepV.cells], rowsLa_pure [x]⟩)
  exact (Tri.give (args := [.slice d 0 1 (some 1) 9]) (args1 := [.imm ([x].map LaV.cells) false false]) d rfl (given1 hg) (madeL_ok [x] (by simp))).mono fun r σ' hr => by rw [hr.1, hr.2]; exact h
def ma14I (ep : Int) (sh : List ShV) (n : Nat) (e : Env) (σ : AHeap) : Prop :=
  ∃ (i : Nat) (Lv : AV), i ≤ sh.length ∧ n = sh.length - i ∧ hget σ 0 = some [.int .i64 ep, .imm (sh.map ShV.cells) false false] ∧ hget σ 1 = some [.int .i64 0, .nilslice] ∧ hget σ 2 = some [.int .i64 ep, Lv] ∧ Grow σ Lv 4 ((sh.take i).map ShV.cells) ∧ LvD Lv ≠ some 0 ∧ LvD Lv ≠ some 1 ∧ LvD Lv ≠ some 2 ∧
    e 1 = .ptr 0 0 ∧ e 2 = .ptr 1 0 ∧ e 3 = .ptr 2 0 ∧ e 4 = .int .i64 (i : Int)
def AtQ (ep : Int) (sh : List ShV) (r : AV) (σ : AHeap) : Prop := Frz σ r (.agg [.int .i64 ep, .imm (sh.map ShV.cells) false false])
theorem frz_at {σ : AHeap} {ep : Int} {Lv : AV} {rows : List (List AV)} (h : Frz σ Lv (.imm rows false false)) : Frz σ (.agg [.int .i64 ep, Lv]) (.agg [.int .i64 ep, .imm rows false false]) := by
  refine .agg rfl (fun i x y hx hy => ?_)
  match i with
  | 0 => simp at hx hy; subst hx; subst hy; exact .pure rfl
  | 1 => simp at hx hy; subst hx; subst hy; exact h
  | n + 2 => simp at hx
theorem ma14_step (ep : Int) (sh : List ShV) (hl : sh.length ≤ 1000000) (n : Nat) (e : Env) (σ : AHeap) (h : ma14I ep sh n e σ) :
    sC noCall 0 b11_10 (unw noCall 0 (loopR noCall 0 (RetQ [MRes.cN 2 2] (AtQ ep sh)) (.block 0 (.seq b11_15 .fin)) (ma14I ep sh) n) .fin) e σ := by
  obtain ⟨i, Lv, hi, hn, g0, g1, g2, hLv, d0, d1, d2, e1, e2, e3, e4⟩ := h
  have hml : (sh.map ShV.cells).length = sh.length := by simp
  have lc := grow_cell hLv
  rcases Nat.lt_or_ge i sh.length with hlt | hge
  · have hlt' : (i : Int) < (sh.length : Int) := by omega
    have hge0 : (0 : Int) ≤ (i : Int) := by omega
    obtain ⟨x, hx⟩ : ∃ x, sh[i]? = some x := ⟨_, List.getElem?_eq_getElem hlt⟩
    have hxx : (sh.map ShV.cells)[i]? = some [.str x.from_, .str x.to, .int .i64 x.node, .int .i64 x.epoch] := by simp [hx, ShV.cells]
    have hw : IntKind.wrap .i64 ((i : Int) + 1) = ((i + 1 : Nat) : Int) := by rw [Gz.wrap64 (by omega)]; omega
    have htk : sh.take (i + 1) = sh.take i ++ [x] := by rw [List.take_add_one, hx]; rfl
    obtain ⟨v, τ, a1, a2, a3, a4, a5⟩ := grow_one (b := 48) (by decide) hLv (by simp; omega) x.cells rfl rfl
    obtain ⟨q0, u0⟩ := a4 0 _ g0 d0
    obtain ⟨q1, u1⟩ := a4 1 _ g1 d1
    obtain ⟨q2, u2⟩ := a4 2 _ g2 d2
    simp only [ShV.cells] at a1
    have p2 : ∀ c : List AV, hget (hpush σ c) 2 = some [.int .i64 ep, Lv] := fun c => push_old g2
    simp only [Z11, base1, ↓reduceIte, Nat.reduceAdd, Nat.reduceSub, Nat.reduceMul, Nat.reduceEqDiff, Nat.reduceLeDiff, Nat.reduceLT, Int.reduceLT, Int.reduceLE, Int.reduceEq, Int.reduceNe, Int.reduceToNat, Int.reduceAdd, Int.reduceSub, reduceCtorEq, Nat.reduceBEq, Nat.reduceBNe, lenOf_imm, loopR_exit, loopR_ret, e1, e2, e3, e4, g0, g1, g2, p2, q2, hlt', hlt, hge0, hxx, hml, hw, Int.toNat_natCast, a1, a2, a3]
    rw [loopR_normal]
    refine ⟨sh.length - (i + 1), _, _, by omega, .refl _ _ _, i + 1, v, hlt, rfl, by rw [set_other (by decide)]; exact q0, by rw [set_other (by decide)]; exact q1, set_same q2, ?_, u0, u1, u2, ?_, ?_, ?_, ?_⟩
    · rw [htk]
      refine grow_frame (by simpa using a5) fun j c hj hd => ?_
      rw [set_other (fun e => u2 (by rw [hd, e]))]; exact hj
    all_goals simp only [putD_some, putD_none, Nat.reduceEqDiff, ↓reduceIte, e1, e2, e3, e4, hw]
  · have hlt' : ¬ (i : Int) < (sh.length : Int) := by omega
    have hie : i = sh.length := by omega
    subst hie
    rw [List.take_length] at hLv
    have s1 : ∀ c : List AV, hget (hset σ 1 c) 1 = some c := fun c => set_same g1
    simp only [Z11, base1, ↓reduceIte, Nat.reduceAdd, Nat.reduceSub, Nat.reduceMul, Nat.reduceEqDiff, Nat.reduceLeDiff, Nat.reduceLT, Int.reduceLT, Int.reduceLE, Int.reduceEq, Int.reduceNe, Int.reduceToNat, Int.reduceAdd, Int.reduceSub, reduceCtorEq, Nat.reduceBEq, Nat.reduceBNe, lenOf_imm, loopR_exit, loopR_ret, e1, e2, e3, e4, g0, g1, g2, s1, hlt', hml, lc]
    refine frz_at (grow_frz (grow_frame hLv fun j c hj hd => ?_) (rowsSh_pure sh))
    rw [set_other (fun e => d1 (by rw [hd, e]))]; exact hj
theorem made14_ok (ep : Int) (sh : List ShV) (hl : sh.length ≤ 1000000) : Tri Tryz.prog 11 [.agg [.int .i64 ep, .imm (sh.map ShV.cells) false false]] [] fun r _ => r.pure = true ∧ r = .agg [.int .i64 ep, .imm (sh.map ShV.cells) false false] := by
  refine Tri.frozen (Q := AtQ ep sh) (Tri.of_s c11 (noCall_sound _) ?_) (fun r σ hr => ⟨_, hr, by simp only [AV.pure, pureL, rowsSh_pure, Bool.and_self], rfl⟩)
  simp only [Z11, base1, baseE, ↓reduceIte, Nat.reduceAdd, Nat.reduceSub, Nat.reduceMul, Nat.reduceEqDiff, Nat.reduceLeDiff, Nat.reduceLT, Int.reduceLT, Int.reduceLE, Int.reduceEq, Int.reduceNe, Int.reduceToNat, Int.reduceAdd, Int.reduceSub, reduceCtorEq, Nat.reduceBEq, Nat.reduceBNe]
  exact sC_inv (a := b11_10) (ma14I ep sh) sh.length _ _ (.refl _ _ _) ⟨0, .nilslice, Nat.zero_le _, rfl, rfl, rfl, rfl, .inl ⟨rfl, rfl⟩, by simp [LvD], by simp [LvD], by simp [LvD], rfl, rfl, rfl, rfl⟩ (ma14_step ep sh hl)
def made14D (args : List AV) (σ : AHeap) (K : AV → AHeap → Prop) : Prop := ∃ (ep : Int) (sh : List ShV), args = [.agg [.int .i64 ep, .imm (sh.map ShV.cells) false false]] ∧ sh.length ≤ 1000000 ∧ K (.agg [.int .i64 ep, .imm (sh.map ShV.cells) false false]) σ
theorem made14D_eq {ep : Int} {sh : List ShV} {σ : AHeap} {K : AV → AHeap → Prop} : made14D [.agg [.int .i64 ep, .imm (sh.map ShV.cells) false false]] σ K = (sh.length ≤ 1000000 ∧ K (.agg [.int .i64 ep, .imm (sh.map ShV.cells) false false]) σ) := by
  apply propext
  refine ⟨fun ⟨ep', sh', h1, h2, h3⟩ => ?_, fun h => ⟨ep, sh, rfl, h.1, h.2⟩⟩
  simp only [List.cons.injEq, AV.agg.injEq, AV.int.injEq, AV.imm.injEq, true_and, and_true] at h1
  obtain ⟨rfl, h1⟩ := h1
  have := map_inj sh_inj h1
  subst this
  exact ⟨h2, h3⟩
theorem made14D_ok (args : List AV) (σ : AHeap) (K : AV → AHeap → Prop) (h : made14D args σ K) : Tri Tryz.prog 11 args σ K := by
  obtain ⟨ep, sh, rfl, hl, h⟩ := h
  exact (Tri.pureD (by simp only [pureL, AV.pure, rowsSh_pure, Bool.and_self]) (made14_ok ep sh hl) σ).mono fun r σ' hr => by rw [hr.1, hr.2]; exact h
/-! Made. -/
def mkLa (x : RepV) : LaV := ⟨x.seq, x⟩
def made (r : RowV) : NoteV := ⟨r.kind, r.from_, r.to, r.epoch, r.tick, r.ask, r.rep, r.sf, r.st, r.l, r.last.map mkLa, r.aep, r.sh⟩
def nCells (r : RowV) (Lv : AV) (ae : Int) (Sv : AV) : List AV := [.int .i64 r.kind, .int .i64 r.from_, .int .i64 r.to, .int .i64 r.epoch, .int .i64 r.tick, .int .i64 r.ask.do_, .int .i64 r.ask.client, .int .i64 r.ask.seq, .str r.ask.text, .str r.ask.val, .str r.ask.from_, .str r.ask.to, .int .i64 r.ask.limit, .int .i64 r.rep.client, .int .i64 r.rep.seq, .int .i64 r.rep.err, .bool r.rep.found, .str r.rep.val, .imm (recs r.rep.l) false false, .str r.rep.next, .bool r.rep.more, .str r.sf, .str r.st, .imm (r.l.map recC) false false, Lv, .int .i64 ae, Sv]
def MaQ (r : RowV) (x : AV) (σ : AHeap) : Prop := Frz σ x (.agg (made r).cells)
theorem frz_note {σ : AHeap} {r : RowV} {Lv Sv : AV} (h : Frz σ Lv (.imm ((r.last.map mkLa).map LaV.cells) false false)) (k : Frz σ Sv (.imm (r.sh.map ShV.cells) false false)) : Frz σ (.agg (nCells r Lv r.aep Sv)) (.agg (made r).cells) := by
  refine .agg rfl (fun i x y hx hy => ?_)
  have h1 := recs_pure r.rep.l
  have h2 := rowsRec_pure r.l
  match i with
  | 0 | 1 | 2 | 3 | 4 | 5 | 6 | 7 | 8 | 9 | 10 | 11 | 12 | 13 | 14 | 15 | 16 | 17 | 19 | 20 | 21 | 22 | 25 => simp only [nCells, made, NoteV.cells, List.getElem?_cons_zero, List.getElem?_cons_succ, Option.some.injEq] at hx hy; subst hx; subst hy; exact .pure rfl
  | 18 => simp only [nCells, made, NoteV.cells, List.getElem?_cons_zero, List.getElem?_cons_succ, Option.some.injEq] at hx hy; subst hx; subst hy; exact .pure (by simp only [AV.pure, h1])
  | 23 => simp only [nCells, made, NoteV.cells, List.getElem?_cons_zero, List.getElem?_cons_succ, Option.some.injEq] at hx hy; subst hx; subst hy; exact .pure (by simp only [AV.pure, h2])
  | 24 => simp only [nCells, made, NoteV.cells, List.getElem?_cons_zero, List.getElem?_cons_succ, Option.some.injEq] at hx hy; subst hx; subst hy; exact h
  | 26 => simp only [nCells, made, NoteV.cells, List.getElem?_cons_zero, List.getElem?_cons_succ, Option.some.injEq] at hx hy; subst hx; subst hy; exact k
  | n + 27 => simp [nCells] at hx
def T14 : PCall := rowQ 28 madeLD (rowQ 11 made14D noCall)
theorem T14_app {f : FuncId} {args : List AV} {σ : AHeap} {K : AV → AHeap → Prop} : T14 f args σ K = rowQ 28 madeLD (rowQ 11 made14D noCall) f args σ K := _root_.id rfl
theorem T14_sound : Sound Tryz.prog T14 := rowQ_sound madeLD_ok (rowQ_sound made14D_ok (noCall_sound _))
abbrev z27 : List AV := [.int .i64 0, .int .i64 0, .int .i64 0, .int .i64 0, .int .i64 0, .int .i64 0, .int .i64 0, .int .i64 0, .str [], .str [], .str [], .str [], .int .i64 0, .int .i64 0, .int .i64 0, .int .i64 0, .bool false, .str [], .nilslice, .str [], .bool false, .str [], .str [], .nilslice, .nilslice, .int .i64 0, .nilslice]
def ma1I (r : RowV) (n : Nat) (e : Env) (σ : AHeap) : Prop :=
  ∃ (i : Nat) (Lv : AV), i ≤ r.last.length ∧ n = r.last.length - i ∧ hget σ 0 = some r.cells ∧ hget σ 1 = some z27 ∧ hget σ 2 = some (nCells r Lv 0 .nilslice) ∧ Grow σ Lv 9 (((r.last.take i).map mkLa).map LaV.cells) ∧ LvD Lv ≠ some 0 ∧ LvD Lv ≠ some 1 ∧ LvD Lv ≠ some 2 ∧
    e 1 = .ptr 0 0 ∧ e 2 = .ptr 1 0 ∧ e 3 = .ptr 2 0 ∧ e 4 = .int .i64 (i : Int)
theorem ma1_step (r : RowV) (hl : r.last.length ≤ 1000000) (hs : r.sh.length ≤ 1000000) (n : Nat) (e : Env) (σ : AHeap) (h : ma1I r n e σ) :
    sC T14 0 b15_10 (unw T14 0 (loopR T14 0 (RetQ [MRes.cN 2 27] (MaQ r)) (.block 0 (.seq b15_20 .fin)) (ma1I r) n) .fin) e σ := by
  obtain ⟨i, Lv, hi, hn, g0, g1, g2, hLv, d0, d1, d2, e1, e2, e3, e4⟩ := h
  have hml : (r.last.map RepV.cells).length = r.last.length := by simp
  have lc := grow_cell hLv
  simp only [RowV.cells] at g0
  simp only [nCells] at g2
  rcases Nat.lt_or_ge i r.last.length with hlt | hge
  · have hlt' : (i : Int) < (r.last.length : Int) := by omega
    have hge0 : (0 : Int) ≤ (i : Int) := by omega
    obtain ⟨x, hx⟩ : ∃ x, r.last[i]? = some x := ⟨_, List.getElem?_eq_getElem hlt⟩
    have hxx : (r.last.map RepV.cells)[i]? = some [.int .i64 x.client, .int .i64 x.seq, .int .i64 x.err, .bool x.found, .str x.val, .imm (recs x.l) false false, .str x.next, .bool x.more] := by simp [hx, RepV.cells]
    have hw : IntKind.wrap .i64 ((i : Int) + 1) = ((i + 1 : Nat) : Int) := by rw [Gz.wrap64 (by omega)]; omega
    have htk : r.last.take (i + 1) = r.last.take i ++ [x] := by rw [List.take_add_one, hx]; rfl
    have hxc : (mkLa x).cells = [.int .i64 x.seq, .int .i64 x.client, .int .i64 x.seq, .int .i64 x.err, .bool x.found, .str x.val, .imm (recs x.l) false false, .str x.next, .bool x.more] := rfl
    have fk : ∀ j c, hget σ j = some c → hget (hkill (hpush σ (mkLa x).cells) σ.length) j = some c := fun j c hj => Fr1.kill (id := σ.length) j c hj (by have := hget_lt hj; omega)
    have v1 := grow_frame hLv (τ := hkill (hpush σ (mkLa x).cells) σ.length) fun j c hj hd => fk j c hj
    obtain ⟨v, τ, a1, a2, a3, a4, a5⟩ := grow_any (b := 104) (x := .imm [(mkLa x).cells] false false) (ys := [(mkLa x).cells]) (by decide) v1 (by simp; omega) (by simp [elemsOf, hxc]) rfl (by simp [hxc]) rfl
    obtain ⟨q0, u0⟩ := a4 0 _ (fk _ _ g0) d0
    obtain ⟨q1, u1⟩ := a4 1 _ (fk _ _ g1) d1
    obtain ⟨q2, u2⟩ := a4 2 _ (fk _ _ g2) d2
    have p2 : ∀ c : List AV, hget (hpush σ c) 2 = _ := fun c => push_old g2
    have k2 := fk _ _ g2
    rw [hxc] at a1 k2
    simp only [T14_app, Z15, base1, ↓reduceIte, Nat.reduceAdd, Nat.reduceSub, Nat.reduceMul, Nat.reduceEqDiff, Nat.reduceLeDiff, Nat.reduceLT, Int.reduceLT, Int.reduceLE, Int.reduceEq, Int.reduceNe, Int.reduceToNat, Int.reduceAdd, Int.reduceSub, reduceCtorEq, Nat.reduceBEq, Nat.reduceBNe, lenOf_imm, loopR_exit, loopR_ret, e1, e2, e3, e4, g0, g1, g2, p2, hlt', hlt, hge0, hxx, hml, Int.toNat_natCast, push_new']
    refine ⟨σ.length, mkLa x, rfl, push_new', ?_⟩
    rw [hxc]
    simp only [T14_app, Z15, base1, ↓reduceIte, Nat.reduceAdd, Nat.reduceSub, Nat.reduceMul, Nat.reduceEqDiff, Nat.reduceLeDiff, Nat.reduceLT, Int.reduceLT, Int.reduceLE, Int.reduceEq, Int.reduceNe, Int.reduceToNat, Int.reduceAdd, Int.reduceSub, reduceCtorEq, Nat.reduceBEq, Nat.reduceBNe, lenOf_imm, loopR_exit, loopR_ret, e1, e2, e3, e4, k2, q2, a1, a2, a3, hw]
    rw [loopR_normal]
    refine ⟨r.last.length - (i + 1), _, _, by omega, .refl _ _ _, i + 1, v, hlt, rfl, by rw [set_other (by decide)]; exact q0, by rw [set_other (by decide)]; exact q1, set_same q2, ?_, u0, u1, u2, ?_, ?_, ?_, ?_⟩
    · rw [htk]
      refine grow_frame (by simpa using a5) fun j c hj hd => ?_
      rw [set_other (fun e => u2 (by rw [hd, e]))]; exact hj
    all_goals simp only [putD_some, putD_none, Nat.reduceEqDiff, ↓reduceIte, e1, e2, e3, e4, hw]
  · have hlt' : ¬ (i : Int) < (r.last.length : Int) := by omega
    have hie : i = r.last.length := by omega
    subst hie
    rw [List.take_length] at hLv
    have hsl : (r.sh.map ShV.cells).length = r.sh.length := by simp
    have s1 : ∀ c : List AV, hget (hset σ 1 c) 1 = some c := fun c => set_same g1
    have s2 : ∀ c : List AV, hget (hset σ 2 c) 2 = some c := fun c => set_same g2
    have s21 : ∀ c d : List AV, hget (hset (hset σ 2 c) 1 d) 1 = some d := fun c d => set_same (by rw [set_other (by decide)]; exact g1)
    have o1 : ∀ c : List AV, hget (hset σ 2 c) 1 = some z27 := fun c => (set_other (by decide)).trans g1
    have fin1 : ∀ c d : List AV, Grow (hset (hset σ 2 c) 1 d) Lv 9 ((r.last.map mkLa).map LaV.cells) := fun c d => grow_frame hLv fun j c hj hd => by
      rw [set_other (fun e => d1 (by rw [hd, e])), set_other (fun e => d2 (by rw [hd, e]))]; exact hj
    have fin2 : ∀ d : List AV, Grow (hset σ 1 d) Lv 9 ((r.last.map mkLa).map LaV.cells) := fun d => grow_frame hLv fun j c hj hd => by
      rw [set_other (fun e => d1 (by rw [hd, e]))]; exact hj
    have withA : ∀ d c : List AV, MaQ r (.agg (nCells r Lv r.aep (.imm (r.sh.map ShV.cells) false false))) (hset (hset σ 2 c) 1 d) := fun d c => frz_note (grow_frz (fin1 c d) (rowsLa_pure _)) (.pure (by simp only [AV.pure, rowsSh_pure]))
    cases h1 : decide (r.aep ≠ 0) with
    | true =>
      simp only [T14_app, Z15, base1, ↓reduceIte, Nat.reduceAdd, Nat.reduceSub, Nat.reduceMul, Nat.reduceEqDiff, Nat.reduceLeDiff, Nat.reduceLT, Int.reduceLT, Int.reduceLE, Int.reduceEq, Int.reduceNe, Int.reduceToNat, Int.reduceAdd, Int.reduceSub, reduceCtorEq, Nat.reduceBEq, Nat.reduceBNe, lenOf_imm, loopR_exit, loopR_ret, made14D_eq, e1, e2, e3, e4, g0, g1, g2, hlt', hml, hs, s2, o1, s21, h1, lc]
      exact withA _ _
    | false =>
      cases h2 : decide ((0 : Int) < (r.sh.length : Int)) with
      | true =>
        simp only [T14_app, Z15, base1, ↓reduceIte, Nat.reduceAdd, Nat.reduceSub, Nat.reduceMul, Nat.reduceEqDiff, Nat.reduceLeDiff, Nat.reduceLT, Int.reduceLT, Int.reduceLE, Int.reduceEq, Int.reduceNe, Int.reduceToNat, Int.reduceAdd, Int.reduceSub, reduceCtorEq, Nat.reduceBEq, Nat.reduceBNe, lenOf_imm, loopR_exit, loopR_ret, made14D_eq, e1, e2, e3, e4, g0, g1, g2, hlt', hml, hsl, hs, s2, o1, s21, h1, h2, lc]
        exact withA _ _
      | false =>
        have z1 : r.aep = 0 := by simpa using h1
        have z2 : r.sh = [] := by
          have := of_decide_eq_false h2
          exact List.length_eq_zero_iff.1 (by omega)
        simp only [T14_app, Z15, base1, ↓reduceIte, Nat.reduceAdd, Nat.reduceSub, Nat.reduceMul, Nat.reduceEqDiff, Nat.reduceLeDiff, Nat.reduceLT, Int.reduceLT, Int.reduceLE, Int.reduceEq, Int.reduceNe, Int.reduceToNat, Int.reduceAdd, Int.reduceSub, reduceCtorEq, Nat.reduceBEq, Nat.reduceBNe, lenOf_imm, loopR_exit, loopR_ret, e1, e2, e3, e4, g0, g1, g2, hlt', hml, hsl, s1, h1, h2, lc]
        have := frz_note (r := r) (Sv := .nilslice) (grow_frz (fin2 (nCells r Lv 0 .nilslice)) (rowsLa_pure _)) (by rw [z2]; exact .nil)
        rw [z1] at this
        exact this
theorem made_ok (r : RowV) (hl : r.last.length ≤ 1000000) (hs : r.sh.length ≤ 1000000) : Tri Tryz.prog 15 [.agg r.cells] [] fun x _ => x.pure = true ∧ x = .agg (made r).cells := by
  refine Tri.frozen (Q := MaQ r) (Tri.of_s c15 T14_sound ?_) (fun x σ hx => ⟨_, hx, note_pure _, rfl⟩)
  simp only [RowV.cells, T14_app, Z15, base1, baseE, ↓reduceIte, Nat.reduceAdd, Nat.reduceSub, Nat.reduceMul, Nat.reduceEqDiff, Nat.reduceLeDiff, Nat.reduceLT, Int.reduceLT, Int.reduceLE, Int.reduceEq, Int.reduceNe, Int.reduceToNat, Int.reduceAdd, Int.reduceSub, reduceCtorEq, Nat.reduceBEq, Nat.reduceBNe]
  exact sC_inv (a := b15_10) (ma1I r) r.last.length _ _ (.refl _ _ _) ⟨0, .nilslice, Nat.zero_le _, rfl, rfl, rfl, rfl, .inl ⟨rfl, rfl⟩, by simp [LvD], by simp [LvD], by simp [LvD], rfl, rfl, rfl, rfl⟩ (ma1_step r hl hs)
def madeD (args : List AV) (σ : AHeap) (K : AV → AHeap → Prop) : Prop := ∃ r : RowV, args = [.agg r.cells] ∧ r.last.length ≤ 1000000 ∧ r.sh.length ≤ 1000000 ∧ K (.agg (made r).cells) σ
theorem madeD_ok (args : List AV) (σ : AHeap) (K : AV → AHeap → Prop) (h : madeD args σ K) : Tri Tryz.prog 15 args σ K := by
  obtain ⟨r, rfl, hl, hs, h⟩ := h
  exact (Tri.pureD (by simp only [pureL, row_pure, Bool.and_self]) (made_ok r hl hs) σ).mono fun x σ' hx => by rw [hx.1, hx.2]; exact h
end Go.Proofs.YtgaopohogdinhaaGreatDoor.note
