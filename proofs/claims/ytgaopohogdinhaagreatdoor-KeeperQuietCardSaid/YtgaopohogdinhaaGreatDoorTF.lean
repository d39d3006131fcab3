/- A keeper is opened over an empty medium. No condition. -/
import Derived.Test.YtgaopohogdinhaaGreatDoorKpC
import Derived.Test.YtgaopohogdinhaaGreatDoorK34
set_option linter.unusedVariables false
set_option linter.unusedSimpArgs false
namespace Go.Proofs.YtgaopohogdinhaaGreatDoor.keep
open Go.ChangeShapes Go.WideShapes Go.ChangeAt Go.RowKit Go.Gz Go.Proofs.YtgaopohogdinhaaGreatDoor.note
section
variable {C : PCall} {n0 : Nat} {R : MExit → Env → AHeap → Prop} {k : Cont} {e : Env} {σ : AHeap}
abbrev r6_0 : List MOper := [⟨(some 6), .box (.t 1), none⟩,
  ⟨(some 10), .move (.c (.nilptr)), none⟩,
  ⟨(some 11), .move (.c (.int .i64 0)), none⟩]
def b6_0 : SCode := .region r6_0
abbrev r6_1 : List MOper := [⟨(some 14), .move (.t 0), none⟩,
  ⟨(some 15), .bin .lss .num (.t 14) (.c (.int .i64 1)), none⟩,
  ⟨(some 16), .move (.t 15), none⟩,
  ⟨(some 17), .move (.t 0), (some (16, false))⟩,
  ⟨(some 18), .bin .gtr .num (.t 17) (.c (.int .i64 5)), (some (16, false))⟩,
  ⟨(some 19), .pick (.t 16) (.c (.bool true)) (.t 18), none⟩,
  ⟨(some 20), .move (.t 19), none⟩,
  ⟨(some 21), .move (.t 4), (some (20, false))⟩,
  ⟨(some 22), .bin .lss .num (.t 21) (.c (.int .i64 1)), (some (20, false))⟩,
  ⟨(some 23), .pick (.t 20) (.c (.bool true)) (.t 22), none⟩,
  ⟨(some 24), .move (.t 23), none⟩,
  ⟨(some 25), .move (.t 4), (some (24, false))⟩,
  ⟨(some 26), .bin .gtr .num (.t 25) (.c (.int .i64 1099511627776)), (some (24, false))⟩,
  ⟨(some 27), .pick (.t 24) (.c (.bool true)) (.t 26), none⟩]
def b6_1 : SCode := .region r6_1
abbrev r6_2 : List MOper := [⟨(some 10), .move (.c (.nilptr)), none⟩,
  ⟨(some 11), .move (.c (.int .i64 1)), none⟩]
def b6_2 : SCode := .region r6_2
def b6_3 : SCode := .seq b6_2 .ret
def b6_4 : SCode := .cond (.t 27) b6_3 .skip
def b6_5 : SCode := .seq b6_1 b6_4
abbrev r6_6 : List MOper := [⟨(some 29), .loadN 4 (.t 6), none⟩,
  ⟨(some 30), .move (.t 2), none⟩,
  ⟨(some 31), .move (.t 3), none⟩,
  ⟨(some 32), .call 18 [(.t 29), (.t 30), (.t 31)], none⟩,
  ⟨(some 28), .move (.t 32), none⟩,
  ⟨(some 33), .extract (.t 28) 0, none⟩,
  ⟨(some 34), .extract (.t 28) 1, none⟩,
  ⟨(some 12), .move (.t 33), none⟩,
  ⟨(some 13), .move (.t 34), none⟩]
def b6_6 : SCode := .region r6_6
abbrev r6_7 : List MOper := [⟨(some 35), .move (.t 13), none⟩,
  ⟨(some 36), .bin .neq .num (.t 35) (.c (.int .i64 0)), none⟩]
def b6_7 : SCode := .region r6_7
abbrev r6_8 : List MOper := [⟨(some 37), .move (.t 13), none⟩,
  ⟨(some 10), .move (.c (.nilptr)), none⟩,
  ⟨(some 11), .move (.t 37), none⟩]
def b6_8 : SCode := .region r6_8
def b6_9 : SCode := .seq b6_8 .ret
def b6_10 : SCode := .cond (.t 36) b6_9 .skip
def b6_11 : SCode := .seq b6_7 b6_10
abbrev r6_12 : List MOper := [⟨(some 38), .move (.t 0), none⟩,
  ⟨(some 39), .move (.t 12), none⟩,
  ⟨(some 40), .move (.t 4), none⟩,
  ⟨(some 41), .build [.int .i64 0, .nilptr, .int .i64 0, .int .i64 0, .int .i64 0, .int .i64 0, .int .i64 0] [(0, 1, (.t 38)), (1, 1, (.t 39)), (3, 1, (.t 40))], none⟩,
  ⟨(some 42), .box (.t 41), none⟩,
  ⟨(some 10), .move (.t 42), none⟩,
  ⟨(some 11), .move (.c (.int .i64 0)), none⟩]
def b6_12 : SCode := .region r6_12
def b6_13 : SCode := .seq b6_12 .ret
def b6_14 : SCode := .seq b6_11 b6_13
def b6_15 : SCode := .seq b6_6 b6_14
def b6_16 : SCode := .seq b6_5 b6_15
def b6_17 : SCode := .seq b6_0 b6_16
def s6 : SFunc := ⟨43, [.t 10, .t 11], b6_17⟩
theorem c6 : sFn Tryz.prog 6 = some s6 := by kernel_rfl
theorem Z6 : XR b6_0 r6_0 ∧ XR b6_1 r6_1 ∧ XR b6_2 r6_2 ∧ XS b6_3 b6_2 .ret ∧ XC b6_4 (.t 27) b6_3 .skip ∧ XS b6_5 b6_1 b6_4 ∧ XR b6_6 r6_6 ∧ XR b6_7 r6_7 ∧ XR b6_8 r6_8 ∧ XS b6_9 b6_8 .ret ∧ XC b6_10 (.t 36) b6_9 .skip ∧ XS b6_11 b6_7 b6_10 ∧ XR b6_12 r6_12 ∧ XS b6_13 b6_12 .ret ∧ XS b6_14 b6_11 b6_13 ∧ XS b6_15 b6_6 b6_14 ∧ XS b6_16 b6_5 b6_15 ∧ XS b6_17 b6_0 b6_16 ∧ XY s6 43 b6_17 [.t 10, .t 11] := ⟨rfl, rfl, rfl, rfl, sC_cond, rfl, rfl, rfl, rfl, rfl, sC_cond, rfl, rfl, rfl, rfl, rfl, rfl, rfl, rfl⟩
abbrev r8_0 : List MOper := [⟨(some 0), .move (.c (.nilptr)), none⟩]
def b8_0 : SCode := .region r8_0
abbrev r8_1 : List MOper := [⟨(some 1), .build [.nilslice, .int .i64 0] [], none⟩,
  ⟨(some 2), .box (.t 1), none⟩,
  ⟨(some 0), .move (.t 2), none⟩]
def b8_1 : SCode := .region r8_1
def b8_2 : SCode := .seq b8_1 .ret
def b8_3 : SCode := .seq b8_0 b8_2
def s8 : SFunc := ⟨3, [.t 0], b8_3⟩
theorem c8 : sFn Tryz.prog 8 = some s8 := by kernel_rfl
theorem Z8 : XR b8_0 r8_0 ∧ XR b8_1 r8_1 ∧ XS b8_2 b8_1 .ret ∧ XS b8_3 b8_0 b8_2 ∧ XY s8 3 b8_3 [.t 0] := ⟨rfl, rfl, rfl, rfl, rfl⟩
abbrev r18_0 : List MOper := [⟨(some 3), .box (.t 0), none⟩,
  ⟨(some 6), .move (.c (.nilptr)), none⟩,
  ⟨(some 7), .move (.c (.int .i64 0)), none⟩]
def b18_0 : SCode := .region r18_0
abbrev r18_1 : List MOper := [⟨(some 18), .loadN 4 (.t 3), none⟩,
  ⟨(some 19), .call 36 [(.t 18)], none⟩,
  ⟨(some 20), .un .not (.t 19), none⟩,
  ⟨(some 17), .move (.t 20), none⟩]
def b18_1 : SCode := .region r18_1
abbrev r18_2 : List MOper := [⟨(some 6), .move (.c (.nilptr)), none⟩,
  ⟨(some 7), .move (.c (.int .i64 4)), none⟩]
def b18_2 : SCode := .region r18_2
def b18_3 : SCode := .seq b18_2 .ret
abbrev r18_4 : List MOper := [⟨(some 22), .move (.t 1), none⟩,
  ⟨(some 23), .bin .eql .nilp (.t 22) (.c (.nilptr)), none⟩,
  ⟨(some 24), .move (.t 23), none⟩,
  ⟨(some 25), .move (.t 2), (some (24, false))⟩,
  ⟨(some 26), .bin .lss .num (.t 25) (.c (.int .i64 1)), (some (24, false))⟩,
  ⟨(some 27), .pick (.t 24) (.c (.bool true)) (.t 26), none⟩,
  ⟨(some 28), .move (.t 27), none⟩,
  ⟨(some 29), .move (.t 2), (some (28, false))⟩,
  ⟨(some 30), .bin .gtr .num (.t 29) (.c (.int .i64 16)), (some (28, false))⟩,
  ⟨(some 31), .pick (.t 28) (.c (.bool true)) (.t 30), none⟩,
  ⟨(some 21), .move (.t 31), none⟩]
def b18_4 : SCode := .region r18_4
abbrev r18_5 : List MOper := [⟨(some 6), .move (.c (.nilptr)), none⟩,
  ⟨(some 7), .move (.c (.int .i64 1)), none⟩]
def b18_5 : SCode := .region r18_5
def b18_6 : SCode := .seq b18_5 .ret
def b18_7 : SCode := .cond (.t 21) b18_6 .skip
def b18_8 : SCode := .seq b18_4 b18_7
def b18_9 : SCode := .cond (.t 17) b18_3 b18_8
def b18_10 : SCode := .seq b18_1 b18_9
def b18_11 : SCode := .block 0 b18_10
abbrev r18_12 : List MOper := [⟨(some 32), .loadN 4 (.t 3), none⟩,
  ⟨(some 33), .move (.t 1), none⟩,
  ⟨(some 34), .move (.t 2), none⟩,
  ⟨(some 35), .build [.nilslice, .nilslice, .int .i64 0, .bool false, .nilptr, .int .i64 0, .nilslice, .int .i64 0] [(0, 4, (.t 32)), (4, 1, (.t 33)), (5, 1, (.t 34))], none⟩,
  ⟨(some 36), .box (.t 35), none⟩,
  ⟨(some 8), .move (.t 36), none⟩]
def b18_12 : SCode := .region r18_12
abbrev r18_13 : List MOper := [⟨(some 37), .move (.t 8), none⟩,
  ⟨(some 38), .build [.nilptr, .nilslice, .str [], .str [], .int .i64 0, .nilslice, .nilslice] [(0, 1, (.t 37))], none⟩,
  ⟨(some 39), .box (.t 38), none⟩,
  ⟨(some 9), .move (.t 39), none⟩]
def b18_13 : SCode := .region r18_13
abbrev r18_14 : List MOper := [⟨(some 41), .move (.t 1), none⟩,
  ⟨(some 42), .call 37 [(.t 41)], none⟩,
  ⟨(some 40), .move (.t 42), none⟩,
  ⟨(some 43), .extract (.t 40) 0, none⟩,
  ⟨(some 44), .extract (.t 40) 1, none⟩,
  ⟨(some 10), .move (.t 43), none⟩,
  ⟨(some 11), .move (.t 44), none⟩]
def b18_14 : SCode := .region r18_14
abbrev r18_15 : List MOper := [⟨(some 12), .move (.c (.int .i64 0)), none⟩]
def b18_15 : SCode := .region r18_15
abbrev r18_16 : List MOper := [⟨(some 45), .move (.t 10), none⟩,
  ⟨(some 46), .lenSl (.t 45), none⟩,
  ⟨(some 47), .move (.c (.int .i64 0)), none⟩]
def b18_16 : SCode := .region r18_16
abbrev r18_17 : List MOper := [⟨(some 48), .bin .lss .num (.t 47) (.t 46), none⟩]
def b18_17 : SCode := .region r18_17
def b18_18 : SCode := .cond (.t 48) .skip (.exit 1)
abbrev r18_19 : List MOper := [⟨(some 49), .move (.t 47), none⟩,
  ⟨(some 50), .indexAddr 14 (.t 45) (.t 47), none⟩,
  ⟨(some 51), .loadN 14 (.t 50), none⟩,
  ⟨(some 14), .alloc [.int .i64 0, .int .i64 0, .int .i64 0, .int .i64 0, .str [], .str [], .str [], .str [], .int .i64 0, .int .i64 0, .str [], .str [], .int .i64 0, .nilslice], none⟩,
  ⟨(some 13), .move (.t 49), none⟩,
  ⟨none, .store 14 (.t 14) (.t 51), none⟩]
def b18_19 : SCode := .region r18_19
abbrev r18_20 : List MOper := [⟨(some 53), .move (.t 9), none⟩,
  ⟨(some 54), .loadN 14 (.t 14), none⟩,
  ⟨(some 55), .call 38 [(.t 53), (.t 54)], none⟩,
  ⟨(some 52), .move (.t 55), none⟩,
  ⟨(some 56), .extract (.t 52) 0, none⟩,
  ⟨(some 57), .extract (.t 52) 1, none⟩,
  ⟨(some 15), .move (.t 56), none⟩,
  ⟨(some 16), .move (.t 57), none⟩]
def b18_20 : SCode := .region r18_20
abbrev r18_21 : List MOper := [⟨(some 58), .move (.t 16), none⟩,
  ⟨(some 59), .un .not (.t 58), none⟩]
def b18_21 : SCode := .region r18_21
def b18_22 : SCode := .cond (.t 59) (.exit 1) .skip
def b18_23 : SCode := .seq b18_21 b18_22
abbrev r18_24 : List MOper := [⟨(some 60), .move (.t 15), none⟩]
def b18_24 : SCode := .region r18_24
abbrev r18_25 : List MOper := [⟨(some 61), .move (.t 13), none⟩,
  ⟨(some 62), .bin .add .num (.t 61) (.c (.int .i64 1)), none⟩,
  ⟨(some 12), .move (.t 62), none⟩]
def b18_25 : SCode := .region r18_25
def b18_26 : SCode := .cond (.t 60) b18_25 .skip
def b18_27 : SCode := .seq b18_24 b18_26
def b18_28 : SCode := .seq b18_23 b18_27
def b18_29 : SCode := .seq b18_20 b18_28
def b18_30 : SCode := .seq b18_19 b18_29
def b18_31 : SCode := .block 2 b18_30
abbrev r18_32 : List MOper := [⟨(some 63), .bin .add .num (.t 47) (.c (.int .i64 1)), none⟩,
  ⟨(some 47), .move (.t 63), none⟩]
def b18_32 : SCode := .region r18_32
def b18_33 : SCode := .seq b18_31 b18_32
def b18_34 : SCode := .seq b18_18 b18_33
def b18_35 : SCode := .seq b18_17 b18_34
def b18_36 : SCode := .loop b18_35
def b18_37 : SCode := .block 1 b18_36
def b18_38 : SCode := .seq b18_16 b18_37
abbrev r18_39 : List MOper := [⟨(some 64), .move (.t 12), none⟩,
  ⟨(some 65), .move (.t 10), none⟩,
  ⟨(some 66), .lenSl (.t 65), none⟩,
  ⟨(some 67), .bin .lss .num (.t 64) (.t 66), none⟩]
def b18_39 : SCode := .region r18_39
abbrev r18_40 : List MOper := [⟨(some 68), .move (.t 1), none⟩,
  ⟨(some 69), .call 39 [(.t 68), (.c (.nilslice))], none⟩]
def b18_40 : SCode := .region r18_40
abbrev r18_41 : List MOper := [⟨(some 70), .move (.t 8), none⟩,
  ⟨(some 71), .move (.t 10), none⟩,
  ⟨(some 72), .move (.t 12), none⟩,
  ⟨(some 73), .slice 14 (.t 71) none (some (.t 72)) none, none⟩,
  ⟨(some 74), .call 40 [(.t 70), (.t 73)], none⟩]
def b18_41 : SCode := .region r18_41
def b18_42 : SCode := .seq b18_40 b18_41
def b18_43 : SCode := .cond (.t 67) b18_42 .skip
def b18_44 : SCode := .seq b18_39 b18_43
abbrev r18_45 : List MOper := [⟨(some 75), .move (.t 8), none⟩,
  ⟨(some 6), .move (.t 75), none⟩,
  ⟨(some 7), .move (.c (.int .i64 0)), none⟩]
def b18_45 : SCode := .region r18_45
def b18_46 : SCode := .seq b18_45 .ret
def b18_47 : SCode := .seq b18_44 b18_46
def b18_48 : SCode := .seq b18_38 b18_47
def b18_49 : SCode := .seq b18_15 b18_48
def b18_50 : SCode := .seq b18_14 b18_49
def b18_51 : SCode := .seq b18_13 b18_50
def b18_52 : SCode := .seq b18_12 b18_51
def b18_53 : SCode := .seq b18_11 b18_52
def b18_54 : SCode := .seq b18_0 b18_53
def s18 : SFunc := ⟨76, [.t 6, .t 7], b18_54⟩
theorem c18 : sFn Tryz.prog 18 = some s18 := by kernel_rfl
theorem Z18 : XR b18_0 r18_0 ∧ XR b18_1 r18_1 ∧ XR b18_2 r18_2 ∧ XS b18_3 b18_2 .ret ∧ XR b18_4 r18_4 ∧ XR b18_5 r18_5 ∧ XS b18_6 b18_5 .ret ∧ XC b18_7 (.t 21) b18_6 .skip ∧ XS b18_8 b18_4 b18_7 ∧ XC b18_9 (.t 17) b18_3 b18_8 ∧ XS b18_10 b18_1 b18_9 ∧ XB b18_11 0 b18_10 ∧ XR b18_12 r18_12 ∧ XR b18_13 r18_13 ∧ XR b18_14 r18_14 ∧ XR b18_15 r18_15 ∧ XR b18_16 r18_16 ∧ XR b18_17 r18_17 ∧ XC b18_18 (.t 48) .skip (.exit 1) ∧ XR b18_19 r18_19 ∧ XR b18_20 r18_20 ∧ XR b18_21 r18_21 ∧ XC b18_22 (.t 59) (.exit 1) .skip ∧ XS b18_23 b18_21 b18_22 ∧ XR b18_24 r18_24 ∧ XR b18_25 r18_25 ∧ XC b18_26 (.t 60) b18_25 .skip ∧ XS b18_27 b18_24 b18_26 ∧ XS b18_28 b18_23 b18_27 ∧ XS b18_29 b18_20 b18_28 ∧ XS b18_30 b18_19 b18_29 ∧ XB b18_31 2 b18_30 ∧ XR b18_32 r18_32 ∧ XS b18_33 b18_31 b18_32 ∧ XS b18_34 b18_18 b18_33 ∧ XS b18_35 b18_17 b18_34 ∧ XB b18_37 1 b18_36 ∧ XS b18_38 b18_16 b18_37 ∧ XR b18_39 r18_39 ∧ XR b18_40 r18_40 ∧ XR b18_41 r18_41 ∧ XS b18_42 b18_40 b18_41 ∧ XC b18_43 (.t 67) b18_42 .skip ∧ XS b18_44 b18_39 b18_43 ∧ XR b18_45 r18_45 ∧ XS b18_46 b18_45 .ret ∧ XS b18_47 b18_44 b18_46 ∧ XS b18_48 b18_38 b18_47 ∧ XS b18_49 b18_15 b18_48 ∧ XS b18_50 b18_14 b18_49 ∧ XS b18_51 b18_13 b18_50 ∧ XS b18_52 b18_12 b18_51 ∧ XS b18_53 b18_11 b18_52 ∧ XS b18_54 b18_0 b18_53 ∧ XY s18 76 b18_54 [.t 6, .t 7] := ⟨rfl, rfl, rfl, rfl, rfl, rfl, rfl, sC_cond, rfl, sC_cond, rfl, rfl, rfl, rfl, rfl, rfl, rfl, rfl, sC_cond, rfl, rfl, rfl, sC_cond, rfl, rfl, rfl, sC_cond, rfl, rfl, rfl, rfl, rfl, rfl, rfl, rfl, rfl, rfl, rfl, rfl, rfl, rfl, rfl, sC_cond, rfl, rfl, rfl, rfl, rfl, rfl, rfl, rfl, rfl, rfl, rfl, rfl⟩
abbrev r37_0 : List MOper := [⟨(some 2), .move (.c (.nilslice)), none⟩,
  ⟨(some 3), .move (.c (.int .i64 0)), none⟩]
def b37_0 : SCode := .region r37_0
abbrev r37_1 : List MOper := [⟨(some 12), .move (.t 0), none⟩,
  ⟨(some 13), .bin .eql .nilp (.t 12) (.c (.nilptr)), none⟩]
def b37_1 : SCode := .region r37_1
abbrev r37_2 : List MOper := [⟨(some 2), .move (.c (.nilslice)), none⟩,
  ⟨(some 3), .move (.c (.int .i64 0)), none⟩]
def b37_2 : SCode := .region r37_2
def b37_3 : SCode := .seq b37_2 .ret
def b37_4 : SCode := .cond (.t 13) b37_3 .skip
def b37_5 : SCode := .seq b37_1 b37_4
abbrev r37_6 : List MOper := [⟨(some 14), .move (.t 0), none⟩,
  ⟨(some 15), .call 65 [(.t 14)], none⟩,
  ⟨(some 4), .move (.t 15), none⟩]
def b37_6 : SCode := .region r37_6
abbrev r37_7 : List MOper := [⟨(some 5), .move (.c (.nilslice)), none⟩]
def b37_7 : SCode := .region r37_7
abbrev r37_8 : List MOper := [⟨(some 6), .move (.c (.int .i64 0)), none⟩]
def b37_8 : SCode := .region r37_8
abbrev r37_9 : List MOper := [⟨(some 17), .move (.t 4), none⟩,
  ⟨(some 18), .move (.t 6), none⟩,
  ⟨(some 19), .slice 1 (.t 17) (some (.t 18)) none none, none⟩,
  ⟨(some 20), .call 66 [(.t 19)], none⟩,
  ⟨(some 16), .move (.t 20), none⟩,
  ⟨(some 21), .extract (.t 16) 0, none⟩,
  ⟨(some 22), .extract (.t 16) 1, none⟩,
  ⟨(some 23), .extract (.t 16) 2, none⟩,
  ⟨(some 24), .extract (.t 16) 3, none⟩,
  ⟨(some 7), .move (.t 21), none⟩,
  ⟨(some 8), .move (.t 22), none⟩,
  ⟨(some 9), .move (.t 23), none⟩,
  ⟨(some 10), .move (.t 24), none⟩]
def b37_9 : SCode := .region r37_9
abbrev r37_10 : List MOper := [⟨(some 25), .move (.t 10), none⟩,
  ⟨(some 26), .bin .neq .num (.t 25) (.c (.int .i64 0)), none⟩,
  ⟨(some 27), .move (.t 26), none⟩,
  ⟨(some 28), .move (.t 7), (some (27, false))⟩,
  ⟨(some 29), .bin .neq .num (.t 28) (.c (.int .u8 7)), (some (27, false))⟩,
  ⟨(some 30), .pick (.t 27) (.c (.bool true)) (.t 29), none⟩]
def b37_10 : SCode := .region r37_10
def b37_11 : SCode := .cond (.t 30) (.exit 0) .skip
def b37_12 : SCode := .seq b37_10 b37_11
abbrev r37_13 : List MOper := [⟨(some 32), .move (.t 8), none⟩,
  ⟨(some 33), .call 67 [(.t 32)], none⟩,
  ⟨(some 31), .move (.t 33), none⟩,
  ⟨(some 34), .extract (.t 31) 0, none⟩,
  ⟨(some 35), .extract (.t 31) 1, none⟩,
  ⟨(some 11), .alloc [.int .i64 0, .int .i64 0, .int .i64 0, .int .i64 0, .str [], .str [], .str [], .str [], .int .i64 0, .int .i64 0, .str [], .str [], .int .i64 0, .nilslice], none⟩,
  ⟨none, .store 14 (.t 11) (.t 34), none⟩,
  ⟨(some 10), .move (.t 35), none⟩]
def b37_13 : SCode := .region r37_13
abbrev r37_14 : List MOper := [⟨(some 36), .move (.t 10), none⟩,
  ⟨(some 37), .bin .neq .num (.t 36) (.c (.int .i64 0)), none⟩]
def b37_14 : SCode := .region r37_14
def b37_15 : SCode := .cond (.t 37) (.exit 0) .skip
def b37_16 : SCode := .seq b37_14 b37_15
abbrev r37_17 : List MOper := [⟨(some 38), .move (.t 5), none⟩,
  ⟨(some 39), .loadN 14 (.t 11), none⟩,
  ⟨(some 40), .buildSlice [.int .i64 0, .int .i64 0, .int .i64 0, .int .i64 0, .str [], .str [], .str [], .str [], .int .i64 0, .int .i64 0, .str [], .str [], .int .i64 0, .nilslice] 14 1 [(0, 14, (.t 39))], none⟩,
  ⟨(some 41), .append 14 176 (.t 38) (.t 40), none⟩,
  ⟨(some 5), .move (.t 41), none⟩]
def b37_17 : SCode := .region r37_17
abbrev r37_18 : List MOper := [⟨(some 42), .move (.t 6), none⟩,
  ⟨(some 43), .move (.t 9), none⟩,
  ⟨(some 44), .bin .add .num (.t 42) (.t 43), none⟩,
  ⟨(some 6), .move (.t 44), none⟩]
def b37_18 : SCode := .region r37_18
def b37_19 : SCode := .seq b37_17 b37_18
def b37_20 : SCode := .seq b37_16 b37_19
def b37_21 : SCode := .seq b37_13 b37_20
def b37_22 : SCode := .seq b37_12 b37_21
def b37_23 : SCode := .seq b37_9 b37_22
def b37_24 : SCode := .block 1 b37_23
def b37_25 : SCode := .loop b37_24
def b37_26 : SCode := .block 0 b37_25
abbrev r37_27 : List MOper := [⟨(some 45), .move (.t 0), none⟩,
  ⟨(some 46), .move (.t 4), none⟩,
  ⟨(some 47), .move (.t 6), none⟩,
  ⟨(some 48), .slice 1 (.t 46) none (some (.t 47)) none, none⟩,
  ⟨(some 49), .call 39 [(.t 45), (.t 48)], none⟩]
def b37_27 : SCode := .region r37_27
abbrev r37_28 : List MOper := [⟨(some 50), .move (.t 5), none⟩,
  ⟨(some 51), .move (.t 4), none⟩,
  ⟨(some 52), .lenSl (.t 51), none⟩,
  ⟨(some 53), .move (.t 6), none⟩,
  ⟨(some 54), .bin .sub .num (.t 52) (.t 53), none⟩,
  ⟨(some 2), .move (.t 50), none⟩,
  ⟨(some 3), .move (.t 54), none⟩]
def b37_28 : SCode := .region r37_28
def b37_29 : SCode := .seq b37_28 .ret
def b37_30 : SCode := .seq b37_27 b37_29
def b37_31 : SCode := .seq b37_26 b37_30
def b37_32 : SCode := .seq b37_8 b37_31
def b37_33 : SCode := .seq b37_7 b37_32
def b37_34 : SCode := .seq b37_6 b37_33
def b37_35 : SCode := .seq b37_5 b37_34
def b37_36 : SCode := .seq b37_0 b37_35
def s37 : SFunc := ⟨55, [.t 2, .t 3], b37_36⟩
theorem c37 : sFn Tryz.prog 37 = some s37 := by kernel_rfl
theorem Z37 : XR b37_0 r37_0 ∧ XR b37_1 r37_1 ∧ XR b37_2 r37_2 ∧ XS b37_3 b37_2 .ret ∧ XC b37_4 (.t 13) b37_3 .skip ∧ XS b37_5 b37_1 b37_4 ∧ XR b37_6 r37_6 ∧ XR b37_7 r37_7 ∧ XR b37_8 r37_8 ∧ XR b37_9 r37_9 ∧ XR b37_10 r37_10 ∧ XC b37_11 (.t 30) (.exit 0) .skip ∧ XS b37_12 b37_10 b37_11 ∧ XR b37_13 r37_13 ∧ XR b37_14 r37_14 ∧ XC b37_15 (.t 37) (.exit 0) .skip ∧ XS b37_16 b37_14 b37_15 ∧ XR b37_17 r37_17 ∧ XR b37_18 r37_18 ∧ XS b37_19 b37_17 b37_18 ∧ XS b37_20 b37_16 b37_19 ∧ XS b37_21 b37_13 b37_20 ∧ XS b37_22 b37_12 b37_21 ∧ XS b37_23 b37_9 b37_22 ∧ XB b37_24 1 b37_23 ∧ XB b37_26 0 b37_25 ∧ XR b37_27 r37_27 ∧ XR b37_28 r37_28 ∧ XS b37_29 b37_28 .ret ∧ XS b37_30 b37_27 b37_29 ∧ XS b37_31 b37_26 b37_30 ∧ XS b37_32 b37_8 b37_31 ∧ XS b37_33 b37_7 b37_32 ∧ XS b37_34 b37_6 b37_33 ∧ XS b37_35 b37_5 b37_34 ∧ XS b37_36 b37_0 b37_35 ∧ XY s37 55 b37_36 [.t 2, .t 3] := ⟨rfl, rfl, rfl, rfl, sC_cond, rfl, rfl, rfl, rfl, rfl, rfl, sC_cond, rfl, rfl, rfl, sC_cond, rfl, rfl, rfl, rfl, rfl, rfl, rfl, rfl, rfl, rfl, rfl, rfl, rfl, rfl, rfl, rfl, rfl, rfl, rfl, rfl, rfl⟩
abbrev r39_0 : List MOper := [⟨(some 4), .move (.t 0), none⟩,
  ⟨(some 5), .bin .neq .nilp (.t 4) (.c (.nilptr)), none⟩]
def b39_0 : SCode := .region r39_0
abbrev r39_1 : List MOper := [⟨(some 6), .move (.t 0), none⟩,
  ⟨(some 7), .move (.t 0), none⟩,
  ⟨(some 8), .move (.t 1), none⟩,
  ⟨(some 9), .call 71 [(.t 8)], none⟩,
  ⟨(some 10), .move (.t 1), none⟩,
  ⟨(some 11), .lenSl (.t 10), none⟩,
  ⟨(some 12), .nilCheck (.t 6), none⟩,
  ⟨(some 13), .fieldAddr 0 (.t 12), none⟩,
  ⟨none, .store 1 (.t 13) (.t 9), none⟩,
  ⟨(some 14), .nilCheck (.t 7), none⟩,
  ⟨(some 15), .fieldAddr 1 (.t 14), none⟩,
  ⟨none, .store 1 (.t 15) (.t 11), none⟩]
def b39_1 : SCode := .region r39_1
def b39_2 : SCode := .cond (.t 5) b39_1 .skip
def b39_3 : SCode := .seq b39_0 b39_2
def s39 : SFunc := ⟨16, [], b39_3⟩
theorem c39 : sFn Tryz.prog 39 = some s39 := by kernel_rfl
theorem Z39 : XR b39_0 r39_0 ∧ XR b39_1 r39_1 ∧ XC b39_2 (.t 5) b39_1 .skip ∧ XS b39_3 b39_0 b39_2 ∧ XY s39 16 b39_3 [] := ⟨rfl, rfl, sC_cond, rfl, rfl⟩
abbrev r65_0 : List MOper := [⟨(some 2), .move (.c (.nilslice)), none⟩]
def b65_0 : SCode := .region r65_0
abbrev r65_1 : List MOper := [⟨(some 3), .move (.t 0), none⟩,
  ⟨(some 4), .bin .eql .nilp (.t 3) (.c (.nilptr)), none⟩]
def b65_1 : SCode := .region r65_1
abbrev r65_2 : List MOper := [⟨(some 2), .move (.c (.nilslice)), none⟩]
def b65_2 : SCode := .region r65_2
def b65_3 : SCode := .seq b65_2 .ret
def b65_4 : SCode := .cond (.t 4) b65_3 .skip
def b65_5 : SCode := .seq b65_1 b65_4
abbrev r65_6 : List MOper := [⟨(some 5), .move (.t 0), none⟩,
  ⟨(some 6), .nilCheck (.t 5), none⟩,
  ⟨(some 7), .fieldAddr 0 (.t 6), none⟩,
  ⟨(some 8), .load1 (.t 7), none⟩,
  ⟨(some 9), .call 71 [(.t 8)], none⟩,
  ⟨(some 2), .move (.t 9), none⟩]
def b65_6 : SCode := .region r65_6
def b65_7 : SCode := .seq b65_6 .ret
def b65_8 : SCode := .seq b65_5 b65_7
def b65_9 : SCode := .seq b65_0 b65_8
def s65 : SFunc := ⟨10, [.t 2], b65_9⟩
theorem c65 : sFn Tryz.prog 65 = some s65 := by kernel_rfl
theorem Z65 : XR b65_0 r65_0 ∧ XR b65_1 r65_1 ∧ XR b65_2 r65_2 ∧ XS b65_3 b65_2 .ret ∧ XC b65_4 (.t 4) b65_3 .skip ∧ XS b65_5 b65_1 b65_4 ∧ XR b65_6 r65_6 ∧ XS b65_7 b65_6 .ret ∧ XS b65_8 b65_5 b65_7 ∧ XS b65_9 b65_0 b65_8 ∧ XY s65 10 b65_9 [.t 2] := ⟨rfl, rfl, rfl, rfl, sC_cond, rfl, rfl, rfl, rfl, rfl, rfl⟩
abbrev r66_0 : List MOper := [⟨(some 2), .move (.c (.int .u8 0)), none⟩,
  ⟨(some 3), .move (.c (.nilslice)), none⟩,
  ⟨(some 4), .move (.c (.int .i64 0)), none⟩,
  ⟨(some 5), .move (.c (.int .i64 0)), none⟩]
def b66_0 : SCode := .region r66_0
abbrev r66_1 : List MOper := [⟨(some 9), .move (.t 0), none⟩,
  ⟨(some 10), .lenSl (.t 9), none⟩,
  ⟨(some 11), .bin .lss .num (.t 10) (.c (.int .i64 7)), none⟩]
def b66_1 : SCode := .region r66_1
abbrev r66_2 : List MOper := [⟨(some 2), .move (.c (.int .u8 0)), none⟩,
  ⟨(some 3), .move (.c (.nilslice)), none⟩,
  ⟨(some 4), .move (.c (.int .i64 0)), none⟩,
  ⟨(some 5), .move (.c (.int .i64 7)), none⟩]
def b66_2 : SCode := .region r66_2
def b66_3 : SCode := .seq b66_2 .ret
def b66_4 : SCode := .cond (.t 11) b66_3 .skip
def b66_5 : SCode := .seq b66_1 b66_4
abbrev t66_6 : LTree := (.quiet ⟨(some 12), .move (.t 0), none⟩ 0
  (.quiet ⟨(some 13), .indexAddr 1 (.t 12) (.c (.int .i64 0)), none⟩ 1
  (.quiet ⟨(some 14), .load1 (.t 13), none⟩ 2
  (.quiet ⟨(some 15), .convInt .i64 (.t 14), none⟩ 3
  (.quiet ⟨(some 16), .bin .shl .num (.t 15) (.c (.int .u64 8)), none⟩ 4
  (.quiet ⟨(some 17), .move (.t 0), none⟩ 5
  (.quiet ⟨(some 18), .indexAddr 1 (.t 17) (.c (.int .i64 1)), none⟩ 6
  (.quiet ⟨(some 19), .load1 (.t 18), none⟩ 7
  (.quiet ⟨(some 20), .convInt .i64 (.t 19), none⟩ 8
  (.quiet ⟨(some 21), .bin .or .num (.t 16) (.t 20), none⟩ 9
  (.quiet ⟨(some 6), .move (.t 21), none⟩ 10
  .leaf)))))))))))
def b66_6 : SCode := .draw t66_6
abbrev r66_7 : List MOper := [⟨(some 23), .move (.t 6), none⟩,
  ⟨(some 24), .bin .gtr .num (.t 23) (.c (.int .i64 32768)), none⟩,
  ⟨(some 22), .move (.t 24), none⟩]
def b66_7 : SCode := .region r66_7
abbrev r66_8 : List MOper := [⟨(some 2), .move (.c (.int .u8 0)), none⟩,
  ⟨(some 3), .move (.c (.nilslice)), none⟩,
  ⟨(some 4), .move (.c (.int .i64 0)), none⟩,
  ⟨(some 5), .move (.c (.int .i64 3)), none⟩]
def b66_8 : SCode := .region r66_8
def b66_9 : SCode := .seq b66_8 .ret
abbrev r66_10 : List MOper := [⟨(some 26), .move (.t 0), none⟩,
  ⟨(some 27), .lenSl (.t 26), none⟩,
  ⟨(some 28), .move (.t 6), none⟩,
  ⟨(some 29), .bin .add .num (.c (.int .i64 7)) (.t 28), none⟩,
  ⟨(some 30), .bin .lss .num (.t 27) (.t 29), none⟩,
  ⟨(some 25), .move (.t 30), none⟩]
def b66_10 : SCode := .region r66_10
abbrev r66_11 : List MOper := [⟨(some 2), .move (.c (.int .u8 0)), none⟩,
  ⟨(some 3), .move (.c (.nilslice)), none⟩,
  ⟨(some 4), .move (.c (.int .i64 0)), none⟩,
  ⟨(some 5), .move (.c (.int .i64 7)), none⟩]
def b66_11 : SCode := .region r66_11
def b66_12 : SCode := .seq b66_11 .ret
def b66_13 : SCode := .cond (.t 25) b66_12 .skip
def b66_14 : SCode := .seq b66_10 b66_13
def b66_15 : SCode := .cond (.t 22) b66_9 b66_14
def b66_16 : SCode := .seq b66_7 b66_15
def b66_17 : SCode := .block 0 b66_16
abbrev r66_18 : List MOper := [⟨(some 31), .move (.t 0), none⟩,
  ⟨(some 32), .move (.t 6), none⟩,
  ⟨(some 33), .bin .add .num (.c (.int .i64 7)) (.t 32), none⟩,
  ⟨(some 34), .slice 1 (.t 31) (some (.c (.int .i64 7))) (some (.t 33)) none, none⟩,
  ⟨(some 35), .append 1 1 (.c (.nilslice)) (.t 34), none⟩,
  ⟨(some 7), .move (.t 35), none⟩]
def b66_18 : SCode := .region r66_18
abbrev r66_19 : List MOper := [⟨(some 36), .move (.t 0), none⟩,
  ⟨(some 37), .slice 1 (.t 36) none (some (.c (.int .i64 3))) none, none⟩,
  ⟨(some 38), .move (.t 7), none⟩,
  ⟨(some 39), .call 122 [(.t 37), (.t 38)], none⟩,
  ⟨(some 8), .move (.t 39), none⟩]
def b66_19 : SCode := .region r66_19
abbrev t66_20 : LTree := (.quiet ⟨(some 40), .move (.t 8), none⟩ 0
  (.quiet ⟨(some 41), .move (.t 0), none⟩ 1
  (.quiet ⟨(some 42), .indexAddr 1 (.t 41) (.c (.int .i64 3)), none⟩ 2
  (.quiet ⟨(some 43), .load1 (.t 42), none⟩ 3
  (.quiet ⟨(some 44), .convInt .u32 (.t 43), none⟩ 4
  (.quiet ⟨(some 45), .bin .shl .num (.t 44) (.c (.int .u64 24)), none⟩ 5
  (.quiet ⟨(some 46), .move (.t 0), none⟩ 6
  (.quiet ⟨(some 47), .indexAddr 1 (.t 46) (.c (.int .i64 4)), none⟩ 7
  (.quiet ⟨(some 48), .load1 (.t 47), none⟩ 8
  (.quiet ⟨(some 49), .convInt .u32 (.t 48), none⟩ 9
  (.quiet ⟨(some 50), .bin .shl .num (.t 49) (.c (.int .u64 16)), none⟩ 10
  (.quiet ⟨(some 51), .bin .or .num (.t 45) (.t 50), none⟩ 11
  (.quiet ⟨(some 52), .move (.t 0), none⟩ 12
  (.quiet ⟨(some 53), .indexAddr 1 (.t 52) (.c (.int .i64 5)), none⟩ 13
  (.quiet ⟨(some 54), .load1 (.t 53), none⟩ 14
  (.quiet ⟨(some 55), .convInt .u32 (.t 54), none⟩ 15
  (.quiet ⟨(some 56), .bin .shl .num (.t 55) (.c (.int .u64 8)), none⟩ 16
  (.quiet ⟨(some 57), .bin .or .num (.t 51) (.t 56), none⟩ 17
  (.quiet ⟨(some 58), .move (.t 0), none⟩ 18
  (.quiet ⟨(some 59), .indexAddr 1 (.t 58) (.c (.int .i64 6)), none⟩ 19
  (.quiet ⟨(some 60), .load1 (.t 59), none⟩ 20
  (.quiet ⟨(some 61), .convInt .u32 (.t 60), none⟩ 21
  (.quiet ⟨(some 62), .bin .or .num (.t 57) (.t 61), none⟩ 22
  (.quiet ⟨(some 63), .bin .neq .num (.t 40) (.t 62), none⟩ 23
  .leaf))))))))))))))))))))))))
def b66_20 : SCode := .draw t66_20
abbrev r66_21 : List MOper := [⟨(some 2), .move (.c (.int .u8 0)), none⟩,
  ⟨(some 3), .move (.c (.nilslice)), none⟩,
  ⟨(some 4), .move (.c (.int .i64 0)), none⟩,
  ⟨(some 5), .move (.c (.int .i64 6)), none⟩]
def b66_21 : SCode := .region r66_21
def b66_22 : SCode := .seq b66_21 .ret
def b66_23 : SCode := .cond (.t 63) b66_22 .skip
def b66_24 : SCode := .seq b66_20 b66_23
abbrev r66_25 : List MOper := [⟨(some 64), .move (.t 0), none⟩,
  ⟨(some 65), .indexAddr 1 (.t 64) (.c (.int .i64 2)), none⟩,
  ⟨(some 66), .load1 (.t 65), none⟩,
  ⟨(some 67), .move (.t 7), none⟩,
  ⟨(some 68), .move (.t 6), none⟩,
  ⟨(some 69), .bin .add .num (.c (.int .i64 7)) (.t 68), none⟩,
  ⟨(some 2), .move (.t 66), none⟩,
  ⟨(some 3), .move (.t 67), none⟩,
  ⟨(some 4), .move (.t 69), none⟩,
  ⟨(some 5), .move (.c (.int .i64 0)), none⟩]
def b66_25 : SCode := .region r66_25
def b66_26 : SCode := .seq b66_25 .ret
def b66_27 : SCode := .seq b66_24 b66_26
def b66_28 : SCode := .seq b66_19 b66_27
def b66_29 : SCode := .seq b66_18 b66_28
def b66_30 : SCode := .seq b66_17 b66_29
def b66_31 : SCode := .seq b66_6 b66_30
def b66_32 : SCode := .seq b66_5 b66_31
def b66_33 : SCode := .seq b66_0 b66_32
def s66 : SFunc := ⟨70, [.t 2, .t 3, .t 4, .t 5], b66_33⟩
theorem c66 : sFn Tryz.prog 66 = some s66 := by kernel_rfl
theorem Z66 : XR b66_0 r66_0 ∧ XR b66_1 r66_1 ∧ XR b66_2 r66_2 ∧ XS b66_3 b66_2 .ret ∧ XC b66_4 (.t 11) b66_3 .skip ∧ XS b66_5 b66_1 b66_4 ∧ XT b66_6 t66_6 ∧ XR b66_7 r66_7 ∧ XR b66_8 r66_8 ∧ XS b66_9 b66_8 .ret ∧ XR b66_10 r66_10 ∧ XR b66_11 r66_11 ∧ XS b66_12 b66_11 .ret ∧ XC b66_13 (.t 25) b66_12 .skip ∧ XS b66_14 b66_10 b66_13 ∧ XC b66_15 (.t 22) b66_9 b66_14 ∧ XS b66_16 b66_7 b66_15 ∧ XB b66_17 0 b66_16 ∧ XR b66_18 r66_18 ∧ XR b66_19 r66_19 ∧ XT b66_20 t66_20 ∧ XR b66_21 r66_21 ∧ XS b66_22 b66_21 .ret ∧ XC b66_23 (.t 63) b66_22 .skip ∧ XS b66_24 b66_20 b66_23 ∧ XR b66_25 r66_25 ∧ XS b66_26 b66_25 .ret ∧ XS b66_27 b66_24 b66_26 ∧ XS b66_28 b66_19 b66_27 ∧ XS b66_29 b66_18 b66_28 ∧ XS b66_30 b66_17 b66_29 ∧ XS b66_31 b66_6 b66_30 ∧ XS b66_32 b66_5 b66_31 ∧ XS b66_33 b66_0 b66_32 ∧ XY s66 70 b66_33 [.t 2, .t 3, .t 4, .t 5] := ⟨rfl, rfl, rfl, rfl, sC_cond, rfl, rfl, rfl, rfl, rfl, rfl, rfl, rfl, sC_cond, rfl, sC_cond, rfl, rfl, rfl, rfl, rfl, rfl, rfl, sC_cond, rfl, rfl, rfl, rfl, rfl, rfl, rfl, rfl, rfl, rfl, rfl⟩
abbrev r71_0 : List MOper := [⟨(some 2), .move (.c (.nilslice)), none⟩]
def b71_0 : SCode := .region r71_0
abbrev r71_1 : List MOper := [⟨(some 3), .move (.t 0), none⟩,
  ⟨(some 4), .bin .eql .nils (.t 3) (.c (.nilslice)), none⟩]
def b71_1 : SCode := .region r71_1
abbrev r71_2 : List MOper := [⟨(some 2), .move (.c (.nilslice)), none⟩]
def b71_2 : SCode := .region r71_2
def b71_3 : SCode := .seq b71_2 .ret
def b71_4 : SCode := .cond (.t 4) b71_3 .skip
def b71_5 : SCode := .seq b71_1 b71_4
abbrev r71_6 : List MOper := [⟨(some 5), .buildSlice [.int .u8 0] 1 0 [], none⟩,
  ⟨(some 6), .move (.t 0), none⟩,
  ⟨(some 7), .append 1 1 (.t 5) (.t 6), none⟩,
  ⟨(some 2), .move (.t 7), none⟩]
def b71_6 : SCode := .region r71_6
def b71_7 : SCode := .seq b71_6 .ret
def b71_8 : SCode := .seq b71_5 b71_7
def b71_9 : SCode := .seq b71_0 b71_8
def s71 : SFunc := ⟨8, [.t 2], b71_9⟩
theorem c71 : sFn Tryz.prog 71 = some s71 := by kernel_rfl
theorem Z71 : XR b71_0 r71_0 ∧ XR b71_1 r71_1 ∧ XR b71_2 r71_2 ∧ XS b71_3 b71_2 .ret ∧ XC b71_4 (.t 4) b71_3 .skip ∧ XS b71_5 b71_1 b71_4 ∧ XR b71_6 r71_6 ∧ XS b71_7 b71_6 .ret ∧ XS b71_8 b71_5 b71_7 ∧ XS b71_9 b71_0 b71_8 ∧ XY s71 8 b71_9 [.t 2] := ⟨rfl, rfl, rfl, rfl, sC_cond, rfl, rfl, rfl, rfl, rfl, rfl⟩

end
set_option maxHeartbeats 4000000
set_option maxRecDepth 10000
def B71 : PCall := rowF 71 noCall s71 noCall
theorem B71_app {f : FuncId} {args : List AV} {σ : AHeap} {K : AV → AHeap → Prop} : B71 f args σ K = rowF 71 noCall s71 noCall f args σ K := _root_.id rfl
theorem B71_sound : Sound Tryz.prog B71 := rowF_sound c71 (noCall_sound _) (noCall_sound _)
theorem B71_mono : MonoC B71 := rowF_mono noCall_mono noCall_mono
def B37 : PCall := rowF 65 B71 s65 (rowF 66 noCall s66 (rowF 39 B71 s39 noCall))
theorem B37_app {f : FuncId} {args : List AV} {σ : AHeap} {K : AV → AHeap → Prop} : B37 f args σ K = rowF 65 B71 s65 (rowF 66 noCall s66 (rowF 39 B71 s39 noCall)) f args σ K := _root_.id rfl
theorem B37_sound : Sound Tryz.prog B37 := rowF_sound c65 B71_sound (rowF_sound c66 (noCall_sound _) (rowF_sound c39 B71_sound (noCall_sound _)))
theorem B37_mono : MonoC B37 := rowF_mono B71_mono (rowF_mono noCall_mono (rowF_mono B71_mono noCall_mono))
def medC : List AV := [.nilslice, .int .i64 0]
theorem hset_self {σ : AHeap} {m : Nat} {c : List AV} (h : hget σ m = some c) : hset σ m c = σ := by
  have := hget_some h
  unfold hset
  obtain ⟨h1, h2⟩ := List.getElem?_eq_some_iff.1 this
  rw [← h2]
  exact List.set_getElem_self h1
theorem recover_ok (σ : AHeap) (m : Nat) (h : hget σ m = some medC) : Tri Tryz.prog 37 [.ptr m 0] σ fun r σ' => r = .tuple [.nilslice, .int .i64 0] ∧ σ' = σ := by
  refine Tri.of_s c37 B37_sound ?_
  have p0 : put medC 0 [.nilslice] = some medC := rfl
  have p1 : put medC 1 [.int .i64 0] = some medC := rfl
  have m0 : medC[0]? = some .nilslice := rfl
  have s1 := hset_self h
  have wl : IntKind.wrap .i64 (0 - 0) = 0 := Gz.wrap64 (by omega)
  have wl' : IntKind.wrap .i64 0 = 0 := Gz.wrap64 (by omega)
  simp only [B37_app, B71_app, Z37, Z65, Z66, Z39, Z71, base1, baseE, ↓reduceIte, Nat.reduceAdd, Nat.reduceSub, Nat.reduceMul, Nat.reduceEqDiff, Nat.reduceLeDiff, Nat.reduceLT, Int.reduceLT, Int.reduceLE, Int.reduceEq, Int.reduceNe, Int.reduceToNat, Int.reduceAdd, Int.reduceSub, reduceCtorEq, Nat.reduceBEq, Nat.reduceBNe, h, m0, p0, p1, s1, wl]
  refine sC_unroll B37_mono (n := 1) ?_
  simp only [B37_app, B71_app, Z37, Z65, Z66, Z39, Z71, base1, baseE, ↓reduceIte, Nat.reduceAdd, Nat.reduceSub, Nat.reduceMul, Nat.reduceEqDiff, Nat.reduceLeDiff, Nat.reduceLT, Int.reduceLT, Int.reduceLE, Int.reduceEq, Int.reduceNe, Int.reduceToNat, Int.reduceAdd, Int.reduceSub, reduceCtorEq, Nat.reduceBEq, Nat.reduceBNe, h, m0, p0, p1, s1, wl, wl']
def recD (args : List AV) (σ : AHeap) (K : AV → AHeap → Prop) : Prop := ∃ m, args = [.ptr m 0] ∧ hget σ m = some medC ∧ K (.tuple [.nilslice, .int .i64 0]) σ
theorem recD_ok (args : List AV) (σ : AHeap) (K : AV → AHeap → Prop) (h : recD args σ K) : Tri Tryz.prog 37 args σ K := by
  obtain ⟨m, rfl, hm, h⟩ := h
  exact (recover_ok σ m hm).mono fun r σ' hr => by rw [hr.1, hr.2]; exact h
def B18 : PCall := rowQ 36 wmayD (rowQ 37 recD noCall)
theorem B18_app {f : FuncId} {args : List AV} {σ : AHeap} {K : AV → AHeap → Prop} : B18 f args σ K = rowQ 36 wmayD (rowQ 37 recD noCall) f args σ K := _root_.id rfl
theorem B18_sound : Sound Tryz.prog B18 := rowQ_sound wmayD_ok (rowQ_sound recD_ok (noCall_sound _))
theorem B18_mono : MonoC B18 := rowQ_mono (fun args σ K K' hk ⟨h1, h2⟩ => ⟨h1, hk _ _ h2⟩) (rowQ_mono (fun args σ K K' hk ⟨m, h1, h2, h3⟩ => ⟨m, h1, h2, hk _ _ h3⟩) noCall_mono)
def storC (m : Nat) (full : Int) : List AV := tabC ++ [.ptr m 0, .int .i64 full, .nilslice, .int .i64 0]
theorem nl0 : lenOf .nilslice = some 0 := _root_.id rfl
/-- A store over an empty medium holds nothing. -/
theorem sopen_ok (σ : AHeap) (m : Nat) (full : Int) (h : hget σ m = some medC) (f1 : decide (full < 1) = false) (f2 : decide (16 < full) = false) :
    Tri Tryz.prog 18 [.agg tabC, .ptr m 0, .int .i64 full] σ fun r σ' => ∃ s, r = .tuple [.ptr s 0, .int .i64 0] ∧ hget σ' s = some (storC m full) ∧ σ.length ≤ s ∧ (∀ j c, hget σ j = some c → hget σ' j = some c) := by
  refine Tri.of_s c18 B18_sound ?_
  have f2' : decide (full > 16) = false := f2
  have wl' : IntKind.wrap .i64 0 = 0 := Gz.wrap64 (by omega)
  have g0 : hget (hpush σ tabC) σ.length = some tabC := push_new rfl
  have g1 : sub tabC 0 4 = some tabC := rfl
  simp only [B18_app, wmayD_eq, Z18, base1, ↓reduceIte, Nat.reduceAdd, Nat.reduceSub, Nat.reduceMul, Nat.reduceEqDiff, Nat.reduceLeDiff, Nat.reduceLT, Int.reduceLT, Int.reduceLE, Int.reduceEq, Int.reduceNe, Int.reduceToNat, Int.reduceAdd, Int.reduceSub, reduceCtorEq, Nat.reduceBEq, Nat.reduceBNe, f1, f2', g0, g1]
  refine ⟨m, rfl, push_old (push_old (push_old h)), ?_⟩
  simp only [B18_app, wmayD_eq, Z18, base1, ↓reduceIte, Nat.reduceAdd, Nat.reduceSub, Nat.reduceMul, Nat.reduceEqDiff, Nat.reduceLeDiff, Nat.reduceLT, Int.reduceLT, Int.reduceLE, Int.reduceEq, Int.reduceNe, Int.reduceToNat, Int.reduceAdd, Int.reduceSub, reduceCtorEq, Nat.reduceBEq, Nat.reduceBNe, f1, f2', g0, g1, nl0, Int.natCast_zero]
  refine sC_unroll B18_mono (n := 1) ?_
  simp only [B18_app, wmayD_eq, Z18, base1, ↓reduceIte, Nat.reduceAdd, Nat.reduceSub, Nat.reduceMul, Nat.reduceEqDiff, Nat.reduceLeDiff, Nat.reduceLT, Int.reduceLT, Int.reduceLE, Int.reduceEq, Int.reduceNe, Int.reduceToNat, Int.reduceAdd, Int.reduceSub, reduceCtorEq, Nat.reduceBEq, Nat.reduceBNe, f1, f2', g0, g1, nl0, Int.natCast_zero]
  exact ⟨_, rfl, push_old (push_new rfl), by rw [push_len]; omega, fun j c hj => push_old (push_old (push_old hj))⟩
def sopenD (args : List AV) (σ : AHeap) (K : AV → AHeap → Prop) : Prop := ∃ (m : Nat) (full : Int), args = [.agg tabC, .ptr m 0, .int .i64 full] ∧ hget σ m = some medC ∧ decide (full < 1) = false ∧ decide (16 < full) = false ∧
  ∀ s σ', hget σ' s = some (storC m full) → σ.length ≤ s → (∀ j c, hget σ j = some c → hget σ' j = some c) → K (.tuple [.ptr s 0, .int .i64 0]) σ'
theorem sopenD_ok (args : List AV) (σ : AHeap) (K : AV → AHeap → Prop) (h : sopenD args σ K) : Tri Tryz.prog 18 args σ K := by
  obtain ⟨m, full, rfl, hm, h1, h2, h⟩ := h
  exact (sopen_ok σ m full hm h1 h2).mono fun r σ' ⟨s, hr, a, b, c⟩ => by subst hr; exact h s σ' a b c
def B6 : PCall := rowQ 18 sopenD noCall
theorem B6_app {f : FuncId} {args : List AV} {σ : AHeap} {K : AV → AHeap → Prop} : B6 f args σ K = rowQ 18 sopenD noCall f args σ K := _root_.id rfl
theorem B6_sound : Sound Tryz.prog B6 := rowQ_sound sopenD_ok (noCall_sound _)
/-- A keeper: its node, its store, its clock, its leases' length, its lease. -/
def keepC (node : Int) (s : Nat) (clock len e b f : Int) : List AV := [.int .i64 node, .ptr s 0, .int .i64 clock, .int .i64 len, .int .i64 e, .int .i64 b, .int .i64 f]
theorem kopen_ok (σ : AHeap) (m : Nat) (node full len : Int) (h : hget σ m = some medC) (f1 : decide (full < 1) = false) (f2 : decide (16 < full) = false)
    (n1 : decide (node < 1) = false) (n2 : decide (5 < node) = false) (l1 : decide (len < 1) = false) (l2 : decide (1099511627776 < len) = false) :
    Tri Tryz.prog 6 [.int .i64 node, .agg tabC, .ptr m 0, .int .i64 full, .int .i64 len] σ fun r σ' => ∃ k s, r = .tuple [.ptr k 0, .int .i64 0] ∧ hget σ' k = some (keepC node s 0 len 0 0 0) ∧ hget σ' s = some (storC m full) ∧ σ.length ≤ k ∧ k ≠ s ∧ (∀ j c, hget σ j = some c → hget σ' j = some c) := by
  refine Tri.of_s c6 B6_sound ?_
  have n2' : decide (node > 5) = false := n2
  have l2' : decide (len > 1099511627776) = false := l2
  have g0 : hget (hpush σ tabC) σ.length = some tabC := push_new rfl
  have g1 : sub tabC 0 4 = some tabC := rfl
  simp only [B6_app, Z6, base1, ↓reduceIte, Nat.reduceAdd, Nat.reduceSub, Nat.reduceMul, Nat.reduceEqDiff, Nat.reduceLeDiff, Nat.reduceLT, Int.reduceLT, Int.reduceLE, Int.reduceEq, Int.reduceNe, Int.reduceToNat, Int.reduceAdd, Int.reduceSub, reduceCtorEq, Nat.reduceBEq, Nat.reduceBNe, n1, n2', l1, l2', g0, g1]
  refine ⟨m, full, rfl, push_old h, f1, f2, fun s σ' h1 h2 h3 => ?_⟩
  simp only [B6_app, Z6, base1, ↓reduceIte, Nat.reduceAdd, Nat.reduceSub, Nat.reduceMul, Nat.reduceEqDiff, Nat.reduceLeDiff, Nat.reduceLT, Int.reduceLT, Int.reduceLE, Int.reduceEq, Int.reduceNe, Int.reduceToNat, Int.reduceAdd, Int.reduceSub, reduceCtorEq, Nat.reduceBEq, Nat.reduceBNe, n1, n2', l1, l2', g0, g1]
  have hl := hget_lt h1
  rw [push_len] at h2
  exact ⟨_, s, rfl, push_new rfl, push_old h1, by omega, by omega, fun j c hj => push_old (h3 j c (push_old hj))⟩
def kopenD (args : List AV) (σ : AHeap) (K : AV → AHeap → Prop) : Prop := ∃ (m : Nat) (node full len : Int), args = [.int .i64 node, .agg tabC, .ptr m 0, .int .i64 full, .int .i64 len] ∧ hget σ m = some medC ∧ decide (full < 1) = false ∧ decide (16 < full) = false ∧
  decide (node < 1) = false ∧ decide (5 < node) = false ∧ decide (len < 1) = false ∧ decide (1099511627776 < len) = false ∧
  ∀ k s σ', hget σ' k = some (keepC node s 0 len 0 0 0) → hget σ' s = some (storC m full) → k ≠ s → K (.tuple [.ptr k 0, .int .i64 0]) σ'
theorem kopenD_ok (args : List AV) (σ : AHeap) (K : AV → AHeap → Prop) (h : kopenD args σ K) : Tri Tryz.prog 6 args σ K := by
  obtain ⟨m, node, full, len, rfl, hm, h1, h2, h3, h4, h5, h6, h⟩ := h
  exact (kopen_ok σ m node full len hm h1 h2 h3 h4 h5 h6).mono fun r σ' ⟨k, s, hr, a, b, _, c, _⟩ => by subst hr; exact h k s σ' a b c
theorem new_ok (σ : AHeap) : Tri Tryz.prog 8 [] σ fun r σ' => r = .ptr σ.length 0 ∧ σ' = hpush σ medC := by
  refine Tri.of_s c8 (noCall_sound _) ?_
  simp only [Z8, base1, baseE, ↓reduceIte, Nat.reduceAdd, Nat.reduceSub, Nat.reduceMul, Nat.reduceEqDiff, Nat.reduceLeDiff, Nat.reduceLT, Int.reduceLT, Int.reduceLE, Int.reduceEq, Int.reduceNe, Int.reduceToNat, Int.reduceAdd, Int.reduceSub, reduceCtorEq, Nat.reduceBEq, Nat.reduceBNe]
  first | exact ⟨rfl, rfl⟩ | rfl
def newD (args : List AV) (σ : AHeap) (K : AV → AHeap → Prop) : Prop := args = [] ∧ K (.ptr σ.length 0) (hpush σ medC)
theorem newD_ok (args : List AV) (σ : AHeap) (K : AV → AHeap → Prop) (h : newD args σ K) : Tri Tryz.prog 8 args σ K := by
  obtain ⟨rfl, h⟩ := h
  exact (new_ok σ).mono fun r σ' hr => by rw [hr.1, hr.2]; exact h
theorem newD_eq {σ : AHeap} {K : AV → AHeap → Prop} : newD [] σ K = K (.ptr σ.length 0) (hpush σ medC) := by
  apply propext; exact ⟨fun h => h.2, fun h => ⟨rfl, h⟩⟩
end Go.Proofs.YtgaopohogdinhaaGreatDoor.keep

/- A keeper's ticks, grants, notes that are not for it, its lease, its clock, what it holds. No condition. -/
set_option linter.unusedVariables false
set_option linter.unusedSimpArgs false
namespace Go.Proofs.YtgaopohogdinhaaGreatDoor.keep
open Go.ChangeShapes Go.WideShapes Go.ChangeAt Go.RowKit Go.Gz Go.Proofs.YtgaopohogdinhaaGreatDoor.note
section
variable {C : PCall} {n0 : Nat} {R : MExit → Env → AHeap → Prop} {k : Cont} {e : Env} {σ : AHeap}
abbrev r9_0 : List MOper := [⟨(some 2), .move (.c (.nilslice)), none⟩]
def b9_0 : SCode := .region r9_0
abbrev r9_1 : List MOper := [⟨(some 3), .move (.t 0), none⟩,
  ⟨(some 4), .bin .eql .nilp (.t 3) (.c (.nilptr)), none⟩]
def b9_1 : SCode := .region r9_1
abbrev r9_2 : List MOper := [⟨(some 2), .move (.c (.nilslice)), none⟩]
def b9_2 : SCode := .region r9_2
def b9_3 : SCode := .seq b9_2 .ret
def b9_4 : SCode := .cond (.t 4) b9_3 .skip
def b9_5 : SCode := .seq b9_1 b9_4
abbrev r9_6 : List MOper := [⟨(some 5), .move (.t 0), none⟩,
  ⟨(some 6), .nilCheck (.t 5), none⟩,
  ⟨(some 7), .fieldAddr 2 (.t 6), none⟩,
  ⟨(some 8), .load1 (.t 7), none⟩,
  ⟨(some 9), .bin .add .num (.t 8) (.c (.int .i64 1)), none⟩,
  ⟨(some 10), .nilCheck (.t 5), none⟩,
  ⟨(some 11), .fieldAddr 2 (.t 10), none⟩,
  ⟨none, .store 1 (.t 11) (.t 9), none⟩]
def b9_6 : SCode := .region r9_6
abbrev r9_7 : List MOper := [⟨(some 12), .move (.t 0), none⟩,
  ⟨(some 13), .move (.t 0), none⟩,
  ⟨(some 14), .nilCheck (.t 13), none⟩,
  ⟨(some 15), .fieldAddr 2 (.t 14), none⟩,
  ⟨(some 16), .load1 (.t 15), none⟩,
  ⟨(some 17), .build [.int .i64 0, .int .i64 0, .int .i64 0, .int .i64 0, .int .i64 0, .int .i64 0, .int .i64 0, .int .i64 0, .str [], .str [], .str [], .str [], .int .i64 0, .int .i64 0, .int .i64 0, .int .i64 0, .bool false, .str [], .nilslice, .str [], .bool false, .str [], .str [], .nilslice, .nilslice, .int .i64 0, .nilslice] [(0, 1, (.c (.int .i64 5))), (4, 1, (.t 16))], none⟩,
  ⟨(some 18), .call 19 [(.t 12), (.t 17)], none⟩,
  ⟨(some 2), .move (.t 18), none⟩]
def b9_7 : SCode := .region r9_7
def b9_8 : SCode := .seq b9_7 .ret
def b9_9 : SCode := .seq b9_6 b9_8
def b9_10 : SCode := .seq b9_5 b9_9
def b9_11 : SCode := .seq b9_0 b9_10
def s9 : SFunc := ⟨19, [.t 2], b9_11⟩
theorem c9 : sFn Tryz.prog 9 = some s9 := by kernel_rfl
theorem Z9 : XR b9_0 r9_0 ∧ XR b9_1 r9_1 ∧ XR b9_2 r9_2 ∧ XS b9_3 b9_2 .ret ∧ XC b9_4 (.t 4) b9_3 .skip ∧ XS b9_5 b9_1 b9_4 ∧ XR b9_6 r9_6 ∧ XR b9_7 r9_7 ∧ XS b9_8 b9_7 .ret ∧ XS b9_9 b9_6 b9_8 ∧ XS b9_10 b9_5 b9_9 ∧ XS b9_11 b9_0 b9_10 ∧ XY s9 19 b9_11 [.t 2] := ⟨rfl, rfl, rfl, rfl, sC_cond, rfl, rfl, rfl, rfl, rfl, rfl, rfl, rfl⟩
abbrev r10_0 : List MOper := [⟨(some 3), .box (.t 1), none⟩,
  ⟨(some 4), .move (.c (.nilslice)), none⟩]
def b10_0 : SCode := .region r10_0
abbrev t10_1 : LTree := (.quiet ⟨(some 10), .move (.t 0), none⟩ 0
  (.quiet ⟨(some 11), .bin .eql .nilp (.t 10) (.c (.nilptr)), none⟩ 1
  (.quiet ⟨(some 12), .move (.t 11), none⟩ 2
  (.quiet ⟨(some 13), .loadN 27 (.t 3), (some (12, false))⟩ 3
  (.loud ⟨(some 14), .call 16 [(.t 13)], (some (12, false))⟩ []
  (.quiet ⟨(some 15), .un .not (.t 14), (some (12, false))⟩ 5
  (.quiet ⟨(some 16), .pick (.t 12) (.c (.bool true)) (.t 15), none⟩ 6
  (.quiet ⟨(some 17), .move (.t 16), none⟩ 7
  (.quiet ⟨(some 18), .fieldAddr 2 (.t 3), (some (17, false))⟩ 8
  (.quiet ⟨(some 19), .load1 (.t 18), (some (17, false))⟩ 9
  (.quiet ⟨(some 20), .move (.t 0), (some (17, false))⟩ 10
  (.quiet ⟨(some 21), .nilCheck (.t 20), (some (17, false))⟩ 11
  (.quiet ⟨(some 22), .fieldAddr 0 (.t 21), (some (17, false))⟩ 12
  (.quiet ⟨(some 23), .load1 (.t 22), (some (17, false))⟩ 13
  (.quiet ⟨(some 24), .bin .neq .num (.t 19) (.t 23), (some (17, false))⟩ 14
  (.quiet ⟨(some 25), .pick (.t 17) (.c (.bool true)) (.t 24), none⟩ 15
  .leaf))))))))))) .stop)))))
def b10_1 : SCode := .draw t10_1
abbrev r10_2 : List MOper := [⟨(some 4), .move (.c (.nilslice)), none⟩]
def b10_2 : SCode := .region r10_2
def b10_3 : SCode := .seq b10_2 .ret
def b10_4 : SCode := .cond (.t 25) b10_3 .skip
def b10_5 : SCode := .seq b10_1 b10_4
abbrev r10_6 : List MOper := [⟨(some 26), .fieldAddr 21 (.t 3), none⟩,
  ⟨(some 27), .loadN 2 (.t 26), none⟩,
  ⟨(some 28), .fieldAddr 3 (.t 3), none⟩,
  ⟨(some 29), .load1 (.t 28), none⟩,
  ⟨(some 30), .build [.int .i64 0, .int .i64 0, .int .i64 0, .int .i64 0, .int .i64 0, .int .i64 0, .int .i64 0, .int .i64 0, .str [], .str [], .str [], .str [], .int .i64 0, .int .i64 0, .int .i64 0, .int .i64 0, .bool false, .str [], .nilslice, .str [], .bool false, .str [], .str [], .nilslice, .nilslice, .int .i64 0, .nilslice] [(21, 2, (.t 27)), (3, 1, (.t 29))], none⟩,
  ⟨(some 5), .alloc [.int .i64 0, .int .i64 0, .int .i64 0, .int .i64 0, .int .i64 0, .int .i64 0, .int .i64 0, .int .i64 0, .str [], .str [], .str [], .str [], .int .i64 0, .int .i64 0, .int .i64 0, .int .i64 0, .bool false, .str [], .nilslice, .str [], .bool false, .str [], .str [], .nilslice, .nilslice, .int .i64 0, .nilslice], none⟩,
  ⟨none, .store 27 (.t 5) (.t 30), none⟩]
def b10_6 : SCode := .region r10_6
abbrev r10_7 : List MOper := [⟨(some 31), .fieldAddr 0 (.t 3), none⟩,
  ⟨(some 32), .load1 (.t 31), none⟩]
def b10_7 : SCode := .region r10_7
abbrev r10_8 : List MOper := [⟨(some 34), .bin .eql .num (.t 32) (.c (.int .i64 6)), none⟩,
  ⟨(some 33), .move (.t 34), none⟩]
def b10_8 : SCode := .region r10_8
abbrev r10_9 : List MOper := [⟨(some 35), .move (.t 0), none⟩,
  ⟨(some 36), .loadN 27 (.t 3), none⟩,
  ⟨(some 37), .call 20 [(.t 35), (.t 36)], none⟩]
def b10_9 : SCode := .region r10_9
abbrev r10_10 : List MOper := [⟨(some 4), .move (.c (.nilslice)), none⟩]
def b10_10 : SCode := .region r10_10
def b10_11 : SCode := .seq b10_10 .ret
def b10_12 : SCode := .seq b10_9 b10_11
abbrev r10_13 : List MOper := [⟨(some 39), .bin .eql .num (.t 32) (.c (.int .i64 1)), none⟩,
  ⟨(some 38), .move (.t 39), none⟩]
def b10_13 : SCode := .region r10_13
abbrev r10_14 : List MOper := [⟨(some 40), .move (.t 0), none⟩,
  ⟨(some 41), .loadN 27 (.t 3), none⟩,
  ⟨(some 42), .call 21 [(.t 40), (.t 41)], none⟩,
  ⟨(some 4), .move (.t 42), none⟩]
def b10_14 : SCode := .region r10_14
def b10_15 : SCode := .seq b10_14 .ret
abbrev r10_16 : List MOper := [⟨(some 44), .bin .eql .num (.t 32) (.c (.int .i64 7)), none⟩,
  ⟨(some 43), .move (.t 44), none⟩]
def b10_16 : SCode := .region r10_16
abbrev t10_17 : LTree := (.quiet ⟨(some 46), .move (.t 0), none⟩ 0
  (.quiet ⟨(some 47), .nilCheck (.t 46), none⟩ 1
  (.quiet ⟨(some 48), .fieldAddr 1 (.t 47), none⟩ 2
  (.quiet ⟨(some 49), .load1 (.t 48), none⟩ 3
  (.quiet ⟨(some 50), .fieldAddr 21 (.t 3), none⟩ 4
  (.quiet ⟨(some 51), .loadN 2 (.t 50), none⟩ 5
  (.quiet ⟨(some 52), .fieldAddr 3 (.t 3), none⟩ 6
  (.quiet ⟨(some 53), .load1 (.t 52), none⟩ 7
  (.loud ⟨(some 54), .call 22 [(.t 49), (.t 51), (.t 53)], none⟩ []
  (.quiet ⟨(some 45), .move (.t 54), none⟩ 9
  (.quiet ⟨(some 55), .extract (.t 45) 0, none⟩ 10
  (.quiet ⟨(some 56), .extract (.t 45) 1, none⟩ 11
  (.quiet ⟨(some 57), .extract (.t 45) 2, none⟩ 12
  (.quiet ⟨(some 6), .move (.t 55), none⟩ 13
  (.quiet ⟨(some 7), .move (.t 56), none⟩ 14
  (.quiet ⟨(some 8), .move (.t 57), none⟩ 15
  .leaf))))))) .stop)))))))))
def b10_17 : SCode := .draw t10_17
abbrev r10_18 : List MOper := [⟨(some 58), .move (.t 8), none⟩,
  ⟨(some 59), .bin .neq .num (.t 58) (.c (.int .i64 0)), none⟩]
def b10_18 : SCode := .region r10_18
abbrev r10_19 : List MOper := [⟨(some 4), .move (.c (.nilslice)), none⟩]
def b10_19 : SCode := .region r10_19
def b10_20 : SCode := .seq b10_19 .ret
def b10_21 : SCode := .cond (.t 59) b10_20 .skip
def b10_22 : SCode := .seq b10_18 b10_21
abbrev r10_23 : List MOper := [⟨(some 60), .move (.t 6), none⟩,
  ⟨(some 61), .move (.t 7), none⟩,
  ⟨(some 62), .fieldAddr 0 (.t 5), none⟩,
  ⟨none, .store 1 (.t 62) (.c (.int .i64 8)), none⟩,
  ⟨(some 63), .fieldAddr 23 (.t 5), none⟩,
  ⟨none, .store 1 (.t 63) (.t 60), none⟩,
  ⟨(some 64), .fieldAddr 24 (.t 5), none⟩,
  ⟨none, .store 1 (.t 64) (.t 61), none⟩]
def b10_23 : SCode := .region r10_23
def b10_24 : SCode := .seq b10_22 b10_23
def b10_25 : SCode := .seq b10_17 b10_24
abbrev r10_26 : List MOper := [⟨(some 66), .bin .eql .num (.t 32) (.c (.int .i64 9)), none⟩,
  ⟨(some 65), .move (.t 66), none⟩]
def b10_26 : SCode := .region r10_26
abbrev t10_27 : LTree := (.quiet ⟨(some 67), .move (.t 0), none⟩ 0
  (.quiet ⟨(some 68), .nilCheck (.t 67), none⟩ 1
  (.quiet ⟨(some 69), .fieldAddr 1 (.t 68), none⟩ 2
  (.quiet ⟨(some 70), .load1 (.t 69), none⟩ 3
  (.quiet ⟨(some 71), .fieldAddr 21 (.t 3), none⟩ 4
  (.quiet ⟨(some 72), .loadN 2 (.t 71), none⟩ 5
  (.quiet ⟨(some 73), .fieldAddr 3 (.t 3), none⟩ 6
  (.quiet ⟨(some 74), .load1 (.t 73), none⟩ 7
  (.quiet ⟨(some 75), .fieldAddr 23 (.t 3), none⟩ 8
  (.quiet ⟨(some 76), .load1 (.t 75), none⟩ 9
  (.quiet ⟨(some 77), .fieldAddr 24 (.t 3), none⟩ 10
  (.quiet ⟨(some 78), .load1 (.t 77), none⟩ 11
  (.loud ⟨(some 79), .call 23 [(.t 70), (.t 72), (.t 74), (.t 76), (.t 78)], none⟩ []
  (.quiet ⟨(some 80), .bin .neq .num (.t 79) (.c (.int .i64 0)), none⟩ 13
  .leaf) .stop)))))))))))))
def b10_27 : SCode := .draw t10_27
abbrev r10_28 : List MOper := [⟨(some 4), .move (.c (.nilslice)), none⟩]
def b10_28 : SCode := .region r10_28
def b10_29 : SCode := .seq b10_28 .ret
def b10_30 : SCode := .cond (.t 80) b10_29 .skip
def b10_31 : SCode := .seq b10_27 b10_30
abbrev r10_32 : List MOper := [⟨(some 81), .fieldAddr 0 (.t 5), none⟩,
  ⟨none, .store 1 (.t 81) (.c (.int .i64 10)), none⟩]
def b10_32 : SCode := .region r10_32
def b10_33 : SCode := .seq b10_31 b10_32
abbrev r10_34 : List MOper := [⟨(some 83), .bin .eql .num (.t 32) (.c (.int .i64 11)), none⟩,
  ⟨(some 82), .move (.t 83), none⟩]
def b10_34 : SCode := .region r10_34
abbrev t10_35 : LTree := (.quiet ⟨(some 84), .move (.t 0), none⟩ 0
  (.quiet ⟨(some 85), .nilCheck (.t 84), none⟩ 1
  (.quiet ⟨(some 86), .fieldAddr 1 (.t 85), none⟩ 2
  (.quiet ⟨(some 87), .load1 (.t 86), none⟩ 3
  (.quiet ⟨(some 88), .fieldAddr 21 (.t 3), none⟩ 4
  (.quiet ⟨(some 89), .loadN 2 (.t 88), none⟩ 5
  (.quiet ⟨(some 90), .fieldAddr 3 (.t 3), none⟩ 6
  (.quiet ⟨(some 91), .load1 (.t 90), none⟩ 7
  (.loud ⟨(some 92), .call 24 [(.t 87), (.t 89), (.t 91)], none⟩ []
  (.quiet ⟨(some 9), .move (.t 92), none⟩ 9
  .leaf) .stop)))))))))
def b10_35 : SCode := .draw t10_35
abbrev r10_36 : List MOper := [⟨(some 93), .move (.t 9), none⟩,
  ⟨(some 94), .bin .neq .num (.t 93) (.c (.int .i64 0)), none⟩,
  ⟨(some 95), .move (.t 94), none⟩,
  ⟨(some 96), .move (.t 9), (some (95, true))⟩,
  ⟨(some 97), .bin .neq .num (.t 96) (.c (.int .i64 9)), (some (95, true))⟩,
  ⟨(some 98), .pick (.t 95) (.t 97) (.c (.bool false)), none⟩]
def b10_36 : SCode := .region r10_36
abbrev r10_37 : List MOper := [⟨(some 4), .move (.c (.nilslice)), none⟩]
def b10_37 : SCode := .region r10_37
def b10_38 : SCode := .seq b10_37 .ret
def b10_39 : SCode := .cond (.t 98) b10_38 .skip
def b10_40 : SCode := .seq b10_36 b10_39
def b10_41 : SCode := .seq b10_35 b10_40
abbrev r10_42 : List MOper := [⟨(some 99), .fieldAddr 0 (.t 5), none⟩,
  ⟨none, .store 1 (.t 99) (.c (.int .i64 12)), none⟩]
def b10_42 : SCode := .region r10_42
def b10_43 : SCode := .seq b10_41 b10_42
abbrev r10_44 : List MOper := [⟨(some 4), .move (.c (.nilslice)), none⟩]
def b10_44 : SCode := .region r10_44
def b10_45 : SCode := .seq b10_44 .ret
def b10_46 : SCode := .cond (.t 82) b10_43 b10_45
def b10_47 : SCode := .seq b10_34 b10_46
def b10_48 : SCode := .cond (.t 65) b10_33 b10_47
def b10_49 : SCode := .seq b10_26 b10_48
def b10_50 : SCode := .cond (.t 43) b10_25 b10_49
def b10_51 : SCode := .seq b10_16 b10_50
def b10_52 : SCode := .cond (.t 38) b10_15 b10_51
def b10_53 : SCode := .seq b10_13 b10_52
def b10_54 : SCode := .cond (.t 33) b10_12 b10_53
def b10_55 : SCode := .seq b10_8 b10_54
def b10_56 : SCode := .block 0 b10_55
def b10_57 : SCode := .seq b10_7 b10_56
abbrev r10_58 : List MOper := [⟨(some 100), .move (.t 0), none⟩,
  ⟨(some 101), .loadN 27 (.t 5), none⟩,
  ⟨(some 102), .call 19 [(.t 100), (.t 101)], none⟩,
  ⟨(some 4), .move (.t 102), none⟩]
def b10_58 : SCode := .region r10_58
def b10_59 : SCode := .seq b10_58 .ret
def b10_60 : SCode := .seq b10_57 b10_59
def b10_61 : SCode := .seq b10_6 b10_60
def b10_62 : SCode := .seq b10_5 b10_61
def b10_63 : SCode := .seq b10_0 b10_62
def s10 : SFunc := ⟨103, [.t 4], b10_63⟩
theorem c10 : sFn Tryz.prog 10 = some s10 := by kernel_rfl
theorem Z10 : XR b10_0 r10_0 ∧ XT b10_1 t10_1 ∧ XR b10_2 r10_2 ∧ XS b10_3 b10_2 .ret ∧ XC b10_4 (.t 25) b10_3 .skip ∧ XS b10_5 b10_1 b10_4 ∧ XR b10_6 r10_6 ∧ XR b10_7 r10_7 ∧ XR b10_8 r10_8 ∧ XR b10_9 r10_9 ∧ XR b10_10 r10_10 ∧ XS b10_11 b10_10 .ret ∧ XS b10_12 b10_9 b10_11 ∧ XR b10_13 r10_13 ∧ XR b10_14 r10_14 ∧ XS b10_15 b10_14 .ret ∧ XR b10_16 r10_16 ∧ XT b10_17 t10_17 ∧ XR b10_18 r10_18 ∧ XR b10_19 r10_19 ∧ XS b10_20 b10_19 .ret ∧ XC b10_21 (.t 59) b10_20 .skip ∧ XS b10_22 b10_18 b10_21 ∧ XR b10_23 r10_23 ∧ XS b10_24 b10_22 b10_23 ∧ XS b10_25 b10_17 b10_24 ∧ XR b10_26 r10_26 ∧ XT b10_27 t10_27 ∧ XR b10_28 r10_28 ∧ XS b10_29 b10_28 .ret ∧ XC b10_30 (.t 80) b10_29 .skip ∧ XS b10_31 b10_27 b10_30 ∧ XR b10_32 r10_32 ∧ XS b10_33 b10_31 b10_32 ∧ XR b10_34 r10_34 ∧ XT b10_35 t10_35 ∧ XR b10_36 r10_36 ∧ XR b10_37 r10_37 ∧ XS b10_38 b10_37 .ret ∧ XC b10_39 (.t 98) b10_38 .skip ∧ XS b10_40 b10_36 b10_39 ∧ XS b10_41 b10_35 b10_40 ∧ XR b10_42 r10_42 ∧ XS b10_43 b10_41 b10_42 ∧ XR b10_44 r10_44 ∧ XS b10_45 b10_44 .ret ∧ XC b10_46 (.t 82) b10_43 b10_45 ∧ XS b10_47 b10_34 b10_46 ∧ XC b10_48 (.t 65) b10_33 b10_47 ∧ XS b10_49 b10_26 b10_48 ∧ XC b10_50 (.t 43) b10_25 b10_49 ∧ XS b10_51 b10_16 b10_50 ∧ XC b10_52 (.t 38) b10_15 b10_51 ∧ XS b10_53 b10_13 b10_52 ∧ XC b10_54 (.t 33) b10_12 b10_53 ∧ XS b10_55 b10_8 b10_54 ∧ XB b10_56 0 b10_55 ∧ XS b10_57 b10_7 b10_56 ∧ XR b10_58 r10_58 ∧ XS b10_59 b10_58 .ret ∧ XS b10_60 b10_57 b10_59 ∧ XS b10_61 b10_6 b10_60 ∧ XS b10_62 b10_5 b10_61 ∧ XS b10_63 b10_0 b10_62 ∧ XY s10 103 b10_63 [.t 4] := ⟨rfl, rfl, rfl, rfl, sC_cond, rfl, rfl, rfl, rfl, rfl, rfl, rfl, rfl, rfl, rfl, rfl, rfl, rfl, rfl, rfl, rfl, sC_cond, rfl, rfl, rfl, rfl, rfl, rfl, rfl, rfl, sC_cond, rfl, rfl, rfl, rfl, rfl, rfl, rfl, rfl, sC_cond, rfl, rfl, rfl, rfl, rfl, rfl, sC_cond, rfl, sC_cond, rfl, sC_cond, rfl, sC_cond, rfl, sC_cond, rfl, rfl, rfl, rfl, rfl, rfl, rfl, rfl, rfl, rfl⟩
abbrev r12_0 : List MOper := [⟨(some 2), .move (.c (.int .i64 0)), none⟩]
def b12_0 : SCode := .region r12_0
abbrev r12_1 : List MOper := [⟨(some 3), .move (.t 0), none⟩,
  ⟨(some 4), .bin .eql .nilp (.t 3) (.c (.nilptr)), none⟩]
def b12_1 : SCode := .region r12_1
abbrev r12_2 : List MOper := [⟨(some 2), .move (.c (.int .i64 0)), none⟩]
def b12_2 : SCode := .region r12_2
def b12_3 : SCode := .seq b12_2 .ret
def b12_4 : SCode := .cond (.t 4) b12_3 .skip
def b12_5 : SCode := .seq b12_1 b12_4
abbrev r12_6 : List MOper := [⟨(some 5), .move (.t 0), none⟩,
  ⟨(some 6), .nilCheck (.t 5), none⟩,
  ⟨(some 7), .fieldAddr 2 (.t 6), none⟩,
  ⟨(some 8), .load1 (.t 7), none⟩,
  ⟨(some 2), .move (.t 8), none⟩]
def b12_6 : SCode := .region r12_6
def b12_7 : SCode := .seq b12_6 .ret
def b12_8 : SCode := .seq b12_5 b12_7
def b12_9 : SCode := .seq b12_0 b12_8
def s12 : SFunc := ⟨9, [.t 2], b12_9⟩
theorem c12 : sFn Tryz.prog 12 = some s12 := by kernel_rfl
theorem Z12 : XR b12_0 r12_0 ∧ XR b12_1 r12_1 ∧ XR b12_2 r12_2 ∧ XS b12_3 b12_2 .ret ∧ XC b12_4 (.t 4) b12_3 .skip ∧ XS b12_5 b12_1 b12_4 ∧ XR b12_6 r12_6 ∧ XS b12_7 b12_6 .ret ∧ XS b12_8 b12_5 b12_7 ∧ XS b12_9 b12_0 b12_8 ∧ XY s12 9 b12_9 [.t 2] := ⟨rfl, rfl, rfl, rfl, sC_cond, rfl, rfl, rfl, rfl, rfl, rfl⟩
abbrev r13_0 : List MOper := [⟨(some 2), .move (.c (.bool false)), none⟩]
def b13_0 : SCode := .region r13_0
abbrev t13_1 : LTree := (.quiet ⟨(some 3), .move (.t 0), none⟩ 0
  (.quiet ⟨(some 4), .bin .neq .nilp (.t 3) (.c (.nilptr)), none⟩ 1
  (.quiet ⟨(some 5), .move (.t 4), none⟩ 2
  (.quiet ⟨(some 6), .move (.t 0), (some (5, true))⟩ 3
  (.quiet ⟨(some 7), .nilCheck (.t 6), (some (5, true))⟩ 4
  (.quiet ⟨(some 8), .fieldAddr 4 (.t 7), (some (5, true))⟩ 5
  (.quiet ⟨(some 9), .loadN 3 (.t 8), (some (5, true))⟩ 6
  (.quiet ⟨(some 10), .move (.t 0), (some (5, true))⟩ 7
  (.quiet ⟨(some 11), .nilCheck (.t 10), (some (5, true))⟩ 8
  (.quiet ⟨(some 12), .fieldAddr 2 (.t 11), (some (5, true))⟩ 9
  (.quiet ⟨(some 13), .load1 (.t 12), (some (5, true))⟩ 10
  (.loud ⟨(some 14), .call 25 [(.t 9), (.t 13)], (some (5, true))⟩ []
  (.quiet ⟨(some 15), .pick (.t 5) (.t 14) (.c (.bool false)), none⟩ 12
  (.quiet ⟨(some 2), .move (.t 15), none⟩ 13
  .leaf)) .stop))))))))))))
def b13_1 : SCode := .draw t13_1
def b13_2 : SCode := .seq b13_1 .ret
def b13_3 : SCode := .seq b13_0 b13_2
def s13 : SFunc := ⟨16, [.t 2], b13_3⟩
theorem c13 : sFn Tryz.prog 13 = some s13 := by kernel_rfl
theorem Z13 : XR b13_0 r13_0 ∧ XT b13_1 t13_1 ∧ XS b13_2 b13_1 .ret ∧ XS b13_3 b13_0 b13_2 ∧ XY s13 16 b13_3 [.t 2] := ⟨rfl, rfl, rfl, rfl, rfl⟩
abbrev r17_0 : List MOper := [⟨(some 2), .move (.c (.nilslice)), none⟩]
def b17_0 : SCode := .region r17_0
abbrev r17_1 : List MOper := [⟨(some 3), .move (.t 0), none⟩,
  ⟨(some 4), .bin .eql .nilp (.t 3) (.c (.nilptr)), none⟩]
def b17_1 : SCode := .region r17_1
abbrev r17_2 : List MOper := [⟨(some 2), .move (.c (.nilslice)), none⟩]
def b17_2 : SCode := .region r17_2
def b17_3 : SCode := .seq b17_2 .ret
def b17_4 : SCode := .cond (.t 4) b17_3 .skip
def b17_5 : SCode := .seq b17_1 b17_4
abbrev r17_6 : List MOper := [⟨(some 5), .move (.t 0), none⟩,
  ⟨(some 6), .nilCheck (.t 5), none⟩,
  ⟨(some 7), .fieldAddr 1 (.t 6), none⟩,
  ⟨(some 8), .load1 (.t 7), none⟩,
  ⟨(some 9), .call 35 [(.t 8)], none⟩,
  ⟨(some 2), .move (.t 9), none⟩]
def b17_6 : SCode := .region r17_6
def b17_7 : SCode := .seq b17_6 .ret
def b17_8 : SCode := .seq b17_5 b17_7
def b17_9 : SCode := .seq b17_0 b17_8
def s17 : SFunc := ⟨10, [.t 2], b17_9⟩
theorem c17 : sFn Tryz.prog 17 = some s17 := by kernel_rfl
theorem Z17 : XR b17_0 r17_0 ∧ XR b17_1 r17_1 ∧ XR b17_2 r17_2 ∧ XS b17_3 b17_2 .ret ∧ XC b17_4 (.t 4) b17_3 .skip ∧ XS b17_5 b17_1 b17_4 ∧ XR b17_6 r17_6 ∧ XS b17_7 b17_6 .ret ∧ XS b17_8 b17_5 b17_7 ∧ XS b17_9 b17_0 b17_8 ∧ XY s17 10 b17_9 [.t 2] := ⟨rfl, rfl, rfl, rfl, sC_cond, rfl, rfl, rfl, rfl, rfl, rfl⟩
abbrev r19_0 : List MOper := [⟨(some 3), .box (.t 1), none⟩,
  ⟨(some 4), .move (.c (.nilslice)), none⟩]
def b19_0 : SCode := .region r19_0
abbrev r19_1 : List MOper := [⟨(some 5), .move (.t 0), none⟩,
  ⟨(some 6), .nilCheck (.t 5), none⟩,
  ⟨(some 7), .fieldAddr 0 (.t 6), none⟩,
  ⟨(some 8), .load1 (.t 7), none⟩,
  ⟨(some 9), .fieldAddr 1 (.t 3), none⟩,
  ⟨none, .store 1 (.t 9) (.t 8), none⟩]
def b19_1 : SCode := .region r19_1
abbrev r19_2 : List MOper := [⟨(some 10), .loadN 27 (.t 3), none⟩,
  ⟨(some 11), .call 16 [(.t 10)], none⟩,
  ⟨(some 12), .un .not (.t 11), none⟩]
def b19_2 : SCode := .region r19_2
abbrev r19_3 : List MOper := [⟨(some 4), .move (.c (.nilslice)), none⟩]
def b19_3 : SCode := .region r19_3
def b19_4 : SCode := .seq b19_3 .ret
def b19_5 : SCode := .cond (.t 12) b19_4 .skip
def b19_6 : SCode := .seq b19_2 b19_5
abbrev r19_7 : List MOper := [⟨(some 13), .loadN 27 (.t 3), none⟩,
  ⟨(some 14), .buildSlice [.int .i64 0, .int .i64 0, .int .i64 0, .int .i64 0, .int .i64 0, .int .i64 0, .int .i64 0, .int .i64 0, .str [], .str [], .str [], .str [], .int .i64 0, .int .i64 0, .int .i64 0, .int .i64 0, .bool false, .str [], .nilslice, .str [], .bool false, .str [], .str [], .nilslice, .nilslice, .int .i64 0, .nilslice] 27 1 [(0, 27, (.t 13))], none⟩,
  ⟨(some 4), .move (.t 14), none⟩]
def b19_7 : SCode := .region r19_7
def b19_8 : SCode := .seq b19_7 .ret
def b19_9 : SCode := .seq b19_6 b19_8
def b19_10 : SCode := .seq b19_1 b19_9
def b19_11 : SCode := .seq b19_0 b19_10
def s19 : SFunc := ⟨15, [.t 4], b19_11⟩
theorem c19 : sFn Tryz.prog 19 = some s19 := by kernel_rfl
theorem Z19 : XR b19_0 r19_0 ∧ XR b19_1 r19_1 ∧ XR b19_2 r19_2 ∧ XR b19_3 r19_3 ∧ XS b19_4 b19_3 .ret ∧ XC b19_5 (.t 12) b19_4 .skip ∧ XS b19_6 b19_2 b19_5 ∧ XR b19_7 r19_7 ∧ XS b19_8 b19_7 .ret ∧ XS b19_9 b19_6 b19_8 ∧ XS b19_10 b19_1 b19_9 ∧ XS b19_11 b19_0 b19_10 ∧ XY s19 15 b19_11 [.t 4] := ⟨rfl, rfl, rfl, rfl, rfl, sC_cond, rfl, rfl, rfl, rfl, rfl, rfl, rfl⟩
abbrev r20_0 : List MOper := [⟨(some 3), .box (.t 1), none⟩]
def b20_0 : SCode := .region r20_0
abbrev t20_1 : LTree := (.quiet ⟨(some 4), .fieldAddr 4 (.t 3), none⟩ 0
  (.quiet ⟨(some 5), .load1 (.t 4), none⟩ 1
  (.quiet ⟨(some 6), .bin .geq .num (.t 5) (.c (.int .i64 1)), none⟩ 2
  (.quiet ⟨(some 7), .move (.t 6), none⟩ 3
  (.quiet ⟨(some 8), .fieldAddr 4 (.t 3), (some (7, true))⟩ 4
  (.quiet ⟨(some 9), .load1 (.t 8), (some (7, true))⟩ 5
  (.quiet ⟨(some 10), .move (.t 0), (some (7, true))⟩ 6
  (.quiet ⟨(some 11), .nilCheck (.t 10), (some (7, true))⟩ 7
  (.quiet ⟨(some 12), .fieldAddr 2 (.t 11), (some (7, true))⟩ 8
  (.quiet ⟨(some 13), .load1 (.t 12), (some (7, true))⟩ 9
  (.quiet ⟨(some 14), .bin .leq .num (.t 9) (.t 13), (some (7, true))⟩ 10
  (.quiet ⟨(some 15), .pick (.t 7) (.t 14) (.c (.bool false)), none⟩ 11
  .leaf))))))))))))
def b20_1 : SCode := .draw t20_1
abbrev t20_2 : LTree := (.quiet ⟨(some 16), .move (.t 0), none⟩ 0
  (.quiet ⟨(some 17), .move (.t 0), none⟩ 1
  (.quiet ⟨(some 18), .nilCheck (.t 17), none⟩ 2
  (.quiet ⟨(some 19), .fieldAddr 4 (.t 18), none⟩ 3
  (.quiet ⟨(some 20), .loadN 3 (.t 19), none⟩ 4
  (.quiet ⟨(some 21), .fieldAddr 25 (.t 3), none⟩ 5
  (.quiet ⟨(some 22), .fieldAddr 0 (.t 21), none⟩ 6
  (.quiet ⟨(some 23), .load1 (.t 22), none⟩ 7
  (.quiet ⟨(some 24), .fieldAddr 4 (.t 3), none⟩ 8
  (.quiet ⟨(some 25), .load1 (.t 24), none⟩ 9
  (.quiet ⟨(some 26), .move (.t 0), none⟩ 10
  (.quiet ⟨(some 27), .nilCheck (.t 26), none⟩ 11
  (.quiet ⟨(some 28), .fieldAddr 3 (.t 27), none⟩ 12
  (.quiet ⟨(some 29), .load1 (.t 28), none⟩ 13
  (.quiet ⟨(some 30), .build [.int .i64 0, .int .i64 0, .int .i64 0] [(0, 1, (.t 23)), (1, 1, (.t 25)), (2, 1, (.t 29))], none⟩ 14
  (.loud ⟨(some 31), .call 41 [(.t 20), (.t 30)], none⟩ []
  (.quiet ⟨(some 32), .nilCheck (.t 16), none⟩ 16
  (.quiet ⟨(some 33), .fieldAddr 4 (.t 32), none⟩ 17
  (.loud ⟨none, .store 3 (.t 33) (.t 31), none⟩ []
  .leaf .stop))) .stop))))))))))))))))
def b20_2 : SCode := .draw t20_2
def b20_3 : SCode := .cond (.t 15) b20_2 .skip
def b20_4 : SCode := .seq b20_1 b20_3
def b20_5 : SCode := .seq b20_0 b20_4
def s20 : SFunc := ⟨34, [], b20_5⟩
theorem c20 : sFn Tryz.prog 20 = some s20 := by kernel_rfl
theorem Z20 : XR b20_0 r20_0 ∧ XT b20_1 t20_1 ∧ XT b20_2 t20_2 ∧ XC b20_3 (.t 15) b20_2 .skip ∧ XS b20_4 b20_1 b20_3 ∧ XS b20_5 b20_0 b20_4 ∧ XY s20 34 b20_5 [] := ⟨rfl, rfl, rfl, sC_cond, rfl, rfl, rfl⟩
abbrev r21_0 : List MOper := [⟨(some 3), .box (.t 1), none⟩,
  ⟨(some 4), .move (.c (.nilslice)), none⟩]
def b21_0 : SCode := .region r21_0
abbrev r21_1 : List MOper := [⟨(some 7), .fieldAddr 5 (.t 3), none⟩,
  ⟨(some 8), .fieldAddr 1 (.t 7), none⟩,
  ⟨(some 9), .load1 (.t 8), none⟩,
  ⟨(some 10), .fieldAddr 5 (.t 3), none⟩,
  ⟨(some 11), .fieldAddr 2 (.t 10), none⟩,
  ⟨(some 12), .load1 (.t 11), none⟩,
  ⟨(some 13), .build [.int .i64 0, .int .i64 0, .int .i64 0, .bool false, .str [], .nilslice, .str [], .bool false] [(0, 1, (.t 9)), (1, 1, (.t 12)), (2, 1, (.c (.int .i64 11)))], none⟩,
  ⟨(some 5), .alloc [.int .i64 0, .int .i64 0, .int .i64 0, .bool false, .str [], .nilslice, .str [], .bool false], none⟩,
  ⟨none, .store 8 (.t 5) (.t 13), none⟩,
  ⟨(some 6), .move (.c (.bool true)), none⟩]
def b21_1 : SCode := .region r21_1
abbrev r21_2 : List MOper := [⟨(some 14), .move (.t 0), none⟩,
  ⟨(some 15), .call 13 [(.t 14)], none⟩]
def b21_2 : SCode := .region r21_2
abbrev t21_3 : LTree := (.quiet ⟨(some 17), .move (.t 0), none⟩ 0
  (.quiet ⟨(some 18), .nilCheck (.t 17), none⟩ 1
  (.quiet ⟨(some 19), .fieldAddr 1 (.t 18), none⟩ 2
  (.quiet ⟨(some 20), .load1 (.t 19), none⟩ 3
  (.quiet ⟨(some 21), .fieldAddr 5 (.t 3), none⟩ 4
  (.quiet ⟨(some 22), .loadN 8 (.t 21), none⟩ 5
  (.loud ⟨(some 23), .call 42 [(.t 20), (.t 22)], none⟩ []
  (.quiet ⟨(some 16), .move (.t 23), none⟩ 7
  (.quiet ⟨(some 24), .extract (.t 16) 0, none⟩ 8
  (.quiet ⟨(some 25), .extract (.t 16) 1, none⟩ 9
  (.loud ⟨none, .store 8 (.t 5) (.t 24), none⟩ []
  (.quiet ⟨(some 6), .move (.t 25), none⟩ 11
  .leaf) .stop)))) .stop)))))))
def b21_3 : SCode := .draw t21_3
def b21_4 : SCode := .cond (.t 15) b21_3 .skip
def b21_5 : SCode := .seq b21_2 b21_4
abbrev r21_6 : List MOper := [⟨(some 26), .move (.t 6), none⟩,
  ⟨(some 27), .un .not (.t 26), none⟩,
  ⟨(some 28), .move (.t 27), none⟩,
  ⟨(some 29), .fieldAddr 2 (.t 5), (some (28, true))⟩,
  ⟨(some 30), .load1 (.t 29), (some (28, true))⟩,
  ⟨(some 31), .bin .neq .num (.t 30) (.c (.int .i64 11)), (some (28, true))⟩,
  ⟨(some 32), .pick (.t 28) (.t 31) (.c (.bool false)), none⟩]
def b21_6 : SCode := .region r21_6
abbrev r21_7 : List MOper := [⟨(some 4), .move (.c (.nilslice)), none⟩]
def b21_7 : SCode := .region r21_7
def b21_8 : SCode := .seq b21_7 .ret
def b21_9 : SCode := .cond (.t 32) b21_8 .skip
def b21_10 : SCode := .seq b21_6 b21_9
abbrev r21_11 : List MOper := [⟨(some 33), .move (.t 0), none⟩,
  ⟨(some 34), .fieldAddr 1 (.t 3), none⟩,
  ⟨(some 35), .load1 (.t 34), none⟩,
  ⟨(some 36), .loadN 8 (.t 5), none⟩,
  ⟨(some 37), .build [.int .i64 0, .int .i64 0, .int .i64 0, .int .i64 0, .int .i64 0, .int .i64 0, .int .i64 0, .int .i64 0, .str [], .str [], .str [], .str [], .int .i64 0, .int .i64 0, .int .i64 0, .int .i64 0, .bool false, .str [], .nilslice, .str [], .bool false, .str [], .str [], .nilslice, .nilslice, .int .i64 0, .nilslice] [(0, 1, (.c (.int .i64 2))), (2, 1, (.t 35)), (13, 8, (.t 36))], none⟩,
  ⟨(some 38), .call 19 [(.t 33), (.t 37)], none⟩,
  ⟨(some 4), .move (.t 38), none⟩]
def b21_11 : SCode := .region r21_11
def b21_12 : SCode := .seq b21_11 .ret
def b21_13 : SCode := .seq b21_10 b21_12
def b21_14 : SCode := .seq b21_5 b21_13
def b21_15 : SCode := .seq b21_1 b21_14
def b21_16 : SCode := .seq b21_0 b21_15
def s21 : SFunc := ⟨39, [.t 4], b21_16⟩
theorem c21 : sFn Tryz.prog 21 = some s21 := by kernel_rfl
theorem Z21 : XR b21_0 r21_0 ∧ XR b21_1 r21_1 ∧ XR b21_2 r21_2 ∧ XT b21_3 t21_3 ∧ XC b21_4 (.t 15) b21_3 .skip ∧ XS b21_5 b21_2 b21_4 ∧ XR b21_6 r21_6 ∧ XR b21_7 r21_7 ∧ XS b21_8 b21_7 .ret ∧ XC b21_9 (.t 32) b21_8 .skip ∧ XS b21_10 b21_6 b21_9 ∧ XR b21_11 r21_11 ∧ XS b21_12 b21_11 .ret ∧ XS b21_13 b21_10 b21_12 ∧ XS b21_14 b21_5 b21_13 ∧ XS b21_15 b21_1 b21_14 ∧ XS b21_16 b21_0 b21_15 ∧ XY s21 39 b21_16 [.t 4] := ⟨rfl, rfl, rfl, rfl, sC_cond, rfl, rfl, rfl, rfl, sC_cond, rfl, rfl, rfl, rfl, rfl, rfl, rfl, rfl⟩
abbrev r35_0 : List MOper := [⟨(some 2), .move (.c (.nilslice)), none⟩]
def b35_0 : SCode := .region r35_0
abbrev r35_1 : List MOper := [⟨(some 6), .move (.t 0), none⟩,
  ⟨(some 7), .bin .eql .nilp (.t 6) (.c (.nilptr)), none⟩]
def b35_1 : SCode := .region r35_1
abbrev r35_2 : List MOper := [⟨(some 2), .move (.c (.nilslice)), none⟩]
def b35_2 : SCode := .region r35_2
def b35_3 : SCode := .seq b35_2 .ret
def b35_4 : SCode := .cond (.t 7) b35_3 .skip
def b35_5 : SCode := .seq b35_1 b35_4
abbrev r35_6 : List MOper := [⟨(some 3), .move (.c (.nilslice)), none⟩]
def b35_6 : SCode := .region r35_6
abbrev r35_7 : List MOper := [⟨(some 8), .move (.t 0), none⟩,
  ⟨(some 9), .nilCheck (.t 8), none⟩,
  ⟨(some 10), .fieldAddr 6 (.t 9), none⟩,
  ⟨(some 11), .load1 (.t 10), none⟩,
  ⟨(some 12), .lenSl (.t 11), none⟩,
  ⟨(some 13), .move (.c (.int .i64 0)), none⟩]
def b35_7 : SCode := .region r35_7
abbrev r35_8 : List MOper := [⟨(some 14), .bin .lss .num (.t 13) (.t 12), none⟩]
def b35_8 : SCode := .region r35_8
def b35_9 : SCode := .cond (.t 14) .skip (.exit 0)
abbrev r35_10 : List MOper := [⟨(some 15), .indexAddr 1 (.t 11) (.t 13), none⟩,
  ⟨(some 16), .load1 (.t 15), none⟩,
  ⟨(some 5), .move (.t 16), none⟩]
def b35_10 : SCode := .region r35_10
abbrev t35_11 : LTree := (.quiet ⟨(some 17), .move (.t 3), none⟩ 0
  (.quiet ⟨(some 18), .move (.t 5), none⟩ 1
  (.quiet ⟨(some 19), .nilCheck (.t 18), none⟩ 2
  (.quiet ⟨(some 20), .fieldAddr 0 (.t 19), none⟩ 3
  (.quiet ⟨(some 21), .loadN 2 (.t 20), none⟩ 4
  (.quiet ⟨(some 22), .move (.t 5), none⟩ 5
  (.quiet ⟨(some 23), .nilCheck (.t 22), none⟩ 6
  (.quiet ⟨(some 24), .fieldAddr 2 (.t 23), none⟩ 7
  (.quiet ⟨(some 25), .load1 (.t 24), none⟩ 8
  (.quiet ⟨(some 26), .move (.t 5), none⟩ 9
  (.quiet ⟨(some 27), .nilCheck (.t 26), none⟩ 10
  (.quiet ⟨(some 28), .fieldAddr 3 (.t 27), none⟩ 11
  (.quiet ⟨(some 29), .load1 (.t 28), none⟩ 12
  (.quiet ⟨(some 30), .move (.t 5), none⟩ 13
  (.quiet ⟨(some 31), .nilCheck (.t 30), none⟩ 14
  (.quiet ⟨(some 32), .fieldAddr 4 (.t 31), none⟩ 15
  (.quiet ⟨(some 33), .load1 (.t 32), none⟩ 16
  (.loud ⟨(some 34), .call 59 [(.t 33)], none⟩ [4, 8, 12]
  (.quiet ⟨(some 35), .build [.str [], .str [], .int .i64 0, .bool false, .int .i64 0] [(0, 2, (.t 21)), (2, 1, (.t 25)), (3, 1, (.t 29)), (4, 1, (.t 34))], none⟩ 18
  (.loud ⟨(some 36), .buildSlice [.str [], .str [], .int .i64 0, .bool false, .int .i64 0] 5 1 [(0, 5, (.t 35))], none⟩ []
  (.loud ⟨(some 37), .append 5 56 (.t 17) (.t 36), none⟩ []
  (.quiet ⟨(some 3), .move (.t 37), none⟩ 21
  .leaf) .stop) .stop)) .stop))))))))))))))))))
def b35_11 : SCode := .draw t35_11
def b35_12 : SCode := .seq b35_10 b35_11
def b35_13 : SCode := .block 1 b35_12
abbrev r35_14 : List MOper := [⟨(some 38), .bin .add .num (.t 13) (.c (.int .i64 1)), none⟩,
  ⟨(some 13), .move (.t 38), none⟩]
def b35_14 : SCode := .region r35_14
def b35_15 : SCode := .seq b35_13 b35_14
def b35_16 : SCode := .seq b35_9 b35_15
def b35_17 : SCode := .seq b35_8 b35_16
def b35_18 : SCode := .loop b35_17
def b35_19 : SCode := .block 0 b35_18
def b35_20 : SCode := .seq b35_7 b35_19
abbrev r35_21 : List MOper := [⟨(some 39), .move (.t 3), none⟩,
  ⟨(some 2), .move (.t 39), none⟩]
def b35_21 : SCode := .region r35_21
def b35_22 : SCode := .seq b35_21 .ret
def b35_23 : SCode := .seq b35_20 b35_22
def b35_24 : SCode := .seq b35_6 b35_23
def b35_25 : SCode := .seq b35_5 b35_24
def b35_26 : SCode := .seq b35_0 b35_25
def s35 : SFunc := ⟨40, [.t 2], b35_26⟩
theorem c35 : sFn Tryz.prog 35 = some s35 := by kernel_rfl
theorem Z35 : XR b35_0 r35_0 ∧ XR b35_1 r35_1 ∧ XR b35_2 r35_2 ∧ XS b35_3 b35_2 .ret ∧ XC b35_4 (.t 7) b35_3 .skip ∧ XS b35_5 b35_1 b35_4 ∧ XR b35_6 r35_6 ∧ XR b35_7 r35_7 ∧ XR b35_8 r35_8 ∧ XC b35_9 (.t 14) .skip (.exit 0) ∧ XR b35_10 r35_10 ∧ XT b35_11 t35_11 ∧ XS b35_12 b35_10 b35_11 ∧ XB b35_13 1 b35_12 ∧ XR b35_14 r35_14 ∧ XS b35_15 b35_13 b35_14 ∧ XS b35_16 b35_9 b35_15 ∧ XS b35_17 b35_8 b35_16 ∧ XB b35_19 0 b35_18 ∧ XS b35_20 b35_7 b35_19 ∧ XR b35_21 r35_21 ∧ XS b35_22 b35_21 .ret ∧ XS b35_23 b35_20 b35_22 ∧ XS b35_24 b35_6 b35_23 ∧ XS b35_25 b35_5 b35_24 ∧ XS b35_26 b35_0 b35_25 ∧ XY s35 40 b35_26 [.t 2] := ⟨rfl, rfl, rfl, rfl, sC_cond, rfl, rfl, rfl, rfl, sC_cond, rfl, rfl, rfl, rfl, rfl, rfl, rfl, rfl, rfl, rfl, rfl, rfl, rfl, rfl, rfl, rfl, rfl⟩

end
set_option maxHeartbeats 4000000
set_option maxRecDepth 10000
/-- All that was is there. -/
def Kp (σ τ : AHeap) : Prop := ∀ j c, hget σ j = some c → hget τ j = some c
theorem Kp.refl (σ : AHeap) : Kp σ σ := fun _ _ h => h
theorem Kp.trans {σ τ υ : AHeap} (h : Kp σ τ) (k : Kp τ υ) : Kp σ υ := fun j c hj => k j c (h j c hj)
theorem Kp.push {σ : AHeap} {c : List AV} : Kp σ (hpush σ c) := fun j x h => push_old h
theorem Kp.pushSet {σ : AHeap} {c d : List AV} : Kp σ (hset (hpush σ c) σ.length d) := fun j x h => by
  have := hget_lt h
  rw [set_other (by omega)]; exact push_old h
def mayCD (args : List AV) (σ : AHeap) (K : AV → AHeap → Prop) : Prop := ∃ (cs : List AV) (n : NoteV), args = [.agg cs] ∧ cs.map nz1 = n.cells ∧ n.sz ∧ K (.bool (mayB n)) σ
theorem mayCD_ok (args : List AV) (σ : AHeap) (K : AV → AHeap → Prop) (h : mayCD args σ K) : Tri Tryz.prog 16 args σ K := by
  obtain ⟨cs, n, rfl, hc, hs, h⟩ := h
  refine Tri.nz ?_
  rw [hc]
  exact (Tri.pureD (by rw [pureL, note_pure]; rfl) (may_ok n hs) σ).mono fun r σ' hr => by rw [hr.1, hr.2]; exact h
def C19 : PCall := rowQ 16 mayCD noCall
theorem C19_app {f : FuncId} {args : List AV} {σ : AHeap} {K : AV → AHeap → Prop} : C19 f args σ K = rowQ 16 mayCD noCall f args σ K := _root_.id rfl
theorem C19_sound : Sound Tryz.prog C19 := rowQ_sound mayCD_ok (noCall_sound _)
abbrev noteZ : List AV := [.int .i64 0, .int .i64 0, .int .i64 0, .int .i64 0, .int .i64 0, .int .i64 0, .int .i64 0, .int .i64 0, .str [], .str [], .str [], .str [], .int .i64 0, .int .i64 0, .int .i64 0, .int .i64 0, .bool false, .str [], .nilslice, .str [], .bool false, .str [], .str [], .nilslice, .nilslice, .int .i64 0, .nilslice]
theorem said_ok (σ : AHeap) (kb : Nat) (node : Int) (ks cs cs' : List AV) (n : NoteV) (hk : hget σ kb = some ks) (h0 : ks[0]? = some (.int .i64 node)) (hp : put cs 1 [.int .i64 node] = some cs') (hn : cs'.map nz1 = n.cells) (hs : n.sz)
    (hl : cs'.length = 27) (Q : AV → AHeap → Prop) (q1 : mayB n = false → ∀ σ', Kp σ σ' → Q .nilslice σ') (q2 : mayB n = true → ∀ d σ', Kp σ σ' → hget σ' d = some cs' → σ.length ≤ d → Q (.slice d 0 1 (some 1) 27) σ') :
    Tri Tryz.prog 19 [.ptr kb 0, .agg cs] σ Q := by
  refine Tri.of_s c19 C19_sound ?_
  have b1 : hget (hpush σ cs) kb = some ks := push_old hk
  have b2 : hget (hpush σ cs) σ.length = some cs := push_new rfl
  have b3 : hget (hset (hpush σ cs) σ.length cs') σ.length = some cs' := set_same b2
  have s0 : sub cs' 0 27 = some cs' := by unfold sub; rw [if_pos (by omega)]; simp [← hl]
  have fp : put noteZ 0 cs' = some cs' := by
    unfold put
    rw [if_pos (by rw [hl]; decide)]
    simp [hl]
  have fl : (List.replicate 1 noteZ).flatten = noteZ := rfl
  simp only [C19_app, Z19, base1, ↓reduceIte, Nat.reduceAdd, Nat.reduceSub, Nat.reduceMul, Nat.reduceEqDiff, Nat.reduceLeDiff, Nat.reduceLT, Int.reduceLT, Int.reduceLE, Int.reduceEq, Int.reduceNe, Int.reduceToNat, Int.reduceAdd, Int.reduceSub, reduceCtorEq, Nat.reduceBEq, Nat.reduceBNe, b1, b2, b3, h0, hp, s0]
  refine ⟨cs', n, rfl, hn, hs, ?_⟩
  cases hm : mayB n with
  | false =>
    simp only [C19_app, Z19, base1, ↓reduceIte, Nat.reduceAdd, Nat.reduceSub, Nat.reduceMul, Nat.reduceEqDiff, Nat.reduceLeDiff, Nat.reduceLT, Int.reduceLT, Int.reduceLE, Int.reduceEq, Int.reduceNe, Int.reduceToNat, Int.reduceAdd, Int.reduceSub, reduceCtorEq, Nat.reduceBEq, Nat.reduceBNe, b1, b2, b3, h0, hp, s0]
    exact q1 hm _ Kp.pushSet
  | true =>
    simp only [C19_app, Z19, base1, ↓reduceIte, Nat.reduceAdd, Nat.reduceSub, Nat.reduceMul, Nat.reduceEqDiff, Nat.reduceLeDiff, Nat.reduceLT, Int.reduceLT, Int.reduceLE, Int.reduceEq, Int.reduceNe, Int.reduceToNat, Int.reduceAdd, Int.reduceSub, reduceCtorEq, Nat.reduceBEq, Nat.reduceBNe, b1, b2, b3, h0, hp, s0, hl, fl, fp]
    exact q2 hm _ _ (Kp.pushSet.trans Kp.push) (push_new rfl) (by rw [set_len, push_len]; omega)
def saidD (args : List AV) (σ : AHeap) (K : AV → AHeap → Prop) : Prop := ∃ (kb : Nat) (node : Int) (ks cs cs' : List AV) (n : NoteV), args = [.ptr kb 0, .agg cs] ∧ hget σ kb = some ks ∧ ks[0]? = some (.int .i64 node) ∧ put cs 1 [.int .i64 node] = some cs' ∧ cs'.map nz1 = n.cells ∧ n.sz ∧ cs'.length = 27 ∧
  (mayB n = false → ∀ σ', Kp σ σ' → K .nilslice σ') ∧ (mayB n = true → ∀ d σ', Kp σ σ' → hget σ' d = some cs' → σ.length ≤ d → K (.slice d 0 1 (some 1) 27) σ')
theorem saidD_ok (args : List AV) (σ : AHeap) (K : AV → AHeap → Prop) (h : saidD args σ K) : Tri Tryz.prog 19 args σ K := by
  obtain ⟨kb, node, ks, cs, cs', n, rfl, hk, h0, hp, hn, hs, hl, q1, q2⟩ := h
  exact said_ok σ kb node ks cs cs' n hk h0 hp hn hs hl K q1 q2
/-! The clock, the lease. -/
theorem clock_ok (σ : AHeap) (kb : Nat) (ks : List AV) (c : Int) (hk : hget σ kb = some ks) (h2 : ks[2]? = some (.int .i64 c)) : Tri Tryz.prog 12 [.ptr kb 0] σ fun r σ' => r = .int .i64 c ∧ σ' = σ := by
  refine Tri.of_s c12 (noCall_sound _) ?_
  simp only [Z12, base1, baseE, ↓reduceIte, Nat.reduceAdd, Nat.reduceSub, Nat.reduceMul, Nat.reduceEqDiff, Nat.reduceLeDiff, Nat.reduceLT, Int.reduceLT, Int.reduceLE, Int.reduceEq, Int.reduceNe, Int.reduceToNat, Int.reduceAdd, Int.reduceSub, reduceCtorEq, Nat.reduceBEq, Nat.reduceBNe, hk, h2]
def clockD (args : List AV) (σ : AHeap) (K : AV → AHeap → Prop) : Prop := ∃ (kb : Nat) (ks : List AV) (c : Int), args = [.ptr kb 0] ∧ hget σ kb = some ks ∧ ks[2]? = some (.int .i64 c) ∧ K (.int .i64 c) σ
theorem clockD_ok (args : List AV) (σ : AHeap) (K : AV → AHeap → Prop) (h : clockD args σ K) : Tri Tryz.prog 12 args σ K := by
  obtain ⟨kb, ks, c, rfl, hk, h2, h⟩ := h
  exact (clock_ok σ kb ks c hk h2).mono fun r σ' hr => by rw [hr.1, hr.2]; exact h
def C13 : PCall := rowQ 25 holdsD noCall
theorem C13_app {f : FuncId} {args : List AV} {σ : AHeap} {K : AV → AHeap → Prop} : C13 f args σ K = rowQ 25 holdsD noCall f args σ K := _root_.id rfl
theorem C13_sound : Sound Tryz.prog C13 := rowQ_sound holdsD_ok (noCall_sound _)
theorem leased_ok (σ : AHeap) (kb : Nat) (node : Int) (s : Nat) (c len e b f : Int) (hk : hget σ kb = some (keepC node s c len e b f)) : Tri Tryz.prog 13 [.ptr kb 0] σ fun r σ' => r = .bool (holdB e b f c) ∧ σ' = σ := by
  refine Tri.of_s c13 C13_sound ?_
  have k2 : (keepC node s c len e b f)[2]? = some (.int .i64 c) := rfl
  have k4 : sub (keepC node s c len e b f) 4 3 = some [.int .i64 e, .int .i64 b, .int .i64 f] := rfl
  simp only [C13_app, holdsD_eq, Z13, base1, baseE, ↓reduceIte, Nat.reduceAdd, Nat.reduceSub, Nat.reduceMul, Nat.reduceEqDiff, Nat.reduceLeDiff, Nat.reduceLT, Int.reduceLT, Int.reduceLE, Int.reduceEq, Int.reduceNe, Int.reduceToNat, Int.reduceAdd, Int.reduceSub, reduceCtorEq, Nat.reduceBEq, Nat.reduceBNe, hk, k2, k4]
def leasedD (args : List AV) (σ : AHeap) (K : AV → AHeap → Prop) : Prop := ∃ (kb : Nat) (node : Int) (s : Nat) (c len e b f : Int), args = [.ptr kb 0] ∧ hget σ kb = some (keepC node s c len e b f) ∧ K (.bool (holdB e b f c)) σ
theorem leasedD_ok (args : List AV) (σ : AHeap) (K : AV → AHeap → Prop) (h : leasedD args σ K) : Tri Tryz.prog 13 args σ K := by
  obtain ⟨kb, node, s, c, len, e, b, f, rfl, hk, h⟩ := h
  exact (leased_ok σ kb node s c len e b f hk).mono fun r σ' hr => by rw [hr.1, hr.2]; exact h
/-! A tick. -/
def C9 : PCall := rowQ 19 saidD noCall
theorem C9_app {f : FuncId} {args : List AV} {σ : AHeap} {K : AV → AHeap → Prop} : C9 f args σ K = rowQ 19 saidD noCall f args σ K := _root_.id rfl
theorem C9_sound : Sound Tryz.prog C9 := rowQ_sound saidD_ok (noCall_sound _)
def ask0 : AskV := ⟨0, 0, 0, [], [], [], [], 0⟩
def rep0 : RepV := ⟨0, 0, 0, false, [], [], [], false⟩
def beatN (node c : Int) : NoteV := ⟨5, node, 0, 0, c, ask0, rep0, [], [], [], [], 0, []⟩
abbrev beatC (node c : Int) : List AV := [.int .i64 5, .int .i64 node, .int .i64 0, .int .i64 0, .int .i64 c, .int .i64 0, .int .i64 0, .int .i64 0, .str [], .str [], .str [], .str [], .int .i64 0, .int .i64 0, .int .i64 0, .int .i64 0, .bool false, .str [], .nilslice, .str [], .bool false, .str [], .str [], .nilslice, .nilslice, .int .i64 0, .nilslice]
theorem rep0_len : rep0.bytes.length ≤ 900000000 := Nat.le_of_ble_eq_true (by kernel_rfl)
theorem plain_sz {n : NoteV} (h1 : n.ask = ask0) (h2 : n.rep = rep0) (h3 : n.sf = []) (h4 : n.st = []) (h5 : n.l = []) (h6 : n.last = []) (h7 : n.sh.length ≤ 1000000) (h8 : ∀ x ∈ n.sh, x.bytes.length ≤ 900000000) (h9 : (n.sh.flatMap fun x => txt x.bytes).length ≤ 100000000) : n.sz := by
  refine ⟨?_, ?_, ?_, ?_, ?_, h7, ?_, ?_, h8, ?_, ?_, h9⟩
  · rw [h1]; decide
  · rw [h2]; exact rep0_len
  · rw [h3, h4]; decide
  · rw [h5]; decide
  · rw [h6]; decide
  · rw [h5]; intro x hx; simp at hx
  · rw [h6]; intro x hx; simp at hx
  · rw [h5]; decide
  · rw [h6]; decide
theorem beat_sz (node c : Int) : (beatN node c).sz := plain_sz rfl rfl rfl rfl rfl rfl (by simp [beatN]) (by intro x hx; simp [beatN] at hx) (by simp [beatN])
theorem tick_ok (σ : AHeap) (kb : Nat) (node : Int) (s : Nat) (c len e b f : Int) (hk : hget σ kb = some (keepC node s c len e b f)) (hc : IntKind.wrap .i64 (c + 1) = c + 1) (Q : AV → AHeap → Prop)
    (q : ∀ r σ', hget σ' kb = some (keepC node s (c + 1) len e b f) → (mayB (beatN node (c + 1)) = true → ∃ d, r = .slice d 0 1 (some 1) 27 ∧ hget σ' d = some (beatC node (c + 1)) ∧ d ≠ kb) → (∀ j cs, j ≠ kb → hget σ j = some cs → hget σ' j = some cs) → Q r σ') :
    Tri Tryz.prog 9 [.ptr kb 0] σ Q := by
  refine Tri.of_s c9 C9_sound ?_
  have k2 : (keepC node s c len e b f)[2]? = some (.int .i64 c) := rfl
  have k2' : (keepC node s (c + 1) len e b f)[2]? = some (.int .i64 (c + 1)) := rfl
  have pk : put (keepC node s c len e b f) 2 [.int .i64 (c + 1)] = some (keepC node s (c + 1) len e b f) := rfl
  have b1 : hget (hset σ kb (keepC node s (c + 1) len e b f)) kb = some (keepC node s (c + 1) len e b f) := set_same hk
  simp only [C9_app, Z9, base1, ↓reduceIte, Nat.reduceAdd, Nat.reduceSub, Nat.reduceMul, Nat.reduceEqDiff, Nat.reduceLeDiff, Nat.reduceLT, Int.reduceLT, Int.reduceLE, Int.reduceEq, Int.reduceNe, Int.reduceToNat, Int.reduceAdd, Int.reduceSub, reduceCtorEq, Nat.reduceBEq, Nat.reduceBNe, hk, k2, pk, hc, b1, k2']
  have fr : ∀ j cs, j ≠ kb → hget σ j = some cs → hget (hset σ kb (keepC node s (c + 1) len e b f)) j = some cs := fun j cs hj h => by rw [set_other (Ne.symm hj)]; exact h
  refine ⟨kb, node, _, _, _, beatN node (c + 1), rfl, b1, rfl, rfl, rfl, beat_sz _ _, rfl, fun hm σ' hk' => ?_, fun hm d σ' hk' hd hl => ?_⟩
  · simp only [C9_app, Z9, base1, ↓reduceIte, Nat.reduceAdd, Nat.reduceSub, Nat.reduceMul, Nat.reduceEqDiff, Nat.reduceLeDiff, Nat.reduceLT, Int.reduceLT, Int.reduceLE, Int.reduceEq, Int.reduceNe, Int.reduceToNat, Int.reduceAdd, Int.reduceSub, reduceCtorEq, Nat.reduceBEq, Nat.reduceBNe]
    exact q _ _ (hk' _ _ b1) (fun h => by rw [hm] at h; cases h) fun j cs hj h => hk' _ _ (fr j cs hj h)
  · simp only [C9_app, Z9, base1, ↓reduceIte, Nat.reduceAdd, Nat.reduceSub, Nat.reduceMul, Nat.reduceEqDiff, Nat.reduceLeDiff, Nat.reduceLT, Int.reduceLT, Int.reduceLE, Int.reduceEq, Int.reduceNe, Int.reduceToNat, Int.reduceAdd, Int.reduceSub, reduceCtorEq, Nat.reduceBEq, Nat.reduceBNe]
    rw [set_len] at hl
    have := hget_lt hk
    exact q _ _ (hk' _ _ b1) (fun _ => ⟨d, rfl, hd, by omega⟩) fun j cs hj h => hk' _ _ (fr j cs hj h)
end Go.Proofs.YtgaopohogdinhaaGreatDoor.keep

/- A keeper hears a grant, or a note that is not for it, or that may not be. No condition. -/
set_option linter.unusedVariables false
set_option linter.unusedSimpArgs false
namespace Go.Proofs.YtgaopohogdinhaaGreatDoor.keep
open Go.ChangeShapes Go.WideShapes Go.ChangeAt Go.RowKit Go.Gz Go.Proofs.YtgaopohogdinhaaGreatDoor.note
set_option maxHeartbeats 4000000
set_option maxRecDepth 10000
theorem nz_at {cs ns : List AV} (h : cs.map nz1 = ns) {i : Nat} {y : AV} (hy : ns[i]? = some y) (hne : ∀ r f n, y ≠ .imm r f n) : cs[i]? = some y := by
  subst h
  rw [List.getElem?_map] at hy
  obtain ⟨x, hx, rfl⟩ := Option.map_eq_some_iff.1 hy
  rw [hx]
  cases x <;> first | rfl | exact absurd rfl (hne _ _ _)
theorem nz_len {cs : List AV} {n : NoteV} (h : cs.map nz1 = n.cells) : cs.length = 27 := by
  have := congrArg List.length h
  simpa [NoteV.cells] using this
theorem sub_two {cs : List AV} {i : Nat} {x y : AV} (h1 : cs[i]? = some x) (h2 : cs[i + 1]? = some y) : sub cs i 2 = some [x, y] := by
  have l2 := idx_lt h2
  unfold sub
  rw [if_pos (by omega)]
  have e1 : (cs.drop i)[0]? = some x := by rw [List.getElem?_drop]; exact h1
  have e2 : (cs.drop i)[1]? = some y := by rw [List.getElem?_drop]; exact h2
  congr 1
  match hd : cs.drop i with
  | [] => rw [hd] at e1; simp at e1
  | [a] => rw [hd] at e2; simp at e2
  | a :: b :: r =>
    rw [hd] at e1 e2
    simp at e1 e2
    subst e1; subst e2
    rfl
theorem sub_27 {cs : List AV} (h : cs.length = 27) : sub cs 0 27 = some cs := by
  unfold sub; rw [if_pos (by omega)]; simp [← h]
theorem later_is (e s f e' s' f' : Int) : ∃ a b c, laterL e s f e' s' f' = leaseC a b c := by
  unfold laterL
  repeat' split
  all_goals exact ⟨_, _, _, rfl⟩
def D20 : PCall := rowQ 41 laterD noCall
theorem D20_app {f : FuncId} {args : List AV} {σ : AHeap} {K : AV → AHeap → Prop} : D20 f args σ K = rowQ 41 laterD noCall f args σ K := _root_.id rfl
theorem D20_sound : Sound Tryz.prog D20 := rowQ_sound laterD_ok (noCall_sound _)
/-- The lease behind a grant. -/
def grantL (c len e b f ep tick : Int) : List AV := if (decide (1 ≤ tick) && decide (tick ≤ c)) = true then laterL e b f ep tick len else leaseC e b f
theorem grant_ok (σ : AHeap) (kb : Nat) (node : Int) (s : Nat) (c len e b f ep tick : Int) (cs : List AV) (hk : hget σ kb = some (keepC node s c len e b f)) (h4 : cs[4]? = some (.int .i64 tick)) (h25 : cs[25]? = some (.int .i64 ep))
    (e' b' f' : Int) (hL : grantL c len e b f ep tick = leaseC e' b' f') (Q : AV → AHeap → Prop)
    (q : ∀ σ', hget σ' kb = some (keepC node s c len e' b' f') → (∀ j cs, j ≠ kb → hget σ j = some cs → hget σ' j = some cs) → Q (.tuple []) σ') :
    Tri Tryz.prog 20 [.ptr kb 0, .agg cs] σ Q := by
  refine Tri.of_s c20 D20_sound ?_
  have e1 : decide (tick ≥ 1) = decide (1 ≤ tick) := rfl
  have b1 : hget (hpush σ cs) kb = some (keepC node s c len e b f) := push_old hk
  have b2 : hget (hpush σ cs) σ.length = some cs := push_new rfl
  have k2 : (keepC node s c len e b f)[2]? = some (.int .i64 c) := rfl
  have k3 : (keepC node s c len e b f)[3]? = some (.int .i64 len) := rfl
  have k4 : sub (keepC node s c len e b f) 4 3 = some [.int .i64 e, .int .i64 b, .int .i64 f] := rfl
  have hkl := hget_lt hk
  unfold grantL at hL
  cases c1 : decide (1 ≤ tick) with
  | false =>
    rw [c1] at hL
    obtain ⟨rfl, rfl, rfl⟩ := lease_inj hL
    simp only [D20_app, laterD_eq, Z20, base1, ↓reduceIte, Nat.reduceAdd, Nat.reduceSub, Nat.reduceMul, Nat.reduceEqDiff, Nat.reduceLeDiff, Nat.reduceLT, Int.reduceLT, Int.reduceLE, Int.reduceEq, Int.reduceNe, Int.reduceToNat, Int.reduceAdd, Int.reduceSub, reduceCtorEq, Nat.reduceBEq, Nat.reduceBNe, b1, b2, h4, h25, k2, k3, k4, e1, c1]
    exact q _ b1 fun j cs hj h => push_old h
  | true =>
    cases c2 : decide (tick ≤ c) with
    | false =>
      rw [c1, c2] at hL
      obtain ⟨rfl, rfl, rfl⟩ := lease_inj hL
      simp only [D20_app, laterD_eq, Z20, base1, ↓reduceIte, Nat.reduceAdd, Nat.reduceSub, Nat.reduceMul, Nat.reduceEqDiff, Nat.reduceLeDiff, Nat.reduceLT, Int.reduceLT, Int.reduceLE, Int.reduceEq, Int.reduceNe, Int.reduceToNat, Int.reduceAdd, Int.reduceSub, reduceCtorEq, Nat.reduceBEq, Nat.reduceBNe, b1, b2, h4, h25, k2, k3, k4, e1, c1, c2]
      exact q _ b1 fun j cs hj h => push_old h
    | true =>
      rw [c1, c2] at hL
      have hL : laterL e b f ep tick len = leaseC e' b' f' := hL
      have pl : put (keepC node s c len e b f) 4 [.int .i64 e', .int .i64 b', .int .i64 f'] = some (keepC node s c len e' b' f') := rfl
      have hL' : laterL e b f ep tick len = [.int .i64 e', .int .i64 b', .int .i64 f'] := hL
      simp only [D20_app, laterD_eq, Z20, base1, ↓reduceIte, Nat.reduceAdd, Nat.reduceSub, Nat.reduceMul, Nat.reduceEqDiff, Nat.reduceLeDiff, Nat.reduceLT, Int.reduceLT, Int.reduceLE, Int.reduceEq, Int.reduceNe, Int.reduceToNat, Int.reduceAdd, Int.reduceSub, reduceCtorEq, Nat.reduceBEq, Nat.reduceBNe, b1, b2, h4, h25, k2, k3, k4, e1, c1, c2, hL', pl]
      exact q _ (set_same b1) fun j cs hj h => by rw [set_other (Ne.symm hj)]; exact push_old h
def grantD (args : List AV) (σ : AHeap) (K : AV → AHeap → Prop) : Prop := ∃ (kb : Nat) (node : Int) (s : Nat) (c len e b f ep tick : Int) (cs : List AV) (e' b' f' : Int), args = [.ptr kb 0, .agg cs] ∧ hget σ kb = some (keepC node s c len e b f) ∧ cs[4]? = some (.int .i64 tick) ∧ cs[25]? = some (.int .i64 ep) ∧
  grantL c len e b f ep tick = leaseC e' b' f' ∧ ∀ σ', hget σ' kb = some (keepC node s c len e' b' f') → (∀ j cs, j ≠ kb → hget σ j = some cs → hget σ' j = some cs) → K (.tuple []) σ'
theorem grantD_ok (args : List AV) (σ : AHeap) (K : AV → AHeap → Prop) (h : grantD args σ K) : Tri Tryz.prog 20 args σ K := by
  obtain ⟨kb, node, s, c, len, e, b, f, ep, tick, cs, e', b', f', rfl, hk, h4, h25, hL, q⟩ := h
  exact grant_ok σ kb node s c len e b f ep tick cs hk h4 h25 e' b' f' hL K q
def D10 : PCall := rowQ 16 mayCD (rowQ 20 grantD noCall)
theorem D10_app {f : FuncId} {args : List AV} {σ : AHeap} {K : AV → AHeap → Prop} : D10 f args σ K = rowQ 16 mayCD (rowQ 20 grantD noCall) f args σ K := _root_.id rfl
theorem D10_sound : Sound Tryz.prog D10 := rowQ_sound mayCD_ok (rowQ_sound grantD_ok (noCall_sound _))
/-- A note that may not be, or that is for another one. -/
theorem quiet_ok (σ : AHeap) (kb : Nat) (node : Int) (s : Nat) (c len e b f : Int) (cs : List AV) (n : NoteV) (hk : hget σ kb = some (keepC node s c len e b f)) (hn : cs.map nz1 = n.cells) (hs : n.sz) (hq : mayB n = true → n.to ≠ node) :
    Tri Tryz.prog 10 [.ptr kb 0, .agg cs] σ fun r σ' => r = .nilslice ∧ Kp σ σ' := by
  refine Tri.of_s c10 D10_sound ?_
  have b1 : hget (hpush σ cs) kb = some (keepC node s c len e b f) := push_old hk
  have b2 : hget (hpush σ cs) σ.length = some cs := push_new rfl
  have k0 : (keepC node s c len e b f)[0]? = some (.int .i64 node) := rfl
  have s0 := sub_27 (nz_len hn)
  have n2 : cs[2]? = some (.int .i64 n.to) := nz_at hn rfl (by intro r f n h; cases h)
  simp only [D10_app, Z10, base1, ↓reduceIte, Nat.reduceAdd, Nat.reduceSub, Nat.reduceMul, Nat.reduceEqDiff, Nat.reduceLeDiff, Nat.reduceLT, Int.reduceLT, Int.reduceLE, Int.reduceEq, Int.reduceNe, Int.reduceToNat, Int.reduceAdd, Int.reduceSub, reduceCtorEq, Nat.reduceBEq, Nat.reduceBNe, b1, b2, k0, s0, n2]
  refine ⟨cs, n, rfl, hn, hs, ?_⟩
  cases hm : mayB n with
  | false =>
    simp only [D10_app, Z10, base1, ↓reduceIte, Nat.reduceAdd, Nat.reduceSub, Nat.reduceMul, Nat.reduceEqDiff, Nat.reduceLeDiff, Nat.reduceLT, Int.reduceLT, Int.reduceLE, Int.reduceEq, Int.reduceNe, Int.reduceToNat, Int.reduceAdd, Int.reduceSub, reduceCtorEq, Nat.reduceBEq, Nat.reduceBNe, b1, b2, k0, s0, n2]
    first | exact ⟨rfl, Kp.push⟩ | exact Kp.push
  | true =>
    have hne : ¬ n.to = node := hq hm
    have hne' : decide (n.to ≠ node) = true := decide_eq_true hne
    simp only [D10_app, Z10, base1, ↓reduceIte, Nat.reduceAdd, Nat.reduceSub, Nat.reduceMul, Nat.reduceEqDiff, Nat.reduceLeDiff, Nat.reduceLT, Int.reduceLT, Int.reduceLE, Int.reduceEq, Int.reduceNe, Int.reduceToNat, Int.reduceAdd, Int.reduceSub, reduceCtorEq, Nat.reduceBEq, Nat.reduceBNe, b1, b2, k0, s0, n2, hne, not_false_eq_true, decide_true]
    first | exact ⟨rfl, Kp.push⟩ | exact Kp.push
/-- A grant that may be, and is for the node. -/
theorem hgrant_ok (σ : AHeap) (kb : Nat) (node : Int) (s : Nat) (c len e b f : Int) (cs : List AV) (n : NoteV) (hk : hget σ kb = some (keepC node s c len e b f)) (hn : cs.map nz1 = n.cells) (hs : n.sz) (hm : mayB n = true) (ht : n.to = node) (h6 : n.kind = 6)
    (e' b' f' : Int) (hL : grantL c len e b f n.aep n.tick = leaseC e' b' f') (Q : AV → AHeap → Prop)
    (q : ∀ σ', hget σ' kb = some (keepC node s c len e' b' f') → (∀ j cs, j ≠ kb → hget σ j = some cs → hget σ' j = some cs) → Q .nilslice σ') :
    Tri Tryz.prog 10 [.ptr kb 0, .agg cs] σ Q := by
  refine Tri.of_s c10 D10_sound ?_
  have b1 : hget (hpush σ cs) kb = some (keepC node s c len e b f) := push_old hk
  have b2 : hget (hpush σ cs) σ.length = some cs := push_new rfl
  have k0 : (keepC node s c len e b f)[0]? = some (.int .i64 node) := rfl
  have hl := nz_len hn
  have s0 := sub_27 hl
  have ni : ∀ {i : Nat} {k : IntKind} {z : Int}, n.cells[i]? = some (.int k z) → cs[i]? = some (.int k z) := fun h => nz_at hn h (by intro r f n h; cases h)
  have ns : ∀ {i : Nat} {z : List UInt8}, n.cells[i]? = some (.str z) → cs[i]? = some (.str z) := fun h => nz_at hn h (by intro r f n h; cases h)
  have n0 : cs[0]? = some (.int .i64 6) := by rw [← h6]; exact ni rfl
  have n2 : cs[2]? = some (.int .i64 node) := by rw [← ht]; exact ni rfl
  have n3 : cs[3]? = some (.int .i64 n.epoch) := ni rfl
  have n4 : cs[4]? = some (.int .i64 n.tick) := ni rfl
  have n25 : cs[25]? = some (.int .i64 n.aep) := ni rfl
  have s21 : sub cs 21 2 = some [.str n.sf, .str n.st] := sub_two (ns rfl) (ns rfl)
  simp only [D10_app, Z10, base1, ↓reduceIte, Nat.reduceAdd, Nat.reduceSub, Nat.reduceMul, Nat.reduceEqDiff, Nat.reduceLeDiff, Nat.reduceLT, Int.reduceLT, Int.reduceLE, Int.reduceEq, Int.reduceNe, Int.reduceToNat, Int.reduceAdd, Int.reduceSub, reduceCtorEq, Nat.reduceBEq, Nat.reduceBNe, b1, b2, k0, s0, n2]
  refine ⟨cs, n, rfl, hn, hs, ?_⟩
  rw [hm]
  have z1 : hget (hpush (hpush σ cs) noteZ) (hpush σ cs).length = some noteZ := push_new rfl
  have zp : ∀ a x y, put noteZ 0 [.int .i64 0, .int .i64 0, .int .i64 0, .int .i64 a, .int .i64 0, .int .i64 0, .int .i64 0, .int .i64 0, .str [], .str [], .str [], .str [], .int .i64 0, .int .i64 0, .int .i64 0, .int .i64 0, .bool false, .str [], .nilslice, .str [], .bool false, .str x, .str y, .nilslice, .nilslice, .int .i64 0, .nilslice] =
    some [.int .i64 0, .int .i64 0, .int .i64 0, .int .i64 a, .int .i64 0, .int .i64 0, .int .i64 0, .int .i64 0, .str [], .str [], .str [], .str [], .int .i64 0, .int .i64 0, .int .i64 0, .int .i64 0, .bool false, .str [], .nilslice, .str [], .bool false, .str x, .str y, .nilslice, .nilslice, .int .i64 0, .nilslice] := fun _ _ _ => rfl
  have hkl := hget_lt hk
  have w1 : ∀ o, hget (hset (hpush (hpush σ cs) noteZ) (hpush σ cs).length o) σ.length = some cs := fun o => by rw [set_other (by rw [push_len]; omega)]; exact push_old b2
  have w2 : ∀ o, hget (hset (hpush (hpush σ cs) noteZ) (hpush σ cs).length o) kb = some (keepC node s c len e b f) := fun o => by rw [set_other (by rw [push_len]; omega)]; exact push_old b1
  simp only [D10_app, Z10, base1, ↓reduceIte, Nat.reduceAdd, Nat.reduceSub, Nat.reduceMul, Nat.reduceEqDiff, Nat.reduceLeDiff, Nat.reduceLT, Int.reduceLT, Int.reduceLE, Int.reduceEq, Int.reduceNe, Int.reduceToNat, Int.reduceAdd, Int.reduceSub, reduceCtorEq, Nat.reduceBEq, Nat.reduceBNe, b1, b2, k0, s0, n0, n2, n3, s21, ne_eq, not_true_eq_false, decide_false, z1, zp, w1, w2]
  refine ⟨kb, node, s, c, len, e, b, f, n.aep, n.tick, cs, e', b', f', rfl, w2 _, n4, n25, hL, fun σ' h1 h2 => ?_⟩
  simp only [D10_app, Z10, base1, ↓reduceIte, Nat.reduceAdd, Nat.reduceSub, Nat.reduceMul, Nat.reduceEqDiff, Nat.reduceLeDiff, Nat.reduceLT, Int.reduceLT, Int.reduceLE, Int.reduceEq, Int.reduceNe, Int.reduceToNat, Int.reduceAdd, Int.reduceSub, reduceCtorEq, Nat.reduceBEq, Nat.reduceBNe]
  exact q σ' h1 fun j cs hj h => h2 j _ hj (by have := hget_lt h; rw [set_other (by rw [push_len]; omega)]; exact push_old (push_old h))
def hearGD (args : List AV) (σ : AHeap) (K : AV → AHeap → Prop) : Prop := ∃ (kb : Nat) (node : Int) (s : Nat) (c len e b f : Int) (cs : List AV) (n : NoteV) (e' b' f' : Int), args = [.ptr kb 0, .agg cs] ∧ hget σ kb = some (keepC node s c len e b f) ∧ cs.map nz1 = n.cells ∧ n.sz ∧ mayB n = true ∧ n.to = node ∧ n.kind = 6 ∧
  grantL c len e b f n.aep n.tick = leaseC e' b' f' ∧ ∀ σ', hget σ' kb = some (keepC node s c len e' b' f') → (∀ j cs, j ≠ kb → hget σ j = some cs → hget σ' j = some cs) → K .nilslice σ'
theorem hearGD_ok (args : List AV) (σ : AHeap) (K : AV → AHeap → Prop) (h : hearGD args σ K) : Tri Tryz.prog 10 args σ K := by
  obtain ⟨kb, node, s, c, len, e, b, f, cs, n, e', b', f', rfl, hk, hn, hs, hm, ht, h6, hL, q⟩ := h
  exact hgrant_ok σ kb node s c len e b f cs n hk hn hs hm ht h6 e' b' f' hL K q
def hearQD (args : List AV) (σ : AHeap) (K : AV → AHeap → Prop) : Prop := ∃ (kb : Nat) (node : Int) (s : Nat) (c len e b f : Int) (cs : List AV) (n : NoteV), args = [.ptr kb 0, .agg cs] ∧ hget σ kb = some (keepC node s c len e b f) ∧ cs.map nz1 = n.cells ∧ n.sz ∧ (mayB n = true → n.to ≠ node) ∧ ∀ σ', Kp σ σ' → K .nilslice σ'
theorem hearQD_ok (args : List AV) (σ : AHeap) (K : AV → AHeap → Prop) (h : hearQD args σ K) : Tri Tryz.prog 10 args σ K := by
  obtain ⟨kb, node, s, c, len, e, b, f, cs, n, rfl, hk, hn, hs, hq, q⟩ := h
  exact (quiet_ok σ kb node s c len e b f cs n hk hn hs hq).mono fun r σ' hr => by rw [hr.1]; exact q σ' hr.2
def tickD (args : List AV) (σ : AHeap) (K : AV → AHeap → Prop) : Prop := ∃ (kb : Nat) (node : Int) (s : Nat) (c len e b f : Int), args = [.ptr kb 0] ∧ hget σ kb = some (keepC node s c len e b f) ∧ IntKind.wrap .i64 (c + 1) = c + 1 ∧
  ∀ r σ', hget σ' kb = some (keepC node s (c + 1) len e b f) → (mayB (beatN node (c + 1)) = true → ∃ d, r = .slice d 0 1 (some 1) 27 ∧ hget σ' d = some (beatC node (c + 1)) ∧ d ≠ kb) → (∀ j cs, j ≠ kb → hget σ j = some cs → hget σ' j = some cs) → K r σ'
theorem tickD_ok (args : List AV) (σ : AHeap) (K : AV → AHeap → Prop) (h : tickD args σ K) : Tri Tryz.prog 9 args σ K := by
  obtain ⟨kb, node, s, c, len, e, b, f, rfl, hk, hc, q⟩ := h
  exact tick_ok σ kb node s c len e b f hk hc K q
end Go.Proofs.YtgaopohogdinhaaGreatDoor.keep
