/- GaugeSums, walked: yes, whatever the items. No condition. -/
import Derived.Test.YtnooejmbhdgbpaaGreatDoorTC
import Derived.Test.YtnooejmbhdgbpaaGreatDoorTB
set_option linter.unusedVariables false
set_option linter.unusedSimpArgs false
namespace Go.Proofs.YtnooejmbhdgbpaaGreatDoor.gauge
open Go.ChangeShapes Go.WideShapes Go.ChangeAt Go.RowKit Go.Gz Go.Gz.H
section
variable {C : PCall} {n0 : Nat} {R : MExit → Env → AHeap → Prop} {k : Cont} {e : Env} {σ : AHeap}
abbrev r4_0 : List MOper := [⟨(some 2), .move (.c (.bool false)), none⟩]
def b4_0 : SCode := .region r4_0
abbrev r4_1 : List MOper := [⟨(some 12), .call 5 [], none⟩,
  ⟨(some 13), .un .not (.t 12), none⟩]
def b4_1 : SCode := .region r4_1
abbrev r4_2 : List MOper := [⟨(some 2), .move (.c (.bool false)), none⟩]
def b4_2 : SCode := .region r4_2
def b4_3 : SCode := .seq b4_2 .ret
def b4_4 : SCode := .cond (.t 13) b4_3 .skip
def b4_5 : SCode := .seq b4_1 b4_4
abbrev r4_6 : List MOper := [⟨(some 14), .move (.t 0), none⟩,
  ⟨(some 15), .lenSl (.t 14), none⟩,
  ⟨(some 16), .bin .gtr .num (.t 15) (.c (.int .i64 100)), none⟩]
def b4_6 : SCode := .region r4_6
abbrev r4_7 : List MOper := [⟨(some 2), .move (.c (.bool true)), none⟩]
def b4_7 : SCode := .region r4_7
def b4_8 : SCode := .seq b4_7 .ret
def b4_9 : SCode := .cond (.t 16) b4_8 .skip
def b4_10 : SCode := .seq b4_6 b4_9
abbrev r4_11 : List MOper := [⟨(some 17), .move (.t 0), none⟩,
  ⟨(some 18), .call 8 [(.t 17), (.c (.func 9 []))], none⟩,
  ⟨(some 3), .move (.t 18), none⟩]
def b4_11 : SCode := .region r4_11
abbrev r4_12 : List MOper := [⟨(some 19), .move (.t 0), none⟩,
  ⟨(some 20), .call 10 [(.t 19), (.c (.func 11 []))], none⟩,
  ⟨(some 4), .move (.t 20), none⟩]
def b4_12 : SCode := .region r4_12
abbrev r4_13 : List MOper := [⟨(some 5), .move (.c (.int .i64 0)), none⟩,
  ⟨(some 6), .move (.c (.int .i64 0)), none⟩]
def b4_13 : SCode := .region r4_13
abbrev r4_14 : List MOper := [⟨(some 7), .move (.c (.int .i64 0)), none⟩]
def b4_14 : SCode := .region r4_14
abbrev r4_15 : List MOper := [⟨(some 21), .move (.t 7), none⟩,
  ⟨(some 22), .move (.t 3), none⟩,
  ⟨(some 23), .lenSl (.t 22), none⟩,
  ⟨(some 24), .bin .lss .num (.t 21) (.t 23), none⟩]
def b4_15 : SCode := .region r4_15
def b4_16 : SCode := .cond (.t 24) .skip (.exit 0)
def b4_17 : SCode := .seq b4_15 b4_16
abbrev r4_18 : List MOper := [⟨(some 27), .move (.t 5), none⟩,
  ⟨(some 28), .move (.t 3), none⟩,
  ⟨(some 29), .move (.t 7), none⟩,
  ⟨(some 30), .indexAddr 1 (.t 28) (.t 29), none⟩,
  ⟨(some 31), .load1 (.t 30), none⟩,
  ⟨(some 32), .lenSl (.t 31), none⟩,
  ⟨(some 33), .bin .add .num (.t 27) (.t 32), none⟩,
  ⟨(some 5), .move (.t 33), none⟩]
def b4_18 : SCode := .region r4_18
abbrev r4_19 : List MOper := [⟨(some 8), .move (.c (.int .i64 1)), none⟩]
def b4_19 : SCode := .region r4_19
abbrev r4_20 : List MOper := [⟨(some 34), .move (.t 8), none⟩,
  ⟨(some 35), .move (.t 3), none⟩,
  ⟨(some 36), .move (.t 7), none⟩,
  ⟨(some 37), .indexAddr 1 (.t 35) (.t 36), none⟩,
  ⟨(some 38), .load1 (.t 37), none⟩,
  ⟨(some 39), .lenSl (.t 38), none⟩,
  ⟨(some 40), .bin .lss .num (.t 34) (.t 39), none⟩]
def b4_20 : SCode := .region r4_20
def b4_21 : SCode := .cond (.t 40) .skip (.exit 2)
def b4_22 : SCode := .seq b4_20 b4_21
abbrev t4_23 : LTree := (.quiet ⟨(some 43), .move (.t 3), none⟩ 0
  (.quiet ⟨(some 44), .move (.t 7), none⟩ 1
  (.quiet ⟨(some 45), .indexAddr 1 (.t 43) (.t 44), none⟩ 2
  (.quiet ⟨(some 46), .load1 (.t 45), none⟩ 3
  (.quiet ⟨(some 47), .move (.t 8), none⟩ 4
  (.quiet ⟨(some 48), .indexAddr 1 (.t 46) (.t 47), none⟩ 5
  (.quiet ⟨(some 49), .load1 (.t 48), none⟩ 6
  (.quiet ⟨(some 50), .lenStr (.t 49), none⟩ 7
  (.quiet ⟨(some 51), .move (.t 3), none⟩ 8
  (.quiet ⟨(some 52), .move (.t 7), none⟩ 9
  (.quiet ⟨(some 53), .indexAddr 1 (.t 51) (.t 52), none⟩ 10
  (.quiet ⟨(some 54), .load1 (.t 53), none⟩ 11
  (.quiet ⟨(some 55), .indexAddr 1 (.t 54) (.c (.int .i64 0)), none⟩ 12
  (.quiet ⟨(some 56), .load1 (.t 55), none⟩ 13
  (.quiet ⟨(some 57), .lenStr (.t 56), none⟩ 14
  (.quiet ⟨(some 58), .bin .neq .num (.t 50) (.t 57), none⟩ 15
  .leaf))))))))))))))))
def b4_23 : SCode := .draw t4_23
abbrev r4_24 : List MOper := [⟨(some 2), .move (.c (.bool false)), none⟩]
def b4_24 : SCode := .region r4_24
def b4_25 : SCode := .seq b4_24 .ret
def b4_26 : SCode := .cond (.t 58) b4_25 .skip
def b4_27 : SCode := .seq b4_23 b4_26
def b4_28 : SCode := .block 3 b4_27
abbrev r4_29 : List MOper := [⟨(some 41), .move (.t 8), none⟩,
  ⟨(some 42), .bin .add .num (.t 41) (.c (.int .i64 1)), none⟩,
  ⟨(some 8), .move (.t 42), none⟩]
def b4_29 : SCode := .region r4_29
def b4_30 : SCode := .seq b4_28 b4_29
def b4_31 : SCode := .seq b4_22 b4_30
def b4_32 : SCode := .loop b4_31
def b4_33 : SCode := .block 2 b4_32
def b4_34 : SCode := .seq b4_19 b4_33
def b4_35 : SCode := .seq b4_18 b4_34
def b4_36 : SCode := .block 1 b4_35
abbrev r4_37 : List MOper := [⟨(some 25), .move (.t 7), none⟩,
  ⟨(some 26), .bin .add .num (.t 25) (.c (.int .i64 1)), none⟩,
  ⟨(some 7), .move (.t 26), none⟩]
def b4_37 : SCode := .region r4_37
def b4_38 : SCode := .seq b4_36 b4_37
def b4_39 : SCode := .seq b4_17 b4_38
def b4_40 : SCode := .loop b4_39
def b4_41 : SCode := .block 0 b4_40
def b4_42 : SCode := .seq b4_14 b4_41
abbrev r4_43 : List MOper := [⟨(some 9), .move (.c (.int .i64 0)), none⟩]
def b4_43 : SCode := .region r4_43
abbrev r4_44 : List MOper := [⟨(some 59), .move (.t 9), none⟩,
  ⟨(some 60), .move (.t 4), none⟩,
  ⟨(some 61), .lenSl (.t 60), none⟩,
  ⟨(some 62), .bin .lss .num (.t 59) (.t 61), none⟩]
def b4_44 : SCode := .region r4_44
def b4_45 : SCode := .cond (.t 62) .skip (.exit 4)
def b4_46 : SCode := .seq b4_44 b4_45
abbrev r4_47 : List MOper := [⟨(some 65), .move (.t 6), none⟩,
  ⟨(some 66), .move (.t 4), none⟩,
  ⟨(some 67), .move (.t 9), none⟩,
  ⟨(some 68), .indexAddr 1 (.t 66) (.t 67), none⟩,
  ⟨(some 69), .load1 (.t 68), none⟩,
  ⟨(some 70), .lenSl (.t 69), none⟩,
  ⟨(some 71), .bin .add .num (.t 65) (.t 70), none⟩,
  ⟨(some 6), .move (.t 71), none⟩]
def b4_47 : SCode := .region r4_47
abbrev r4_48 : List MOper := [⟨(some 10), .move (.c (.int .i64 0)), none⟩]
def b4_48 : SCode := .region r4_48
abbrev r4_49 : List MOper := [⟨(some 72), .move (.t 10), none⟩,
  ⟨(some 73), .move (.t 4), none⟩,
  ⟨(some 74), .move (.t 9), none⟩,
  ⟨(some 75), .indexAddr 1 (.t 73) (.t 74), none⟩,
  ⟨(some 76), .load1 (.t 75), none⟩,
  ⟨(some 77), .lenSl (.t 76), none⟩,
  ⟨(some 78), .bin .lss .num (.t 72) (.t 77), none⟩]
def b4_49 : SCode := .region r4_49
def b4_50 : SCode := .cond (.t 78) .skip (.exit 6)
def b4_51 : SCode := .seq b4_49 b4_50
abbrev t4_52 : LTree := (.quiet ⟨(some 81), .move (.t 4), none⟩ 0
  (.quiet ⟨(some 82), .move (.t 9), none⟩ 1
  (.quiet ⟨(some 83), .indexAddr 1 (.t 81) (.t 82), none⟩ 2
  (.quiet ⟨(some 84), .load1 (.t 83), none⟩ 3
  (.quiet ⟨(some 85), .move (.t 10), none⟩ 4
  (.quiet ⟨(some 86), .indexAddr 1 (.t 84) (.t 85), none⟩ 5
  (.quiet ⟨(some 87), .load1 (.t 86), none⟩ 6
  (.quiet ⟨(some 88), .move (.t 4), none⟩ 7
  (.quiet ⟨(some 89), .move (.t 9), none⟩ 8
  (.quiet ⟨(some 90), .indexAddr 1 (.t 88) (.t 89), none⟩ 9
  (.quiet ⟨(some 91), .load1 (.t 90), none⟩ 10
  (.quiet ⟨(some 92), .indexAddr 1 (.t 91) (.c (.int .i64 0)), none⟩ 11
  (.quiet ⟨(some 93), .load1 (.t 92), none⟩ 12
  (.quiet ⟨(some 94), .bin .neq .num (.t 87) (.t 93), none⟩ 13
  .leaf))))))))))))))
def b4_52 : SCode := .draw t4_52
abbrev r4_53 : List MOper := [⟨(some 2), .move (.c (.bool false)), none⟩]
def b4_53 : SCode := .region r4_53
def b4_54 : SCode := .seq b4_53 .ret
def b4_55 : SCode := .cond (.t 94) b4_54 .skip
def b4_56 : SCode := .seq b4_52 b4_55
def b4_57 : SCode := .block 7 b4_56
abbrev r4_58 : List MOper := [⟨(some 79), .move (.t 10), none⟩,
  ⟨(some 80), .bin .add .num (.t 79) (.c (.int .i64 1)), none⟩,
  ⟨(some 10), .move (.t 80), none⟩]
def b4_58 : SCode := .region r4_58
def b4_59 : SCode := .seq b4_57 b4_58
def b4_60 : SCode := .seq b4_51 b4_59
def b4_61 : SCode := .loop b4_60
def b4_62 : SCode := .block 6 b4_61
def b4_63 : SCode := .seq b4_48 b4_62
abbrev r4_64 : List MOper := [⟨(some 11), .move (.c (.int .i64 0)), none⟩]
def b4_64 : SCode := .region r4_64
abbrev r4_65 : List MOper := [⟨(some 95), .move (.t 11), none⟩,
  ⟨(some 96), .move (.t 9), none⟩,
  ⟨(some 97), .bin .lss .num (.t 95) (.t 96), none⟩]
def b4_65 : SCode := .region r4_65
def b4_66 : SCode := .cond (.t 97) .skip (.exit 8)
def b4_67 : SCode := .seq b4_65 b4_66
abbrev t4_68 : LTree := (.quiet ⟨(some 100), .move (.t 4), none⟩ 0
  (.quiet ⟨(some 101), .move (.t 11), none⟩ 1
  (.quiet ⟨(some 102), .indexAddr 1 (.t 100) (.t 101), none⟩ 2
  (.quiet ⟨(some 103), .load1 (.t 102), none⟩ 3
  (.quiet ⟨(some 104), .indexAddr 1 (.t 103) (.c (.int .i64 0)), none⟩ 4
  (.quiet ⟨(some 105), .load1 (.t 104), none⟩ 5
  (.quiet ⟨(some 106), .move (.t 4), none⟩ 6
  (.quiet ⟨(some 107), .move (.t 9), none⟩ 7
  (.quiet ⟨(some 108), .indexAddr 1 (.t 106) (.t 107), none⟩ 8
  (.quiet ⟨(some 109), .load1 (.t 108), none⟩ 9
  (.quiet ⟨(some 110), .indexAddr 1 (.t 109) (.c (.int .i64 0)), none⟩ 10
  (.quiet ⟨(some 111), .load1 (.t 110), none⟩ 11
  (.quiet ⟨(some 112), .bin .eql .num (.t 105) (.t 111), none⟩ 12
  .leaf)))))))))))))
def b4_68 : SCode := .draw t4_68
abbrev r4_69 : List MOper := [⟨(some 2), .move (.c (.bool false)), none⟩]
def b4_69 : SCode := .region r4_69
def b4_70 : SCode := .seq b4_69 .ret
def b4_71 : SCode := .cond (.t 112) b4_70 .skip
def b4_72 : SCode := .seq b4_68 b4_71
def b4_73 : SCode := .block 9 b4_72
abbrev r4_74 : List MOper := [⟨(some 98), .move (.t 11), none⟩,
  ⟨(some 99), .bin .add .num (.t 98) (.c (.int .i64 1)), none⟩,
  ⟨(some 11), .move (.t 99), none⟩]
def b4_74 : SCode := .region r4_74
def b4_75 : SCode := .seq b4_73 b4_74
def b4_76 : SCode := .seq b4_67 b4_75
def b4_77 : SCode := .loop b4_76
def b4_78 : SCode := .block 8 b4_77
def b4_79 : SCode := .seq b4_64 b4_78
def b4_80 : SCode := .seq b4_63 b4_79
def b4_81 : SCode := .seq b4_47 b4_80
def b4_82 : SCode := .block 5 b4_81
abbrev r4_83 : List MOper := [⟨(some 63), .move (.t 9), none⟩,
  ⟨(some 64), .bin .add .num (.t 63) (.c (.int .i64 1)), none⟩,
  ⟨(some 9), .move (.t 64), none⟩]
def b4_83 : SCode := .region r4_83
def b4_84 : SCode := .seq b4_82 b4_83
def b4_85 : SCode := .seq b4_46 b4_84
def b4_86 : SCode := .loop b4_85
def b4_87 : SCode := .block 4 b4_86
def b4_88 : SCode := .seq b4_43 b4_87
abbrev r4_89 : List MOper := [⟨(some 113), .move (.t 5), none⟩,
  ⟨(some 114), .move (.t 0), none⟩,
  ⟨(some 115), .lenSl (.t 114), none⟩,
  ⟨(some 116), .bin .eql .num (.t 113) (.t 115), none⟩,
  ⟨(some 117), .move (.t 116), none⟩,
  ⟨(some 118), .move (.t 6), (some (117, true))⟩,
  ⟨(some 119), .move (.t 0), (some (117, true))⟩,
  ⟨(some 120), .lenSl (.t 119), (some (117, true))⟩,
  ⟨(some 121), .bin .eql .num (.t 118) (.t 120), (some (117, true))⟩,
  ⟨(some 122), .pick (.t 117) (.t 121) (.c (.bool false)), none⟩,
  ⟨(some 123), .move (.t 122), none⟩,
  ⟨(some 124), .move (.t 3), (some (123, true))⟩,
  ⟨(some 125), .lenSl (.t 124), (some (123, true))⟩,
  ⟨(some 126), .move (.t 4), (some (123, true))⟩,
  ⟨(some 127), .lenSl (.t 126), (some (123, true))⟩,
  ⟨(some 128), .bin .leq .num (.t 125) (.t 127), (some (123, true))⟩,
  ⟨(some 129), .pick (.t 123) (.t 128) (.c (.bool false)), none⟩,
  ⟨(some 2), .move (.t 129), none⟩]
def b4_89 : SCode := .region r4_89
def b4_90 : SCode := .seq b4_89 .ret
def b4_91 : SCode := .seq b4_88 b4_90
def b4_92 : SCode := .seq b4_42 b4_91
def b4_93 : SCode := .seq b4_13 b4_92
def b4_94 : SCode := .seq b4_12 b4_93
def b4_95 : SCode := .seq b4_11 b4_94
def b4_96 : SCode := .seq b4_10 b4_95
def b4_97 : SCode := .seq b4_5 b4_96
def b4_98 : SCode := .seq b4_0 b4_97
def s4 : SFunc := ⟨130, [.t 2], b4_98⟩
theorem c4 : sFn Tryz.prog 4 = some s4 := by kernel_rfl
theorem x4_91 : XS b4_91 b4_88 b4_90 := rfl
theorem Z4 : XR b4_0 r4_0 ∧ XR b4_1 r4_1 ∧ XR b4_2 r4_2 ∧ XS b4_3 b4_2 .ret ∧ XC b4_4 (.t 13) b4_3 .skip ∧ XS b4_5 b4_1 b4_4 ∧ XR b4_6 r4_6 ∧ XR b4_7 r4_7 ∧ XS b4_8 b4_7 .ret ∧ XC b4_9 (.t 16) b4_8 .skip ∧ XS b4_10 b4_6 b4_9 ∧ XR b4_11 r4_11 ∧ XR b4_12 r4_12 ∧ XR b4_13 r4_13 ∧ XR b4_14 r4_14 ∧ XR b4_15 r4_15 ∧ XC b4_16 (.t 24) .skip (.exit 0) ∧ XS b4_17 b4_15 b4_16 ∧ XR b4_18 r4_18 ∧ XR b4_19 r4_19 ∧ XR b4_20 r4_20 ∧ XC b4_21 (.t 40) .skip (.exit 2) ∧ XS b4_22 b4_20 b4_21 ∧ XT b4_23 t4_23 ∧ XR b4_24 r4_24 ∧ XS b4_25 b4_24 .ret ∧ XC b4_26 (.t 58) b4_25 .skip ∧ XS b4_27 b4_23 b4_26 ∧ XB b4_28 3 b4_27 ∧ XR b4_29 r4_29 ∧ XS b4_30 b4_28 b4_29 ∧ XS b4_31 b4_22 b4_30 ∧ XB b4_33 2 b4_32 ∧ XS b4_34 b4_19 b4_33 ∧ XS b4_35 b4_18 b4_34 ∧ XB b4_36 1 b4_35 ∧ XR b4_37 r4_37 ∧ XS b4_38 b4_36 b4_37 ∧ XS b4_39 b4_17 b4_38 ∧ XB b4_41 0 b4_40 ∧ XS b4_42 b4_14 b4_41 ∧ XR b4_43 r4_43 ∧ XR b4_44 r4_44 ∧ XC b4_45 (.t 62) .skip (.exit 4) ∧ XS b4_46 b4_44 b4_45 ∧ XR b4_47 r4_47 ∧ XR b4_48 r4_48 ∧ XR b4_49 r4_49 ∧ XC b4_50 (.t 78) .skip (.exit 6) ∧ XS b4_51 b4_49 b4_50 ∧ XT b4_52 t4_52 ∧ XR b4_53 r4_53 ∧ XS b4_54 b4_53 .ret ∧ XC b4_55 (.t 94) b4_54 .skip ∧ XS b4_56 b4_52 b4_55 ∧ XB b4_57 7 b4_56 ∧ XR b4_58 r4_58 ∧ XS b4_59 b4_57 b4_58 ∧ XS b4_60 b4_51 b4_59 ∧ XB b4_62 6 b4_61 ∧ XS b4_63 b4_48 b4_62 ∧ XR b4_64 r4_64 ∧ XR b4_65 r4_65 ∧ XC b4_66 (.t 97) .skip (.exit 8) ∧ XS b4_67 b4_65 b4_66 ∧ XT b4_68 t4_68 ∧ XR b4_69 r4_69 ∧ XS b4_70 b4_69 .ret ∧ XC b4_71 (.t 112) b4_70 .skip ∧ XS b4_72 b4_68 b4_71 ∧ XB b4_73 9 b4_72 ∧ XR b4_74 r4_74 ∧ XS b4_75 b4_73 b4_74 ∧ XS b4_76 b4_67 b4_75 ∧ XB b4_78 8 b4_77 ∧ XS b4_79 b4_64 b4_78 ∧ XS b4_80 b4_63 b4_79 ∧ XS b4_81 b4_47 b4_80 ∧ XB b4_82 5 b4_81 ∧ XR b4_83 r4_83 ∧ XS b4_84 b4_82 b4_83 ∧ XS b4_85 b4_46 b4_84 ∧ XB b4_87 4 b4_86 ∧ XS b4_88 b4_43 b4_87 ∧ XR b4_89 r4_89 ∧ XS b4_90 b4_89 .ret ∧ XS b4_92 b4_42 b4_91 ∧ XS b4_93 b4_13 b4_92 ∧ XS b4_94 b4_12 b4_93 ∧ XS b4_95 b4_11 b4_94 ∧ XS b4_96 b4_10 b4_95 ∧ XS b4_97 b4_5 b4_96 ∧ XS b4_98 b4_0 b4_97 ∧ XY s4 130 b4_98 [.t 2] := ⟨rfl, rfl, rfl, rfl, sC_cond, rfl, rfl, rfl, rfl, sC_cond, rfl, rfl, rfl, rfl, rfl, rfl, sC_cond, rfl, rfl, rfl, rfl, sC_cond, rfl, rfl, rfl, rfl, sC_cond, rfl, rfl, rfl, rfl, rfl, rfl, rfl, rfl, rfl, rfl, rfl, rfl, rfl, rfl, rfl, rfl, sC_cond, rfl, rfl, rfl, rfl, sC_cond, rfl, rfl, rfl, rfl, sC_cond, rfl, rfl, rfl, rfl, rfl, rfl, rfl, rfl, rfl, sC_cond, rfl, rfl, rfl, rfl, sC_cond, rfl, rfl, rfl, rfl, rfl, rfl, rfl, rfl, rfl, rfl, rfl, rfl, rfl, rfl, rfl, rfl, rfl, rfl, rfl, rfl, rfl, rfl, rfl, rfl, rfl⟩

end
set_option maxHeartbeats 4000000
set_option maxRecDepth 10000
theorem yes_trueS {σ : AHeap} : Yes (.bool true) σ := rfl
def M4 : PCall := rowQ 5 awakeD (rowQ 8 B.grpD (rowQ 10 C.grpD noCall))
theorem M4_app {f : FuncId} {args : List AV} {σ : AHeap} {K : AV → AHeap → Prop} : M4 f args σ K = rowQ 5 awakeD (rowQ 8 B.grpD (rowQ 10 C.grpD noCall)) f args σ K := _root_.id rfl
theorem M4_sound : Sound Tryz.prog M4 := rowQ_sound awakeD_ok (rowQ_sound B.grpD_ok (rowQ_sound C.grpD_ok (noCall_sound _)))
abbrev Txt := List UInt8
abbrev rowsT (l : List Txt) : List (List AV) := l.map fun x => [AV.str x]
def outT (out : List (List Txt)) : List (List AV) := out.map fun g => g.map AV.str
theorem immT_at {out : List (List Txt)} {k : Nat} {g : List Txt} (h : out[k]? = some g) : iAddr 1 (immO (outT out)) (.int .i64 (k : Int)) = some (.iptr [.imm ((g.map AV.str).map fun x => [x]) false false]) := by
  have hk := idx_lt h
  have hr : ((outT out).map fun g => [AV.imm (g.map fun x => [x]) false false])[k]? = some [AV.imm ((g.map AV.str).map fun x => [x]) false false] := by
    rw [List.getElem?_map]; unfold outT; rw [List.getElem?_map, h]; rfl
  have hlen : k < ((outT out).map fun g => [AV.imm (g.map fun x => [x]) false false]).length := by simp [outT, hk]
  have hi : inRange (.int .i64 (k : Int)) ((outT out).map fun g => [AV.imm (g.map fun x => [x]) false false]).length = some k := by
    simp only [inRange]
    rw [if_pos ⟨by omega, by omega⟩]; rfl
  show (inRange (.int .i64 (k : Int)) ((outT out).map fun g => [AV.imm (g.map fun x => [x]) false false]).length).bind _ = _
  rw [hi, Option.bind_some, hr, Option.bind_some]
  rfl
theorem immT_len (out : List (List Txt)) : lenSl (immO (outT out)) = some out.length := by
  show some (List.length _) = _
  simp [outT]
def sumT (out : List (List Txt)) (i : Nat) : Nat := ((out.take i).map List.length).sum
theorem sumT_next {out : List (List Txt)} : ∀ {i : Nat} {g : List Txt}, out[i]? = some g → sumT out (i + 1) = sumT out i + g.length := by
  induction out with
  | nil => intro i g h; simp at h
  | cons a r ih =>
    intro i g h
    cases i with
    | zero => simp at h; subst h; simp [sumT]
    | succ i =>
      have := ih (i := i) (g := g) (by simpa using h)
      unfold sumT at this ⊢
      simp only [List.take_succ_cons, List.map_cons, List.sum_cons]
      omega
theorem sumT_le (out : List (List Txt)) (i : Nat) : sumT out i ≤ (out.map List.length).sum := by
  induction out generalizing i with
  | nil => simp [sumT]
  | cons a r ih =>
    cases i with
    | zero => simp [sumT]
    | succ i =>
      have := ih i
      unfold sumT at this ⊢
      simp only [List.take_succ_cons, List.map_cons, List.sum_cons]
      omega
/-- Groups of one sort: those of their own have not more sorts. -/
theorem fewer {l : List Txt} {kb : List Int} {ob : List (List Txt)} {kc : List Txt} {oc : List (List Txt)} (hb : Grp B.kf l kb ob) (hc : Grp C.kf l kc oc) : ob.length ≤ oc.length := by
  rw [← hb.len, ← hc.len, ← List.length_map (f := fun t : Txt => (t.length : Int))]
  refine nodup_le hb.nd fun k hk => ?_
  obtain ⟨i, hi⟩ := List.getElem?_of_mem hk
  have hlt : i < ob.length := by rw [← hb.len]; exact idx_lt hi
  obtain ⟨h1, h2⟩ := hb.mem i _ k (List.getElem?_eq_getElem hlt) hi
  cases hg : ob[i] with
  | nil => exact absurd hg h1
  | cons x r =>
    obtain ⟨h3, h4⟩ := h2 x (by rw [hg]; simp)
    exact List.mem_map.2 ⟨x, hc.all x h4, h3⟩
abbrev k1O : Cont := .block 0 (.seq b4_91 .fin)
def i1I (l : List Txt) (ob oc : List (List Txt)) (σ0 : AHeap) (m : Nat) (e : Env) (σ : AHeap) : Prop :=
  ∃ i : Nat, i ≤ ob.length ∧ m = ob.length - i ∧ σ = σ0 ∧ e 0 = .imm (rowsT l) false false ∧ e 3 = immO (outT ob) ∧ e 4 = immO (outT oc) ∧ e 5 = .int .i64 (sumT ob i : Int) ∧ e 6 = .int .i64 0 ∧ e 7 = .int .i64 (i : Int)
def j1I (l : List Txt) (ob oc : List (List Txt)) (σ0 : AHeap) (i n : Nat) (m : Nat) (e : Env) (σ : AHeap) : Prop :=
  ∃ j : Nat, 1 ≤ j ∧ j ≤ n ∧ m = n - j ∧ σ = σ0 ∧ e 0 = .imm (rowsT l) false false ∧ e 3 = immO (outT ob) ∧ e 4 = immO (outT oc) ∧ e 5 = .int .i64 (sumT ob (i + 1) : Int) ∧ e 6 = .int .i64 0 ∧ e 7 = .int .i64 (i : Int) ∧ e 8 = .int .i64 (j : Int)
def i2I (l : List Txt) (ob oc : List (List Txt)) (σ0 : AHeap) (m : Nat) (e : Env) (σ : AHeap) : Prop :=
  ∃ i : Nat, i ≤ oc.length ∧ m = oc.length - i ∧ σ = σ0 ∧ e 0 = .imm (rowsT l) false false ∧ e 3 = immO (outT ob) ∧ e 4 = immO (outT oc) ∧ e 5 = .int .i64 (l.length : Int) ∧ e 6 = .int .i64 (sumT oc i : Int) ∧ e 9 = .int .i64 (i : Int)
def j2I (l : List Txt) (ob oc : List (List Txt)) (σ0 : AHeap) (i n : Nat) (m : Nat) (e : Env) (σ : AHeap) : Prop :=
  ∃ j : Nat, j ≤ n ∧ m = n - j ∧ σ = σ0 ∧ e 0 = .imm (rowsT l) false false ∧ e 3 = immO (outT ob) ∧ e 4 = immO (outT oc) ∧ e 5 = .int .i64 (l.length : Int) ∧ e 6 = .int .i64 (sumT oc (i + 1) : Int) ∧ e 9 = .int .i64 (i : Int) ∧ e 10 = .int .i64 (j : Int)
def j3I (l : List Txt) (ob oc : List (List Txt)) (σ0 : AHeap) (i : Nat) (m : Nat) (e : Env) (σ : AHeap) : Prop :=
  ∃ j : Nat, j ≤ i ∧ m = i - j ∧ σ = σ0 ∧ e 0 = .imm (rowsT l) false false ∧ e 3 = immO (outT ob) ∧ e 4 = immO (outT oc) ∧ e 5 = .int .i64 (l.length : Int) ∧ e 6 = .int .i64 (sumT oc (i + 1) : Int) ∧ e 9 = .int .i64 (i : Int) ∧ e 11 = .int .i64 (j : Int)
theorem sum_all {l : List Txt} {K : Type} [DecidableEq K] {f : Txt → K} {ks : List K} {out : List (List Txt)} (h : Grp f l ks out) : sumT out out.length = l.length := by
  unfold sumT; rw [List.take_length]; exact h.sum
theorem second_ok (l : List Txt) (hl : l.length ≤ 100) (kb : List Int) (kc : List Txt) (ob oc : List (List Txt)) (hb : Grp B.kf l kb ob) (hc : Grp C.kf l kc oc) (e : Env) (σ : AHeap)
    (e0 : e 0 = .imm (rowsT l) false false) (e3 : e 3 = immO (outT ob)) (e4 : e 4 = immO (outT oc)) (e5 : e 5 = .int .i64 (l.length : Int)) (e6 : e 6 = .int .i64 0) : sC M4 0 b4_91 (unw M4 0 (RetQ [.t 2] Yes) .fin) e σ := by
  have hlb := immT_len ob
  have hlc := immT_len oc
  have hfew := fewer hb hc
  have hmap : (rowsT l).length = l.length := by simp
  simp only [M4_app, Z4, x4_91, base1, baseX, baseY, ↓reduceIte, Nat.reduceAdd, Nat.reduceSub, Nat.reduceMul, Nat.reduceEqDiff, Nat.reduceLeDiff, Nat.reduceLT, Int.reduceLT, Int.reduceLE, Int.reduceEq, Int.reduceNe, Int.reduceToNat, Int.reduceAdd, Int.reduceSub, reduceCtorEq, Nat.reduceBEq, Nat.reduceBNe]
  refine sC_inv (a := b4_85) (i2I l ob oc σ) oc.length _ _ (.refl _ _ _) ⟨0, Nat.zero_le _, rfl, rfl, e0, e3, e4, e5, by show e 6 = _; rw [e6]; rfl, rfl⟩ ?_
  rintro m e σ' ⟨i, hi, hm, rfl, e0, e3, e4, e5, e6, e9⟩
  rcases Nat.lt_or_ge i oc.length with hil | hig
  · have hil' : (i : Int) < (oc.length : Int) := by omega
    have hi0 : (0 : Int) ≤ (i : Int) := by omega
    obtain ⟨g, hg⟩ : ∃ g, oc[i]? = some g := ⟨_, List.getElem?_eq_getElem hil⟩
    have hia := immT_at hg
    have hnx := sumT_next hg
    have hle := sumT_le oc (i + 1)
    rw [hc.sum] at hle
    obtain ⟨x, r, hgx, hkx, hsame⟩ := hc.pos hg
    have hgl : 0 < g.length := by rw [hgx]; simp
    have hgl100 : g.length ≤ 100 := by omega
    have hlg : ((g.map AV.str).map fun x => [x]).length = g.length := by simp
    have hwn : IntKind.wrap .i64 ((sumT oc i : Int) + (g.length : Int)) = (sumT oc (i + 1) : Int) := by rw [Gz.wrap64 (by omega)]; omega
    have hol : oc.length ≤ 1000000 := by
      have h2 : ∀ (o : List (List Txt)), (∀ q ∈ o, q ≠ []) → o.length ≤ (o.map List.length).sum := by
        intro o
        induction o with
        | nil => intro _; simp
        | cons q r ih =>
          intro hq
          have h1 := ih fun y hy => hq y (by simp [hy])
          have h2 : 0 < q.length := by
            have := hq q (by simp)
            cases q with
            | nil => exact absurd rfl this
            | cons => simp
          simp only [List.length_cons, List.map_cons, List.sum_cons]; omega
      have := h2 oc fun q hq => by
        obtain ⟨j, hj⟩ := List.getElem?_of_mem hq
        obtain ⟨y, s, he, _⟩ := hc.pos hj
        rw [he]; simp
      rw [hc.sum] at this; omega
    have hwi : IntKind.wrap .i64 ((i : Int) + 1) = ((i + 1 : Nat) : Int) := by rw [Gz.wrap64 (by omega)]; omega
    have hx0 : ((g.map AV.str).map fun x => [x])[0]? = some [AV.str x] := by rw [hgx]; rfl
    simp only [M4_app, Z4, base1, baseX, baseY, ↓reduceIte, Nat.reduceAdd, Nat.reduceSub, Nat.reduceMul, Nat.reduceEqDiff, Nat.reduceLeDiff, Nat.reduceLT, Int.reduceLT, Int.reduceLE, Int.reduceEq, Int.reduceNe, Int.reduceToNat, Int.reduceAdd, Int.reduceSub, reduceCtorEq, Nat.reduceBEq, Nat.reduceBNe, loopR_exit, loopR_ret, e4, e6, e9, hlc, hil', hil, hi0, hia, Int.toNat_natCast, lenOf_imm, hlg, hwn, List.getElem?_cons_zero]
    refine sC_inv (a := b4_60) (j2I l ob oc σ' i g.length) g.length _ _ (.refl _ _ _) ⟨0, Nat.zero_le _, rfl, rfl, e0, e3, e4, e5, rfl, e9, rfl⟩ ?_
    rintro m' e σ ⟨j, hj, hm', rfl, e0, e3, e4, e5, e6, e9, e10⟩
    rcases Nat.lt_or_ge j g.length with hjl | hjg
    · have hjl' : (j : Int) < (g.length : Int) := by omega
      have hj0 : (0 : Int) ≤ (j : Int) := by omega
      obtain ⟨y, hy⟩ : ∃ y, g[j]? = some y := ⟨_, List.getElem?_eq_getElem hjl⟩
      have hyx : y = x := hsame y (List.mem_of_getElem? hy)
      subst hyx
      have hy1 : ((g.map AV.str).map fun x => [x])[j]? = some [AV.str y] := by rw [List.getElem?_map, List.getElem?_map, hy]; rfl
      have hwj : IntKind.wrap .i64 ((j : Int) + 1) = ((j + 1 : Nat) : Int) := by rw [Gz.wrap64 (by omega)]; omega
      have h00 : (0 : Int) ≤ 0 := by decide
      simp only [M4_app, Z4, base1, baseX, baseY, ↓reduceIte, Nat.reduceAdd, Nat.reduceSub, Nat.reduceMul, Nat.reduceEqDiff, Nat.reduceLeDiff, Nat.reduceLT, Int.reduceLT, Int.reduceLE, Int.reduceEq, Int.reduceNe, Int.reduceToNat, Int.reduceAdd, Int.reduceSub, reduceCtorEq, Nat.reduceBEq, Nat.reduceBNe, loopR_exit, loopR_ret, e4, e9, e10, hia, hjl', hjl, hj0, hi0, hgl, h00, Int.toNat_natCast, Int.toNat_zero, lenOf_imm, hlg, hy1, hx0, hwj, ne_eq, not_true_eq_false, decide_false, List.getElem?_cons_zero]
      exact ⟨g.length - (j + 1), _, _, by omega, .refl _ _ _, j + 1, by omega, rfl, rfl, e0, e3, e4, e5, e6, e9, rfl⟩
    · have hje : j = g.length := by omega
      subst hje
      have hnl : ¬ ((g.length : Int) < (g.length : Int)) := by omega
      simp only [M4_app, Z4, base1, baseX, baseY, ↓reduceIte, Nat.reduceAdd, Nat.reduceSub, Nat.reduceMul, Nat.reduceEqDiff, Nat.reduceLeDiff, Nat.reduceLT, Int.reduceLT, Int.reduceLE, Int.reduceEq, Int.reduceNe, Int.reduceToNat, Int.reduceAdd, Int.reduceSub, reduceCtorEq, Nat.reduceBEq, Nat.reduceBNe, loopR_exit, loopR_ret, e4, e9, e10, hia, hi0, Int.toNat_natCast, lenOf_imm, hlg, hnl, decide_false, List.getElem?_cons_zero]
      refine sC_inv (a := b4_76) (j3I l ob oc σ i) i _ _ (.refl _ _ _) ⟨0, Nat.zero_le _, rfl, rfl, e0, e3, e4, e5, e6, e9, rfl⟩ ?_
      rintro m'' e σ2 ⟨j, hj, hm'', rfl, e0, e3, e4, e5, e6, e9, e11⟩
      rcases Nat.lt_or_ge j i with hjl | hjg
      · have hjl' : (j : Int) < (i : Int) := by omega
        have hj0 : (0 : Int) ≤ (j : Int) := by omega
        obtain ⟨q, hq⟩ : ∃ q, oc[j]? = some q := ⟨_, List.getElem?_eq_getElem (by omega)⟩
        obtain ⟨z, s, hqz, hkz, _⟩ := hc.pos hq
        have hiq := immT_at hq
        have hq0 : ((q.map AV.str).map fun x => [x])[0]? = some [AV.str z] := by rw [hqz]; rfl
        have hlq : ((q.map AV.str).map fun x => [x]).length = q.length := by simp
        have hql : 0 < q.length := by rw [hqz]; simp
        have hzx : ¬ z = x := by
          intro ezx
          have hz' : kc[j]? = some z := hkz
          have hx' : kc[i]? = some x := hkx
          rw [ezx] at hz'
          have h1 := idx_lt hz'
          have h2 := idx_lt hx'
          have := (List.getElem_inj (h₀ := h1) (h₁ := h2) hc.nd).1 (by
            rw [List.getElem?_eq_getElem h1] at hz'
            rw [List.getElem?_eq_getElem h2] at hx'
            rw [Option.some.inj hz', Option.some.inj hx'])
          omega
        have hwj : IntKind.wrap .i64 ((j : Int) + 1) = ((j + 1 : Nat) : Int) := by rw [Gz.wrap64 (by omega)]; omega
        have h00 : (0 : Int) ≤ 0 := by decide
        simp only [M4_app, Z4, base1, baseX, baseY, ↓reduceIte, Nat.reduceAdd, Nat.reduceSub, Nat.reduceMul, Nat.reduceEqDiff, Nat.reduceLeDiff, Nat.reduceLT, Int.reduceLT, Int.reduceLE, Int.reduceEq, Int.reduceNe, Int.reduceToNat, Int.reduceAdd, Int.reduceSub, reduceCtorEq, Nat.reduceBEq, Nat.reduceBNe, loopR_exit, loopR_ret, e4, e9, e11, hia, hiq, hjl', hjl, hj0, hi0, hgl, hql, h00, Int.toNat_natCast, Int.toNat_zero, lenOf_imm, hlg, hlq, hq0, hx0, hwj, hzx, decide_false, List.getElem?_cons_zero]
        exact ⟨i - (j + 1), _, _, by omega, .refl _ _ _, j + 1, by omega, rfl, rfl, e0, e3, e4, e5, e6, e9, rfl⟩
      · have hje : j = i := by omega
        subst hje
        have hnl : ¬ ((j : Int) < (j : Int)) := by omega
        simp only [M4_app, Z4, base1, baseX, baseY, ↓reduceIte, Nat.reduceAdd, Nat.reduceSub, Nat.reduceMul, Nat.reduceEqDiff, Nat.reduceLeDiff, Nat.reduceLT, Int.reduceLT, Int.reduceLE, Int.reduceEq, Int.reduceNe, Int.reduceToNat, Int.reduceAdd, Int.reduceSub, reduceCtorEq, Nat.reduceBEq, Nat.reduceBNe, loopR_exit, loopR_ret, e9, e11, hnl, decide_false, hwi]
        exact ⟨oc.length - (j + 1), _, _, by omega, .refl _ _ _, j + 1, by omega, rfl, rfl, e0, e3, e4, e5, e6, rfl⟩
  · have hie : i = oc.length := by omega
    subst hie
    have hnl : ¬ ((oc.length : Int) < (oc.length : Int)) := by omega
    rw [sum_all hc] at e6
    have hff : decide (((ob.length : Nat) : Int) ≤ (oc.length : Int)) = true := decide_eq_true (by omega)
    simp only [M4_app, Z4, base1, baseX, baseY, ↓reduceIte, Nat.reduceAdd, Nat.reduceSub, Nat.reduceMul, Nat.reduceEqDiff, Nat.reduceLeDiff, Nat.reduceLT, Int.reduceLT, Int.reduceLE, Int.reduceEq, Int.reduceNe, Int.reduceToNat, Int.reduceAdd, Int.reduceSub, reduceCtorEq, Nat.reduceBEq, Nat.reduceBNe, loopR_exit, loopR_ret, e0, e3, e4, e5, e6, e9, hlb, hlc, hnl, lenOf_imm, hmap, decide_false, decide_true, hff]
    exact yes_trueS
theorem sums_ok (l : List Txt) : Tri Tryz.prog 4 [.imm (rowsT l) false false] [] Yes := by
  refine Tri.of_s c4 M4_sound ?_
  have hmap : (rowsT l).length = l.length := by simp
  simp only [M4_app, awakeD_eq, Z4, base1, baseX, baseY, ↓reduceIte, Nat.reduceAdd, Nat.reduceSub, Nat.reduceMul, Nat.reduceEqDiff, Nat.reduceLeDiff, Nat.reduceLT, Int.reduceLT, Int.reduceLE, Int.reduceEq, Int.reduceNe, Int.reduceToNat, Int.reduceAdd, Int.reduceSub, reduceCtorEq, Nat.reduceBEq, Nat.reduceBNe, lenOf_imm, hmap]
  by_cases hbig : (100 : Int) < (l.length : Int)
  · have hbig' : (l.length : Int) > 100 := hbig
    simp only [M4_app, awakeD_eq, Z4, base1, baseX, baseY, ↓reduceIte, Nat.reduceAdd, Nat.reduceSub, Nat.reduceMul, Nat.reduceEqDiff, Nat.reduceLeDiff, Nat.reduceLT, Int.reduceLT, Int.reduceLE, Int.reduceEq, Int.reduceNe, Int.reduceToNat, Int.reduceAdd, Int.reduceSub, reduceCtorEq, Nat.reduceBEq, Nat.reduceBNe, lenOf_imm, hmap, hbig, hbig', decide_true]
    exact yes_trueS
  · have hbig' : ¬ (l.length : Int) > 100 := hbig
    have hl : l.length ≤ 100 := by omega
    simp only [M4_app, awakeD_eq, Z4, base1, baseX, baseY, ↓reduceIte, Nat.reduceAdd, Nat.reduceSub, Nat.reduceMul, Nat.reduceEqDiff, Nat.reduceLeDiff, Nat.reduceLT, Int.reduceLT, Int.reduceLE, Int.reduceEq, Int.reduceNe, Int.reduceToNat, Int.reduceAdd, Int.reduceSub, reduceCtorEq, Nat.reduceBEq, Nat.reduceBNe, lenOf_imm, hmap, hbig, hbig', decide_false]
    refine .inl ⟨l, by omega, rfl, ?_⟩
    simp only [M4_app, awakeD_eq, Z4, base1, baseX, baseY, ↓reduceIte, Nat.reduceAdd, Nat.reduceSub, Nat.reduceMul, Nat.reduceEqDiff, Nat.reduceLeDiff, Nat.reduceLT, Int.reduceLT, Int.reduceLE, Int.reduceEq, Int.reduceNe, Int.reduceToNat, Int.reduceAdd, Int.reduceSub, reduceCtorEq, Nat.reduceBEq, Nat.reduceBNe, lenOf_imm, hmap, hbig, hbig', decide_false]
    refine .inl ⟨l, by omega, rfl, ?_⟩
    have hb := grp_ok B.kf l
    have hc := grp_ok C.kf l
    have eb : immO (B.outC (grpO B.kf l [] [])) = immO (outT (grpO B.kf l [] [])) := rfl
    have ec : immO (C.outC (grpO C.kf l [] [])) = immO (outT (grpO C.kf l [] [])) := rfl
    rw [eb, ec]
    generalize grpK B.kf l [] = kb at hb
    generalize grpO B.kf l [] [] = ob at hb
    generalize grpK C.kf l [] = kc at hc
    generalize grpO C.kf l [] [] = oc at hc
    have hlb := immT_len ob
    simp only [M4_app, awakeD_eq, Z4, base1, baseX, baseY, ↓reduceIte, Nat.reduceAdd, Nat.reduceSub, Nat.reduceMul, Nat.reduceEqDiff, Nat.reduceLeDiff, Nat.reduceLT, Int.reduceLT, Int.reduceLE, Int.reduceEq, Int.reduceNe, Int.reduceToNat, Int.reduceAdd, Int.reduceSub, reduceCtorEq, Nat.reduceBEq, Nat.reduceBNe, lenOf_imm, hmap, hbig, hbig', decide_false]
    refine sC_inv (a := b4_39) (i1I l ob oc []) ob.length _ _ (.refl _ _ _) ⟨0, Nat.zero_le _, rfl, rfl, rfl, rfl, rfl, rfl, rfl, rfl⟩ ?_
    rintro m e σ' ⟨i, hi, hm, rfl, e0, e3, e4, e5, e6, e7⟩
    rcases Nat.lt_or_ge i ob.length with hil | hig
    · have hil' : (i : Int) < (ob.length : Int) := by omega
      have hi0 : (0 : Int) ≤ (i : Int) := by omega
      obtain ⟨g, hg⟩ : ∃ g, ob[i]? = some g := ⟨_, List.getElem?_eq_getElem hil⟩
      have hia := immT_at hg
      have hnx := sumT_next hg
      have hle := sumT_le ob (i + 1)
      rw [hb.sum] at hle
      obtain ⟨x, r, hgx, hkx, hsame⟩ := hb.pos hg
      have hgl : 0 < g.length := by rw [hgx]; simp
      have hlg : ((g.map AV.str).map fun x => [x]).length = g.length := by simp
      have hwn : IntKind.wrap .i64 ((sumT ob i : Int) + (g.length : Int)) = (sumT ob (i + 1) : Int) := by rw [Gz.wrap64 (by omega)]; omega
      have hwi : IntKind.wrap .i64 ((i : Int) + 1) = ((i + 1 : Nat) : Int) := by
        have := fewer hb hc
        have h3 : ob.length ≤ 1000000 := by
          have h2 : ∀ (o : List (List Txt)), (∀ q ∈ o, q ≠ []) → o.length ≤ (o.map List.length).sum := by
            intro o
            induction o with
            | nil => intro _; simp
            | cons q r ih =>
              intro hq
              have h1 := ih fun y hy => hq y (by simp [hy])
              have h2 : 0 < q.length := by
                have := hq q (by simp)
                cases q with
                | nil => exact absurd rfl this
                | cons => simp
              simp only [List.length_cons, List.map_cons, List.sum_cons]; omega
          have := h2 ob fun q hq => by
            obtain ⟨j, hj⟩ := List.getElem?_of_mem hq
            obtain ⟨y, s, he, _⟩ := hb.pos hj
            rw [he]; simp
          rw [hb.sum] at this; omega
        rw [Gz.wrap64 (by omega)]; omega
      have hx0 : ((g.map AV.str).map fun x => [x])[0]? = some [AV.str x] := by rw [hgx]; rfl
      simp only [M4_app, Z4, base1, baseX, baseY, ↓reduceIte, Nat.reduceAdd, Nat.reduceSub, Nat.reduceMul, Nat.reduceEqDiff, Nat.reduceLeDiff, Nat.reduceLT, Int.reduceLT, Int.reduceLE, Int.reduceEq, Int.reduceNe, Int.reduceToNat, Int.reduceAdd, Int.reduceSub, reduceCtorEq, Nat.reduceBEq, Nat.reduceBNe, loopR_exit, loopR_ret, e3, e5, e7, hlb, hil', hil, hi0, hia, Int.toNat_natCast, lenOf_imm, hlg, hwn, List.getElem?_cons_zero]
      refine sC_inv (a := b4_31) (j1I l ob oc [] i g.length) (g.length - 1) _ _ (.refl _ _ _) ⟨1, Nat.le_refl _, hgl, rfl, rfl, e0, e3, e4, rfl, e6, e7, rfl⟩ ?_
      rintro m' e σ ⟨j, hj1, hj, hm', rfl, e0, e3, e4, e5, e6, e7, e8⟩
      rcases Nat.lt_or_ge j g.length with hjl | hjg
      · have hjl' : (j : Int) < (g.length : Int) := by omega
        have hj0 : (0 : Int) ≤ (j : Int) := by omega
        obtain ⟨y, hy⟩ : ∃ y, g[j]? = some y := ⟨_, List.getElem?_eq_getElem hjl⟩
        have hyx : (y.length : Int) = (x.length : Int) := hsame y (List.mem_of_getElem? hy)
        have hy1 : ((g.map AV.str).map fun x => [x])[j]? = some [AV.str y] := by rw [List.getElem?_map, List.getElem?_map, hy]; rfl
        have hwj : IntKind.wrap .i64 ((j : Int) + 1) = ((j + 1 : Nat) : Int) := by rw [Gz.wrap64 (by omega)]; omega
        have h00 : (0 : Int) ≤ 0 := by decide
        simp only [M4_app, Z4, base1, baseX, baseY, ↓reduceIte, Nat.reduceAdd, Nat.reduceSub, Nat.reduceMul, Nat.reduceEqDiff, Nat.reduceLeDiff, Nat.reduceLT, Int.reduceLT, Int.reduceLE, Int.reduceEq, Int.reduceNe, Int.reduceToNat, Int.reduceAdd, Int.reduceSub, reduceCtorEq, Nat.reduceBEq, Nat.reduceBNe, loopR_exit, loopR_ret, e3, e7, e8, hia, hjl', hjl, hj0, hi0, hgl, h00, Int.toNat_natCast, Int.toNat_zero, lenOf_imm, hlg, hy1, hx0, hwj, hyx, ne_eq, not_true_eq_false, decide_false, List.getElem?_cons_zero]
        exact ⟨g.length - (j + 1), _, _, by omega, .refl _ _ _, j + 1, by omega, by omega, rfl, rfl, e0, e3, e4, e5, e6, e7, rfl⟩
      · have hje : j = g.length := by omega
        subst hje
        have hnl : ¬ ((g.length : Int) < (g.length : Int)) := by omega
        simp only [M4_app, Z4, base1, baseX, baseY, ↓reduceIte, Nat.reduceAdd, Nat.reduceSub, Nat.reduceMul, Nat.reduceEqDiff, Nat.reduceLeDiff, Nat.reduceLT, Int.reduceLT, Int.reduceLE, Int.reduceEq, Int.reduceNe, Int.reduceToNat, Int.reduceAdd, Int.reduceSub, reduceCtorEq, Nat.reduceBEq, Nat.reduceBNe, loopR_exit, loopR_ret, e3, e7, e8, hia, hi0, Int.toNat_natCast, lenOf_imm, hlg, hnl, decide_false, hwi, List.getElem?_cons_zero]
        exact ⟨ob.length - (i + 1), _, _, by omega, .refl _ _ _, i + 1, by omega, rfl, rfl, e0, e3, e4, e5, e6, rfl⟩
    · have hie : i = ob.length := by omega
      subst hie
      have hnl : ¬ ((ob.length : Int) < (ob.length : Int)) := by omega
      rw [sum_all hb] at e5
      simp only [M4_app, Z4, base1, baseX, baseY, ↓reduceIte, Nat.reduceAdd, Nat.reduceSub, Nat.reduceMul, Nat.reduceEqDiff, Nat.reduceLeDiff, Nat.reduceLT, Int.reduceLT, Int.reduceLE, Int.reduceEq, Int.reduceNe, Int.reduceToNat, Int.reduceAdd, Int.reduceSub, reduceCtorEq, Nat.reduceBEq, Nat.reduceBNe, loopR_exit, loopR_ret, e3, e7, hlb, hnl, decide_false]
      exact second_ok l hl kb kc ob oc hb hc _ _ e0 e3 e4 e5 e6
end Go.Proofs.YtnooejmbhdgbpaaGreatDoor.gauge
