/- GaugeGroups, walked: yes, whatever the items. No condition. -/
import Derived.Test.YtnooejmbhdgbpaaGreatDoorGGrpA
import Derived.Test.YtnooejmbhdgbpaaGreatDoorTB
set_option linter.unusedVariables false
set_option linter.unusedSimpArgs false
namespace Go.Proofs.YtnooejmbhdgbpaaGreatDoor.gauge
open Go.ChangeShapes Go.WideShapes Go.ChangeAt Go.RowKit Go.Gz Go.Gz.H A
section
variable {C : PCall} {n0 : Nat} {R : MExit → Env → AHeap → Prop} {k : Cont} {e : Env} {σ : AHeap}
abbrev r3_0 : List MOper := [⟨(some 2), .move (.c (.bool false)), none⟩]
def b3_0 : SCode := .region r3_0
abbrev r3_1 : List MOper := [⟨(some 11), .call 5 [], none⟩,
  ⟨(some 12), .un .not (.t 11), none⟩]
def b3_1 : SCode := .region r3_1
abbrev r3_2 : List MOper := [⟨(some 2), .move (.c (.bool false)), none⟩]
def b3_2 : SCode := .region r3_2
def b3_3 : SCode := .seq b3_2 .ret
def b3_4 : SCode := .cond (.t 12) b3_3 .skip
def b3_5 : SCode := .seq b3_1 b3_4
abbrev r3_6 : List MOper := [⟨(some 13), .move (.t 0), none⟩,
  ⟨(some 14), .lenSl (.t 13), none⟩,
  ⟨(some 15), .bin .gtr .num (.t 14) (.c (.int .i64 300)), none⟩]
def b3_6 : SCode := .region r3_6
abbrev r3_7 : List MOper := [⟨(some 2), .move (.c (.bool true)), none⟩]
def b3_7 : SCode := .region r3_7
def b3_8 : SCode := .seq b3_7 .ret
def b3_9 : SCode := .cond (.t 15) b3_8 .skip
def b3_10 : SCode := .seq b3_6 b3_9
abbrev r3_11 : List MOper := [⟨(some 16), .move (.t 0), none⟩,
  ⟨(some 17), .call 6 [(.t 16), (.c (.func 7 []))], none⟩,
  ⟨(some 3), .move (.t 17), none⟩]
def b3_11 : SCode := .region r3_11
abbrev r3_12 : List MOper := [⟨(some 4), .move (.c (.nilslice)), none⟩]
def b3_12 : SCode := .region r3_12
abbrev r3_13 : List MOper := [⟨(some 5), .move (.c (.nilslice)), none⟩]
def b3_13 : SCode := .region r3_13
abbrev r3_14 : List MOper := [⟨(some 6), .move (.c (.int .i64 0)), none⟩]
def b3_14 : SCode := .region r3_14
abbrev r3_15 : List MOper := [⟨(some 18), .move (.t 6), none⟩,
  ⟨(some 19), .move (.t 0), none⟩,
  ⟨(some 20), .lenSl (.t 19), none⟩,
  ⟨(some 21), .bin .lss .num (.t 18) (.t 20), none⟩]
def b3_15 : SCode := .region r3_15
def b3_16 : SCode := .cond (.t 21) .skip (.exit 0)
def b3_17 : SCode := .seq b3_15 b3_16
abbrev r3_18 : List MOper := [⟨(some 7), .move (.c (.int .i64 (-1))), none⟩]
def b3_18 : SCode := .region r3_18
abbrev r3_19 : List MOper := [⟨(some 8), .move (.c (.int .i64 0)), none⟩]
def b3_19 : SCode := .region r3_19
abbrev r3_20 : List MOper := [⟨(some 24), .move (.t 8), none⟩,
  ⟨(some 25), .move (.t 4), none⟩,
  ⟨(some 26), .lenSl (.t 25), none⟩,
  ⟨(some 27), .bin .lss .num (.t 24) (.t 26), none⟩]
def b3_20 : SCode := .region r3_20
def b3_21 : SCode := .cond (.t 27) .skip (.exit 2)
def b3_22 : SCode := .seq b3_20 b3_21
abbrev t3_23 : LTree := (.quiet ⟨(some 30), .move (.t 4), none⟩ 0
  (.quiet ⟨(some 31), .move (.t 8), none⟩ 1
  (.quiet ⟨(some 32), .indexAddr 1 (.t 30) (.t 31), none⟩ 2
  (.quiet ⟨(some 33), .load1 (.t 32), none⟩ 3
  (.quiet ⟨(some 34), .move (.t 0), none⟩ 4
  (.quiet ⟨(some 35), .move (.t 6), none⟩ 5
  (.quiet ⟨(some 36), .indexAddr 1 (.t 34) (.t 35), none⟩ 6
  (.quiet ⟨(some 37), .load1 (.t 36), none⟩ 7
  (.quiet ⟨(some 38), .bin .shr .num (.t 37) (.c (.int .u64 12)), none⟩ 8
  (.quiet ⟨(some 39), .bin .eql .num (.t 33) (.t 38), none⟩ 9
  .leaf))))))))))
def b3_23 : SCode := .draw t3_23
abbrev r3_24 : List MOper := [⟨(some 40), .move (.t 8), none⟩,
  ⟨(some 7), .move (.t 40), none⟩]
def b3_24 : SCode := .region r3_24
def b3_25 : SCode := .cond (.t 39) b3_24 .skip
def b3_26 : SCode := .seq b3_23 b3_25
def b3_27 : SCode := .block 3 b3_26
abbrev r3_28 : List MOper := [⟨(some 28), .move (.t 8), none⟩,
  ⟨(some 29), .bin .add .num (.t 28) (.c (.int .i64 1)), none⟩,
  ⟨(some 8), .move (.t 29), none⟩]
def b3_28 : SCode := .region r3_28
def b3_29 : SCode := .seq b3_27 b3_28
def b3_30 : SCode := .seq b3_22 b3_29
def b3_31 : SCode := .loop b3_30
def b3_32 : SCode := .block 2 b3_31
def b3_33 : SCode := .seq b3_19 b3_32
abbrev r3_34 : List MOper := [⟨(some 41), .move (.t 7), none⟩,
  ⟨(some 42), .bin .lss .num (.t 41) (.c (.int .i64 0)), none⟩]
def b3_34 : SCode := .region r3_34
abbrev r3_35 : List MOper := [⟨(some 43), .move (.t 4), none⟩,
  ⟨(some 44), .lenSl (.t 43), none⟩,
  ⟨(some 7), .move (.t 44), none⟩]
def b3_35 : SCode := .region r3_35
abbrev r3_36 : List MOper := [⟨(some 45), .move (.t 4), none⟩,
  ⟨(some 46), .move (.t 0), none⟩,
  ⟨(some 47), .move (.t 6), none⟩,
  ⟨(some 48), .indexAddr 1 (.t 46) (.t 47), none⟩,
  ⟨(some 49), .load1 (.t 48), none⟩,
  ⟨(some 50), .bin .shr .num (.t 49) (.c (.int .u64 12)), none⟩,
  ⟨(some 51), .buildSlice [.int .u16 0] 1 1 [(0, 1, (.t 50))], none⟩,
  ⟨(some 52), .append 1 2 (.t 45) (.t 51), none⟩,
  ⟨(some 53), .move (.t 5), none⟩,
  ⟨(some 54), .buildSlice [.nilslice] 1 1 [(0, 1, (.c (.nilslice)))], none⟩,
  ⟨(some 55), .append 1 24 (.t 53) (.t 54), none⟩,
  ⟨(some 4), .move (.t 52), none⟩,
  ⟨(some 5), .move (.t 55), none⟩]
def b3_36 : SCode := .region r3_36
def b3_37 : SCode := .seq b3_35 b3_36
def b3_38 : SCode := .cond (.t 42) b3_37 .skip
def b3_39 : SCode := .seq b3_34 b3_38
abbrev t3_40 : LTree := (.quiet ⟨(some 56), .move (.t 5), none⟩ 0
  (.quiet ⟨(some 57), .move (.t 7), none⟩ 1
  (.quiet ⟨(some 58), .move (.t 5), none⟩ 2
  (.quiet ⟨(some 59), .move (.t 7), none⟩ 3
  (.quiet ⟨(some 60), .indexAddr 1 (.t 58) (.t 59), none⟩ 4
  (.quiet ⟨(some 61), .load1 (.t 60), none⟩ 5
  (.quiet ⟨(some 62), .move (.t 0), none⟩ 6
  (.quiet ⟨(some 63), .move (.t 6), none⟩ 7
  (.quiet ⟨(some 64), .indexAddr 1 (.t 62) (.t 63), none⟩ 8
  (.quiet ⟨(some 65), .load1 (.t 64), none⟩ 9
  (.loud ⟨(some 66), .buildSlice [.int .u16 0] 1 1 [(0, 1, (.t 65))], none⟩ [5]
  (.loud ⟨(some 67), .append 1 2 (.t 61) (.t 66), none⟩ []
  (.quiet ⟨(some 68), .indexAddr 1 (.t 56) (.t 57), none⟩ 12
  (.loud ⟨none, .store 1 (.t 68) (.t 67), none⟩ []
  .leaf .stop)) .stop) .stop)))))))))))
def b3_40 : SCode := .draw t3_40
def b3_41 : SCode := .seq b3_39 b3_40
def b3_42 : SCode := .seq b3_33 b3_41
def b3_43 : SCode := .seq b3_18 b3_42
def b3_44 : SCode := .block 1 b3_43
abbrev r3_45 : List MOper := [⟨(some 22), .move (.t 6), none⟩,
  ⟨(some 23), .bin .add .num (.t 22) (.c (.int .i64 1)), none⟩,
  ⟨(some 6), .move (.t 23), none⟩]
def b3_45 : SCode := .region r3_45
def b3_46 : SCode := .seq b3_44 b3_45
def b3_47 : SCode := .seq b3_17 b3_46
def b3_48 : SCode := .loop b3_47
def b3_49 : SCode := .block 0 b3_48
def b3_50 : SCode := .seq b3_14 b3_49
abbrev r3_51 : List MOper := [⟨(some 69), .move (.t 3), none⟩,
  ⟨(some 70), .lenSl (.t 69), none⟩,
  ⟨(some 71), .move (.t 5), none⟩,
  ⟨(some 72), .lenSl (.t 71), none⟩,
  ⟨(some 73), .bin .neq .num (.t 70) (.t 72), none⟩]
def b3_51 : SCode := .region r3_51
abbrev r3_52 : List MOper := [⟨(some 2), .move (.c (.bool false)), none⟩]
def b3_52 : SCode := .region r3_52
def b3_53 : SCode := .seq b3_52 .ret
def b3_54 : SCode := .cond (.t 73) b3_53 .skip
def b3_55 : SCode := .seq b3_51 b3_54
abbrev r3_56 : List MOper := [⟨(some 9), .move (.c (.int .i64 0)), none⟩]
def b3_56 : SCode := .region r3_56
abbrev r3_57 : List MOper := [⟨(some 74), .move (.t 9), none⟩,
  ⟨(some 75), .move (.t 3), none⟩,
  ⟨(some 76), .lenSl (.t 75), none⟩,
  ⟨(some 77), .bin .lss .num (.t 74) (.t 76), none⟩]
def b3_57 : SCode := .region r3_57
def b3_58 : SCode := .cond (.t 77) .skip (.exit 4)
def b3_59 : SCode := .seq b3_57 b3_58
abbrev t3_60 : LTree := (.quiet ⟨(some 80), .move (.t 3), none⟩ 0
  (.quiet ⟨(some 81), .move (.t 9), none⟩ 1
  (.quiet ⟨(some 82), .indexAddr 1 (.t 80) (.t 81), none⟩ 2
  (.quiet ⟨(some 83), .load1 (.t 82), none⟩ 3
  (.quiet ⟨(some 84), .lenSl (.t 83), none⟩ 4
  (.quiet ⟨(some 85), .move (.t 5), none⟩ 5
  (.quiet ⟨(some 86), .move (.t 9), none⟩ 6
  (.quiet ⟨(some 87), .indexAddr 1 (.t 85) (.t 86), none⟩ 7
  (.quiet ⟨(some 88), .load1 (.t 87), none⟩ 8
  (.quiet ⟨(some 89), .lenSl (.t 88), none⟩ 9
  (.quiet ⟨(some 90), .bin .neq .num (.t 84) (.t 89), none⟩ 10
  .leaf)))))))))))
def b3_60 : SCode := .draw t3_60
abbrev r3_61 : List MOper := [⟨(some 2), .move (.c (.bool false)), none⟩]
def b3_61 : SCode := .region r3_61
def b3_62 : SCode := .seq b3_61 .ret
def b3_63 : SCode := .cond (.t 90) b3_62 .skip
def b3_64 : SCode := .seq b3_60 b3_63
abbrev r3_65 : List MOper := [⟨(some 10), .move (.c (.int .i64 0)), none⟩]
def b3_65 : SCode := .region r3_65
abbrev r3_66 : List MOper := [⟨(some 91), .move (.t 10), none⟩,
  ⟨(some 92), .move (.t 3), none⟩,
  ⟨(some 93), .move (.t 9), none⟩,
  ⟨(some 94), .indexAddr 1 (.t 92) (.t 93), none⟩,
  ⟨(some 95), .load1 (.t 94), none⟩,
  ⟨(some 96), .lenSl (.t 95), none⟩,
  ⟨(some 97), .bin .lss .num (.t 91) (.t 96), none⟩]
def b3_66 : SCode := .region r3_66
def b3_67 : SCode := .cond (.t 97) .skip (.exit 6)
def b3_68 : SCode := .seq b3_66 b3_67
abbrev t3_69 : LTree := (.quiet ⟨(some 100), .move (.t 3), none⟩ 0
  (.quiet ⟨(some 101), .move (.t 9), none⟩ 1
  (.quiet ⟨(some 102), .indexAddr 1 (.t 100) (.t 101), none⟩ 2
  (.quiet ⟨(some 103), .load1 (.t 102), none⟩ 3
  (.quiet ⟨(some 104), .move (.t 10), none⟩ 4
  (.quiet ⟨(some 105), .indexAddr 1 (.t 103) (.t 104), none⟩ 5
  (.quiet ⟨(some 106), .load1 (.t 105), none⟩ 6
  (.quiet ⟨(some 107), .move (.t 5), none⟩ 7
  (.quiet ⟨(some 108), .move (.t 9), none⟩ 8
  (.quiet ⟨(some 109), .indexAddr 1 (.t 107) (.t 108), none⟩ 9
  (.quiet ⟨(some 110), .load1 (.t 109), none⟩ 10
  (.quiet ⟨(some 111), .move (.t 10), none⟩ 11
  (.quiet ⟨(some 112), .indexAddr 1 (.t 110) (.t 111), none⟩ 12
  (.quiet ⟨(some 113), .load1 (.t 112), none⟩ 13
  (.quiet ⟨(some 114), .bin .neq .num (.t 106) (.t 113), none⟩ 14
  .leaf)))))))))))))))
def b3_69 : SCode := .draw t3_69
abbrev r3_70 : List MOper := [⟨(some 2), .move (.c (.bool false)), none⟩]
def b3_70 : SCode := .region r3_70
def b3_71 : SCode := .seq b3_70 .ret
def b3_72 : SCode := .cond (.t 114) b3_71 .skip
def b3_73 : SCode := .seq b3_69 b3_72
def b3_74 : SCode := .block 7 b3_73
abbrev r3_75 : List MOper := [⟨(some 98), .move (.t 10), none⟩,
  ⟨(some 99), .bin .add .num (.t 98) (.c (.int .i64 1)), none⟩,
  ⟨(some 10), .move (.t 99), none⟩]
def b3_75 : SCode := .region r3_75
def b3_76 : SCode := .seq b3_74 b3_75
def b3_77 : SCode := .seq b3_68 b3_76
def b3_78 : SCode := .loop b3_77
def b3_79 : SCode := .block 6 b3_78
def b3_80 : SCode := .seq b3_65 b3_79
def b3_81 : SCode := .seq b3_64 b3_80
def b3_82 : SCode := .block 5 b3_81
abbrev r3_83 : List MOper := [⟨(some 78), .move (.t 9), none⟩,
  ⟨(some 79), .bin .add .num (.t 78) (.c (.int .i64 1)), none⟩,
  ⟨(some 9), .move (.t 79), none⟩]
def b3_83 : SCode := .region r3_83
def b3_84 : SCode := .seq b3_82 b3_83
def b3_85 : SCode := .seq b3_59 b3_84
def b3_86 : SCode := .loop b3_85
def b3_87 : SCode := .block 4 b3_86
def b3_88 : SCode := .seq b3_56 b3_87
abbrev r3_89 : List MOper := [⟨(some 115), .move (.t 0), none⟩,
  ⟨(some 116), .call 6 [(.t 115), (.c (.nilfunc))], none⟩,
  ⟨(some 117), .lenSl (.t 116), none⟩,
  ⟨(some 118), .bin .eql .num (.t 117) (.c (.int .i64 0)), none⟩,
  ⟨(some 2), .move (.t 118), none⟩]
def b3_89 : SCode := .region r3_89
def b3_90 : SCode := .seq b3_89 .ret
def b3_91 : SCode := .seq b3_88 b3_90
def b3_92 : SCode := .seq b3_55 b3_91
def b3_93 : SCode := .seq b3_50 b3_92
def b3_94 : SCode := .seq b3_13 b3_93
def b3_95 : SCode := .seq b3_12 b3_94
def b3_96 : SCode := .seq b3_11 b3_95
def b3_97 : SCode := .seq b3_10 b3_96
def b3_98 : SCode := .seq b3_5 b3_97
def b3_99 : SCode := .seq b3_0 b3_98
def s3 : SFunc := ⟨119, [.t 2], b3_99⟩
theorem c3 : sFn Tryz.prog 3 = some s3 := by kernel_rfl
theorem x3_40 : XT b3_40 t3_40 := rfl
theorem x3_41 : XS b3_41 b3_39 b3_40 := rfl
theorem x3_92 : XS b3_92 b3_55 b3_91 := rfl
theorem Z3 : XR b3_0 r3_0 ∧ XR b3_1 r3_1 ∧ XR b3_2 r3_2 ∧ XS b3_3 b3_2 .ret ∧ XC b3_4 (.t 12) b3_3 .skip ∧ XS b3_5 b3_1 b3_4 ∧ XR b3_6 r3_6 ∧ XR b3_7 r3_7 ∧ XS b3_8 b3_7 .ret ∧ XC b3_9 (.t 15) b3_8 .skip ∧ XS b3_10 b3_6 b3_9 ∧ XR b3_11 r3_11 ∧ XR b3_12 r3_12 ∧ XR b3_13 r3_13 ∧ XR b3_14 r3_14 ∧ XR b3_15 r3_15 ∧ XC b3_16 (.t 21) .skip (.exit 0) ∧ XS b3_17 b3_15 b3_16 ∧ XR b3_18 r3_18 ∧ XR b3_19 r3_19 ∧ XR b3_20 r3_20 ∧ XC b3_21 (.t 27) .skip (.exit 2) ∧ XS b3_22 b3_20 b3_21 ∧ XT b3_23 t3_23 ∧ XR b3_24 r3_24 ∧ XC b3_25 (.t 39) b3_24 .skip ∧ XS b3_26 b3_23 b3_25 ∧ XB b3_27 3 b3_26 ∧ XR b3_28 r3_28 ∧ XS b3_29 b3_27 b3_28 ∧ XS b3_30 b3_22 b3_29 ∧ XB b3_32 2 b3_31 ∧ XS b3_33 b3_19 b3_32 ∧ XR b3_34 r3_34 ∧ XR b3_35 r3_35 ∧ XR b3_36 r3_36 ∧ XS b3_37 b3_35 b3_36 ∧ XC b3_38 (.t 42) b3_37 .skip ∧ XS b3_39 b3_34 b3_38 ∧ XS b3_42 b3_33 b3_41 ∧ XS b3_43 b3_18 b3_42 ∧ XB b3_44 1 b3_43 ∧ XR b3_45 r3_45 ∧ XS b3_46 b3_44 b3_45 ∧ XS b3_47 b3_17 b3_46 ∧ XB b3_49 0 b3_48 ∧ XS b3_50 b3_14 b3_49 ∧ XR b3_51 r3_51 ∧ XR b3_52 r3_52 ∧ XS b3_53 b3_52 .ret ∧ XC b3_54 (.t 73) b3_53 .skip ∧ XS b3_55 b3_51 b3_54 ∧ XR b3_56 r3_56 ∧ XR b3_57 r3_57 ∧ XC b3_58 (.t 77) .skip (.exit 4) ∧ XS b3_59 b3_57 b3_58 ∧ XT b3_60 t3_60 ∧ XR b3_61 r3_61 ∧ XS b3_62 b3_61 .ret ∧ XC b3_63 (.t 90) b3_62 .skip ∧ XS b3_64 b3_60 b3_63 ∧ XR b3_65 r3_65 ∧ XR b3_66 r3_66 ∧ XC b3_67 (.t 97) .skip (.exit 6) ∧ XS b3_68 b3_66 b3_67 ∧ XT b3_69 t3_69 ∧ XR b3_70 r3_70 ∧ XS b3_71 b3_70 .ret ∧ XC b3_72 (.t 114) b3_71 .skip ∧ XS b3_73 b3_69 b3_72 ∧ XB b3_74 7 b3_73 ∧ XR b3_75 r3_75 ∧ XS b3_76 b3_74 b3_75 ∧ XS b3_77 b3_68 b3_76 ∧ XB b3_79 6 b3_78 ∧ XS b3_80 b3_65 b3_79 ∧ XS b3_81 b3_64 b3_80 ∧ XB b3_82 5 b3_81 ∧ XR b3_83 r3_83 ∧ XS b3_84 b3_82 b3_83 ∧ XS b3_85 b3_59 b3_84 ∧ XB b3_87 4 b3_86 ∧ XS b3_88 b3_56 b3_87 ∧ XR b3_89 r3_89 ∧ XS b3_90 b3_89 .ret ∧ XS b3_91 b3_88 b3_90 ∧ XS b3_93 b3_50 b3_92 ∧ XS b3_94 b3_13 b3_93 ∧ XS b3_95 b3_12 b3_94 ∧ XS b3_96 b3_11 b3_95 ∧ XS b3_97 b3_10 b3_96 ∧ XS b3_98 b3_5 b3_97 ∧ XS b3_99 b3_0 b3_98 ∧ XY s3 119 b3_99 [.t 2] := ⟨rfl, rfl, rfl, rfl, sC_cond, rfl, rfl, rfl, rfl, sC_cond, rfl, rfl, rfl, rfl, rfl, rfl, sC_cond, rfl, rfl, rfl, rfl, sC_cond, rfl, rfl, rfl, sC_cond, rfl, rfl, rfl, rfl, rfl, rfl, rfl, rfl, rfl, rfl, rfl, sC_cond, rfl, rfl, rfl, rfl, rfl, rfl, rfl, rfl, rfl, rfl, rfl, rfl, sC_cond, rfl, rfl, rfl, sC_cond, rfl, rfl, rfl, rfl, sC_cond, rfl, rfl, rfl, sC_cond, rfl, rfl, rfl, rfl, sC_cond, rfl, rfl, rfl, rfl, rfl, rfl, rfl, rfl, rfl, rfl, rfl, rfl, rfl, rfl, rfl, rfl, rfl, rfl, rfl, rfl, rfl, rfl, rfl, rfl, rfl⟩

end
set_option maxHeartbeats 4000000
set_option maxRecDepth 10000
theorem yes_true {σ : AHeap} : Yes (.bool true) σ := rfl
def M3 : PCall := rowQ 5 awakeD (rowQ 6 A.grpD noCall)
theorem M3_app {f : FuncId} {args : List AV} {σ : AHeap} {K : AV → AHeap → Prop} : M3 f args σ K = rowQ 5 awakeD (rowQ 6 A.grpD noCall) f args σ K := _root_.id rfl
theorem M3_sound : Sound Tryz.prog M3 := rowQ_sound awakeD_ok (rowQ_sound A.grpD_ok (noCall_sound _))
abbrev wE (k : Int) : AV := .int .u16 k
abbrev keysC (ks : List Int) : List (List AV) := ks.map fun k => [wE k]
def atZ : Option Nat → Int
  | some n => n
  | none => -1
/-- One key more that was looked at. -/
theorem ix_take {k : Int} : ∀ {ks : List Int} {j : Nat} {y : Int}, ks.Nodup → ks[j]? = some y → (k = y → atZ (ix k (ks.take (j + 1))) = (j : Int)) ∧ (k ≠ y → ix k (ks.take (j + 1)) = ix k (ks.take j))
  | [], j, y, _, h => by simp at h
  | a :: r, 0, y, _, h => by
    simp at h; subst h
    constructor
    · intro e; subst e; simp [ix, atZ]
    · intro e; simp [ix, e]
  | a :: r, j + 1, y, hn, h => by
    rw [List.nodup_cons] at hn
    have hr : r[j]? = some y := by simpa using h
    have hya : y ≠ a := fun e => hn.1 (e ▸ List.mem_of_getElem? hr)
    obtain ⟨h1, h2⟩ := ix_take (k := k) hn.2 hr
    constructor
    · intro e
      have := h1 e
      subst e
      simp only [List.take_succ_cons, ix, if_neg hya]
      cases hx : ix k (r.take (j + 1)) with
      | none => rw [hx] at this; simp only [atZ] at this; omega
      | some n => rw [hx] at this; simp only [atZ] at this; simp only [Option.map_some, atZ]; omega
    · intro e
      have := h2 e
      by_cases hka : k = a
      · simp [ix, hka]
      · simp only [List.take_succ_cons, ix, if_neg hka, this]
theorem keys_flat (ks : List Int) : (keysC ks).flatten = ks.map wE := by
  induction ks with
  | nil => rfl
  | cons k r ih =>
    have ih : (keysC r).flatten = r.map wE := ih
    simp only [List.map_cons, List.flatten_cons, ih, List.singleton_append]
theorem grow_slice {σ : AHeap} {Lv : AV} {w : Nat} {rows : List (List AV)} (h : Grow σ Lv w rows) (hp : 0 < rows.length) : ∃ d, Lv = .slice d 0 rows.length none w ∧ hget σ d = some rows.flatten := by
  rcases h with ⟨_, rfl⟩ | ⟨d, h1, h2, _⟩
  · simp at hp
  · exact ⟨d, h1, h2⟩
theorem grow_lenSl {σ : AHeap} {Lv : AV} {w : Nat} {rows : List (List AV)} (h : Grow σ Lv w rows) : lenSl Lv = some rows.length := by
  rcases h with ⟨rfl, rfl⟩ | ⟨d, rfl, _⟩ <;> rfl
theorem lenOf_sl {i o l w : Nat} {c : Option Nat} : lenOf (.slice i o l c w) = some l := _root_.id rfl
theorem one_flat (g : List AV) : (g.map fun x => [x]).flatten = g := flat_one g
theorem immO_at {out : List (List Int)} {k : Nat} {g : List Int} (h : out[k]? = some g) : iAddr 1 (immO (outC out)) (.int .i64 (k : Int)) = some (.iptr [.imm ((g.map tE).map fun x => [x]) false false]) := by
  have hk := idx_lt h
  have hr : ((outC out).map fun g => [AV.imm (g.map fun x => [x]) false false])[k]? = some [AV.imm ((g.map tE).map fun x => [x]) false false] := by
    rw [List.getElem?_map, outC_at h]; rfl
  have hlen : k < ((outC out).map fun g => [AV.imm (g.map fun x => [x]) false false]).length := by simp [outC, hk]
  have hi : inRange (.int .i64 (k : Int)) ((outC out).map fun g => [AV.imm (g.map fun x => [x]) false false]).length = some k := by
    simp only [inRange]
    rw [if_pos ⟨by omega, by omega⟩]; rfl
  show (inRange (.int .i64 (k : Int)) ((outC out).map fun g => [AV.imm (g.map fun x => [x]) false false]).length).bind _ = _
  rw [hi, Option.bind_some, hr, Option.bind_some]
  rfl
theorem immO_len (out : List (List Int)) : lenSl (immO (outC out)) = some out.length := by
  show some (List.length _) = _
  simp [outC]
theorem gs_len {σ : AHeap} {Wv : AV} {cs : List AV} {o : List (List AV)} (h : GS σ Wv cs o) : lenSl Wv = some o.length := by
  rw [grow_lenSl h.top, List.length_map, h.len]
theorem gs_at {σ : AHeap} {Wv : AV} {cs : List AV} {out : List (List Int)} (h : GS σ Wv cs (outC out)) {k : Nat} {g : List Int} (hk : out[k]? = some g) : ∃ c d, Wv = .slice d 0 cs.length none 1 ∧ hget σ d = some cs ∧ cs[k]? = some c ∧ k < cs.length ∧ Grow σ c 1 ((g.map tE).map fun x => [x]) := by
  have hl : k < cs.length := by
    have := idx_lt hk
    have h2 := h.len
    unfold outC at h2
    rw [List.length_map] at h2
    omega
  obtain ⟨d, h1, h2⟩ := grow_slice h.top (by rw [List.length_map]; omega)
  rw [List.length_map] at h1
  rw [flat_one] at h2
  have hc : cs[k]? = some (cs[k]) := List.getElem?_eq_getElem hl
  exact ⟨_, d, h1, h2, hc, hl, h.row k _ _ hc (outC_at hk)⟩
/-! Both compared. -/
def kI (l : List Int) (out : List (List Int)) (Wv : AV) (σ0 : AHeap) (m : Nat) (e : Env) (σ : AHeap) : Prop :=
  ∃ k : Nat, k ≤ out.length ∧ m = out.length - k ∧ σ = σ0 ∧ e 0 = .imm (rowsC l) false false ∧ e 3 = immO (outC out) ∧ e 5 = Wv ∧ e 9 = .int .i64 (k : Int)
def jI (l : List Int) (out : List (List Int)) (Wv : AV) (σ0 : AHeap) (k n : Nat) (m : Nat) (e : Env) (σ : AHeap) : Prop :=
  ∃ j : Nat, j ≤ n ∧ m = n - j ∧ σ = σ0 ∧ e 0 = .imm (rowsC l) false false ∧ e 3 = immO (outC out) ∧ e 5 = Wv ∧ e 9 = .int .i64 (k : Int) ∧ e 10 = .int .i64 (j : Int)
theorem cmp_ok (l : List Int) (hl : l.length ≤ 300) (out : List (List Int)) (ho : out.length ≤ 1000000) (hg1 : ∀ g ∈ out, g.length ≤ 1000000) (e : Env) (σ : AHeap) (Wv : AV) (cs : List AV) (hG : GS σ Wv cs (outC out))
    (e0 : e 0 = .imm (rowsC l) false false) (e3 : e 3 = immO (outC out)) (e5 : e 5 = Wv) : sC M3 0 b3_92 (unw M3 0 (RetQ [.t 2] Yes) .fin) e σ := by
  have hlw : lenSl Wv = some out.length := by rw [gs_len hG]; simp [outC]
  have hli := immO_len out
  have hb : (((out.length : Nat) : Int) != (out.length : Int)) = false := by simp
  have hb' : decide (((out.length : Nat) : Int) ≠ (out.length : Int)) = false := by simp
  simp only [M3_app, Z3, x3_92, base1, baseX, baseY, ↓reduceIte, Nat.reduceAdd, Nat.reduceSub, Nat.reduceMul, Nat.reduceEqDiff, Nat.reduceLeDiff, Nat.reduceLT, Int.reduceLT, Int.reduceLE, Int.reduceEq, Int.reduceNe, Int.reduceToNat, Int.reduceAdd, Int.reduceSub, reduceCtorEq, Nat.reduceBEq, Nat.reduceBNe, e3, e5, hli, hlw, hb, hb', ne_eq, not_true_eq_false, decide_false]
  refine sC_inv (a := b3_85) (kI l out Wv σ) out.length _ _ (.refl _ _ _) ⟨0, Nat.zero_le _, rfl, rfl, e0, e3, e5, rfl⟩ ?_
  rintro m e σ' ⟨k, hk, hm, rfl, e0, e3, e5, e9⟩
  rcases Nat.lt_or_ge k out.length with hkl | hkg
  · have hkl' : (k : Int) < (out.length : Int) := by omega
    have hk0 : (0 : Int) ≤ (k : Int) := by omega
    obtain ⟨g, hg⟩ : ∃ g, out[k]? = some g := ⟨_, List.getElem?_eq_getElem hkl⟩
    have hgl := hg1 g (List.mem_of_getElem? hg)
    obtain ⟨c, d, rfl, hd, hc, hcl, hgr⟩ := gs_at hG hg
    have hia := immO_at hg
    have hlc : lenSl c = some g.length := by rw [grow_lenSl hgr]; simp
    have hlg : ((g.map tE).map fun x => [x]).length = g.length := by simp
    have hwk : IntKind.wrap .i64 ((k : Int) + 1) = ((k + 1 : Nat) : Int) := by rw [Gz.wrap64 (by omega)]; omega
    have hne : decide (¬ ((g.length : Int) = (g.length : Int))) = false := by simp
    simp only [M3_app, Z3, base1, baseX, baseY, ↓reduceIte, Nat.reduceAdd, Nat.reduceSub, Nat.reduceMul, Nat.reduceEqDiff, Nat.reduceLeDiff, Nat.reduceLT, Int.reduceLT, Int.reduceLE, Int.reduceEq, Int.reduceNe, Int.reduceToNat, Int.reduceAdd, Int.reduceSub, reduceCtorEq, Nat.reduceBEq, Nat.reduceBNe, loopR_exit, loopR_ret, e3, e5, e9, hli, hlw, hkl', hkl, hk0, hia, Int.toNat_natCast, Nat.mul_one, Nat.zero_add, hcl, hd, hc, hlc, lenOf_imm, hlg, ne_eq, not_true_eq_false, decide_false, List.getElem?_cons_zero]
    refine sC_inv (a := b3_77) (jI l out (.slice d 0 cs.length none 1) σ' k g.length) g.length _ _ (.refl _ _ _) ⟨0, Nat.zero_le _, rfl, rfl, e0, e3, e5, e9, rfl⟩ ?_
    rintro m' e σ ⟨j, hj, hm', rfl, e0, e3, e5, e9, e10⟩
    rcases Nat.lt_or_ge j g.length with hjl | hjg
    · have hjl' : (j : Int) < (g.length : Int) := by omega
      have hj0 : (0 : Int) ≤ (j : Int) := by omega
      obtain ⟨y, hy⟩ : ∃ y, g[j]? = some y := ⟨_, List.getElem?_eq_getElem hjl⟩
      obtain ⟨dc, hcc, hdc⟩ := grow_slice hgr (by rw [hlg]; omega)
      rw [hlg] at hcc
      rw [flat_one] at hdc
      subst hcc
      have hy1 : ((g.map tE).map fun x => [x])[j]? = some [tE y] := by rw [List.getElem?_map, List.getElem?_map, hy]; rfl
      have hy2 : (g.map tE)[j]? = some (tE y) := by rw [List.getElem?_map, hy]; rfl
      have hwj : IntKind.wrap .i64 ((j : Int) + 1) = ((j + 1 : Nat) : Int) := by rw [Gz.wrap64 (by omega)]; omega
      simp only [M3_app, Z3, base1, baseX, baseY, ↓reduceIte, Nat.reduceAdd, Nat.reduceSub, Nat.reduceMul, Nat.reduceEqDiff, Nat.reduceLeDiff, Nat.reduceLT, Int.reduceLT, Int.reduceLE, Int.reduceEq, Int.reduceNe, Int.reduceToNat, Int.reduceAdd, Int.reduceSub, reduceCtorEq, Nat.reduceBEq, Nat.reduceBNe, loopR_exit, loopR_ret, e3, e5, e9, e10, hia, hjl', hjl, hj0, hk0, Int.toNat_natCast, Nat.mul_one, Nat.zero_add, hcl, hd, hc, hdc, lenOf_imm, hlg, hy1, hy2, hwj, ne_eq, not_true_eq_false, decide_false, List.getElem?_cons_zero]
      exact ⟨g.length - (j + 1), _, _, by omega, .refl _ _ _, j + 1, by omega, rfl, rfl, e0, e3, e5, e9, rfl⟩
    · have hje : j = g.length := by omega
      subst hje
      have hnl : ¬ ((g.length : Int) < (g.length : Int)) := by omega
      simp only [M3_app, Z3, base1, baseX, baseY, ↓reduceIte, Nat.reduceAdd, Nat.reduceSub, Nat.reduceMul, Nat.reduceEqDiff, Nat.reduceLeDiff, Nat.reduceLT, Int.reduceLT, Int.reduceLE, Int.reduceEq, Int.reduceNe, Int.reduceToNat, Int.reduceAdd, Int.reduceSub, reduceCtorEq, Nat.reduceBEq, Nat.reduceBNe, loopR_exit, loopR_ret, e3, e5, e9, e10, hia, lenOf_imm, hlg, hnl, decide_false, hwk, List.getElem?_cons_zero]
      exact ⟨out.length - (k + 1), _, _, by omega, .refl _ _ _, k + 1, by omega, rfl, rfl, e0, e3, e5, rfl⟩
  · have hke : k = out.length := by omega
    subst hke
    have hnl : ¬ ((out.length : Int) < (out.length : Int)) := by omega
    simp only [M3_app, Z3, base1, baseX, baseY, ↓reduceIte, Nat.reduceAdd, Nat.reduceSub, Nat.reduceMul, Nat.reduceEqDiff, Nat.reduceLeDiff, Nat.reduceLT, Int.reduceLT, Int.reduceLE, Int.reduceEq, Int.reduceNe, Int.reduceToNat, Int.reduceAdd, Int.reduceSub, reduceCtorEq, Nat.reduceBEq, Nat.reduceBNe, loopR_exit, loopR_ret, e0, e3, e9, hli, hnl, decide_false]
    refine .inr ⟨_, A.rows_pure l, rfl, ?_⟩
    have nl0 : lenOf .nilslice = some 0 := _root_.id rfl
    simp only [M3_app, Z3, base1, baseX, baseY, ↓reduceIte, Nat.reduceAdd, Nat.reduceSub, Nat.reduceMul, Nat.reduceEqDiff, Nat.reduceLeDiff, Nat.reduceLT, Int.reduceLT, Int.reduceLE, Int.reduceEq, Int.reduceNe, Int.reduceToNat, Int.reduceAdd, Int.reduceSub, reduceCtorEq, Nat.reduceBEq, Nat.reduceBNe, loopR_exit, loopR_ret, nl0, Int.natCast_zero, decide_true]
    exact yes_true
/-! The rows wanted. -/
def oI (l : List Int) (m : Nat) (e : Env) (σ : AHeap) : Prop :=
  ∃ (i : Nat) (Kv Wv : AV) (cs : List AV) (ks : List Int) (out : List (List Int)), i ≤ l.length ∧ m = l.length - i ∧ ks = grpK kf (l.take i) [] ∧ out = grpO kf (l.take i) [] [] ∧ GS σ Wv cs (outC out) ∧ Grow σ Kv 1 (keysC ks) ∧ (∀ d, LvD Kv = some d → ¬ Mine Wv cs d) ∧
    e 0 = .imm (rowsC l) false false ∧ e 3 = immO (outC (grpO kf l [] [])) ∧ e 4 = Kv ∧ e 5 = Wv ∧ e 6 = .int .i64 (i : Int)
/-- Within it: where the key stands among those that were looked at. -/
def iI (l : List Int) (i : Nat) (x : Int) (Kv Wv : AV) (ks : List Int) (σ0 : AHeap) (m : Nat) (e : Env) (σ : AHeap) : Prop :=
  ∃ j : Nat, j ≤ ks.length ∧ m = ks.length - j ∧ σ = σ0 ∧ e 0 = .imm (rowsC l) false false ∧ e 3 = immO (outC (grpO kf l [] [])) ∧ e 4 = Kv ∧ e 5 = Wv ∧ e 6 = .int .i64 (i : Int) ∧ e 7 = .int .i64 (atZ (ix (kf x) (ks.take j))) ∧ e 8 = .int .i64 (j : Int)
abbrev kO : Cont := .block 0 (.seq b3_92 .fin)
theorem ostep (l : List Int) (hl : l.length ≤ 300) (hr : ∀ x ∈ l, 0 ≤ x ∧ x ≤ 65535) (m : Nat) (e : Env) (σ : AHeap) (h : oI l m e σ) :
    sC M3 0 b3_47 (unw M3 0 (loopR M3 0 (RetQ [.t 2] Yes) kO (oI l) m) .fin) e σ := by
  obtain ⟨i, Kv, Wv, cs, ks, out, hi, hm, hks, hout, hG, hK, hdis, e0, e3, e4, e5, e6⟩ := h
  have hmap : (rowsC l).length = l.length := by simp
  rcases Nat.lt_or_ge i l.length with hlt | hge
  · have hlt' : (i : Int) < (l.length : Int) := by omega
    have hge0 : (0 : Int) ≤ (i : Int) := by omega
    obtain ⟨x, hx⟩ : ∃ x, l[i]? = some x := ⟨_, List.getElem?_eq_getElem hlt⟩
    have hxr : (rowsC l)[i]? = some [tE x] := by simp [hx]
    obtain ⟨x0, x1⟩ := hr x (List.mem_of_getElem? hx)
    have hkf : kf x = x.fdiv 4096 := by
      show IntKind.wrap .u8 (x.fdiv 4096) = _
      rw [IntKind.wrap_u8, Int.fdiv_eq_ediv_of_nonneg _ (by decide)]; omega
    have hsh : abin .shr .num (tE x) (.int .u64 12) = some (wE (kf x)) := by rw [hkf]; rfl
    have hwr : IntKind.wrap .i64 ((i : Int) + 1) = ((i + 1 : Nat) : Int) := by rw [Gz.wrap64 (by omega)]; omega
    obtain ⟨hlk, hsum⟩ := len_le hks hout
    have hmany := many_le hks hout
    have hnd : ks.Nodup := by rw [hks]; exact (grp_ok kf (l.take i)).nd
    have hsteK := grpK_take hx []
    have hsteO := grpO_take hx [] []
    rw [← hks] at hsteK
    rw [← hks, ← hout] at hsteO
    have hcl : cs.length = out.length := by rw [hG.len]; simp [outC]
    have fin40 : ∀ (e : Env) (σ : AHeap) (Kv Wv : AV) (cs : List AV) (ks' : List Int) (o2 : List (List Int)) (n : Nat) (g : List Int), GS σ Wv cs (outC o2) → o2[n]? = some g → g.length ≤ 1000000 → Grow σ Kv 1 (keysC ks') → (∀ d, LvD Kv = some d → ¬ Mine Wv cs d) →
        grpK kf (l.take (i + 1)) [] = ks' → grpO kf (l.take (i + 1)) [] [] = o2.set n (g ++ [x]) →
        e 0 = .imm (rowsC l) false false → e 3 = immO (outC (grpO kf l [] [])) → e 4 = Kv → e 5 = Wv → e 6 = .int .i64 (i : Int) → e 7 = .int .i64 (n : Int) →
        sC M3 0 b3_40 (unw M3 0 (loopR M3 0 (RetQ [.t 2] Yes) kO (oI l) m) (.block 1 (.seq b3_45 .fin))) e σ := by
      intro e σ Kv Wv cs ks' o2 n g hG hg hgl hK hdis hKs hO e0 e3 e4 e5 e6 e7
      have hcn : n < cs.length := by
        have := idx_lt hg
        have h2 := hG.len
        unfold outC at h2
        rw [List.length_map] at h2
        omega
      obtain ⟨c, hc⟩ : ∃ c, cs[n]? = some c := ⟨_, List.getElem?_eq_getElem hcn⟩
      obtain ⟨v, τ, d, rfl, hd, ha, hv1, hv2, hτd, hput, hG', hfr⟩ := hG.app (b := 2) (by decide) hc (outC_at hg) (by rw [List.length_map]; omega) (tE x) rfl
      have hn0 : (0 : Int) ≤ (n : Int) := by omega
      have hpd : hget (hpush σ [tE x]) d = some cs := push_old hd
      simp only [M3_app, Z3, x3_40, x3_41, x3_92, base1, baseX, baseY, ↓reduceIte, Nat.reduceAdd, Nat.reduceSub, Nat.reduceMul, Nat.reduceEqDiff, Nat.reduceLeDiff, Nat.reduceLT, Int.reduceLT, Int.reduceLE, Int.reduceEq, Int.reduceNe, Int.reduceToNat, Int.reduceAdd, Int.reduceSub, reduceCtorEq, Nat.reduceBEq, Nat.reduceBNe, loopR_exit, loopR_ret, e0, e5, e6, e7, hmap, hlt, hge0, hxr, hn0, hcn, Int.toNat_natCast, Nat.mul_one, Nat.zero_add, hd, hpd, hc, ha, hτd, hput, hv1, hv2, hwr]
      refine ⟨l.length - (i + 1), _, _, by omega, .refl _ _ _, i + 1, Kv, _, cs.set n v, ks', _, by omega, rfl, hKs.symm, rfl, ?_, ?_, ?_, e0, e3, e4, e5, rfl⟩
      · rw [hO, ← outC_set]; exact hG'
      · exact grow_frame hK fun j b hj hl => (hfr j b hj (hdis j hl)).1
      · intro d' hd'
        obtain ⟨b, hb⟩ := grow_has hK hd'
        exact (hfr d' b hb (hdis d' hd')).2
    have fin41 : ∀ (e : Env), e 0 = .imm (rowsC l) false false → e 3 = immO (outC (grpO kf l [] [])) → e 4 = Kv → e 5 = Wv → e 6 = .int .i64 (i : Int) → e 7 = .int .i64 (atZ (ix (kf x) ks)) →
        sC M3 0 b3_41 (unw M3 0 (loopR M3 0 (RetQ [.t 2] Yes) kO (oI l) m) (.block 1 (.seq b3_45 .fin))) e σ := by
      intro e e0 e3 e4 e5 e6 e7
      cases hix : ix (kf x) ks with
      | some n =>
        obtain ⟨g, hg⟩ : ∃ g, out[n]? = some g := ⟨_, List.getElem?_eq_getElem (by rw [← hlk]; exact ix_lt hix)⟩
        have hro : rowsN (kf x) x ks out = out.set n (g ++ [x]) := by unfold rowsN; simp only [hix, hg, Option.getD_some]
        have hks' : keysN (kf x) ks = ks := by unfold keysN; rw [hix]
        rw [hix] at e7
        have e7 : e 7 = .int .i64 (n : Int) := e7
        have hneg : ¬ ((n : Int) < 0) := by omega
        simp only [M3_app, Z3, x3_92, base1, baseX, baseY, ↓reduceIte, Nat.reduceAdd, Nat.reduceSub, Nat.reduceMul, Nat.reduceEqDiff, Nat.reduceLeDiff, Nat.reduceLT, Int.reduceLT, Int.reduceLE, Int.reduceEq, Int.reduceNe, Int.reduceToNat, Int.reduceAdd, Int.reduceSub, reduceCtorEq, Nat.reduceBEq, Nat.reduceBNe, x3_41, loopR_exit, loopR_ret, e7, hneg, decide_false]
        exact fin40 _ _ Kv Wv cs ks out n g hG hg (by have := row_le hks hout hg; omega) hK hdis (by rw [hsteK, hks']) (by rw [hsteO, hro]) e0 e3 e4 e5 e6 e7
      | none =>
        have hks' : keysN (kf x) ks = ks ++ [kf x] := by unfold keysN; rw [hix]
        have hro : rowsN (kf x) x ks out = (out ++ [[]]).set out.length ([] ++ [x]) := by unfold rowsN; simp [hix]
        rw [hix] at e7
        have e7 : e 7 = .int .i64 (-1) := e7
        have hneg : ((-1 : Int) < 0) := by decide
        obtain ⟨v1, τ1, ha1, hv1, hv2, hf1, hK1⟩ := grow_one (b := 2) (by decide) hK (by rw [List.length_map]; omega) [wE (kf x)] rfl rfl
        have hG1 : GS τ1 Wv cs (outC out) := hG.frame fun j c hj hm => (hf1 j c hj fun h => hdis j h hm).1
        obtain ⟨v2, τ2, ha2, hw1, hw2, hwl, hG2, hf2⟩ := hG1.more (b := 24) (by decide) (by omega)
        have hl0 : lenSl Kv = some ks.length := by rw [grow_lenSl hK, List.length_map]
        have hnm1 : ∀ d, LvD v1 = some d → ¬ Mine Wv cs d := by
          intro d hd hm
          rcases hm with h | ⟨c, hc, h⟩
          · obtain ⟨b, hb⟩ := grow_has hG.top h
            exact (hf1 d b hb (fun h' => hdis d h' (.inl h))).2 hd
          · obtain ⟨b, hb⟩ := hG.has hc h
            exact (hf1 d b hb (fun h' => hdis d h' (.inr ⟨c, hc, h⟩))).2 hd
        simp only [M3_app, Z3, x3_92, base1, baseX, baseY, ↓reduceIte, Nat.reduceAdd, Nat.reduceSub, Nat.reduceMul, Nat.reduceEqDiff, Nat.reduceLeDiff, Nat.reduceLT, Int.reduceLT, Int.reduceLE, Int.reduceEq, Int.reduceNe, Int.reduceToNat, Int.reduceAdd, Int.reduceSub, reduceCtorEq, Nat.reduceBEq, Nat.reduceBNe, x3_41, loopR_exit, loopR_ret, e0, e4, e5, e6, e7, hneg, decide_true, hmap, hlt, hge0, Int.toNat_natCast, hxr, hl0, hsh, ha1, ha2]
        refine fin40 _ _ v1 v2 (cs ++ [.nilslice]) (ks ++ [kf x]) (out ++ [[]]) out.length [] ?_ (by simp) (by simp) ?_ ?_ (by rw [hsteK, hks']) (by rw [hsteO, hro]) e0 e3 rfl rfl e6 ?_
        · have : outC (out ++ [[]]) = outC out ++ [[]] := by unfold outC; simp
          rw [this]; exact hG2
        · have hK1' : Grow τ1 v1 1 (keysC (ks ++ [kf x])) := by simpa using hK1
          exact grow_frame hK1' fun j b hj hl => (hf2 j b hj (hnm1 j hl)).1
        · intro d hd
          obtain ⟨b, hb⟩ := grow_has hK1 hd
          exact (hf2 d b hb (hnm1 d hd)).2
        · show AV.int .i64 (ks.length : Int) = _
          rw [hlk]
    simp only [M3_app, Z3, x3_92, base1, baseX, baseY, ↓reduceIte, Nat.reduceAdd, Nat.reduceSub, Nat.reduceMul, Nat.reduceEqDiff, Nat.reduceLeDiff, Nat.reduceLT, Int.reduceLT, Int.reduceLE, Int.reduceEq, Int.reduceNe, Int.reduceToNat, Int.reduceAdd, Int.reduceSub, reduceCtorEq, Nat.reduceBEq, Nat.reduceBNe, loopR_exit, loopR_ret, lenOf_imm, e0, e3, e4, e5, e6, hmap, hlt', hlt, hge0]
    refine sC_inv (a := b3_30) (iI l i x Kv Wv ks σ) ks.length _ _ (.refl _ _ _) ⟨0, Nat.zero_le _, rfl, rfl, e0, e3, e4, e5, e6, rfl, rfl⟩ ?_
    rintro m' e σ' ⟨j, hj, hm', rfl, e0, e3, e4, e5, e6, e7, e8⟩
    have hl0 : lenSl Kv = some ks.length := by rw [grow_lenSl hK, List.length_map]
    rcases Nat.lt_or_ge j ks.length with hjl | hjg
    · have hjl' : (j : Int) < (ks.length : Int) := by omega
      have hj0 : (0 : Int) ≤ (j : Int) := by omega
      obtain ⟨y, hy⟩ : ∃ y, ks[j]? = some y := ⟨_, List.getElem?_eq_getElem hjl⟩
      obtain ⟨d, hKv, hKd⟩ := grow_slice hK (by rw [List.length_map]; omega)
      rw [keys_flat] at hKd
      have hyd : (ks.map wE)[j]? = some (wE y) := by rw [List.getElem?_map, hy]; rfl
      rw [List.length_map] at hKv
      have hwj : IntKind.wrap .i64 ((j : Int) + 1) = ((j + 1 : Nat) : Int) := by rw [Gz.wrap64 (by omega)]; omega
      obtain ⟨t1, t2⟩ := ix_take (k := kf x) hnd hy
      rw [hKv] at e4 hl0
      by_cases hk : kf x = y
      · have hk' : decide (y = kf x) = true := by rw [hk]; simp
        simp only [M3_app, Z3, x3_92, base1, baseX, baseY, ↓reduceIte, Nat.reduceAdd, Nat.reduceSub, Nat.reduceMul, Nat.reduceEqDiff, Nat.reduceLeDiff, Nat.reduceLT, Int.reduceLT, Int.reduceLE, Int.reduceEq, Int.reduceNe, Int.reduceToNat, Int.reduceAdd, Int.reduceSub, reduceCtorEq, Nat.reduceBEq, Nat.reduceBNe, loopR_exit, loopR_ret, lenOf_imm, e0, e4, e6, e8, hl0, lenOf_sl, hjl', hjl, hj0, Int.toNat_natCast, Nat.mul_one, Nat.zero_add, hKd, hyd, hmap, hlt, hge0, hxr, hsh, hk', hwj]
        exact ⟨ks.length - (j + 1), _, _, by omega, .refl _ _ _, j + 1, by omega, rfl, rfl, e0, e3, by rw [hKv]; exact e4, e5, e6, by rw [t1 hk]; rfl, rfl⟩
      · have hk' : decide (y = kf x) = false := decide_eq_false fun e => hk e.symm
        simp only [M3_app, Z3, x3_92, base1, baseX, baseY, ↓reduceIte, Nat.reduceAdd, Nat.reduceSub, Nat.reduceMul, Nat.reduceEqDiff, Nat.reduceLeDiff, Nat.reduceLT, Int.reduceLT, Int.reduceLE, Int.reduceEq, Int.reduceNe, Int.reduceToNat, Int.reduceAdd, Int.reduceSub, reduceCtorEq, Nat.reduceBEq, Nat.reduceBNe, loopR_exit, loopR_ret, lenOf_imm, e0, e4, e6, e8, hl0, lenOf_sl, hjl', hjl, hj0, Int.toNat_natCast, Nat.mul_one, Nat.zero_add, hKd, hyd, hmap, hlt, hge0, hxr, hsh, hk', hwj]
        exact ⟨ks.length - (j + 1), _, _, by omega, .refl _ _ _, j + 1, by omega, rfl, rfl, e0, e3, by rw [hKv]; exact e4, e5, e6, by rw [t2 hk]; exact e7, rfl⟩
    · have hje : j = ks.length := by omega
      subst hje
      have hnl : ¬ ((ks.length : Int) < (ks.length : Int)) := by omega
      simp only [M3_app, Z3, x3_92, base1, baseX, baseY, ↓reduceIte, Nat.reduceAdd, Nat.reduceSub, Nat.reduceMul, Nat.reduceEqDiff, Nat.reduceLeDiff, Nat.reduceLT, Int.reduceLT, Int.reduceLE, Int.reduceEq, Int.reduceNe, Int.reduceToNat, Int.reduceAdd, Int.reduceSub, reduceCtorEq, Nat.reduceBEq, Nat.reduceBNe, loopR_exit, loopR_ret, lenOf_imm, e4, e8, hl0, lenOf_sl, hnl, decide_false]
      rw [List.take_length] at e7
      exact fin41 _ e0 e3 e4 e5 e6 e7
  · have hie : i = l.length := by omega
    subst hie
    have hnl : ¬ ((l.length : Int) < (l.length : Int)) := by omega
    rw [List.take_length] at hks hout
    simp only [M3_app, Z3, base1, baseX, baseY, ↓reduceIte, Nat.reduceAdd, Nat.reduceSub, Nat.reduceMul, Nat.reduceEqDiff, Nat.reduceLeDiff, Nat.reduceLT, Int.reduceLT, Int.reduceLE, Int.reduceEq, Int.reduceNe, Int.reduceToNat, Int.reduceAdd, Int.reduceSub, reduceCtorEq, Nat.reduceBEq, Nat.reduceBNe, loopR_exit, loopR_ret, lenOf_imm, e0, e6, hmap, hnl, decide_false]
    have hfull := grp_ok kf l
    rw [← hks, ← hout] at hfull
    rw [hout] at hG
    refine cmp_ok l hl _ ?_ ?_ _ _ Wv cs hG e0 e3 e5
    · have := many_le (l := l) (i := l.length) (ks := ks) (out := out) (by rw [List.take_length]; exact hks) (by rw [List.take_length]; exact hout)
      rw [← hout]; omega
    · intro g hg
      obtain ⟨j, hj⟩ := List.getElem?_of_mem hg
      have := row_le (l := l) (i := l.length) (ks := ks) (out := out) (j := j) (g := g) (by rw [List.take_length]; exact hks) (by rw [List.take_length]; exact hout) (by rw [hout]; exact hj)
      omega
theorem groups_ok (l : List Int) (hr : ∀ x ∈ l, 0 ≤ x ∧ x ≤ 65535) : Tri Tryz.prog 3 [.imm (rowsC l) false false] [] Yes := by
  refine Tri.of_s c3 M3_sound ?_
  have hmap : (rowsC l).length = l.length := by simp
  simp only [M3_app, awakeD_eq, Z3, base1, baseX, baseY, ↓reduceIte, Nat.reduceAdd, Nat.reduceSub, Nat.reduceMul, Nat.reduceEqDiff, Nat.reduceLeDiff, Nat.reduceLT, Int.reduceLT, Int.reduceLE, Int.reduceEq, Int.reduceNe, Int.reduceToNat, Int.reduceAdd, Int.reduceSub, reduceCtorEq, Nat.reduceBEq, Nat.reduceBNe, lenOf_imm, hmap]
  by_cases hbig : (300 : Int) < (l.length : Int)
  · have hbig' : (l.length : Int) > 300 := hbig
    simp only [M3_app, awakeD_eq, Z3, base1, baseX, baseY, ↓reduceIte, Nat.reduceAdd, Nat.reduceSub, Nat.reduceMul, Nat.reduceEqDiff, Nat.reduceLeDiff, Nat.reduceLT, Int.reduceLT, Int.reduceLE, Int.reduceEq, Int.reduceNe, Int.reduceToNat, Int.reduceAdd, Int.reduceSub, reduceCtorEq, Nat.reduceBEq, Nat.reduceBNe, lenOf_imm, hmap, hbig, hbig', decide_true]
    exact yes_true
  · have hbig' : ¬ (l.length : Int) > 300 := hbig
    simp only [M3_app, awakeD_eq, Z3, base1, baseX, baseY, ↓reduceIte, Nat.reduceAdd, Nat.reduceSub, Nat.reduceMul, Nat.reduceEqDiff, Nat.reduceLeDiff, Nat.reduceLT, Int.reduceLT, Int.reduceLE, Int.reduceEq, Int.reduceNe, Int.reduceToNat, Int.reduceAdd, Int.reduceSub, reduceCtorEq, Nat.reduceBEq, Nat.reduceBNe, lenOf_imm, hmap, hbig, hbig', decide_false]
    refine .inl ⟨l, by omega, rfl, ?_⟩
    simp only [M3_app, awakeD_eq, Z3, base1, baseX, baseY, ↓reduceIte, Nat.reduceAdd, Nat.reduceSub, Nat.reduceMul, Nat.reduceEqDiff, Nat.reduceLeDiff, Nat.reduceLT, Int.reduceLT, Int.reduceLE, Int.reduceEq, Int.reduceNe, Int.reduceToNat, Int.reduceAdd, Int.reduceSub, reduceCtorEq, Nat.reduceBEq, Nat.reduceBNe, lenOf_imm, hmap, hbig, hbig', decide_false]
    exact sC_inv (a := b3_47) (oI l) l.length _ _ (.refl _ _ _) ⟨0, .nilslice, .nilslice, [], [], [], Nat.zero_le _, rfl, rfl, rfl, .nil _, .inl ⟨rfl, rfl⟩, (fun d h => by cases h), rfl, rfl, rfl, rfl, rfl⟩ (ostep l (by omega) hr)
end Go.Proofs.YtnooejmbhdgbpaaGreatDoor.gauge
