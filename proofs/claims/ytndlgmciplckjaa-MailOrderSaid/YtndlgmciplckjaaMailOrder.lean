/- The law gazetteerlaw20.MailOrder returns true for every input: taken from the front notes come as they were sent; what travels shares nothing with who sent it. No condition. -/
import Derived.Test.YtndlgmciplckjaaME
import Derived.Test.YtndlgmciplckjaaND
set_option linter.unusedVariables false
set_option linter.unusedSimpArgs false
namespace Go.Proofs.Ytndlgmciplckjaa.mailOrder
open Go.ChangeShapes Go.WideShapes Go.ChangeAt Go.RowKit Go.Gz Go.Proofs.Ytndlgmciplckjaa.note
abbrev r8_0 : List MOper := [⟨(some 2), .move (.c (.bool false)), none⟩]
def b8_0 : SCode := .region r8_0
abbrev r8_1 : List MOper := [⟨(some 14), .call 18 [], none⟩,
  ⟨(some 15), .un .not (.t 14), none⟩]
def b8_1 : SCode := .region r8_1
abbrev r8_2 : List MOper := [⟨(some 2), .move (.c (.bool false)), none⟩]
def b8_2 : SCode := .region r8_2
def b8_3 : SCode := .seq b8_2 .ret
def b8_4 : SCode := .cond (.t 15) b8_3 .skip
def b8_5 : SCode := .seq b8_1 b8_4
abbrev r8_6 : List MOper := [⟨(some 16), .move (.t 0), none⟩,
  ⟨(some 17), .lenSl (.t 16), none⟩,
  ⟨(some 18), .bin .gtr .num (.t 17) (.c (.int .i64 40)), none⟩]
def b8_6 : SCode := .region r8_6
abbrev r8_7 : List MOper := [⟨(some 2), .move (.c (.bool true)), none⟩]
def b8_7 : SCode := .region r8_7
def b8_8 : SCode := .seq b8_7 .ret
def b8_9 : SCode := .cond (.t 18) b8_8 .skip
def b8_10 : SCode := .seq b8_6 b8_9
abbrev r8_11 : List MOper := [⟨(some 19), .call 19 [], none⟩,
  ⟨(some 3), .move (.t 19), none⟩]
def b8_11 : SCode := .region r8_11
abbrev r8_12 : List MOper := [⟨(some 20), .move (.t 3), none⟩,
  ⟨(some 21), .bin .eql .nilp (.t 20) (.c (.nilptr)), none⟩]
def b8_12 : SCode := .region r8_12
abbrev r8_13 : List MOper := [⟨(some 2), .move (.c (.bool false)), none⟩]
def b8_13 : SCode := .region r8_13
def b8_14 : SCode := .seq b8_13 .ret
def b8_15 : SCode := .cond (.t 21) b8_14 .skip
def b8_16 : SCode := .seq b8_12 b8_15
abbrev r8_17 : List MOper := [⟨(some 4), .move (.c (.nilslice)), none⟩,
  ⟨(some 5), .move (.c (.nilslice)), none⟩]
def b8_17 : SCode := .region r8_17
abbrev r8_18 : List MOper := [⟨(some 6), .move (.c (.int .i64 0)), none⟩]
def b8_18 : SCode := .region r8_18
abbrev r8_19 : List MOper := [⟨(some 22), .move (.t 6), none⟩,
  ⟨(some 23), .move (.t 0), none⟩,
  ⟨(some 24), .lenSl (.t 23), none⟩,
  ⟨(some 25), .bin .lss .num (.t 22) (.t 24), none⟩]
def b8_19 : SCode := .region r8_19
def b8_20 : SCode := .cond (.t 25) .skip (.exit 0)
def b8_21 : SCode := .seq b8_19 b8_20
abbrev r8_22 : List MOper := [⟨(some 28), .move (.t 0), none⟩,
  ⟨(some 29), .move (.t 6), none⟩,
  ⟨(some 30), .indexAddr 27 (.t 28) (.t 29), none⟩,
  ⟨(some 31), .loadN 27 (.t 30), none⟩,
  ⟨(some 32), .call 10 [(.t 31)], none⟩,
  ⟨(some 33), .un .not (.t 32), none⟩]
def b8_22 : SCode := .region r8_22
abbrev r8_23 : List MOper := [⟨(some 2), .move (.c (.bool true)), none⟩]
def b8_23 : SCode := .region r8_23
def b8_24 : SCode := .seq b8_23 .ret
def b8_25 : SCode := .cond (.t 33) b8_24 .skip
def b8_26 : SCode := .seq b8_22 b8_25
abbrev r8_27 : List MOper := [⟨(some 34), .move (.t 0), none⟩,
  ⟨(some 35), .move (.t 6), none⟩,
  ⟨(some 36), .indexAddr 27 (.t 34) (.t 35), none⟩,
  ⟨(some 37), .loadN 27 (.t 36), none⟩,
  ⟨(some 38), .call 14 [(.t 37)], none⟩,
  ⟨(some 7), .alloc [.int .i64 0, .int .i64 0, .int .i64 0, .int .i64 0, .int .i64 0, .int .i64 0, .int .i64 0, .int .i64 0, .str [], .str [], .str [], .str [], .int .i64 0, .int .i64 0, .int .i64 0, .int .i64 0, .bool false, .str [], .nilslice, .str [], .bool false, .str [], .str [], .nilslice, .nilslice, .int .i64 0, .nilslice], none⟩,
  ⟨none, .store 27 (.t 7) (.t 38), none⟩]
def b8_27 : SCode := .region r8_27
abbrev r8_28 : List MOper := [⟨(some 39), .move (.t 4), none⟩,
  ⟨(some 40), .loadN 27 (.t 7), none⟩,
  ⟨(some 41), .buildSlice [.int .i64 0, .int .i64 0, .int .i64 0, .int .i64 0, .int .i64 0, .int .i64 0, .int .i64 0, .int .i64 0, .str [], .str [], .str [], .str [], .int .i64 0, .int .i64 0, .int .i64 0, .int .i64 0, .bool false, .str [], .nilslice, .str [], .bool false, .str [], .str [], .nilslice, .nilslice, .int .i64 0, .nilslice] 27 1 [(0, 27, (.t 40))], none⟩,
  ⟨(some 42), .append 27 344 (.t 39) (.t 41), none⟩,
  ⟨(some 4), .move (.t 42), none⟩]
def b8_28 : SCode := .region r8_28
abbrev r8_29 : List MOper := [⟨(some 43), .loadN 27 (.t 7), none⟩,
  ⟨(some 44), .call 13 [(.t 43)], none⟩]
def b8_29 : SCode := .region r8_29
abbrev r8_30 : List MOper := [⟨(some 45), .move (.t 5), none⟩,
  ⟨(some 46), .move (.t 0), none⟩,
  ⟨(some 47), .move (.t 6), none⟩,
  ⟨(some 48), .indexAddr 27 (.t 46) (.t 47), none⟩,
  ⟨(some 49), .loadN 27 (.t 48), none⟩,
  ⟨(some 50), .call 14 [(.t 49)], none⟩,
  ⟨(some 51), .buildSlice [.int .i64 0, .int .i64 0, .int .i64 0, .int .i64 0, .int .i64 0, .int .i64 0, .int .i64 0, .int .i64 0, .str [], .str [], .str [], .str [], .int .i64 0, .int .i64 0, .int .i64 0, .int .i64 0, .bool false, .str [], .nilslice, .str [], .bool false, .str [], .str [], .nilslice, .nilslice, .int .i64 0, .nilslice] 27 1 [(0, 27, (.t 50))], none⟩,
  ⟨(some 52), .append 27 344 (.t 45) (.t 51), none⟩,
  ⟨(some 5), .move (.t 52), none⟩]
def b8_30 : SCode := .region r8_30
def b8_31 : SCode := .cond (.t 44) b8_30 .skip
def b8_32 : SCode := .seq b8_29 b8_31
def b8_33 : SCode := .seq b8_28 b8_32
def b8_34 : SCode := .seq b8_27 b8_33
def b8_35 : SCode := .seq b8_26 b8_34
def b8_36 : SCode := .block 1 b8_35
abbrev r8_37 : List MOper := [⟨(some 26), .move (.t 6), none⟩,
  ⟨(some 27), .bin .add .num (.t 26) (.c (.int .i64 1)), none⟩,
  ⟨(some 6), .move (.t 27), none⟩]
def b8_37 : SCode := .region r8_37
def b8_38 : SCode := .seq b8_36 b8_37
def b8_39 : SCode := .seq b8_21 b8_38
def b8_40 : SCode := .loop b8_39
def b8_41 : SCode := .block 0 b8_40
def b8_42 : SCode := .seq b8_18 b8_41
abbrev r8_43 : List MOper := [⟨(some 53), .move (.t 3), none⟩,
  ⟨(some 54), .move (.t 4), none⟩,
  ⟨(some 55), .call 20 [(.t 53), (.t 54)], none⟩,
  ⟨(some 56), .move (.t 5), none⟩,
  ⟨(some 57), .lenSl (.t 56), none⟩,
  ⟨(some 58), .bin .neq .num (.t 55) (.t 57), none⟩]
def b8_43 : SCode := .region r8_43
abbrev r8_44 : List MOper := [⟨(some 2), .move (.c (.bool false)), none⟩]
def b8_44 : SCode := .region r8_44
def b8_45 : SCode := .seq b8_44 .ret
def b8_46 : SCode := .cond (.t 58) b8_45 .skip
def b8_47 : SCode := .seq b8_43 b8_46
abbrev r8_48 : List MOper := [⟨(some 8), .move (.c (.int .i64 0)), none⟩]
def b8_48 : SCode := .region r8_48
abbrev r8_49 : List MOper := [⟨(some 59), .move (.t 8), none⟩,
  ⟨(some 60), .move (.t 4), none⟩,
  ⟨(some 61), .lenSl (.t 60), none⟩,
  ⟨(some 62), .bin .lss .num (.t 59) (.t 61), none⟩]
def b8_49 : SCode := .region r8_49
def b8_50 : SCode := .cond (.t 62) .skip (.exit 2)
def b8_51 : SCode := .seq b8_49 b8_50
abbrev r8_52 : List MOper := [⟨(some 65), .move (.t 4), none⟩,
  ⟨(some 66), .move (.t 8), none⟩,
  ⟨(some 67), .indexAddr 27 (.t 65) (.t 66), none⟩,
  ⟨(some 68), .fieldAddr 4 (.t 67), none⟩,
  ⟨(some 69), .load1 (.t 68), none⟩,
  ⟨(some 70), .bin .add .num (.t 69) (.c (.int .i64 1)), none⟩,
  ⟨(some 71), .indexAddr 27 (.t 65) (.t 66), none⟩,
  ⟨(some 72), .fieldAddr 4 (.t 71), none⟩,
  ⟨none, .store 1 (.t 72) (.t 70), none⟩]
def b8_52 : SCode := .region r8_52
abbrev r8_53 : List MOper := [⟨(some 73), .move (.t 4), none⟩,
  ⟨(some 74), .move (.t 8), none⟩,
  ⟨(some 75), .move (.t 4), none⟩,
  ⟨(some 76), .move (.t 8), none⟩,
  ⟨(some 77), .indexAddr 27 (.t 75) (.t 76), none⟩,
  ⟨(some 78), .fieldAddr 21 (.t 77), none⟩,
  ⟨(some 79), .fieldAddr 0 (.t 78), none⟩,
  ⟨(some 80), .load1 (.t 79), none⟩,
  ⟨(some 81), .bin .add .num (.t 80) (.c (.str [120])), none⟩,
  ⟨(some 82), .indexAddr 27 (.t 73) (.t 74), none⟩,
  ⟨(some 83), .fieldAddr 21 (.t 82), none⟩,
  ⟨(some 84), .fieldAddr 0 (.t 83), none⟩,
  ⟨none, .store 1 (.t 84) (.t 81), none⟩]
def b8_53 : SCode := .region r8_53
def b8_54 : SCode := .seq b8_52 b8_53
def b8_55 : SCode := .block 3 b8_54
abbrev r8_56 : List MOper := [⟨(some 63), .move (.t 8), none⟩,
  ⟨(some 64), .bin .add .num (.t 63) (.c (.int .i64 1)), none⟩,
  ⟨(some 8), .move (.t 64), none⟩]
def b8_56 : SCode := .region r8_56
def b8_57 : SCode := .seq b8_55 b8_56
def b8_58 : SCode := .seq b8_51 b8_57
def b8_59 : SCode := .loop b8_58
def b8_60 : SCode := .block 2 b8_59
def b8_61 : SCode := .seq b8_48 b8_60
abbrev r8_62 : List MOper := [⟨(some 9), .move (.c (.int .i64 0)), none⟩]
def b8_62 : SCode := .region r8_62
abbrev r8_63 : List MOper := [⟨(some 85), .move (.t 9), none⟩,
  ⟨(some 86), .move (.t 5), none⟩,
  ⟨(some 87), .lenSl (.t 86), none⟩,
  ⟨(some 88), .bin .lss .num (.t 85) (.t 87), none⟩]
def b8_63 : SCode := .region r8_63
def b8_64 : SCode := .cond (.t 88) .skip (.exit 4)
def b8_65 : SCode := .seq b8_63 b8_64
abbrev r8_66 : List MOper := [⟨(some 92), .move (.t 3), none⟩,
  ⟨(some 93), .call 23 [(.t 92), (.c (.int .i64 0))], none⟩,
  ⟨(some 91), .move (.t 93), none⟩,
  ⟨(some 94), .extract (.t 91) 0, none⟩,
  ⟨(some 95), .extract (.t 91) 1, none⟩,
  ⟨(some 10), .alloc [.int .i64 0, .int .i64 0, .int .i64 0, .int .i64 0, .int .i64 0, .int .i64 0, .int .i64 0, .int .i64 0, .str [], .str [], .str [], .str [], .int .i64 0, .int .i64 0, .int .i64 0, .int .i64 0, .bool false, .str [], .nilslice, .str [], .bool false, .str [], .str [], .nilslice, .nilslice, .int .i64 0, .nilslice], none⟩,
  ⟨none, .store 27 (.t 10) (.t 94), none⟩,
  ⟨(some 11), .move (.t 95), none⟩]
def b8_66 : SCode := .region r8_66
abbrev t8_67 : LTree := (.quiet ⟨(some 96), .move (.t 11), none⟩ 0
  (.quiet ⟨(some 97), .un .not (.t 96), none⟩ 1
  (.quiet ⟨(some 98), .move (.t 97), none⟩ 2
  (.quiet ⟨(some 99), .loadN 27 (.t 10), (some (98, false))⟩ 3
  (.quiet ⟨(some 100), .move (.t 5), (some (98, false))⟩ 4
  (.quiet ⟨(some 101), .move (.t 9), (some (98, false))⟩ 5
  (.quiet ⟨(some 102), .indexAddr 27 (.t 100) (.t 101), (some (98, false))⟩ 6
  (.quiet ⟨(some 103), .loadN 27 (.t 102), (some (98, false))⟩ 7
  (.loud ⟨(some 104), .call 16 [(.t 99), (.t 103)], (some (98, false))⟩ []
  (.quiet ⟨(some 105), .un .not (.t 104), (some (98, false))⟩ 9
  (.quiet ⟨(some 106), .pick (.t 98) (.c (.bool true)) (.t 105), none⟩ 10
  .leaf)) .stop)))))))))
def b8_67 : SCode := .draw t8_67
abbrev r8_68 : List MOper := [⟨(some 2), .move (.c (.bool false)), none⟩]
def b8_68 : SCode := .region r8_68
def b8_69 : SCode := .seq b8_68 .ret
def b8_70 : SCode := .cond (.t 106) b8_69 .skip
def b8_71 : SCode := .seq b8_67 b8_70
def b8_72 : SCode := .seq b8_66 b8_71
def b8_73 : SCode := .block 5 b8_72
abbrev r8_74 : List MOper := [⟨(some 89), .move (.t 9), none⟩,
  ⟨(some 90), .bin .add .num (.t 89) (.c (.int .i64 1)), none⟩,
  ⟨(some 9), .move (.t 90), none⟩]
def b8_74 : SCode := .region r8_74
def b8_75 : SCode := .seq b8_73 b8_74
def b8_76 : SCode := .seq b8_65 b8_75
def b8_77 : SCode := .loop b8_76
def b8_78 : SCode := .block 4 b8_77
def b8_79 : SCode := .seq b8_62 b8_78
abbrev r8_80 : List MOper := [⟨(some 108), .move (.t 3), none⟩,
  ⟨(some 109), .call 23 [(.t 108), (.c (.int .i64 0))], none⟩,
  ⟨(some 107), .move (.t 109), none⟩,
  ⟨(some 110), .extract (.t 107) 0, none⟩,
  ⟨(some 111), .extract (.t 107) 1, none⟩,
  ⟨(some 12), .alloc [.int .i64 0, .int .i64 0, .int .i64 0, .int .i64 0, .int .i64 0, .int .i64 0, .int .i64 0, .int .i64 0, .str [], .str [], .str [], .str [], .int .i64 0, .int .i64 0, .int .i64 0, .int .i64 0, .bool false, .str [], .nilslice, .str [], .bool false, .str [], .str [], .nilslice, .nilslice, .int .i64 0, .nilslice], none⟩,
  ⟨none, .store 27 (.t 12) (.t 110), none⟩,
  ⟨(some 13), .move (.t 111), none⟩]
def b8_80 : SCode := .region r8_80
abbrev r8_81 : List MOper := [⟨(some 112), .move (.t 13), none⟩,
  ⟨(some 113), .un .not (.t 112), none⟩,
  ⟨(some 114), .move (.t 113), none⟩,
  ⟨(some 115), .move (.t 3), (some (114, true))⟩,
  ⟨(some 116), .call 22 [(.t 115)], (some (114, true))⟩,
  ⟨(some 117), .bin .eql .num (.t 116) (.c (.int .i64 0)), (some (114, true))⟩,
  ⟨(some 118), .pick (.t 114) (.t 117) (.c (.bool false)), none⟩,
  ⟨(some 2), .move (.t 118), none⟩]
def b8_81 : SCode := .region r8_81
def b8_82 : SCode := .seq b8_81 .ret
def b8_83 : SCode := .seq b8_80 b8_82
def b8_84 : SCode := .seq b8_79 b8_83
def b8_85 : SCode := .seq b8_61 b8_84
def b8_86 : SCode := .seq b8_47 b8_85
def b8_87 : SCode := .seq b8_42 b8_86
def b8_88 : SCode := .seq b8_17 b8_87
def b8_89 : SCode := .seq b8_16 b8_88
def b8_90 : SCode := .seq b8_11 b8_89
def b8_91 : SCode := .seq b8_10 b8_90
def b8_92 : SCode := .seq b8_5 b8_91
def b8_93 : SCode := .seq b8_0 b8_92
def s8 : SFunc := ⟨119, [.t 2], b8_93⟩
theorem c8 : sFn Try.prog 8 = some s8 := by kernel_rfl
theorem x8_83 : XS b8_83 b8_80 b8_82 := rfl
theorem x8_84 : XS b8_84 b8_79 b8_83 := rfl
theorem x8_86 : XS b8_86 b8_47 b8_85 := rfl
theorem Z8 : XR b8_0 r8_0 ∧ XR b8_1 r8_1 ∧ XR b8_2 r8_2 ∧ XS b8_3 b8_2 .ret ∧ XC b8_4 (.t 15) b8_3 .skip ∧ XS b8_5 b8_1 b8_4 ∧ XR b8_6 r8_6 ∧ XR b8_7 r8_7 ∧ XS b8_8 b8_7 .ret ∧ XC b8_9 (.t 18) b8_8 .skip ∧ XS b8_10 b8_6 b8_9 ∧ XR b8_11 r8_11 ∧ XR b8_12 r8_12 ∧ XR b8_13 r8_13 ∧ XS b8_14 b8_13 .ret ∧ XC b8_15 (.t 21) b8_14 .skip ∧ XS b8_16 b8_12 b8_15 ∧ XR b8_17 r8_17 ∧ XR b8_18 r8_18 ∧ XR b8_19 r8_19 ∧ XC b8_20 (.t 25) .skip (.exit 0) ∧ XS b8_21 b8_19 b8_20 ∧ XR b8_22 r8_22 ∧ XR b8_23 r8_23 ∧ XS b8_24 b8_23 .ret ∧ XC b8_25 (.t 33) b8_24 .skip ∧ XS b8_26 b8_22 b8_25 ∧ XR b8_27 r8_27 ∧ XR b8_28 r8_28 ∧ XR b8_29 r8_29 ∧ XR b8_30 r8_30 ∧ XC b8_31 (.t 44) b8_30 .skip ∧ XS b8_32 b8_29 b8_31 ∧ XS b8_33 b8_28 b8_32 ∧ XS b8_34 b8_27 b8_33 ∧ XS b8_35 b8_26 b8_34 ∧ XB b8_36 1 b8_35 ∧ XR b8_37 r8_37 ∧ XS b8_38 b8_36 b8_37 ∧ XS b8_39 b8_21 b8_38 ∧ XB b8_41 0 b8_40 ∧ XS b8_42 b8_18 b8_41 ∧ XR b8_43 r8_43 ∧ XR b8_44 r8_44 ∧ XS b8_45 b8_44 .ret ∧ XC b8_46 (.t 58) b8_45 .skip ∧ XS b8_47 b8_43 b8_46 ∧ XR b8_48 r8_48 ∧ XR b8_49 r8_49 ∧ XC b8_50 (.t 62) .skip (.exit 2) ∧ XS b8_51 b8_49 b8_50 ∧ XR b8_52 r8_52 ∧ XR b8_53 r8_53 ∧ XS b8_54 b8_52 b8_53 ∧ XB b8_55 3 b8_54 ∧ XR b8_56 r8_56 ∧ XS b8_57 b8_55 b8_56 ∧ XS b8_58 b8_51 b8_57 ∧ XB b8_60 2 b8_59 ∧ XS b8_61 b8_48 b8_60 ∧ XR b8_62 r8_62 ∧ XR b8_63 r8_63 ∧ XC b8_64 (.t 88) .skip (.exit 4) ∧ XS b8_65 b8_63 b8_64 ∧ XR b8_66 r8_66 ∧ XT b8_67 t8_67 ∧ XR b8_68 r8_68 ∧ XS b8_69 b8_68 .ret ∧ XC b8_70 (.t 106) b8_69 .skip ∧ XS b8_71 b8_67 b8_70 ∧ XS b8_72 b8_66 b8_71 ∧ XB b8_73 5 b8_72 ∧ XR b8_74 r8_74 ∧ XS b8_75 b8_73 b8_74 ∧ XS b8_76 b8_65 b8_75 ∧ XB b8_78 4 b8_77 ∧ XS b8_79 b8_62 b8_78 ∧ XR b8_80 r8_80 ∧ XR b8_81 r8_81 ∧ XS b8_82 b8_81 .ret ∧ XS b8_85 b8_61 b8_84 ∧ XS b8_87 b8_42 b8_86 ∧ XS b8_88 b8_17 b8_87 ∧ XS b8_89 b8_16 b8_88 ∧ XS b8_90 b8_11 b8_89 ∧ XS b8_91 b8_10 b8_90 ∧ XS b8_92 b8_5 b8_91 ∧ XS b8_93 b8_0 b8_92 ∧ XY s8 119 b8_93 [.t 2] := ⟨rfl, rfl, rfl, rfl, sC_cond, rfl, rfl, rfl, rfl, sC_cond, rfl, rfl, rfl, rfl, rfl, sC_cond, rfl, rfl, rfl, rfl, sC_cond, rfl, rfl, rfl, rfl, sC_cond, rfl, rfl, rfl, rfl, rfl, sC_cond, rfl, rfl, rfl, rfl, rfl, rfl, rfl, rfl, rfl, rfl, rfl, rfl, rfl, sC_cond, rfl, rfl, rfl, sC_cond, rfl, rfl, rfl, rfl, rfl, rfl, rfl, rfl, rfl, rfl, rfl, rfl, sC_cond, rfl, rfl, rfl, rfl, rfl, sC_cond, rfl, rfl, rfl, rfl, rfl, rfl, rfl, rfl, rfl, rfl, rfl, rfl, rfl, rfl, rfl, rfl, rfl, rfl, rfl, rfl⟩

set_option maxHeartbeats 4000000
set_option maxRecDepth 10000
def T8 : PCall := rowQ 18 mawakeD (rowQ 19 mnewD (rowQ 10 smallD (rowQ 14 madeD (rowQ 13 mayD (rowQ 20 msendOD (rowQ 23 mtakeD (rowQ 22 mlenD (rowQ 16 sameD noCall))))))))
theorem T8_app {f : FuncId} {args : List AV} {σ : AHeap} {K : AV → AHeap → Prop} : T8 f args σ K = rowQ 18 mawakeD (rowQ 19 mnewD (rowQ 10 smallD (rowQ 14 madeD (rowQ 13 mayD (rowQ 20 msendOD (rowQ 23 mtakeD (rowQ 22 mlenD (rowQ 16 sameD noCall)))))))) f args σ K := _root_.id rfl
theorem T8_sound : Sound Try.prog T8 := rowQ_sound mawakeD_ok (rowQ_sound mnewD_ok (rowQ_sound smallD_ok (rowQ_sound madeD_ok (rowQ_sound mayD_ok (rowQ_sound msendOD_ok (rowQ_sound mtakeD_ok (rowQ_sound mlenD_ok (rowQ_sound sameD_ok (noCall_sound _)))))))))
theorem yes_true {σ : AHeap} : Yes (.bool true) σ := rfl
def moI (rows : List RowV) (M S : Nat) (m : Nat) (e : Env) (σ : AHeap) : Prop :=
  ∃ (i : Nat) (Lv Wv : AV), i ≤ rows.length ∧ m = rows.length - i ∧ (∀ r ∈ rows.take i, r.smallP) ∧ Ml σ M S [] none ∧ Grow σ Lv 27 (madeC (rows.take i)) ∧ Grow σ Wv 27 ((wants (rows.take i)).map NoteV.cells) ∧
    LvD Lv ≠ some M ∧ LvD Lv ≠ some S ∧ LvD Wv ≠ some M ∧ LvD Wv ≠ some S ∧ (∀ d, LvD Lv = some d → LvD Wv ≠ some d) ∧ e 0 = .imm (rows.map RowV.cells) false false ∧ e 3 = .ptr M 0 ∧ e 4 = Lv ∧ e 5 = Wv ∧ e 6 = .int .i64 (i : Int)
theorem mo_step (rows : List RowV) (hl : rows.length ≤ 40) (hok : ∀ r ∈ rows, r.okS) (M S : Nat)
    (hQ : ∀ e σ Lv Wv, (∀ r ∈ rows, r.smallP) → Ml σ M S [] none → Grow σ Lv 27 (madeC rows) → Grow σ Wv 27 ((wants rows).map NoteV.cells) → LvD Lv ≠ some M → LvD Lv ≠ some S → LvD Wv ≠ some M → LvD Wv ≠ some S → (∀ d, LvD Lv = some d → LvD Wv ≠ some d) → e 3 = .ptr M 0 → e 4 = Lv → e 5 = Wv → sC T8 0 b8_86 (unw T8 0 (RetQ [.t 2] Yes) .fin) e σ) (m : Nat) (e : Env) (σ : AHeap) (h : moI rows M S m e σ) :
    sC T8 0 b8_39 (unw T8 0 (loopR T8 0 (RetQ [.t 2] Yes) (.block 0 (.seq b8_86 .fin)) (moI rows M S) m) .fin) e σ := by
  obtain ⟨i, Lv, Wv, hi, hm, hsm, hml, hg, hw, dLM, dLS, dWM, dWS, dLW, e0, e3, e4, e5, e6⟩ := h
  have hmap : (rows.map RowV.cells).length = rows.length := by simp
  rcases Nat.lt_or_ge i rows.length with hlt | hge
  · have hlt' : (i : Int) < (rows.length : Int) := by omega
    have hge0 : (0 : Int) ≤ (i : Int) := by omega
    obtain ⟨r, hr⟩ : ∃ r, rows[i]? = some r := ⟨_, List.getElem?_eq_getElem hlt⟩
    have hrr : (rows.map RowV.cells)[i]? = some r.cells := by simp [hr]
    have hwr : IntKind.wrap .i64 ((i : Int) + 1) = ((i + 1 : Nat) : Int) := by rw [Gz.wrap64 (by omega)]; omega
    have htk : rows.take (i + 1) = rows.take i ++ [r] := by rw [List.take_add_one, hr]; rfl
    simp only [T8_app, Z8, x8_83, x8_84, x8_86, base1, ↓reduceIte, Nat.reduceAdd, Nat.reduceSub, Nat.reduceMul, Nat.reduceEqDiff, Nat.reduceLeDiff, Nat.reduceLT, Int.reduceLT, Int.reduceLE, Int.reduceEq, Int.reduceNe, Int.reduceToNat, Int.reduceAdd, Int.reduceSub, reduceCtorEq, Nat.reduceBEq, Nat.reduceBNe, loopR_exit, loopR_ret, lenOf_imm, e0, e3, e4, e5, e6, hmap, hlt', hlt, hge0, Int.toNat_natCast, hrr, sub_row]
    refine ⟨r, rfl, hok r (List.mem_of_getElem? hr), fun b hb => ?_⟩
    cases b with
    | false =>
      simp only [T8_app, Z8, x8_83, x8_84, x8_86, base1, ↓reduceIte, Nat.reduceAdd, Nat.reduceSub, Nat.reduceMul, Nat.reduceEqDiff, Nat.reduceLeDiff, Nat.reduceLT, Int.reduceLT, Int.reduceLE, Int.reduceEq, Int.reduceNe, Int.reduceToNat, Int.reduceAdd, Int.reduceSub, reduceCtorEq, Nat.reduceBEq, Nat.reduceBNe, loopR_exit, loopR_ret]
      exact yes_true
    | true =>
      have hsp := hb rfl
      simp only [T8_app, Z8, x8_83, x8_84, x8_86, base1, ↓reduceIte, Nat.reduceAdd, Nat.reduceSub, Nat.reduceMul, Nat.reduceEqDiff, Nat.reduceLeDiff, Nat.reduceLT, Int.reduceLT, Int.reduceLE, Int.reduceEq, Int.reduceNe, Int.reduceToNat, Int.reduceAdd, Int.reduceSub, reduceCtorEq, Nat.reduceBEq, Nat.reduceBNe, loopR_exit, loopR_ret, lenOf_imm, e0, e3, e4, e5, e6, hmap, hlt', hlt, hge0, Int.toNat_natCast, hrr, sub_row]
      have hll := hsp.lal
      have hls := hsp.shl
      have pn : ∀ c : List AV, hget (hpush σ c) σ.length = some c := fun c => push_new rfl
      have sn : ∀ c c' : List AV, hget (hset (hpush σ c) σ.length c') σ.length = some c' := fun c c' => set_same (pn c)
      have old : ∀ {j : Nat} {x : List AV}, hget σ j = some x → hget (hset (hpush σ zN) σ.length (made r).cells) j = some x := fun h => al_frame h
      have sn1 := sn zN (made r).cells
      refine ⟨r, rfl, by omega, by omega, ?_⟩
      simp only [T8_app, Z8, x8_83, x8_84, x8_86, base1, ↓reduceIte, Nat.reduceAdd, Nat.reduceSub, Nat.reduceMul, Nat.reduceEqDiff, Nat.reduceLeDiff, Nat.reduceLT, Int.reduceLT, Int.reduceLE, Int.reduceEq, Int.reduceNe, Int.reduceToNat, Int.reduceAdd, Int.reduceSub, reduceCtorEq, Nat.reduceBEq, Nat.reduceBNe, loopR_exit, loopR_ret, lenOf_imm, pn, nc_len, nc_cell, put_note]
      have oldL := grow_old hg
      have oldW := grow_old hw
      have hn1 : LvD Lv ≠ some σ.length := fun h => by have := oldL _ h; omega
      have hn2 : LvD Wv ≠ some σ.length := fun h => by have := oldW _ h; omega
      have hg1 := grow_frame hg (τ := hset (hpush σ zN) σ.length (made r).cells) fun j c hj _ => old hj
      have hw1 := grow_frame hw (τ := hset (hpush σ zN) σ.length (made r).cells) fun j c hj _ => old hj
      have ml1 : Ml (hset (hpush σ zN) σ.length (made r).cells) M S [] none := ⟨old hml.m, hml.ms, by simp, sp_frame hml.sp fun j c hj _ => old hj, by simp⟩
      have mlt := hget_lt hml.m
      have slt : S < σ.length := by rcases hml.sp with ⟨_, _, h⟩ | ⟨_, _, _, _, h, _⟩ <;> exact hget_lt h
      generalize hset (hpush σ zN) σ.length (made r).cells = σ1 at *
      generalize σ.length = N at *
      obtain ⟨v, τ, a1, a2, a3, a4, a5⟩ := grow_one (b := 344) (by decide) hg1 (by simp; omega) (made r).cells rfl rfl
      have t1 := (a4 _ _ sn1 hn1).1
      simp only [T8_app, Z8, x8_83, x8_84, x8_86, base1, ↓reduceIte, Nat.reduceAdd, Nat.reduceSub, Nat.reduceMul, Nat.reduceEqDiff, Nat.reduceLeDiff, Nat.reduceLT, Int.reduceLT, Int.reduceLE, Int.reduceEq, Int.reduceNe, Int.reduceToNat, Int.reduceAdd, Int.reduceSub, reduceCtorEq, Nat.reduceBEq, Nat.reduceBNe, loopR_exit, loopR_ret, lenOf_imm, e0, e3, e4, e5, e6, sn1, nc_len, nc_cell, put_note, sub_note, a1, a2, a3, t1]
      refine ⟨made r, rfl, made_sz hsp, ?_⟩
      obtain ⟨cS, hcS⟩ := ml_spool ml1
      have ml2 : Ml τ M S [] none := ml_keep0 ml1 fun j c hj hd => (a4 _ _ hj (by rcases hd with rfl | rfl <;> assumption)).1
      have hw2 : Grow τ Wv 27 ((wants (rows.take i)).map NoteV.cells) := grow_frame hw1 fun j c hj hd => (a4 _ _ hj (fun h => dLW _ h hd)).1
      have vM := (a4 _ _ ml1.m dLM).2
      have vS := (a4 _ _ hcS dLS).2
      have vW : ∀ d, LvD v = some d → LvD Wv ≠ some d := fun d hd h2 => by
        rcases hw1 with ⟨rfl, _⟩ | ⟨d', rfl, hd', _⟩
        · cases h2
        · cases h2
          exact (a4 _ _ hd' (fun h => dLW _ h rfl)).2 hd
      have a6 : Grow τ v 27 (madeC (rows.take (i + 1))) := by rw [htk, madeC, List.map_append]; exact a5
      have hsm1 : ∀ x ∈ rows.take (i + 1), x.smallP := fun x hx => by
        rw [htk] at hx
        rcases List.mem_append.1 hx with h | h
        · exact hsm x h
        · simp at h; subst h; exact hsp
      have hwt := wants_take hr
      cases hmay : mayB (made r) with
      | false =>
        rw [hmay, if_neg (by simp)] at hwt
        simp only [T8_app, Z8, x8_83, x8_84, x8_86, base1, ↓reduceIte, Nat.reduceAdd, Nat.reduceSub, Nat.reduceMul, Nat.reduceEqDiff, Nat.reduceLeDiff, Nat.reduceLT, Int.reduceLT, Int.reduceLE, Int.reduceEq, Int.reduceNe, Int.reduceToNat, Int.reduceAdd, Int.reduceSub, reduceCtorEq, Nat.reduceBEq, Nat.reduceBNe, loopR_exit, loopR_ret, lenOf_imm, e0, e3, e4, e5, e6, hmay, hwr]
        rw [loopR_normal]
        refine ⟨rows.length - (i + 1), _, _, by omega, .refl _ _ _, i + 1, v, Wv, hlt, rfl, hsm1, ml2, a6, by rw [hwt]; exact hw2, vM, vS, dWM, dWS, vW, e0, e3, rfl, e5, rfl⟩
      | true =>
        rw [hmay, if_pos rfl] at hwt
        simp only [T8_app, Z8, x8_83, x8_84, x8_86, base1, ↓reduceIte, Nat.reduceAdd, Nat.reduceSub, Nat.reduceMul, Nat.reduceEqDiff, Nat.reduceLeDiff, Nat.reduceLT, Int.reduceLT, Int.reduceLE, Int.reduceEq, Int.reduceNe, Int.reduceToNat, Int.reduceAdd, Int.reduceSub, reduceCtorEq, Nat.reduceBEq, Nat.reduceBNe, loopR_exit, loopR_ret, lenOf_imm, e0, e3, e4, e5, e6, hmap, hlt', hlt, hge0, Int.toNat_natCast, hrr, sub_row, hmay]
        refine ⟨r, rfl, by omega, by omega, ?_⟩
        obtain ⟨v', τ', b1, b2, b3, b4, b5⟩ := grow_one (b := 344) (by decide) hw2 (by have := wants_len (rows.take i); simp at this ⊢; omega) (made r).cells rfl rfl
        simp only [T8_app, Z8, x8_83, x8_84, x8_86, base1, ↓reduceIte, Nat.reduceAdd, Nat.reduceSub, Nat.reduceMul, Nat.reduceEqDiff, Nat.reduceLeDiff, Nat.reduceLT, Int.reduceLT, Int.reduceLE, Int.reduceEq, Int.reduceNe, Int.reduceToNat, Int.reduceAdd, Int.reduceSub, reduceCtorEq, Nat.reduceBEq, Nat.reduceBNe, loopR_exit, loopR_ret, lenOf_imm, e0, e3, e4, e5, e6, nc_len, nc_cell, put_note, sub_note, b1, b2, b3, hwr]
        rw [loopR_normal]
        have hcS2 := (a4 _ _ hcS dLS).1
        have ml3 : Ml τ' M S [] none := ml_keep0 ml2 fun j c hj hd => (b4 _ _ hj (by rcases hd with rfl | rfl <;> assumption)).1
        have a7 : Grow τ' v 27 (madeC (rows.take (i + 1))) := grow_frame a6 fun j c hj hd => (b4 _ _ hj (vW _ hd)).1
        have vW' : ∀ d, LvD v = some d → LvD v' ≠ some d := fun d hd => by
          rcases a6 with ⟨rfl, _⟩ | ⟨d', rfl, hd', _⟩
          · cases hd
          · cases hd
            exact (b4 _ _ hd' (vW _ rfl)).2
        refine ⟨rows.length - (i + 1), _, _, by omega, .refl _ _ _, i + 1, v, v', hlt, rfl, hsm1, ml3, a7, by rw [hwt, List.map_append]; exact b5, vM, vS, (b4 _ _ ml2.m dWM).2, (b4 _ _ hcS2 dWS).2, vW', e0, e3, rfl, rfl, rfl⟩
  · have hlt' : ¬ (i : Int) < (rows.length : Int) := by omega
    have hie : i = rows.length := by omega
    subst hie
    rw [List.take_length] at hsm hg hw
    simp only [T8_app, Z8, x8_83, x8_84, base1, ↓reduceIte, Nat.reduceAdd, Nat.reduceSub, Nat.reduceMul, Nat.reduceEqDiff, Nat.reduceLeDiff, Nat.reduceLT, Int.reduceLT, Int.reduceLE, Int.reduceEq, Int.reduceNe, Int.reduceToNat, Int.reduceAdd, Int.reduceSub, reduceCtorEq, Nat.reduceBEq, Nat.reduceBNe, loopR_exit, loopR_ret, lenOf_imm, e0, e3, e4, e5, e6, hmap, hlt']
    exact hQ _ _ Lv Wv hsm hml hg hw dLM dLS dWM dWS dLW e3 e4 e5
/-! What was sent is written anew. -/
def lpI (rows : List RowV) (M S d : Nat) (ss : List (List UInt8)) (D : Option Nat) (Wv : AV) (m : Nat) (e : Env) (σ : AHeap) : Prop :=
  ∃ (i : Nat) (css : List (List AV)), i ≤ rows.length ∧ m = rows.length - i ∧ css.length = rows.length ∧ (∀ r ∈ css, r.length = 27) ∧ (∀ j r, i ≤ j → rows[j]? = some r → css[j]? = some (made r).cells) ∧ hget σ d = some css.flatten ∧ Ml σ M S ss D ∧ Grow σ Wv 27 ((wants rows).map NoteV.cells) ∧
    e 3 = .ptr M 0 ∧ e 4 = .slice d 0 rows.length none 27 ∧ e 5 = Wv ∧ e 8 = .int .i64 (i : Int)
theorem lp_step (rows : List RowV) (hl : rows.length ≤ 40) (hsm : ∀ r ∈ rows, r.smallP) (M S d : Nat) (ss : List (List UInt8)) (D : Option Nat) (Wv : AV) (dM : d ≠ M) (dS : d ≠ S) (dD : D ≠ some d) (dW : LvD Wv ≠ some d)
    (hQ : ∀ e σ, Ml σ M S ss D → Grow σ Wv 27 ((wants rows).map NoteV.cells) → e 3 = .ptr M 0 → e 5 = Wv → sC T8 0 b8_84 (unw T8 0 (RetQ [.t 2] Yes) .fin) e σ) (m : Nat) (e : Env) (σ : AHeap) (h : lpI rows M S d ss D Wv m e σ) :
    sC T8 0 b8_58 (unw T8 0 (loopR T8 0 (RetQ [.t 2] Yes) (.block 2 (.seq b8_84 .fin)) (lpI rows M S d ss D Wv) m) .fin) e σ := by
  obtain ⟨i, css, hi, hm, hcl, h27, hc, hd, hml, hw, e3, e4, e5, e8⟩ := h
  have l0 : lenOf (.slice d 0 rows.length none 27) = some rows.length := rfl
  rcases Nat.lt_or_ge i rows.length with hlt | hge
  · have hlt' : (i : Int) < (rows.length : Int) := by omega
    have hge0 : (0 : Int) ≤ (i : Int) := by omega
    obtain ⟨r, hr⟩ : ∃ r, rows[i]? = some r := ⟨_, List.getElem?_eq_getElem hlt⟩
    have hcr := hc i r (Nat.le_refl _) hr
    have hwr : IntKind.wrap .i64 ((i : Int) + 1) = ((i + 1 : Nat) : Int) := by rw [Gz.wrap64 (by omega)]; omega
    have c4 : css.flatten[i * 27 + 4]? = some (.int .i64 (made r).tick) := by rw [cell27 h27 hcr (by decide)]; rfl
    have p4 : ∀ v, put css.flatten (i * 27 + 4) [v] = some (css.set i ((made r).cells.set 4 v)).flatten := fun v => put27 h27 hcr (by decide)
    have hst : ∀ v, (css.set i ((made r).cells.set 4 v))[i]? = some ((made r).cells.set 4 v) := fun v => by rw [List.getElem?_set_self (by omega)]
    have h27' : ∀ v, ∀ x ∈ css.set i ((made r).cells.set 4 v), x.length = 27 := fun v x hx => by
      rcases List.mem_or_eq_of_mem_set hx with h | h
      · exact h27 x h
      · rw [h]; rfl
    have c21 : ∀ v, (css.set i ((made r).cells.set 4 v)).flatten[i * 27 + 21]? = some (.str (made r).sf) := fun v => by rw [cell27 (h27' v) (hst v) (by decide)]; rfl
    have p21 : ∀ v w, put (css.set i ((made r).cells.set 4 v)).flatten (i * 27 + 21) [w] = some (css.set i (((made r).cells.set 4 v).set 21 w)).flatten := fun v w => by rw [put27 (h27' v) (hst v) (by decide), List.set_set]
    have hsf : (made r).sf.length ≤ 20000 := by
      have h0 := (hsm r (List.mem_of_getElem? hr)).sum
      have h1 := sum_nonneg r.l
      simp only [RowV.base] at h0
      show r.sf.length ≤ _; omega
    have hadd : (made r).sf.length + 1 ≤ maxInt := by show _ ≤ 9223372036854775807; omega
    have g1 : ∀ x, hget (hset σ d x) d = some x := fun x => set_same hd
    simp only [T8_app, Z8, x8_83, x8_84, x8_86, base1, ↓reduceIte, Nat.reduceAdd, Nat.reduceSub, Nat.reduceMul, Nat.reduceEqDiff, Nat.reduceLeDiff, Nat.reduceLT, Int.reduceLT, Int.reduceLE, Int.reduceEq, Int.reduceNe, Int.reduceToNat, Int.reduceAdd, Int.reduceSub, reduceCtorEq, Nat.reduceBEq, Nat.reduceBNe, loopR_exit, loopR_ret, l0, e3, e4, e5, e8, hlt', hlt, hge0, Int.toNat_natCast, hd, c4, p4, g1, c21, p21, hadd, set_set, hwr]
    rw [loopR_normal]
    refine ⟨rows.length - (i + 1), _, _, by omega, .refl _ _ _, i + 1, _, hlt, rfl, ?_, ?_, ?_, g1 _, ?_, ?_, e3, e4, e5, rfl⟩
    · rw [List.length_set]; exact hcl
    · intro x hx
      rcases List.mem_or_eq_of_mem_set hx with h | h
      · exact h27 x h
      · rw [h]; rfl
    · intro j q hj hq
      rw [List.getElem?_set_ne (by omega)]
      exact hc j q (by omega) hq
    · exact ml_keep hml fun j c hj hd' => by
        rw [set_other (hd'.elim (fun h e => dM (e.trans h)) (fun h => h.elim (fun h e => dS (e.trans h)) (fun h e => dD (by rw [h, e]))))]; exact hj
    · exact grow_frame hw fun j c hj hd' => by
        rw [set_other (fun e => dW (by rw [hd', e]))]; exact hj
  · have hlt' : ¬ (i : Int) < (rows.length : Int) := by omega
    simp only [T8_app, Z8, x8_83, x8_86, base1, ↓reduceIte, Nat.reduceAdd, Nat.reduceSub, Nat.reduceMul, Nat.reduceEqDiff, Nat.reduceLeDiff, Nat.reduceLT, Int.reduceLT, Int.reduceLE, Int.reduceEq, Int.reduceNe, Int.reduceToNat, Int.reduceAdd, Int.reduceSub, reduceCtorEq, Nat.reduceBEq, Nat.reduceBNe, loopR_exit, loopR_ret, l0, e3, e4, e5, e8, hlt']
    exact hQ _ _ hml hw e3 e5
/-! What is taken. -/
theorem grow_lenS {σ : AHeap} {Lv : AV} {w n : Nat} {rows : List (List AV)} (h : Grow σ Lv w rows ∧ rows.length = n) : lenSl Lv = some n := by
  obtain ⟨h | ⟨d, h, _⟩, hn⟩ := h
  · rw [h.1, ← hn, h.2]; rfl
  · rw [h, ← hn]; rfl
def ltI (rows : List RowV) (M S : Nat) (Wv : AV) (m : Nat) (e : Env) (σ : AHeap) : Prop :=
  ∃ (i : Nat) (D : Option Nat), i ≤ (wants rows).length ∧ m = (wants rows).length - i ∧ Ml σ M S (((wants rows).drop i).map NoteV.bytes) D ∧ Grow σ Wv 27 ((wants rows).map NoteV.cells) ∧ LvD Wv ≠ some M ∧ LvD Wv ≠ some S ∧ (∀ d, D = some d → LvD Wv ≠ some d) ∧
    e 3 = .ptr M 0 ∧ e 5 = Wv ∧ e 9 = .int .i64 (i : Int)
theorem lt_step (rows : List RowV) (hl : rows.length ≤ 40) (hsm : ∀ r ∈ rows, r.smallP) (M S : Nat) (Wv : AV)
    (hQ : ∀ e σ D, Ml σ M S [] D → e 3 = .ptr M 0 → sC T8 0 b8_83 (unw T8 0 (RetQ [.t 2] Yes) .fin) e σ) (m : Nat) (e : Env) (σ : AHeap) (h : ltI rows M S Wv m e σ) :
    sC T8 0 b8_76 (unw T8 0 (loopR T8 0 (RetQ [.t 2] Yes) (.block 4 (.seq b8_83 .fin)) (ltI rows M S Wv) m) .fin) e σ := by
  obtain ⟨i, D, hi, hm, hml, hw, dM, dS, dD, e3, e5, e9⟩ := h
  have l0 := grow_len hw
  rw [List.length_map] at l0
  have hwl := wants_len rows
  rcases Nat.lt_or_ge i (wants rows).length with hlt | hge
  · have hlt' : (i : Int) < ((wants rows).length : Int) := by omega
    have hge0 : (0 : Int) ≤ (i : Int) := by omega
    have hwr : IntKind.wrap .i64 ((i : Int) + 1) = ((i + 1 : Nat) : Int) := by rw [Gz.wrap64 (by omega)]; omega
    obtain ⟨n, hn⟩ : ∃ n, (wants rows)[i]? = some n := ⟨_, List.getElem?_eq_getElem hlt⟩
    obtain ⟨hmay, r, hr, hnr⟩ := wants_mem (List.mem_of_getElem? hn)
    have hdr : (wants rows).drop i = n :: (wants rows).drop (i + 1) := by rw [List.drop_eq_getElem_cons hlt]; congr 1; rw [List.getElem?_eq_getElem hlt] at hn; exact (Option.some.inj hn)
    rcases hw with ⟨_, h0⟩ | ⟨d, rfl, hd, h27, hcell⟩
    · have := congrArg List.length h0
      rw [List.length_map, List.length_nil] at this
      omega
    have hsz : n.sz := by rw [hnr]; exact made_sz (hsm r hr)
    have hcmp : n.cmp := by rw [hnr]; exact made_cmp (hsm r hr)
    have hd5 : d ≠ S := fun h => dS (by rw [h]; rfl)
    have hdD : D ≠ some d := fun h => dD d h rfl
    have hbl : ∀ x ∈ ((wants rows).drop i).map NoteV.bytes, x.length ≤ 4000000 := fun x hx => by
      obtain ⟨y, hy, rfl⟩ := List.mem_map.1 hx
      obtain ⟨_, q, hq, rfl⟩ := wants_mem (List.mem_of_mem_drop hy)
      exact made_len (hsm q hq)
    simp only [T8_app, Z8, x8_83, x8_84, x8_86, base1, ↓reduceIte, Nat.reduceAdd, Nat.reduceSub, Nat.reduceMul, Nat.reduceEqDiff, Nat.reduceLeDiff, Nat.reduceLT, Int.reduceLT, Int.reduceLE, Int.reduceEq, Int.reduceNe, Int.reduceToNat, Int.reduceAdd, Int.reduceSub, reduceCtorEq, Nat.reduceBEq, Nat.reduceBNe, loopR_exit, loopR_ret, l0, e3, e5, e9, hlt']
    refine ⟨M, S, 0, _, D, rfl, by decide, hml, hbl, fun hp => ?_, fun k x hk hx σ1 D1 hm1 hf1 => ?_⟩
    · rw [hdr] at hp; simp [place] at hp
    have hk0 : k = 0 := by rw [hdr] at hk; simp [place] at hk; omega
    subst hk0
    rw [hdr] at hx hm1
    have hx : x = n.bytes := by simpa using hx.symm
    subst hx
    have hm1 : Ml σ1 M S (((wants rows).drop (i + 1)).map NoteV.bytes) D1 := hm1
    rw [note_good hmay hsz]
    obtain ⟨g1, gD1⟩ := hf1 d _ hd hd5 hdD
    have hnc : ((wants rows).map NoteV.cells)[i]? = some n.cells := by rw [List.getElem?_map, hn]; rfl
    have hsb : sub ((wants rows).map NoteV.cells).flatten (i * 27) 27 = some n.cells := by
      have := sub_row27 (J := []) h27 hnc
      rwa [List.append_nil] at this
    have pn : ∀ c : List AV, hget (hpush σ1 c) σ1.length = some c := fun c => push_new rfl
    have sn : ∀ c c' : List AV, hget (hset (hpush σ1 c) σ1.length c') σ1.length = some c' := fun c c' => set_same (pn c)
    have gd : ∀ c c' : List AV, hget (hset (hpush σ1 c) σ1.length c') d = some ((wants rows).map NoteV.cells).flatten := fun c c' => al_frame g1
    have ml1 : ∀ c c' : List AV, Ml (hset (hpush σ1 c) σ1.length c') M S (((wants rows).drop (i + 1)).map NoteV.bytes) D1 := fun c c' => ml_keep hm1 fun j x hj _ => al_frame hj
    have hcl : ((wants rows).map NoteV.cells).length = (wants rows).length := by simp
    rw [hcl] at e5
    simp only [T8_app, Z8, x8_83, x8_84, x8_86, base1, ↓reduceIte, Nat.reduceAdd, Nat.reduceSub, Nat.reduceMul, Nat.reduceEqDiff, Nat.reduceLeDiff, Nat.reduceLT, Int.reduceLT, Int.reduceLE, Int.reduceEq, Int.reduceNe, Int.reduceToNat, Int.reduceAdd, Int.reduceSub, reduceCtorEq, Nat.reduceBEq, Nat.reduceBNe, loopR_exit, loopR_ret, l0, e3, e5, e9, hlt', hlt, hge0, Int.toNat_natCast, pn, sn, nc_len, nc_cell, put_note, sub_note, gd, hsb]
    refine ⟨n, n, rfl, hcmp, hcmp, fun t ht => ?_⟩
    have : t = true := ht.2 rfl
    subst this
    simp only [T8_app, Z8, x8_83, x8_84, x8_86, base1, ↓reduceIte, Nat.reduceAdd, Nat.reduceSub, Nat.reduceMul, Nat.reduceEqDiff, Nat.reduceLeDiff, Nat.reduceLT, Int.reduceLT, Int.reduceLE, Int.reduceEq, Int.reduceNe, Int.reduceToNat, Int.reduceAdd, Int.reduceSub, reduceCtorEq, Nat.reduceBEq, Nat.reduceBNe, loopR_exit, loopR_ret, l0, e3, e5, e9, hwr]
    rw [loopR_normal]
    refine ⟨(wants rows).length - (i + 1), _, _, by omega, .refl _ _ _, i + 1, D1, hlt, rfl, ml1 _ _, .inr ⟨d, by rw [hcl], gd _ _, h27, hcell⟩, dM, dS, fun x hx h => gD1 (by rw [hx]; exact h.symm), e3, by rw [hcl]; exact e5, rfl⟩
  · have hlt' : ¬ (i : Int) < ((wants rows).length : Int) := by omega
    rw [List.drop_eq_nil_of_le hge] at hml
    have hls : lenSl Wv = some (wants rows).length := grow_lenS (by rw [← List.length_map (f := NoteV.cells)]; exact ⟨hw, rfl⟩)
    simp only [T8_app, Z8, x8_84, x8_86, base1, ↓reduceIte, Nat.reduceAdd, Nat.reduceSub, Nat.reduceMul, Nat.reduceEqDiff, Nat.reduceLeDiff, Nat.reduceLT, Int.reduceLT, Int.reduceLE, Int.reduceEq, Int.reduceNe, Int.reduceToNat, Int.reduceAdd, Int.reduceSub, reduceCtorEq, Nat.reduceBEq, Nat.reduceBNe, loopR_exit, loopR_ret, hls, Option.map_some, e3, e5, e9, hlt']
    exact hQ _ _ D hml e3
theorem rest83 (M S : Nat) (e : Env) (σ : AHeap) (D : Option Nat) (hml : Ml σ M S [] D) (e3 : e 3 = .ptr M 0) : sC T8 0 b8_83 (unw T8 0 (RetQ [.t 2] Yes) .fin) e σ := by
  simp only [T8_app, Z8, x8_83, x8_84, x8_86, base1, ↓reduceIte, Nat.reduceAdd, Nat.reduceSub, Nat.reduceMul, Nat.reduceEqDiff, Nat.reduceLeDiff, Nat.reduceLT, Int.reduceLT, Int.reduceLE, Int.reduceEq, Int.reduceNe, Int.reduceToNat, Int.reduceAdd, Int.reduceSub, reduceCtorEq, Nat.reduceBEq, Nat.reduceBNe, e3]
  refine ⟨M, S, 0, _, D, rfl, by decide, hml, (fun x hx => by cases hx), fun hp σ1 hm1 hf1 => ?_, fun k x hk hx => by cases hx⟩
  have pn : ∀ c : List AV, hget (hpush σ1 c) σ1.length = some c := fun c => push_new rfl
  have ml1 : ∀ c c' : List AV, Ml (hset (hpush σ1 c) σ1.length c') M S [] D := fun c c' => ml_keep hm1 fun j x hj _ => al_frame hj
  have pz : put zN 0 zeroC = some zeroC := rfl
  have zl : zeroC.length = 27 := rfl
  have zc : (zeroC.all fun x => x.isCell) = true := rfl
  simp only [T8_app, Z8, x8_83, x8_84, x8_86, base1, ↓reduceIte, Nat.reduceAdd, Nat.reduceSub, Nat.reduceMul, Nat.reduceEqDiff, Nat.reduceLeDiff, Nat.reduceLT, Int.reduceLT, Int.reduceLE, Int.reduceEq, Int.reduceNe, Int.reduceToNat, Int.reduceAdd, Int.reduceSub, reduceCtorEq, Nat.reduceBEq, Nat.reduceBNe, e3, pn, pz, zl, zc]
  refine ⟨M, S, _, D, rfl, ml1 _ _, ?_⟩
  simp only [T8_app, Z8, x8_83, x8_84, x8_86, base1, ↓reduceIte, Nat.reduceAdd, Nat.reduceSub, Nat.reduceMul, Nat.reduceEqDiff, Nat.reduceLeDiff, Nat.reduceLT, Int.reduceLT, Int.reduceLE, Int.reduceEq, Int.reduceNe, Int.reduceToNat, Int.reduceAdd, Int.reduceSub, reduceCtorEq, Nat.reduceBEq, Nat.reduceBNe, e3, List.length_nil]
  exact yes_true
theorem rest84 (rows : List RowV) (hl : rows.length ≤ 40) (hsm : ∀ r ∈ rows, r.smallP) (M S : Nat) (Wv : AV) (D : Option Nat) (dM : LvD Wv ≠ some M) (dS : LvD Wv ≠ some S) (dD : ∀ d, D = some d → LvD Wv ≠ some d) (e : Env) (σ : AHeap) (hml : Ml σ M S ((wants rows).map NoteV.bytes) D) (hw : Grow σ Wv 27 ((wants rows).map NoteV.cells)) (e3 : e 3 = .ptr M 0) (e5 : e 5 = Wv) :
    sC T8 0 b8_84 (unw T8 0 (RetQ [.t 2] Yes) .fin) e σ := by
  simp only [T8_app, Z8, x8_84, x8_86, base1, ↓reduceIte, Nat.reduceAdd, Nat.reduceSub, Nat.reduceMul, Nat.reduceEqDiff, Nat.reduceLeDiff, Nat.reduceLT, Int.reduceLT, Int.reduceLE, Int.reduceEq, Int.reduceNe, Int.reduceToNat, Int.reduceAdd, Int.reduceSub, reduceCtorEq, Nat.reduceBEq, Nat.reduceBNe]
  exact sC_inv (a := b8_76) (ltI rows M S Wv) (wants rows).length _ _ (.refl _ _ _) ⟨0, D, Nat.zero_le _, rfl, hml, hw, dM, dS, dD, e3, e5, rfl⟩ (lt_step rows hl hsm M S Wv fun e σ D h h3 => rest83 M S e σ D h h3)
theorem sent8 {rows : List RowV} (hl : rows.length ≤ 40) : sendS [] (rows.map made) = ((wants rows).length, (wants rows).map NoteV.bytes) := by
  rw [sendS, send_few (by simp; omega)]
  simp [wants]
theorem rest86 (rows : List RowV) (hl : rows.length ≤ 40) (hsm : ∀ r ∈ rows, r.smallP) (M S : Nat) (Lv Wv : AV) (e : Env) (σ : AHeap) (hml : Ml σ M S [] none) (hg : Grow σ Lv 27 (madeC rows)) (hw : Grow σ Wv 27 ((wants rows).map NoteV.cells)) (dLM : LvD Lv ≠ some M) (dLS : LvD Lv ≠ some S) (dWM : LvD Wv ≠ some M) (dWS : LvD Wv ≠ some S) (dLW : ∀ d, LvD Lv = some d → LvD Wv ≠ some d) (e3 : e 3 = .ptr M 0) (e4 : e 4 = Lv) (e5 : e 5 = Wv) :
    sC T8 0 b8_86 (unw T8 0 (RetQ [.t 2] Yes) .fin) e σ := by
  have hlw : lenSl Wv = some (wants rows).length := grow_lenS ⟨hw, by simp⟩
  rcases hg with ⟨rfl, h0⟩ | ⟨d, rfl, hd, h27, hcell⟩
  · have hr0 : rows = [] := by cases rows with
      | nil => rfl
      | cons => cases h0
    subst hr0
    have hlw : lenSl Wv = some 0 := hlw
    simp only [T8_app, Z8, x8_83, x8_84, x8_86, base1, ↓reduceIte, Nat.reduceAdd, Nat.reduceSub, Nat.reduceMul, Nat.reduceEqDiff, Nat.reduceLeDiff, Nat.reduceLT, Int.reduceLT, Int.reduceLE, Int.reduceEq, Int.reduceNe, Int.reduceToNat, Int.reduceAdd, Int.reduceSub, reduceCtorEq, Nat.reduceBEq, Nat.reduceBNe, e3, e4, e5]
    refine .inl ⟨M, S, _, none, rfl, hml, ?_⟩
    simp only [T8_app, Z8, x8_83, x8_86, base1, ↓reduceIte, Nat.reduceAdd, Nat.reduceSub, Nat.reduceMul, Nat.reduceEqDiff, Nat.reduceLeDiff, Nat.reduceLT, Int.reduceLT, Int.reduceLE, Int.reduceEq, Int.reduceNe, Int.reduceToNat, Int.reduceAdd, Int.reduceSub, reduceCtorEq, Nat.reduceBEq, Nat.reduceBNe, e3, e4, e5, hlw, Option.map_some]
    refine sC_inv (a := b8_58) (fun m e τ => τ = σ ∧ e 3 = .ptr M 0 ∧ e 4 = .nilslice ∧ e 5 = Wv ∧ e 8 = .int .i64 0) 0 _ _ (.refl _ _ _) ⟨rfl, e3, e4, e5, rfl⟩ ?_
    rintro m e τ ⟨rfl, e3, e4, e5, e8⟩
    simp only [T8_app, Z8, x8_83, x8_86, base1, ↓reduceIte, Nat.reduceAdd, Nat.reduceSub, Nat.reduceMul, Nat.reduceEqDiff, Nat.reduceLeDiff, Nat.reduceLT, Int.reduceLT, Int.reduceLE, Int.reduceEq, Int.reduceNe, Int.reduceToNat, Int.reduceAdd, Int.reduceSub, reduceCtorEq, Nat.reduceBEq, Nat.reduceBNe, loopR_exit, loopR_ret, e3, e4, e5, e8, lenOf_nilS]
    exact rest84 [] hl hsm M S Wv none dWM dWS (fun d h => by cases h) _ _ hml hw e3 e5
  · have hdS : d ≠ S := fun h => dLS (by rw [h]; rfl)
    have hdM : d ≠ M := fun h => dLM (by rw [h]; rfl)
    have hcl : (madeC rows).length = rows.length := by simp
    have hcn : rows.length = (rows.map made).length := by simp
    rw [hcl] at e4
    simp only [T8_app, Z8, x8_83, x8_84, x8_86, base1, ↓reduceIte, Nat.reduceAdd, Nat.reduceSub, Nat.reduceMul, Nat.reduceEqDiff, Nat.reduceLeDiff, Nat.reduceLT, Int.reduceLT, Int.reduceLE, Int.reduceEq, Int.reduceNe, Int.reduceToNat, Int.reduceAdd, Int.reduceSub, reduceCtorEq, Nat.reduceBEq, Nat.reduceBNe, e3, e4, e5]
    refine .inr ⟨M, S, d, none, rows.map made, madeC rows, [], [], none, by rw [← hcn], by rw [List.append_nil]; exact hd, hdS, by simp, by simp, fun i cs n hc hn => ?_, fun n hn => ?_, by simp; omega, hml, fun σ1 D1 hm1 hf1 => ?_⟩
    · rw [List.getElem?_map] at hc hn
      cases hr : rows[i]? with
      | none => rw [hr] at hc; cases hc
      | some r => rw [hr] at hc hn; cases hc; cases hn; rfl
    · obtain ⟨r, hr, rfl⟩ := List.mem_map.1 hn
      exact made_sz (hsm r hr)
    rw [sent8 hl] at hm1 ⊢
    obtain ⟨g1, gD1⟩ := hf1 d _ hd hdS (by simp)
    have hw1 : Grow σ1 Wv 27 ((wants rows).map NoteV.cells) := grow_frame hw fun j c hj hd => (hf1 j c hj (fun h => dWS (by rw [hd, h])) (by simp)).1
    have hDW : ∀ x, D1 = some x → LvD Wv ≠ some x := fun x hx h => by
      rcases hw with ⟨rfl, _⟩ | ⟨d', rfl, hd', _⟩
      · cases h
      · cases h
        exact (hf1 _ _ hd' (fun h => dWS (by rw [h]; rfl)) (by simp)).2 hx
    simp only [T8_app, Z8, x8_83, x8_86, base1, ↓reduceIte, Nat.reduceAdd, Nat.reduceSub, Nat.reduceMul, Nat.reduceEqDiff, Nat.reduceLeDiff, Nat.reduceLT, Int.reduceLT, Int.reduceLE, Int.reduceEq, Int.reduceNe, Int.reduceToNat, Int.reduceAdd, Int.reduceSub, reduceCtorEq, Nat.reduceBEq, Nat.reduceBNe, e3, e4, e5, hlw, Option.map_some]
    exact sC_inv (a := b8_58) (lpI rows M S d _ D1 Wv) rows.length _ _ (.refl _ _ _) ⟨0, madeC rows, Nat.zero_le _, rfl, hcl, h27, (fun j r _ hr => by rw [List.getElem?_map, hr]; rfl), g1, hm1, hw1, e3, e4, e5, rfl⟩ (lp_step rows hl hsm M S d _ D1 Wv hdM hdS gD1 (dLW d rfl) fun e σ h1 h2 h3 h5 => rest84 rows hl hsm M S Wv D1 dWM dWS hDW e σ h1 h2 h3 h5)
theorem law (rows : List RowV) (hok : ∀ r ∈ rows, r.okS) : sF T8 s8 [.imm (rows.map RowV.cells) false false] [] Yes := by
  have hmap : (rows.map RowV.cells).length = rows.length := by simp
  simp only [T8_app, Z8, x8_83, x8_84, x8_86, base1, ↓reduceIte, Nat.reduceAdd, Nat.reduceSub, Nat.reduceMul, Nat.reduceEqDiff, Nat.reduceLeDiff, Nat.reduceLT, Int.reduceLT, Int.reduceLE, Int.reduceEq, Int.reduceNe, Int.reduceToNat, Int.reduceAdd, Int.reduceSub, reduceCtorEq, Nat.reduceBEq, Nat.reduceBNe]
  refine ⟨rfl, fun σ => ?_⟩
  by_cases hbig : (40 : Int) < (rows.length : Int)
  · simp only [T8_app, Z8, x8_83, x8_84, x8_86, base1, ↓reduceIte, Nat.reduceAdd, Nat.reduceSub, Nat.reduceMul, Nat.reduceEqDiff, Nat.reduceLeDiff, Nat.reduceLT, Int.reduceLT, Int.reduceLE, Int.reduceEq, Int.reduceNe, Int.reduceToNat, Int.reduceAdd, Int.reduceSub, reduceCtorEq, Nat.reduceBEq, Nat.reduceBNe, lenOf_imm, hmap, hbig]
    exact yes_true
  · simp only [T8_app, Z8, x8_83, x8_84, x8_86, base1, ↓reduceIte, Nat.reduceAdd, Nat.reduceSub, Nat.reduceMul, Nat.reduceEqDiff, Nat.reduceLeDiff, Nat.reduceLT, Int.reduceLT, Int.reduceLE, Int.reduceEq, Int.reduceNe, Int.reduceToNat, Int.reduceAdd, Int.reduceSub, reduceCtorEq, Nat.reduceBEq, Nat.reduceBNe, lenOf_imm, hmap, hbig]
    refine ⟨rfl, ?_⟩
    have m0 := ml_new (σ := σ)
    generalize hpush (hpush σ [.int .i64 512, .nilslice]) [.ptr σ.length 0] = σ1 at m0 ⊢
    have hl : rows.length ≤ 40 := by omega
    simp only [T8_app, Z8, x8_83, x8_84, base1, ↓reduceIte, Nat.reduceAdd, Nat.reduceSub, Nat.reduceMul, Nat.reduceEqDiff, Nat.reduceLeDiff, Nat.reduceLT, Int.reduceLT, Int.reduceLE, Int.reduceEq, Int.reduceNe, Int.reduceToNat, Int.reduceAdd, Int.reduceSub, reduceCtorEq, Nat.reduceBEq, Nat.reduceBNe]
    exact sC_inv (a := b8_39) (moI rows (σ.length + 1) σ.length) rows.length _ _ (.refl _ _ _) ⟨0, .nilslice, .nilslice, Nat.zero_le _, rfl, (fun r hr => by simp at hr), m0, .inl ⟨rfl, rfl⟩, .inl ⟨rfl, rfl⟩, by simp [LvD], by simp [LvD], by simp [LvD], by simp [LvD], (fun d h => by cases h), rfl, rfl, rfl, rfl, rfl⟩ (mo_step rows hl hok _ _ fun e σ Lv Wv h1 h2 h3 h4 h5 h6 h7 h8 h9 h10 h11 h12 => rest86 rows hl h1 _ _ Lv Wv e σ h2 h3 h4 h5 h6 h7 h8 h9 h10 h11 h12)
abbrev Inp := List RowV × Unit
def avs (p : Inp) : List AV := [.imm (p.1.map RowV.cells) false false]
def oks (p : Inp) : Prop := (p.1.length * Try.prog.bytesOf 36 ≤ reachBytes ∧ ∀ y ∈ p.1, y.okS) ∧ True
theorem args : Args Try.prog Try.f8.params.toList avs oks := by
  have hp : Try.f8.params.toList = [67] := by kernel_rfl
  rw [hp]
  exact .cons (arg_slice (P := Try.prog) (t := 67) (e := 36) (by kernel_rfl) (by decide +kernel) rdRow) .nil
theorem comes (y : Inp) (hy : oks y) : Tri Try.prog 8 (avs y) [] Yes := by
  obtain ⟨a, u⟩ := y
  obtain ⟨ha, _⟩ := hy
  exact Tri.of_s c8 T8_sound (law a ha.2)
theorem own : ownKnob Try.prog.godebug = none := by kernel_rfl
theorem laidOut : laidOutB Try.prog = true := by kernel_rfl
theorem lifted (os : Os) (started : os.Started) (H : Type) (enc : TypeId × Value → H) :
    ReturnsInHanded {} Try.checked os 8 .any (Rows.mailOrderSpec.pre6 enc Try.prog Try.f8 Rows.mailOrderRow.domain false) (Rows.mailOrderSpec.post enc Try.prog Try.f8 false true false false) := by
  refine returnsInHanded_of_change_sized (C := Try.checked) own started (by kernel_rfl) Try.func8
    (ChangeSpec.witness6 (enc := enc) (C := Try.checked) false ⟨#[], #[.slice none 0 0], []⟩ 8 (by kernel_rfl) (by kernel_rfl) (by kernel_rfl) (by kernel_rfl)) ?_
  intro W base args0 ds gs before hval hW _ hz _
  have hp : Try.f8.params.toList = [67] := by kernel_rfl
  refine calls_post (avs := avs) (oks := oks) laidOut ?_ (by kernel_rfl) (tb := 4) (by kernel_rfl) rfl ?_ args comes hval hW hz
  · rw [hp]; intro t ht
    have h3 : ([67].all fun t => Try.prog.readableRec t && Nat.blt t Try.prog.types.size) = true := by kernel_rfl
    have := List.all_eq_true.1 h3 t ht
    rw [Bool.and_eq_true, Nat.blt_eq] at this
    exact this
  · intro ds h
    rw [hp] at h
    match ds, h with
    | [_], _ => rfl
end Go.Proofs.Ytndlgmciplckjaa.mailOrder
namespace Go.Proofs.Ytndlgmciplckjaa
open Go.ChangeShapes Go.WideShapes Go.ChangeAt Go.RowKit
theorem mailOrder_holds : Rows.MailOrderSaid :=
  OpenClaim.holds_of_wide 8 Try.f8 rfl rfl rfl rfl rfl rfl rfl ⟨rfl, rfl, rfl, rfl, rfl⟩ rfl rfl rfl rfl rfl (by kernel_rfl) Try.func8 (by kernel_rfl)
    (of_decide_eq_true (by kernel_rfl)) (by unfold Func.isWrapper; first | (rw [if_pos (by decide +kernel)]; kernel_rfl) | (rw [if_neg (by decide +kernel)]; exact ⟨rfl, rfl⟩))
    (fun os started H enc _ => mailOrder.lifted os started H enc)
end Go.Proofs.Ytndlgmciplckjaa
