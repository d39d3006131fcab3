/- The elements of runes. No condition. -/
import Derived.Test.YtmjnmnhpmbbmgaaTB
set_option linter.unusedVariables false
set_option linter.unusedSimpArgs false
namespace Go.Proofs.Ytmjnmnhpmbbmgaa.tour
open Go.ChangeShapes Go.WideShapes Go.ChangeAt Go.RowKit Go.Gz Go.Gz.H
abbrev r50_0 : List MOper := [⟨(some 2), .box (.t 0), none⟩,
  ⟨(some 4), .move (.c (.nilslice)), none⟩,
  ⟨(some 5), .move (.c (.int .i64 0)), none⟩]
def b50_0 : SCode := .region r50_0
abbrev r50_1 : List MOper := [⟨(some 24), .loadN 4 (.t 2), none⟩,
  ⟨(some 25), .call 48 [(.t 24)], none⟩,
  ⟨(some 26), .un .not (.t 25), none⟩]
def b50_1 : SCode := .region r50_1
abbrev r50_2 : List MOper := [⟨(some 4), .move (.c (.nilslice)), none⟩,
  ⟨(some 5), .move (.c (.int .i64 4)), none⟩]
def b50_2 : SCode := .region r50_2
def b50_3 : SCode := .seq b50_2 .ret
def b50_4 : SCode := .cond (.t 26) b50_3 .skip
def b50_5 : SCode := .seq b50_1 b50_4
abbrev r50_6 : List MOper := [⟨(some 28), .fieldAddr 0 (.t 2), none⟩,
  ⟨(some 29), .load1 (.t 28), none⟩,
  ⟨(some 30), .move (.t 1), none⟩,
  ⟨(some 31), .call 65 [(.t 29), (.t 30)], none⟩,
  ⟨(some 27), .move (.t 31), none⟩,
  ⟨(some 32), .extract (.t 27) 0, none⟩,
  ⟨(some 33), .extract (.t 27) 1, none⟩,
  ⟨(some 6), .move (.t 32), none⟩,
  ⟨(some 7), .move (.t 33), none⟩]
def b50_6 : SCode := .region r50_6
abbrev r50_7 : List MOper := [⟨(some 34), .move (.t 7), none⟩,
  ⟨(some 35), .bin .neq .num (.t 34) (.c (.int .i64 0)), none⟩]
def b50_7 : SCode := .region r50_7
abbrev r50_8 : List MOper := [⟨(some 36), .move (.t 7), none⟩,
  ⟨(some 4), .move (.c (.nilslice)), none⟩,
  ⟨(some 5), .move (.t 36), none⟩]
def b50_8 : SCode := .region r50_8
def b50_9 : SCode := .seq b50_8 .ret
def b50_10 : SCode := .cond (.t 35) b50_9 .skip
def b50_11 : SCode := .seq b50_7 b50_10
abbrev r50_12 : List MOper := [⟨(some 37), .move (.t 6), none⟩,
  ⟨(some 38), .lenSl (.t 37), none⟩,
  ⟨(some 39), .makeSlice [.bool false] 1 1 (.t 38) (.t 38), none⟩,
  ⟨(some 8), .move (.t 39), none⟩]
def b50_12 : SCode := .region r50_12
abbrev r50_13 : List MOper := [⟨(some 9), .move (.c (.nilslice)), none⟩]
def b50_13 : SCode := .region r50_13
abbrev r50_14 : List MOper := [⟨(some 10), .move (.c (.int .i64 0)), none⟩]
def b50_14 : SCode := .region r50_14
abbrev r50_15 : List MOper := [⟨(some 40), .move (.t 10), none⟩,
  ⟨(some 41), .move (.t 6), none⟩,
  ⟨(some 42), .lenSl (.t 41), none⟩,
  ⟨(some 43), .bin .lss .num (.t 40) (.t 42), none⟩]
def b50_15 : SCode := .region r50_15
def b50_16 : SCode := .cond (.t 43) .skip (.exit 0)
def b50_17 : SCode := .seq b50_15 b50_16
abbrev r50_18 : List MOper := [⟨(some 46), .move (.t 8), none⟩,
  ⟨(some 47), .move (.t 10), none⟩,
  ⟨(some 48), .indexAddr 1 (.t 46) (.t 47), none⟩,
  ⟨(some 49), .load1 (.t 48), none⟩]
def b50_18 : SCode := .region r50_18
def b50_19 : SCode := .cond (.t 49) (.exit 1) .skip
def b50_20 : SCode := .seq b50_18 b50_19
abbrev r50_21 : List MOper := [⟨(some 11), .move (.c (.nilslice)), none⟩]
def b50_21 : SCode := .region r50_21
abbrev r50_22 : List MOper := [⟨(some 50), .move (.t 10), none⟩,
  ⟨(some 12), .move (.t 50), none⟩]
def b50_22 : SCode := .region r50_22
abbrev r50_23 : List MOper := [⟨(some 51), .move (.t 12), none⟩,
  ⟨(some 52), .move (.t 6), none⟩,
  ⟨(some 53), .lenSl (.t 52), none⟩,
  ⟨(some 54), .bin .lss .num (.t 51) (.t 53), none⟩]
def b50_23 : SCode := .region r50_23
def b50_24 : SCode := .cond (.t 54) .skip (.exit 2)
def b50_25 : SCode := .seq b50_23 b50_24
abbrev r50_26 : List MOper := [⟨(some 57), .move (.t 8), none⟩,
  ⟨(some 58), .move (.t 12), none⟩,
  ⟨(some 59), .indexAddr 1 (.t 57) (.t 58), none⟩,
  ⟨(some 60), .load1 (.t 59), none⟩,
  ⟨(some 61), .un .not (.t 60), none⟩]
def b50_26 : SCode := .region r50_26
abbrev r50_27 : List MOper := [⟨(some 62), .move (.t 11), none⟩,
  ⟨(some 63), .move (.t 12), none⟩,
  ⟨(some 64), .buildSlice [.int .i64 0] 1 1 [(0, 1, (.t 63))], none⟩,
  ⟨(some 65), .append 1 8 (.t 62) (.t 64), none⟩,
  ⟨(some 11), .move (.t 65), none⟩]
def b50_27 : SCode := .region r50_27
def b50_28 : SCode := .cond (.t 61) b50_27 .skip
def b50_29 : SCode := .seq b50_26 b50_28
def b50_30 : SCode := .block 3 b50_29
abbrev r50_31 : List MOper := [⟨(some 55), .move (.t 12), none⟩,
  ⟨(some 56), .bin .add .num (.t 55) (.c (.int .i64 1)), none⟩,
  ⟨(some 12), .move (.t 56), none⟩]
def b50_31 : SCode := .region r50_31
def b50_32 : SCode := .seq b50_30 b50_31
def b50_33 : SCode := .seq b50_25 b50_32
def b50_34 : SCode := .loop b50_33
def b50_35 : SCode := .block 2 b50_34
def b50_36 : SCode := .seq b50_22 b50_35
abbrev r50_37 : List MOper := [⟨(some 13), .move (.c (.int .i64 0)), none⟩,
  ⟨(some 14), .move (.c (.int .i64 (-1))), none⟩]
def b50_37 : SCode := .region r50_37
abbrev r50_38 : List MOper := [⟨(some 15), .move (.c (.int .i64 1)), none⟩]
def b50_38 : SCode := .region r50_38
abbrev r50_39 : List MOper := [⟨(some 66), .move (.t 15), none⟩,
  ⟨(some 67), .bin .leq .num (.t 66) (.c (.int .i64 3)), none⟩,
  ⟨(some 68), .move (.t 67), none⟩,
  ⟨(some 69), .move (.t 15), (some (68, true))⟩,
  ⟨(some 70), .move (.t 11), (some (68, true))⟩,
  ⟨(some 71), .lenSl (.t 70), (some (68, true))⟩,
  ⟨(some 72), .bin .leq .num (.t 69) (.t 71), (some (68, true))⟩,
  ⟨(some 73), .pick (.t 68) (.t 72) (.c (.bool false)), none⟩]
def b50_39 : SCode := .region r50_39
def b50_40 : SCode := .cond (.t 73) .skip (.exit 4)
def b50_41 : SCode := .seq b50_39 b50_40
abbrev t50_42 : LTree := (.quiet ⟨(some 76), .loadN 4 (.t 2), none⟩ 0
  (.quiet ⟨(some 77), .move (.t 6), none⟩ 1
  (.quiet ⟨(some 78), .move (.t 11), none⟩ 2
  (.quiet ⟨(some 79), .move (.t 15), none⟩ 3
  (.quiet ⟨(some 80), .slice 1 (.t 78) none (some (.t 79)) none, none⟩ 4
  (.loud ⟨(some 81), .call 66 [(.t 77), (.t 80)], none⟩ [0]
  (.loud ⟨(some 82), .call 64 [(.t 76), (.t 81)], none⟩ []
  (.quiet ⟨(some 16), .move (.t 82), none⟩ 7
  .leaf) .stop) .stop))))))
def b50_42 : SCode := .draw t50_42
abbrev r50_43 : List MOper := [⟨(some 83), .move (.t 16), none⟩,
  ⟨(some 84), .bin .geq .num (.t 83) (.c (.int .i64 0)), none⟩]
def b50_43 : SCode := .region r50_43
abbrev r50_44 : List MOper := [⟨(some 85), .move (.t 15), none⟩,
  ⟨(some 86), .move (.t 16), none⟩,
  ⟨(some 13), .move (.t 85), none⟩,
  ⟨(some 14), .move (.t 86), none⟩]
def b50_44 : SCode := .region r50_44
def b50_45 : SCode := .cond (.t 84) b50_44 .skip
def b50_46 : SCode := .seq b50_43 b50_45
def b50_47 : SCode := .seq b50_42 b50_46
def b50_48 : SCode := .block 5 b50_47
abbrev r50_49 : List MOper := [⟨(some 74), .move (.t 15), none⟩,
  ⟨(some 75), .bin .add .num (.t 74) (.c (.int .i64 1)), none⟩,
  ⟨(some 15), .move (.t 75), none⟩]
def b50_49 : SCode := .region r50_49
def b50_50 : SCode := .seq b50_48 b50_49
def b50_51 : SCode := .seq b50_41 b50_50
def b50_52 : SCode := .loop b50_51
def b50_53 : SCode := .block 4 b50_52
def b50_54 : SCode := .seq b50_38 b50_53
abbrev r50_55 : List MOper := [⟨(some 87), .move (.t 14), none⟩,
  ⟨(some 88), .bin .lss .num (.t 87) (.c (.int .i64 0)), none⟩]
def b50_55 : SCode := .region r50_55
abbrev r50_56 : List MOper := [⟨(some 89), .move (.t 6), none⟩,
  ⟨(some 90), .move (.t 10), none⟩,
  ⟨(some 91), .indexAddr 1 (.t 89) (.t 90), none⟩,
  ⟨(some 92), .load1 (.t 91), none⟩,
  ⟨(some 93), .call 67 [(.t 92)], none⟩,
  ⟨(some 17), .alloc [.int .i64 0, .int .i64 0, .int .i64 0, .int .i64 0, .int .i64 0, .int .i64 0], none⟩,
  ⟨none, .store 6 (.t 17) (.t 93), none⟩]
def b50_56 : SCode := .region r50_56
abbrev r50_57 : List MOper := [⟨(some 94), .move (.t 9), none⟩,
  ⟨(some 95), .indexArrAddr 2 3 (.t 17) (.c (.int .i64 0)), none⟩,
  ⟨(some 96), .loadN 3 (.t 95), none⟩,
  ⟨(some 97), .indexArrAddr 2 3 (.t 17) (.c (.int .i64 1)), none⟩,
  ⟨(some 98), .loadN 3 (.t 97), none⟩,
  ⟨(some 99), .buildSlice [.int .i64 0, .int .i64 0, .int .i64 0] 3 2 [(0, 3, (.t 96)), (3, 3, (.t 98))], none⟩,
  ⟨(some 100), .append 3 24 (.t 94) (.t 99), none⟩,
  ⟨(some 9), .move (.t 100), none⟩]
def b50_57 : SCode := .region r50_57
def b50_58 : SCode := .seq b50_57 (.exit 1)
def b50_59 : SCode := .seq b50_56 b50_58
def b50_60 : SCode := .cond (.t 88) b50_59 .skip
def b50_61 : SCode := .seq b50_55 b50_60
abbrev r50_62 : List MOper := [⟨(some 101), .move (.t 11), none⟩,
  ⟨(some 102), .move (.t 13), none⟩,
  ⟨(some 103), .slice 1 (.t 101) none (some (.t 102)) none, none⟩,
  ⟨(some 104), .append 1 8 (.c (.nilslice)) (.t 103), none⟩,
  ⟨(some 18), .move (.t 104), none⟩]
def b50_62 : SCode := .region r50_62
abbrev r50_63 : List MOper := [⟨(some 19), .move (.c (.int .i64 0)), none⟩]
def b50_63 : SCode := .region r50_63
abbrev r50_64 : List MOper := [⟨(some 105), .move (.t 13), none⟩,
  ⟨(some 20), .move (.t 105), none⟩]
def b50_64 : SCode := .region r50_64
abbrev r50_65 : List MOper := [⟨(some 106), .move (.t 20), none⟩,
  ⟨(some 107), .move (.t 11), none⟩,
  ⟨(some 108), .lenSl (.t 107), none⟩,
  ⟨(some 109), .bin .lss .num (.t 106) (.t 108), none⟩]
def b50_65 : SCode := .region r50_65
def b50_66 : SCode := .cond (.t 109) .skip (.exit 6)
def b50_67 : SCode := .seq b50_65 b50_66
abbrev t50_68 : LTree := (.quiet ⟨(some 112), .fieldAddr 0 (.t 2), none⟩ 0
  (.quiet ⟨(some 113), .load1 (.t 112), none⟩ 1
  (.quiet ⟨(some 114), .move (.t 6), none⟩ 2
  (.quiet ⟨(some 115), .move (.t 11), none⟩ 3
  (.quiet ⟨(some 116), .move (.t 20), none⟩ 4
  (.quiet ⟨(some 117), .indexAddr 1 (.t 115) (.t 116), none⟩ 5
  (.quiet ⟨(some 118), .load1 (.t 117), none⟩ 6
  (.quiet ⟨(some 119), .indexAddr 1 (.t 114) (.t 118), none⟩ 7
  (.quiet ⟨(some 120), .load1 (.t 119), none⟩ 8
  (.loud ⟨(some 121), .call 68 [(.t 113), (.t 120)], none⟩ []
  (.quiet ⟨(some 21), .move (.t 121), none⟩ 10
  .leaf) .stop))))))))))
def b50_68 : SCode := .draw t50_68
abbrev r50_69 : List MOper := [⟨(some 122), .move (.t 21), none⟩,
  ⟨(some 123), .bin .eql .num (.t 122) (.c (.int .i64 0)), none⟩]
def b50_69 : SCode := .region r50_69
def b50_70 : SCode := .cond (.t 123) (.exit 6) .skip
def b50_71 : SCode := .seq b50_69 b50_70
abbrev r50_72 : List MOper := [⟨(some 124), .move (.t 21), none⟩,
  ⟨(some 125), .move (.t 19), none⟩,
  ⟨(some 126), .bin .leq .num (.t 124) (.t 125), none⟩]
def b50_72 : SCode := .region r50_72
def b50_73 : SCode := .cond (.t 126) (.exit 7) .skip
def b50_74 : SCode := .seq b50_72 b50_73
abbrev t50_75 : LTree := (.quiet ⟨(some 127), .loadN 4 (.t 2), none⟩ 0
  (.quiet ⟨(some 128), .move (.t 6), none⟩ 1
  (.quiet ⟨(some 129), .move (.t 18), none⟩ 2
  (.quiet ⟨(some 131), .move (.t 6), none⟩ 4
  (.quiet ⟨(some 132), .move (.t 11), none⟩ 5
  (.quiet ⟨(some 133), .move (.t 20), none⟩ 6
  (.quiet ⟨(some 134), .indexAddr 1 (.t 132) (.t 133), none⟩ 7
  (.quiet ⟨(some 135), .load1 (.t 134), none⟩ 8
  (.quiet ⟨(some 136), .indexAddr 1 (.t 131) (.t 135), none⟩ 9
  (.quiet ⟨(some 137), .load1 (.t 136), none⟩ 10
  (.loud ⟨(some 130), .call 66 [(.t 128), (.t 129)], none⟩ [0, 8, 10]
  (.loud ⟨(some 138), .buildSlice [.int .i32 0] 1 1 [(0, 1, (.t 137))], none⟩ [0]
  (.loud ⟨(some 139), .append 1 4 (.t 130) (.t 138), none⟩ [0]
  (.loud ⟨(some 140), .call 64 [(.t 127), (.t 139)], none⟩ []
  (.quiet ⟨(some 22), .move (.t 140), none⟩ 14
  .leaf) .stop) .stop) .stop) (.loud ⟨(some 138), .buildSlice [.int .i32 0] 1 1 [(0, 1, (.t 137))], none⟩ [0]
  (.loud ⟨(some 130), .call 66 [(.t 128), (.t 129)], none⟩ [0, 8, 10]
  (.loud ⟨(some 139), .append 1 4 (.t 130) (.t 138), none⟩ [0]
  (.loud ⟨(some 140), .call 64 [(.t 127), (.t 139)], none⟩ []
  (.quiet ⟨(some 22), .move (.t 140), none⟩ 14
  .leaf) .stop) .stop) .stop) .stop))))))))))))
def b50_75 : SCode := .draw t50_75
abbrev r50_76 : List MOper := [⟨(some 141), .move (.t 22), none⟩,
  ⟨(some 142), .bin .geq .num (.t 141) (.c (.int .i64 0)), none⟩]
def b50_76 : SCode := .region r50_76
abbrev r50_77 : List MOper := [⟨(some 143), .move (.t 22), none⟩,
  ⟨(some 144), .move (.t 18), none⟩,
  ⟨(some 145), .move (.t 11), none⟩,
  ⟨(some 146), .move (.t 20), none⟩,
  ⟨(some 147), .indexAddr 1 (.t 145) (.t 146), none⟩,
  ⟨(some 148), .load1 (.t 147), none⟩,
  ⟨(some 149), .buildSlice [.int .i64 0] 1 1 [(0, 1, (.t 148))], none⟩,
  ⟨(some 150), .append 1 8 (.t 144) (.t 149), none⟩,
  ⟨(some 14), .move (.t 143), none⟩,
  ⟨(some 18), .move (.t 150), none⟩]
def b50_77 : SCode := .region r50_77
abbrev r50_78 : List MOper := [⟨(some 151), .move (.t 21), none⟩,
  ⟨(some 19), .move (.t 151), none⟩]
def b50_78 : SCode := .region r50_78
def b50_79 : SCode := .cond (.t 142) b50_77 b50_78
def b50_80 : SCode := .seq b50_76 b50_79
def b50_81 : SCode := .seq b50_75 b50_80
def b50_82 : SCode := .seq b50_74 b50_81
def b50_83 : SCode := .seq b50_71 b50_82
def b50_84 : SCode := .seq b50_68 b50_83
def b50_85 : SCode := .block 7 b50_84
abbrev r50_86 : List MOper := [⟨(some 110), .move (.t 20), none⟩,
  ⟨(some 111), .bin .add .num (.t 110) (.c (.int .i64 1)), none⟩,
  ⟨(some 20), .move (.t 111), none⟩]
def b50_86 : SCode := .region r50_86
def b50_87 : SCode := .seq b50_85 b50_86
def b50_88 : SCode := .seq b50_67 b50_87
def b50_89 : SCode := .loop b50_88
def b50_90 : SCode := .block 6 b50_89
def b50_91 : SCode := .seq b50_64 b50_90
abbrev r50_92 : List MOper := [⟨(some 23), .move (.c (.int .i64 0)), none⟩]
def b50_92 : SCode := .region r50_92
abbrev r50_93 : List MOper := [⟨(some 152), .move (.t 23), none⟩,
  ⟨(some 153), .move (.t 18), none⟩,
  ⟨(some 154), .lenSl (.t 153), none⟩,
  ⟨(some 155), .bin .lss .num (.t 152) (.t 154), none⟩]
def b50_93 : SCode := .region r50_93
def b50_94 : SCode := .cond (.t 155) .skip (.exit 8)
def b50_95 : SCode := .seq b50_93 b50_94
abbrev r50_96 : List MOper := [⟨(some 158), .move (.t 8), none⟩,
  ⟨(some 159), .move (.t 18), none⟩,
  ⟨(some 160), .move (.t 23), none⟩,
  ⟨(some 161), .indexAddr 1 (.t 159) (.t 160), none⟩,
  ⟨(some 162), .load1 (.t 161), none⟩,
  ⟨(some 163), .indexAddr 1 (.t 158) (.t 162), none⟩,
  ⟨none, .store 1 (.t 163) (.c (.bool true)), none⟩]
def b50_96 : SCode := .region r50_96
def b50_97 : SCode := .block 9 b50_96
abbrev r50_98 : List MOper := [⟨(some 156), .move (.t 23), none⟩,
  ⟨(some 157), .bin .add .num (.t 156) (.c (.int .i64 1)), none⟩,
  ⟨(some 23), .move (.t 157), none⟩]
def b50_98 : SCode := .region r50_98
def b50_99 : SCode := .seq b50_97 b50_98
def b50_100 : SCode := .seq b50_95 b50_99
def b50_101 : SCode := .loop b50_100
def b50_102 : SCode := .block 8 b50_101
def b50_103 : SCode := .seq b50_92 b50_102
abbrev r50_104 : List MOper := [⟨(some 164), .move (.t 9), none⟩,
  ⟨(some 165), .fieldAddr 1 (.t 2), none⟩,
  ⟨(some 166), .load1 (.t 165), none⟩,
  ⟨(some 167), .move (.t 14), none⟩,
  ⟨(some 168), .indexAddr 2 (.t 166) (.t 167), none⟩,
  ⟨(some 169), .fieldAddr 1 (.t 168), none⟩,
  ⟨(some 170), .load1 (.t 169), none⟩,
  ⟨(some 171), .append 3 24 (.t 164) (.t 170), none⟩,
  ⟨(some 9), .move (.t 171), none⟩]
def b50_104 : SCode := .region r50_104
def b50_105 : SCode := .seq b50_103 b50_104
def b50_106 : SCode := .seq b50_91 b50_105
def b50_107 : SCode := .seq b50_63 b50_106
def b50_108 : SCode := .seq b50_62 b50_107
def b50_109 : SCode := .seq b50_61 b50_108
def b50_110 : SCode := .seq b50_54 b50_109
def b50_111 : SCode := .seq b50_37 b50_110
def b50_112 : SCode := .seq b50_36 b50_111
def b50_113 : SCode := .seq b50_21 b50_112
def b50_114 : SCode := .seq b50_20 b50_113
def b50_115 : SCode := .block 1 b50_114
abbrev r50_116 : List MOper := [⟨(some 44), .move (.t 10), none⟩,
  ⟨(some 45), .bin .add .num (.t 44) (.c (.int .i64 1)), none⟩,
  ⟨(some 10), .move (.t 45), none⟩]
def b50_116 : SCode := .region r50_116
def b50_117 : SCode := .seq b50_115 b50_116
def b50_118 : SCode := .seq b50_17 b50_117
def b50_119 : SCode := .loop b50_118
def b50_120 : SCode := .block 0 b50_119
def b50_121 : SCode := .seq b50_14 b50_120
abbrev r50_122 : List MOper := [⟨(some 172), .move (.t 9), none⟩,
  ⟨(some 4), .move (.t 172), none⟩,
  ⟨(some 5), .move (.c (.int .i64 0)), none⟩]
def b50_122 : SCode := .region r50_122
def b50_123 : SCode := .seq b50_122 .ret
def b50_124 : SCode := .seq b50_121 b50_123
def b50_125 : SCode := .seq b50_13 b50_124
def b50_126 : SCode := .seq b50_12 b50_125
def b50_127 : SCode := .seq b50_11 b50_126
def b50_128 : SCode := .seq b50_6 b50_127
def b50_129 : SCode := .seq b50_5 b50_128
def b50_130 : SCode := .seq b50_0 b50_129
def s50 : SFunc := ⟨173, [.t 4, .t 5], b50_130⟩
theorem c50 : sFn Try.prog 50 = some s50 := by kernel_rfl
theorem x50_80 : XS b50_80 b50_76 b50_79 := rfl
theorem x50_104 : XR b50_104 r50_104 := rfl
theorem x50_105 : XS b50_105 b50_103 b50_104 := rfl
theorem x50_108 : XS b50_108 b50_62 b50_107 := rfl
theorem x50_109 : XS b50_109 b50_61 b50_108 := rfl
theorem x50_111 : XS b50_111 b50_37 b50_110 := rfl
theorem x50_116 : XR b50_116 r50_116 := rfl
theorem Z50 : XR b50_0 r50_0 ∧ XR b50_1 r50_1 ∧ XR b50_2 r50_2 ∧ XS b50_3 b50_2 .ret ∧ XC b50_4 (.t 26) b50_3 .skip ∧ XS b50_5 b50_1 b50_4 ∧ XR b50_6 r50_6 ∧ XR b50_7 r50_7 ∧ XR b50_8 r50_8 ∧ XS b50_9 b50_8 .ret ∧ XC b50_10 (.t 35) b50_9 .skip ∧ XS b50_11 b50_7 b50_10 ∧ XR b50_12 r50_12 ∧ XR b50_13 r50_13 ∧ XR b50_14 r50_14 ∧ XR b50_15 r50_15 ∧ XC b50_16 (.t 43) .skip (.exit 0) ∧ XS b50_17 b50_15 b50_16 ∧ XR b50_18 r50_18 ∧ XC b50_19 (.t 49) (.exit 1) .skip ∧ XS b50_20 b50_18 b50_19 ∧ XR b50_21 r50_21 ∧ XR b50_22 r50_22 ∧ XR b50_23 r50_23 ∧ XC b50_24 (.t 54) .skip (.exit 2) ∧ XS b50_25 b50_23 b50_24 ∧ XR b50_26 r50_26 ∧ XR b50_27 r50_27 ∧ XC b50_28 (.t 61) b50_27 .skip ∧ XS b50_29 b50_26 b50_28 ∧ XB b50_30 3 b50_29 ∧ XR b50_31 r50_31 ∧ XS b50_32 b50_30 b50_31 ∧ XS b50_33 b50_25 b50_32 ∧ XB b50_35 2 b50_34 ∧ XS b50_36 b50_22 b50_35 ∧ XR b50_37 r50_37 ∧ XR b50_38 r50_38 ∧ XR b50_39 r50_39 ∧ XC b50_40 (.t 73) .skip (.exit 4) ∧ XS b50_41 b50_39 b50_40 ∧ XT b50_42 t50_42 ∧ XR b50_43 r50_43 ∧ XR b50_44 r50_44 ∧ XC b50_45 (.t 84) b50_44 .skip ∧ XS b50_46 b50_43 b50_45 ∧ XS b50_47 b50_42 b50_46 ∧ XB b50_48 5 b50_47 ∧ XR b50_49 r50_49 ∧ XS b50_50 b50_48 b50_49 ∧ XS b50_51 b50_41 b50_50 ∧ XB b50_53 4 b50_52 ∧ XS b50_54 b50_38 b50_53 ∧ XR b50_55 r50_55 ∧ XR b50_56 r50_56 ∧ XR b50_57 r50_57 ∧ XS b50_58 b50_57 (.exit 1) ∧ XS b50_59 b50_56 b50_58 ∧ XC b50_60 (.t 88) b50_59 .skip ∧ XS b50_61 b50_55 b50_60 ∧ XR b50_62 r50_62 ∧ XR b50_63 r50_63 ∧ XR b50_64 r50_64 ∧ XR b50_65 r50_65 ∧ XC b50_66 (.t 109) .skip (.exit 6) ∧ XS b50_67 b50_65 b50_66 ∧ XT b50_68 t50_68 ∧ XR b50_69 r50_69 ∧ XC b50_70 (.t 123) (.exit 6) .skip ∧ XS b50_71 b50_69 b50_70 ∧ XR b50_72 r50_72 ∧ XC b50_73 (.t 126) (.exit 7) .skip ∧ XS b50_74 b50_72 b50_73 ∧ XT b50_75 t50_75 ∧ XR b50_76 r50_76 ∧ XR b50_77 r50_77 ∧ XR b50_78 r50_78 ∧ XC b50_79 (.t 142) b50_77 b50_78 ∧ XS b50_81 b50_75 b50_80 ∧ XS b50_82 b50_74 b50_81 ∧ XS b50_83 b50_71 b50_82 ∧ XS b50_84 b50_68 b50_83 ∧ XB b50_85 7 b50_84 ∧ XR b50_86 r50_86 ∧ XS b50_87 b50_85 b50_86 ∧ XS b50_88 b50_67 b50_87 ∧ XB b50_90 6 b50_89 ∧ XS b50_91 b50_64 b50_90 ∧ XR b50_92 r50_92 ∧ XR b50_93 r50_93 ∧ XC b50_94 (.t 155) .skip (.exit 8) ∧ XS b50_95 b50_93 b50_94 ∧ XR b50_96 r50_96 ∧ XB b50_97 9 b50_96 ∧ XR b50_98 r50_98 ∧ XS b50_99 b50_97 b50_98 ∧ XS b50_100 b50_95 b50_99 ∧ XB b50_102 8 b50_101 ∧ XS b50_103 b50_92 b50_102 ∧ XS b50_106 b50_91 b50_105 ∧ XS b50_107 b50_63 b50_106 ∧ XS b50_110 b50_54 b50_109 ∧ XS b50_112 b50_36 b50_111 ∧ XS b50_113 b50_21 b50_112 ∧ XS b50_114 b50_20 b50_113 ∧ XB b50_115 1 b50_114 ∧ XS b50_117 b50_115 b50_116 ∧ XS b50_118 b50_17 b50_117 ∧ XB b50_120 0 b50_119 ∧ XS b50_121 b50_14 b50_120 ∧ XR b50_122 r50_122 ∧ XS b50_123 b50_122 .ret ∧ XS b50_124 b50_121 b50_123 ∧ XS b50_125 b50_13 b50_124 ∧ XS b50_126 b50_12 b50_125 ∧ XS b50_127 b50_11 b50_126 ∧ XS b50_128 b50_6 b50_127 ∧ XS b50_129 b50_5 b50_128 ∧ XS b50_130 b50_0 b50_129 ∧ XY s50 173 b50_130 [.t 4, .t 5] := ⟨rfl, rfl, rfl, rfl, sC_cond, rfl, rfl, rfl, rfl, rfl, sC_cond, rfl, rfl, rfl, rfl, rfl, sC_cond, rfl, rfl, sC_cond, rfl, rfl, rfl, rfl, sC_cond, rfl, rfl, rfl, sC_cond, rfl, rfl, rfl, rfl, rfl, rfl, rfl, rfl, rfl, rfl, sC_cond, rfl, rfl, rfl, rfl, sC_cond, rfl, rfl, rfl, rfl, rfl, rfl, rfl, rfl, rfl, rfl, rfl, rfl, rfl, sC_cond, rfl, rfl, rfl, rfl, rfl, sC_cond, rfl, rfl, rfl, sC_cond, rfl, rfl, sC_cond, rfl, rfl, rfl, rfl, rfl, sC_cond, rfl, rfl, rfl, rfl, rfl, rfl, rfl, rfl, rfl, rfl, rfl, rfl, sC_cond, rfl, rfl, rfl, rfl, rfl, rfl, rfl, rfl, rfl, rfl, rfl, rfl, rfl, rfl, rfl, rfl, rfl, rfl, rfl, rfl, rfl, rfl, rfl, rfl, rfl, rfl, rfl, rfl, rfl⟩
abbrev r67_0 : List MOper := [⟨(some 2), .alloc [.int .i64 0, .int .i64 0, .int .i64 0, .int .i64 0, .int .i64 0, .int .i64 0], none⟩]
def b67_0 : SCode := .region r67_0
abbrev r67_1 : List MOper := [⟨(some 3), .move (.t 0), none⟩,
  ⟨(some 4), .convInt .i64 (.t 3), none⟩,
  ⟨(some 5), .bin .quo .num (.t 4) (.c (.int .i64 3999)), none⟩,
  ⟨(some 6), .bin .add .num (.c (.int .i64 64000)) (.t 5), none⟩,
  ⟨(some 7), .build [.int .i64 0, .int .i64 0, .int .i64 0] [(0, 1, (.t 6)), (1, 1, (.c (.int .i64 32))), (2, 1, (.c (.int .i64 2)))], none⟩,
  ⟨(some 8), .move (.t 0), none⟩,
  ⟨(some 9), .convInt .i64 (.t 8), none⟩,
  ⟨(some 10), .bin .rem .num (.t 9) (.c (.int .i64 3999)), none⟩,
  ⟨(some 11), .bin .add .num (.c (.int .i64 60001)) (.t 10), none⟩,
  ⟨(some 12), .build [.int .i64 0, .int .i64 0, .int .i64 0] [(0, 1, (.t 11))], none⟩,
  ⟨(some 13), .build [.int .i64 0, .int .i64 0, .int .i64 0, .int .i64 0, .int .i64 0, .int .i64 0] [(0, 3, (.t 7)), (3, 3, (.t 12))], none⟩,
  ⟨none, .store 6 (.t 2) (.t 13), none⟩]
def b67_1 : SCode := .region r67_1
def b67_2 : SCode := .seq b67_1 .ret
def b67_3 : SCode := .seq b67_0 b67_2
def s67 : SFunc := ⟨14, [.cN 2 6], b67_3⟩
theorem c67 : sFn Try.prog 67 = some s67 := by kernel_rfl
theorem Z67 : XR b67_0 r67_0 ∧ XR b67_1 r67_1 ∧ XS b67_2 b67_1 .ret ∧ XS b67_3 b67_0 b67_2 ∧ XY s67 14 b67_3 [.cN 2 6] := ⟨rfl, rfl, rfl, rfl, rfl⟩

set_option maxHeartbeats 4000000
set_option maxRecDepth 10000
/-! Implied. -/
abbrev El := Int × Int × Int
abbrev elC (l : List El) : List (List AV) := l.map fun (e : El) => [AV.int .i64 e.1, AV.int .i64 e.2.1, AV.int .i64 e.2.2]
def imp1 (r : Int) : Int := IntKind.wrap .i64 (64000 + IntKind.wrap .i64 ((IntKind.wrap .i64 r).tdiv 3999))
def imp2 (r : Int) : Int := IntKind.wrap .i64 (60001 + (IntKind.wrap .i64 r).tmod 3999)
abbrev impC (r : Int) : List AV := [.int .i64 (imp1 r), .int .i64 32, .int .i64 2, .int .i64 (imp2 r), .int .i64 0, .int .i64 0]
theorem imp_ok (r : Int) : Tri Try.prog 67 [.int .i32 r] [] fun x _ => x.pure = true ∧ x = .agg (impC r) := by
  refine Tri.of_s c67 (noCall_sound _) ?_
  simp only [Z67, base1, ↓reduceIte, Nat.reduceAdd, Nat.reduceSub, Nat.reduceMul, Nat.reduceEqDiff, Nat.reduceLeDiff, Nat.reduceLT, Int.reduceLT, Int.reduceLE, Int.reduceEq, Int.reduceNe, Int.reduceToNat, Int.reduceAdd, Int.reduceSub, reduceCtorEq, Nat.reduceBEq, Nat.reduceBNe]
  first | exact rfl | exact ⟨rfl, rfl⟩
def impD (args : List AV) (σ : AHeap) (K : AV → AHeap → Prop) : Prop := ∃ r : Int, args = [.int .i32 r] ∧ K (.agg (impC r)) σ
theorem impD_ok (args : List AV) (σ : AHeap) (K : AV → AHeap → Prop) (h : impD args σ K) : Tri Try.prog 67 args σ K := by
  obtain ⟨r, rfl, h⟩ := h
  exact (Tri.pureD rfl (imp_ok r) σ).mono fun x σ' hr => by rw [hr.1, hr.2]; exact h
/-! What Elements comes to. -/
def isFree (gone : List Bool) (j : Nat) : Bool := !(gone[j]?.getD true)
def freeS (gone : List Bool) (i k : Nat) : List Nat := (List.range k).filter fun j => decide (i ≤ j) && isFree gone j
theorem free_succ (gone : List Bool) {i k : Nat} (h : i ≤ k) : freeS gone i (k + 1) = if isFree gone k = true then freeS gone i k ++ [k] else freeS gone i k := by
  unfold freeS
  rw [List.range_succ, List.filter_append]
  cases hf : isFree gone k with
  | true => rw [if_pos rfl, List.filter_cons_of_pos (by simp [h, hf])]; rfl
  | false => rw [if_neg (by simp), List.filter_cons_of_neg (by simp [hf])]; simp
theorem free_mem {gone : List Bool} {i k a : Nat} (h : a ∈ freeS gone i k) : i ≤ a ∧ a < k := by
  obtain ⟨h1, h2⟩ := List.mem_filter.1 h
  rw [Bool.and_eq_true, decide_eq_true_eq] at h2
  exact ⟨h2.1, List.mem_range.1 h1⟩
theorem free_nil (gone : List Bool) (i : Nat) : freeS gone i i = [] := by
  unfold freeS
  rw [List.filter_eq_nil_iff]
  intro a ha
  have := List.mem_range.1 ha
  simp; omega
theorem free_len (gone : List Bool) (i k : Nat) : (freeS gone i k).length ≤ k := by
  have := List.length_filter_le (fun j => decide (i ≤ j) && isFree gone j) (List.range k)
  rw [List.length_range] at this; exact this
abbrev rn1 (l : List Int) (a : Nat) : Int := l[a]?.getD 0
noncomputable def beS (l : List Int) (at_ : List Nat) : Nat → Nat → Nat × Int → Nat × Int
  | 0, _, nb => nb
  | f + 1, k, nb => if k ≤ at_.length then beS l at_ f (k + 1) (if 0 ≤ (rowS (pick l (at_.take k))).1 then (k, (rowS (pick l (at_.take k))).1) else nb) else nb
noncomputable def inS (l : List Int) (at_ : List Nat) : Nat → Nat → List Nat → Int → Int → List Nat × Int
  | 0, _, used, best, _ => (used, best)
  | f + 1, k, used, best, passed =>
    match at_[k]? with
    | none => (used, best)
    | some a =>
      if clS (rn1 l a) = 0 then (used, best)
      else if clS (rn1 l a) ≤ passed then inS l at_ f (k + 1) used best passed
      else if 0 ≤ (rowS (pick l used ++ [rn1 l a])).1 then inS l at_ f (k + 1) (used ++ [a]) (rowS (pick l used ++ [rn1 l a])).1 passed
      else inS l at_ f (k + 1) used best (clS (rn1 l a))
def markS (gone : List Bool) (used : List Nat) : List Bool := used.foldl (fun g a => g.set a true) gone
theorem mark_len (used : List Nat) : ∀ gone : List Bool, (markS gone used).length = gone.length := by
  induction used with
  | nil => intro g; rfl
  | cons a r ih => intro g; show (markS (g.set a true) r).length = _; rw [ih]; simp
def rowTo (b : Int) : List El := if b = 0 then [(10, 32, 2)] else if b = 1 then [(11, 32, 2)] else if b = 2 then [(12, 32, 2)] else if b = 3 then [(13, 32, 2)] else [(0, 41, 2)]
noncomputable def elS (l : List Int) : Nat → Nat → List Bool → List El → List El
  | 0, _, _, out => out
  | f + 1, i, gone, out =>
    if isFree gone i = false then elS l f (i + 1) gone out
    else
      let at_ := freeS gone i l.length
      let nb := beS l at_ 3 1 (0, -1)
      if nb.2 < 0 then elS l f (i + 1) gone (out ++ [(imp1 (rn1 l i), 32, 2), (imp2 (rn1 l i), 0, 0)])
      else
        let ub := inS l at_ (at_.length - nb.1) nb.1 (at_.take nb.1) nb.2 0
        elS l f (i + 1) (markS gone ub.1) (out ++ rowTo ub.2)
/-! The walk. -/
def U50 : PCall := rowQ 48 tabD (rowQ 65 normD (rowQ 66 takeD (rowQ 64 rowD (rowQ 67 impD (rowQ 68 classD noCall)))))
theorem U50_app {f : FuncId} {args : List AV} {σ : AHeap} {K : AV → AHeap → Prop} : U50 f args σ K = rowQ 48 tabD (rowQ 65 normD (rowQ 66 takeD (rowQ 64 rowD (rowQ 67 impD (rowQ 68 classD noCall))))) f args σ K := _root_.id rfl
theorem U50_sound : Sound Try.prog U50 := rowQ_sound tabD_ok (rowQ_sound normD_ok (rowQ_sound takeD_ok (rowQ_sound rowD_ok (rowQ_sound impD_ok (rowQ_sound classD_ok (noCall_sound _))))))
/-- All that was there is there. -/
def Kp (σ τ : AHeap) : Prop := ∀ j c, hget σ j = some c → hget τ j = some c
theorem Kp.refl (σ : AHeap) : Kp σ σ := fun _ _ h => h
theorem Kp.trans {σ τ υ : AHeap} (h : Kp σ τ) (k : Kp τ υ) : Kp σ υ := fun j c hj => k j c (h j c hj)
def New (σ : AHeap) (Lv : AV) : Prop := ∀ j c, hget σ j = some c → LvD Lv ≠ some j
def beE (l : List Int) (G : Nat) (Ov : AV) (i : Nat) (e : Env) : Prop := e 2 = .ptr 0 0 ∧ e 6 = .imm (rnC l) false false ∧ e 8 = .slice G 0 l.length (some l.length) 1 ∧ e 9 = Ov ∧ e 10 = .int .i64 (i : Int)
abbrev goC (g : List Bool) : List AV := g.map AV.bool
section
variable {R : MExit → Env → AHeap → Prop} {kk : Cont}
/-! Those that are free. -/
def frI (l : List Int) (G : Nat) (Ov : AV) (i : Nat) (gone : List Bool) (σ0 : AHeap) (m : Nat) (e : Env) (σ : AHeap) : Prop :=
  ∃ (k : Nat) (Lv : AV), i ≤ k ∧ k ≤ l.length ∧ m = l.length - k ∧ Kp σ0 σ ∧ Grow σ Lv 1 (atC (freeS gone i k)) ∧ New σ0 Lv ∧ beE l G Ov i e ∧ e 11 = Lv ∧ e 12 = .int .i64 (k : Int)
theorem fr_step (l : List Int) (hl : l.length ≤ 10000) (G : Nat) (Ov : AV) (i : Nat) (gone : List Bool) (hgl : gone.length = l.length) (σ0 : AHeap) (hG : hget σ0 G = some (goC gone))
    (hQ : ∀ e σ Lv, Kp σ0 σ → Grow σ Lv 1 (atC (freeS gone i l.length)) → New σ0 Lv → beE l G Ov i e → e 11 = Lv → unw U50 0 R kk (.normal) e σ) (m : Nat) (e : Env) (σ : AHeap) (h : frI l G Ov i gone σ0 m e σ) :
    sC U50 0 b50_33 (unw U50 0 (loopR U50 0 R (.block 2 kk) (frI l G Ov i gone σ0) m) .fin) e σ := by
  obtain ⟨k, Lv, hik, hk, hm, hkp, hg, hnw, ⟨e2, e6, e8, e9, e10⟩, e11, e12⟩ := h
  have ll : (rnC l).length = l.length := by simp
  have hwr : IntKind.wrap .i64 ((k : Int) + 1) = ((k + 1 : Nat) : Int) := by rw [Gz.wrap64 (by omega)]; omega
  rcases Nat.lt_or_ge k l.length with hlt | hge
  · have hlt' : (k : Int) < (l.length : Int) := by omega
    have hge0 : (0 : Int) ≤ (k : Int) := by omega
    have gG := hkp _ _ hG
    obtain ⟨b, hb⟩ : ∃ b, gone[k]? = some b := ⟨_, List.getElem?_eq_getElem (by omega)⟩
    have hgb : (goC gone)[k]? = some (.bool b) := by rw [goC, List.getElem?_map, hb]; rfl
    have hfr := free_succ gone hik
    have hif : isFree gone k = !b := by unfold isFree; rw [hb]; rfl
    rw [hif] at hfr
    cases b with
    | true =>
      rw [if_neg (by simp)] at hfr
      simp only [U50_app, Z50, x50_80, x50_104, x50_105, x50_108, x50_109, x50_111, x50_116, base1, ↓reduceIte, Nat.reduceAdd, Nat.reduceSub, Nat.reduceMul, Nat.reduceEqDiff, Nat.reduceLeDiff, Nat.reduceLT, Int.reduceLT, Int.reduceLE, Int.reduceEq, Int.reduceNe, Int.reduceToNat, Int.reduceAdd, Int.reduceSub, reduceCtorEq, Nat.reduceBEq, Nat.reduceBNe, lenOf_imm, loopR_exit, loopR_ret, e2, e6, e8, e9, e10, e11, e12, ll, hlt, hlt', hge0, Int.toNat_natCast, gG, hgb, hwr]
      rw [loopR_normal]
      exact ⟨l.length - (k + 1), _, _, by omega, .refl _ _ _, k + 1, Lv, by omega, hlt, rfl, hkp, by rw [hfr]; exact hg, hnw, ⟨e2, e6, e8, e9, e10⟩, e11, rfl⟩
    | false =>
      rw [if_pos (by rfl)] at hfr
      have hfl := free_len gone i k
      obtain ⟨v, τ, a1, a2, a3, a4, a5⟩ := grow_one (b := 8) (by decide) hg (by simp; omega) [.int .i64 (k : Int)] rfl rfl
      simp only [U50_app, Z50, x50_80, x50_104, x50_105, x50_108, x50_109, x50_111, x50_116, base1, ↓reduceIte, Nat.reduceAdd, Nat.reduceSub, Nat.reduceMul, Nat.reduceEqDiff, Nat.reduceLeDiff, Nat.reduceLT, Int.reduceLT, Int.reduceLE, Int.reduceEq, Int.reduceNe, Int.reduceToNat, Int.reduceAdd, Int.reduceSub, reduceCtorEq, Nat.reduceBEq, Nat.reduceBNe, lenOf_imm, loopR_exit, loopR_ret, e2, e6, e8, e9, e10, e11, e12, ll, hlt, hlt', hge0, Int.toNat_natCast, gG, hgb, a1, a2, a3, hwr]
      rw [loopR_normal]
      exact ⟨l.length - (k + 1), _, _, by omega, .refl _ _ _, k + 1, v, by omega, hlt, rfl, fun j c hj => (a4 j c (hkp j c hj) (hnw j c hj)).1, by rw [hfr, atC, List.map_append]; exact a5, fun j c hj => (a4 j c (hkp j c hj) (hnw j c hj)).2, ⟨e2, e6, e8, e9, e10⟩, rfl, rfl⟩
  · have hlt' : ¬ (k : Int) < (l.length : Int) := by omega
    have hke : k = l.length := by omega
    subst hke
    simp only [U50_app, Z50, x50_80, x50_104, x50_105, x50_108, x50_109, x50_111, x50_116, base1, ↓reduceIte, Nat.reduceAdd, Nat.reduceSub, Nat.reduceMul, Nat.reduceEqDiff, Nat.reduceLeDiff, Nat.reduceLT, Int.reduceLT, Int.reduceLE, Int.reduceEq, Int.reduceNe, Int.reduceToNat, Int.reduceAdd, Int.reduceSub, reduceCtorEq, Nat.reduceBEq, Nat.reduceBNe, lenOf_imm, loopR_exit, loopR_ret, e2, e6, e8, e9, e10, e11, e12, ll, hlt']
    exact hQ _ _ Lv hkp hg hnw ⟨e2, e6, e8, e9, e10⟩ e11
/-! The longest row at the beginning. -/
def atE (l : List Int) (G : Nat) (Ov : AV) (i : Nat) (A : Nat) (at_ : List Nat) (σ0 : AHeap) (e : Env) (σ : AHeap) : Prop := Kp σ0 σ ∧ (∀ j c, hget σ0 j = some c → A ≠ j) ∧ hget σ A = some (atC at_).flatten ∧ beE l G Ov i e ∧ e 11 = .slice A 0 at_.length none 1
theorem at_flat (at_ : List Nat) : (atC at_).flatten = at_.map fun (a : Nat) => AV.int .i64 (a : Int) := by
  induction at_ with
  | nil => rfl
  | cons x l ih => simp only [atC, List.map_cons, List.flatten_cons] at ih ⊢; rw [ih]; rfl
theorem at_cell (at_ : List Nat) : ((atC at_).flatten.all fun x => x.isCell) = true := by
  rw [at_flat, List.all_eq_true]
  intro x hx
  obtain ⟨b, _, rfl⟩ := List.mem_map.1 hx
  rfl
theorem at_sub (at_ : List Nat) {k : Nat} (hk : k ≤ at_.length) : sub (atC at_).flatten 0 k = some (atC (at_.take k)).flatten := by
  rw [at_flat, at_flat]
  unfold sub
  rw [if_pos (by simp; omega), List.drop_zero, List.map_take]
def blI (l : List Int) (G : Nat) (Ov : AV) (i A : Nat) (at_ : List Nat) (σ0 : AHeap) (T : Nat × Int) (m : Nat) (e : Env) (σ : AHeap) : Prop :=
  ∃ (k n : Nat) (b : Int), 1 ≤ k ∧ k ≤ 4 ∧ m = 4 - k ∧ atE l G Ov i A at_ σ0 e σ ∧ beS l at_ (4 - k) k (n, b) = T ∧ n ≤ at_.length ∧ (b < 0 ∨ 1 ≤ n) ∧ b < 5 ∧ e 13 = .int .i64 (n : Int) ∧ e 14 = .int .i64 b ∧ e 15 = .int .i64 (k : Int)
theorem bl_step (l : List Int) (hl : l.length ≤ 10000) (G : Nat) (Ov : AV) (i A : Nat) (at_ : List Nat) (hat : ∀ a ∈ at_, a < l.length) (hal : at_.length ≤ 10000) (σ0 : AHeap) (h0 : hget σ0 0 = some tabC) (T : Nat × Int)
    (hQ : ∀ e σ, atE l G Ov i A at_ σ0 e σ → T.1 ≤ at_.length → (T.2 < 0 ∨ 1 ≤ T.1) → T.2 < 5 → e 13 = .int .i64 (T.1 : Int) → e 14 = .int .i64 T.2 → unw U50 0 R kk (.normal) e σ) (m : Nat) (e : Env) (σ : AHeap) (h : blI l G Ov i A at_ σ0 T m e σ) :
    sC U50 0 b50_51 (unw U50 0 (loopR U50 0 R (.block 4 kk) (blI l G Ov i A at_ σ0 T) m) .fin) e σ := by
  obtain ⟨k, n, b, hk1, hk, hm, ⟨hkp, hA, gA, ⟨e2, e6, e8, e9, e10⟩, e11⟩, hT, hn, hb1, hb5, e13, e14, e15⟩ := h
  have l0 : lenOf (.slice A 0 at_.length none 1) = some at_.length := rfl
  have hwr : IntKind.wrap .i64 ((k : Int) + 1) = ((k + 1 : Nat) : Int) := by rw [Gz.wrap64 (by omega)]; omega
  by_cases hk3 : (k : Int) ≤ 3
  · by_cases hka : (k : Int) ≤ (at_.length : Int)
    · have x1 : evSlice 1 (.slice A 0 at_.length none 1) none (some (.int .i64 (k : Int))) none = some (.slice A 0 k none 1) := ev_to (by omega)
      have g0 := hkp _ _ h0
      have htl : (at_.take k).length = k := by rw [List.length_take]; omega
      simp only [U50_app, Z50, x50_80, x50_104, x50_105, x50_108, x50_109, x50_111, x50_116, base1, ↓reduceIte, Nat.reduceAdd, Nat.reduceSub, Nat.reduceMul, Nat.reduceEqDiff, Nat.reduceLeDiff, Nat.reduceLT, Int.reduceLT, Int.reduceLE, Int.reduceEq, Int.reduceNe, Int.reduceToNat, Int.reduceAdd, Int.reduceSub, reduceCtorEq, Nat.reduceBEq, Nat.reduceBNe, lenOf_imm, loopR_exit, loopR_ret, e2, e6, e8, e9, e10, e11, e13, e14, e15, l0, hk3, hka, x1, g0]
      refine ⟨l, _, at_.take k, rfl, .inr ⟨A, 0, none, _, by rw [htl], gA, by rw [htl]; exact at_sub at_ (by omega)⟩, fun a ha => hat a (List.mem_of_mem_take ha), by omega, by omega, by intro h; rw [h] at htl; simp at htl; omega, ?_⟩
      have gp : ∀ c : List AV, hget (hpush σ c) 0 = some tabC := fun c => push_old g0
      have hpl : (pick l (at_.take k)).length = k := by simp [pick]; omega
      rw [htl]
      simp only [U50_app, Z50, x50_80, x50_104, x50_105, x50_108, x50_109, x50_111, x50_116, base1, ↓reduceIte, Nat.reduceAdd, Nat.reduceSub, Nat.reduceMul, Nat.reduceEqDiff, Nat.reduceLeDiff, Nat.reduceLT, Int.reduceLT, Int.reduceLE, Int.reduceEq, Int.reduceNe, Int.reduceToNat, Int.reduceAdd, Int.reduceSub, reduceCtorEq, Nat.reduceBEq, Nat.reduceBNe, lenOf_imm, loopR_exit, loopR_ret, gp]
      refine ⟨σ.length, pick l (at_.take k), by rw [hpl], push_new rfl, by omega, ?_⟩
      have kp : Kp σ (hkill (hpush σ (rnC (pick l (at_.take k))).flatten) σ.length) := fun j c hj => by
        have := hget_lt hj
        rw [kill_other (by omega)]; exact push_old hj
      have hT2 : T = beS l at_ (4 - (k + 1)) (k + 1) (if 0 ≤ (rowS (pick l (at_.take k))).1 then (k, (rowS (pick l (at_.take k))).1) else (n, b)) := by
        rw [← hT, show 4 - k = (4 - (k + 1)) + 1 by omega, beS, if_pos (by omega)]
      have hr5 := (rowS (pick l (at_.take k))).2
      generalize (rowS (pick l (at_.take k))).1 = x at hT2 hr5 ⊢
      generalize hkill (hpush σ (rnC (pick l (at_.take k))).flatten) σ.length = σ2 at kp ⊢
      have at2 : ∀ e', beE l G Ov i e' → e' 11 = .slice A 0 at_.length none 1 → atE l G Ov i A at_ σ0 e' σ2 := fun e' h1 h2 => ⟨hkp.trans kp, hA, kp _ _ gA, h1, h2⟩
      by_cases hx : (0 : Int) ≤ x
      · rw [if_pos hx] at hT2
        simp only [U50_app, Z50, x50_80, x50_104, x50_105, x50_108, x50_109, x50_111, x50_116, base1, ↓reduceIte, Nat.reduceAdd, Nat.reduceSub, Nat.reduceMul, Nat.reduceEqDiff, Nat.reduceLeDiff, Nat.reduceLT, Int.reduceLT, Int.reduceLE, Int.reduceEq, Int.reduceNe, Int.reduceToNat, Int.reduceAdd, Int.reduceSub, reduceCtorEq, Nat.reduceBEq, Nat.reduceBNe, lenOf_imm, loopR_exit, loopR_ret, e2, e6, e8, e9, e10, e11, e13, e14, e15, hx, hwr]
        rw [loopR_normal]
        exact ⟨4 - (k + 1), _, _, by omega, .refl _ _ _, k + 1, k, x, by omega, by omega, rfl, at2 _ ⟨e2, e6, e8, e9, e10⟩ e11, hT2.symm, by omega, .inr hk1, hr5.2, rfl, rfl, rfl⟩
      · rw [if_neg hx] at hT2
        simp only [U50_app, Z50, x50_80, x50_104, x50_105, x50_108, x50_109, x50_111, x50_116, base1, ↓reduceIte, Nat.reduceAdd, Nat.reduceSub, Nat.reduceMul, Nat.reduceEqDiff, Nat.reduceLeDiff, Nat.reduceLT, Int.reduceLT, Int.reduceLE, Int.reduceEq, Int.reduceNe, Int.reduceToNat, Int.reduceAdd, Int.reduceSub, reduceCtorEq, Nat.reduceBEq, Nat.reduceBNe, lenOf_imm, loopR_exit, loopR_ret, e2, e6, e8, e9, e10, e11, e13, e14, e15, hx, hwr]
        rw [loopR_normal]
        exact ⟨4 - (k + 1), _, _, by omega, .refl _ _ _, k + 1, n, b, by omega, by omega, rfl, at2 _ ⟨e2, e6, e8, e9, e10⟩ e11, hT2.symm, hn, hb1, hb5, e13, e14, rfl⟩
    · have hT' : T = (n, b) := by
        rw [← hT, show 4 - k = (3 - k) + 1 by omega, beS, if_neg (by omega)]
      simp only [U50_app, Z50, x50_80, x50_104, x50_105, x50_108, x50_109, x50_111, x50_116, base1, ↓reduceIte, Nat.reduceAdd, Nat.reduceSub, Nat.reduceMul, Nat.reduceEqDiff, Nat.reduceLeDiff, Nat.reduceLT, Int.reduceLT, Int.reduceLE, Int.reduceEq, Int.reduceNe, Int.reduceToNat, Int.reduceAdd, Int.reduceSub, reduceCtorEq, Nat.reduceBEq, Nat.reduceBNe, lenOf_imm, loopR_exit, loopR_ret, e2, e6, e8, e9, e10, e11, e13, e14, e15, l0, hk3, hka]
      exact hQ _ _ ⟨hkp, hA, gA, ⟨e2, e6, e8, e9, e10⟩, e11⟩ (by rw [hT']; exact hn) (by rw [hT']; exact hb1) (by rw [hT']; exact hb5) (by rw [hT']; exact e13) (by rw [hT']; exact e14)
  · have hT' : T = (n, b) := by
      rw [← hT, show 4 - k = 0 by omega]; rfl
    simp only [U50_app, Z50, x50_80, x50_104, x50_105, x50_108, x50_109, x50_111, x50_116, base1, ↓reduceIte, Nat.reduceAdd, Nat.reduceSub, Nat.reduceMul, Nat.reduceEqDiff, Nat.reduceLeDiff, Nat.reduceLT, Int.reduceLT, Int.reduceLE, Int.reduceEq, Int.reduceNe, Int.reduceToNat, Int.reduceAdd, Int.reduceSub, reduceCtorEq, Nat.reduceBEq, Nat.reduceBNe, lenOf_imm, loopR_exit, loopR_ret, e2, e6, e8, e9, e10, e11, e13, e14, e15, hk3]
    exact hQ _ _ ⟨hkp, hA, gA, ⟨e2, e6, e8, e9, e10⟩, e11⟩ (by rw [hT']; exact hn) (by rw [hT']; exact hb1) (by rw [hT']; exact hb5) (by rw [hT']; exact e13) (by rw [hT']; exact e14)
/-! What stands behind joins it. -/
def inI (l : List Int) (G : Nat) (Ov : AV) (i A : Nat) (at_ : List Nat) (σ0 : AHeap) (T : List Nat × Int) (m : Nat) (e : Env) (σ : AHeap) : Prop :=
  ∃ (k : Nat) (used : List Nat) (Uv : AV) (b p : Int), k ≤ at_.length ∧ m = at_.length - k ∧ atE l G Ov i A at_ σ0 e σ ∧ Grow σ Uv 1 (atC used) ∧ New σ0 Uv ∧ LvD Uv ≠ some A ∧ (∀ a ∈ used, a < l.length) ∧ used ≠ [] ∧ used.length ≤ k ∧
    inS l at_ (at_.length - k) k used b p = T ∧ 0 ≤ b ∧ b < 5 ∧ e 14 = .int .i64 b ∧ e 18 = Uv ∧ e 19 = .int .i64 p ∧ e 20 = .int .i64 (k : Int)
theorem in_step (l : List Int) (hl : l.length ≤ 10000) (G : Nat) (Ov : AV) (i A : Nat) (at_ : List Nat) (hat : ∀ a ∈ at_, a < l.length) (hal : at_.length ≤ 10000) (σ0 : AHeap) (h0 : hget σ0 0 = some tabC) (T : List Nat × Int)
    (hQ : ∀ e σ Uv, atE l G Ov i A at_ σ0 e σ → Grow σ Uv 1 (atC T.1) → New σ0 Uv → LvD Uv ≠ some A → (∀ a ∈ T.1, a < l.length) → T.1.length ≤ at_.length → 0 ≤ T.2 → T.2 < 5 → e 14 = .int .i64 T.2 → e 18 = Uv → unw U50 0 R kk (.normal) e σ) (m : Nat) (e : Env) (σ : AHeap) (h : inI l G Ov i A at_ σ0 T m e σ) :
    sC U50 0 b50_88 (unw U50 0 (loopR U50 0 R (.block 6 kk) (inI l G Ov i A at_ σ0 T) m) .fin) e σ := by
  obtain ⟨k, used, Uv, b, p, hk, hm, ⟨hkp, hA, gA, ⟨e2, e6, e8, e9, e10⟩, e11⟩, hg, hnw, hUA, hus, hune, hul, hT, hb0, hb5, e14, e18, e19, e20⟩ := h
  have l0 : lenOf (.slice A 0 at_.length none 1) = some at_.length := rfl
  have ll : (rnC l).length = l.length := by simp
  have hwr : IntKind.wrap .i64 ((k : Int) + 1) = ((k + 1 : Nat) : Int) := by rw [Gz.wrap64 (by omega)]; omega
  by_cases hlt' : (k : Int) < (at_.length : Int)
  · have hlt : k < at_.length := by omega
    have hge0 : (0 : Int) ≤ (k : Int) := by omega
    obtain ⟨a, ha⟩ : ∃ a, at_[k]? = some a := ⟨_, List.getElem?_eq_getElem hlt⟩
    have hal' := hat a (List.mem_of_getElem? ha)
    have ha1 : (a : Int) < (l.length : Int) := by omega
    have ha0 : (0 : Int) ≤ (a : Int) := by omega
    obtain ⟨n, hn⟩ : ∃ n, l[a]? = some n := ⟨_, List.getElem?_eq_getElem hal'⟩
    have hr1 : rn1 l a = n := by rw [rn1, hn]; rfl
    have hnn : (rnC l)[a]? = some [.int .i32 n] := by rw [rnC, List.getElem?_map, hn]; rfl
    have haa : (atC at_).flatten[k]? = some (.int .i64 (a : Int)) := by rw [at_flat, List.getElem?_map, ha]; rfl
    have g0 := hkp _ _ h0
    have t0 : tabC[0]? = some loreV := rfl
    have hTs : T = if clS n = 0 then (used, b) else if clS n ≤ p then inS l at_ (at_.length - (k + 1)) (k + 1) used b p else if 0 ≤ (rowS (pick l used ++ [n])).1 then inS l at_ (at_.length - (k + 1)) (k + 1) (used ++ [a]) (rowS (pick l used ++ [n])).1 p else inS l at_ (at_.length - (k + 1)) (k + 1) used b (clS n) := by
      rw [← hT, show at_.length - k = (at_.length - (k + 1)) + 1 by omega, inS, ha]
      simp only [hr1]
    simp only [U50_app, Z50, x50_80, x50_104, x50_105, x50_108, x50_109, x50_111, x50_116, base1, ↓reduceIte, Nat.reduceAdd, Nat.reduceSub, Nat.reduceMul, Nat.reduceEqDiff, Nat.reduceLeDiff, Nat.reduceLT, Int.reduceLT, Int.reduceLE, Int.reduceEq, Int.reduceNe, Int.reduceToNat, Int.reduceAdd, Int.reduceSub, reduceCtorEq, Nat.reduceBEq, Nat.reduceBNe, lenOf_imm, loopR_exit, loopR_ret, e2, e6, e8, e9, e10, e11, e14, e18, e19, e20, l0, hlt', hlt, hge0, Int.toNat_natCast, g0, gA, haa, ha1, ha0, hal', ll, hnn]
    refine ⟨n, rfl, ?_⟩
    by_cases hc0 : clS n = 0
    · rw [if_pos hc0] at hTs
      simp only [U50_app, Z50, x50_80, x50_104, x50_105, x50_108, x50_109, x50_111, x50_116, base1, ↓reduceIte, Nat.reduceAdd, Nat.reduceSub, Nat.reduceMul, Nat.reduceEqDiff, Nat.reduceLeDiff, Nat.reduceLT, Int.reduceLT, Int.reduceLE, Int.reduceEq, Int.reduceNe, Int.reduceToNat, Int.reduceAdd, Int.reduceSub, reduceCtorEq, Nat.reduceBEq, Nat.reduceBNe, lenOf_imm, loopR_exit, loopR_ret, e2, e6, e8, e9, e10, e11, e14, e18, e19, e20, hc0]
      exact hQ _ _ Uv ⟨hkp, hA, gA, ⟨e2, e6, e8, e9, e10⟩, e11⟩ (by rw [hTs]; exact hg) hnw hUA (by rw [hTs]; exact hus) (by rw [hTs]; show used.length ≤ _; omega) (by rw [hTs]; exact hb0) (by rw [hTs]; exact hb5) (by rw [hTs]; exact e14) e18
    · rw [if_neg hc0] at hTs
      by_cases hcp : clS n ≤ p
      · rw [if_pos hcp] at hTs
        simp only [U50_app, Z50, x50_80, x50_104, x50_105, x50_108, x50_109, x50_111, x50_116, base1, ↓reduceIte, Nat.reduceAdd, Nat.reduceSub, Nat.reduceMul, Nat.reduceEqDiff, Nat.reduceLeDiff, Nat.reduceLT, Int.reduceLT, Int.reduceLE, Int.reduceEq, Int.reduceNe, Int.reduceToNat, Int.reduceAdd, Int.reduceSub, reduceCtorEq, Nat.reduceBEq, Nat.reduceBNe, lenOf_imm, loopR_exit, loopR_ret, e2, e6, e8, e9, e10, e11, e14, e18, e19, e20, hc0, hcp, hwr]
        rw [loopR_normal]
        exact ⟨at_.length - (k + 1), _, _, by omega, .refl _ _ _, k + 1, used, Uv, b, p, hlt, rfl, ⟨hkp, hA, gA, ⟨e2, e6, e8, e9, e10⟩, e11⟩, hg, hnw, hUA, hus, hune, by omega, hTs.symm, hb0, hb5, e14, e18, e19, rfl⟩
      · rw [if_neg hcp] at hTs
        simp only [U50_app, Z50, x50_104, x50_105, x50_108, x50_109, x50_111, x50_116, base1, ↓reduceIte, Nat.reduceAdd, Nat.reduceSub, Nat.reduceMul, Nat.reduceEqDiff, Nat.reduceLeDiff, Nat.reduceLT, Int.reduceLT, Int.reduceLE, Int.reduceEq, Int.reduceNe, Int.reduceToNat, Int.reduceAdd, Int.reduceSub, reduceCtorEq, Nat.reduceBEq, Nat.reduceBNe, lenOf_imm, loopR_exit, loopR_ret, e2, e6, e8, e9, e10, e11, e14, e18, e19, e20, hc0, hcp, l0, hlt', hlt, hge0, Int.toNat_natCast, g0, gA, haa, ha1, ha0, hal', ll, hnn]
        have huc : (pick l used).length = used.length := by simp [pick]
        have hsh : ∀ τ, Kp σ τ → ShowAt τ Uv used := fun τ hτ => by
          rcases hg with ⟨_, h⟩ | ⟨d, h, hd, _⟩
          · cases used with
            | nil => exact absurd rfl hune
            | cons => cases h
          · rw [show (atC used).length = used.length by simp] at h
            exact .inr ⟨d, 0, none, _, h, hτ _ _ hd, by rw [at_sub used (Nat.le_refl _), List.take_length]⟩
        have hgo : ∀ (τ : AHeap) (N : Nat), hget τ N = some (rnC (pick l used)).flatten → Grow τ (.slice N 0 used.length none 1) 1 (rnC (pick l used)) := fun τ N h => .inr ⟨N, by rw [show (rnC (pick l used)).length = used.length by simp [pick]], h, rn_len1 _, rn_cell _⟩
        have hnil : ∀ (τ : AHeap) (v : AV), Grow τ v 1 (rnC (pick l used) ++ [[.int .i32 n]]) → ∃ d, v = .slice d 0 (pick l used ++ [n]).length none 1 ∧ hget τ d = some (rnC (pick l used ++ [n])).flatten := fun τ v h => by
          rcases h with ⟨_, h⟩ | ⟨d, h, hd, _⟩
          · cases hh : rnC (pick l used) <;> rw [hh] at h <;> cases h
          · exact ⟨d, by rw [h]; simp, by rw [hd, rnC, rnC, List.map_append]; rfl⟩
        have tail : ∀ (e' : Env) (σ2 : AHeap), Kp σ σ2 → beE l G Ov i e' → e' 11 = .slice A 0 at_.length none 1 → e' 14 = .int .i64 b → e' 18 = Uv → e' 19 = .int .i64 p → e' 20 = .int .i64 (k : Int) → e' 21 = .int .i64 (clS n) → e' 22 = .int .i64 (rowS (pick l used ++ [n])).1 →
            sC U50 0 b50_80 (unw U50 0 (loopR U50 0 R (.block 6 kk) (inI l G Ov i A at_ σ0 T) m) (.block 7 (.seq b50_86 .fin))) e' σ2 := by
          intro e' σ2 kp ⟨f2, f6, f8, f9, f10⟩ f11 f14 f18 f19 f20 f21 f22
          have hr5 := (rowS (pick l used ++ [n])).2
          generalize (rowS (pick l used ++ [n])).1 = x at hTs f22 hr5
          have hg2 := grow_frame hg (τ := σ2) fun j c hj _ => kp j c hj
          by_cases hx : (0 : Int) ≤ x
          · rw [if_pos hx] at hTs
            obtain ⟨v, τ, a1, a2, a3, a4, a5⟩ := grow_one (b := 8) (by decide) hg2 (by simp; omega) [.int .i64 (a : Int)] rfl rfl
            have gA2 := kp _ _ gA
            simp only [U50_app, Z50, x50_80, x50_104, x50_105, x50_108, x50_109, x50_111, x50_116, base1, ↓reduceIte, Nat.reduceAdd, Nat.reduceSub, Nat.reduceMul, Nat.reduceEqDiff, Nat.reduceLeDiff, Nat.reduceLT, Int.reduceLT, Int.reduceLE, Int.reduceEq, Int.reduceNe, Int.reduceToNat, Int.reduceAdd, Int.reduceSub, reduceCtorEq, Nat.reduceBEq, Nat.reduceBNe, lenOf_imm, loopR_exit, loopR_ret, f2, f6, f8, f9, f10, f11, f14, f18, f19, f20, f21, f22, hx, hlt', hlt, hge0, Int.toNat_natCast, gA2, haa, a1, a2, a3, hwr]
            rw [loopR_normal]
            refine ⟨at_.length - (k + 1), _, _, by omega, .refl _ _ _, k + 1, used ++ [a], v, x, p, hlt, rfl, ⟨fun j c hj => (a4 j c (kp j c (hkp j c hj)) (hnw j c hj)).1, hA, (a4 _ _ gA2 hUA).1, ⟨f2, f6, f8, f9, f10⟩, f11⟩, by rw [atC, List.map_append]; exact a5, fun j c hj => (a4 j c (kp j c (hkp j c hj)) (hnw j c hj)).2, (a4 _ _ gA2 hUA).2, fun y hy => ?_, by simp, by simp; omega, hTs.symm, hx, hr5.2, rfl, rfl, f19, rfl⟩
            rcases List.mem_append.1 hy with h | h
            · exact hus y h
            · simp at h; subst h; exact hal'
          · rw [if_neg hx] at hTs
            simp only [U50_app, Z50, x50_80, x50_104, x50_105, x50_108, x50_109, x50_111, x50_116, base1, ↓reduceIte, Nat.reduceAdd, Nat.reduceSub, Nat.reduceMul, Nat.reduceEqDiff, Nat.reduceLeDiff, Nat.reduceLT, Int.reduceLT, Int.reduceLE, Int.reduceEq, Int.reduceNe, Int.reduceToNat, Int.reduceAdd, Int.reduceSub, reduceCtorEq, Nat.reduceBEq, Nat.reduceBNe, lenOf_imm, loopR_exit, loopR_ret, f2, f6, f8, f9, f10, f11, f14, f18, f19, f20, f21, f22, hx, hwr]
            rw [loopR_normal]
            exact ⟨at_.length - (k + 1), _, _, by omega, .refl _ _ _, k + 1, used, Uv, b, clS n, hlt, rfl, ⟨hkp.trans kp, hA, kp _ _ gA, ⟨f2, f6, f8, f9, f10⟩, f11⟩, hg2, hnw, hUA, hus, hune, by omega, hTs.symm, hb0, hb5, f14, f18, rfl, rfl⟩
        have hpick : (pick l used ++ [n]).length ≤ 1000000 := by simp [huc]; omega
        refine ⟨?_, ?_⟩
        · refine ⟨l, Uv, used, rfl, hsh σ (Kp.refl σ), hus, by omega, by omega, hune, ?_⟩
          have kp1 : Kp σ (hpush σ (rnC (pick l used)).flatten) := fun j c hj => push_old hj
          obtain ⟨v, τ, a1, a2, a3, a4, a5⟩ := grow_one (b := 4) (by decide) (hgo _ _ (push_new (σ := σ) (c := (rnC (pick l used)).flatten) rfl)) (by simp [pick]; omega) [.int .i32 n] rfl rfl
          obtain ⟨d, rfl, hd⟩ := hnil τ v a5
          have q0 : hget (hpush σ (rnC (pick l used)).flatten) 0 = some tabC := push_old g0
          have qA : hget (hpush σ (rnC (pick l used)).flatten) A = some (atC at_).flatten := push_old gA
          have r0 : ∀ c : List AV, hget (hpush (hpush σ (rnC (pick l used)).flatten) c) 0 = some tabC := fun c => push_old q0
          have fr : ∀ j c, hget σ j = some c → hget τ j = some c ∧ d ≠ j := fun j c hj => by
            obtain ⟨b1, b2⟩ := a4 j c (push_old hj) (by have := hget_lt hj; simp only [LvD, ne_eq, Option.some.injEq]; omega)
            exact ⟨b1, fun h => b2 (by rw [← h]; rfl)⟩
          have s0 := (fr _ _ g0).1
          simp only [U50_app, Z50, x50_104, x50_105, x50_108, x50_109, x50_111, x50_116, base1, ↓reduceIte, Nat.reduceAdd, Nat.reduceSub, Nat.reduceMul, Nat.reduceEqDiff, Nat.reduceLeDiff, Nat.reduceLT, Int.reduceLT, Int.reduceLE, Int.reduceEq, Int.reduceNe, Int.reduceToNat, Int.reduceAdd, Int.reduceSub, reduceCtorEq, Nat.reduceBEq, Nat.reduceBNe, lenOf_imm, loopR_exit, loopR_ret, q0, qA, haa, r0, a1, a2, a3, s0]
          refine ⟨d, pick l used ++ [n], by rw [List.length_append]; rfl, hd, hpick, ?_⟩
          simp only [U50_app, Z50, x50_104, x50_105, x50_108, x50_109, x50_111, x50_116, base1, ↓reduceIte, Nat.reduceAdd, Nat.reduceSub, Nat.reduceMul, Nat.reduceEqDiff, Nat.reduceLeDiff, Nat.reduceLT, Int.reduceLT, Int.reduceLE, Int.reduceEq, Int.reduceNe, Int.reduceToNat, Int.reduceAdd, Int.reduceSub, reduceCtorEq, Nat.reduceBEq, Nat.reduceBNe, lenOf_imm, loopR_exit, loopR_ret]
          exact tail _ _ (fun j c hj => (kill_other (fr j c hj).2).trans (fr j c hj).1) ⟨e2, e6, e8, e9, e10⟩ e11 e14 e18 e19 e20 rfl rfl
        · have p0 : ∀ c : List AV, hget (hpush σ c) 0 = some tabC := fun c => push_old g0
          simp only [U50_app, Z50, x50_104, x50_105, x50_108, x50_109, x50_111, x50_116, base1, ↓reduceIte, Nat.reduceAdd, Nat.reduceSub, Nat.reduceMul, Nat.reduceEqDiff, Nat.reduceLeDiff, Nat.reduceLT, Int.reduceLT, Int.reduceLE, Int.reduceEq, Int.reduceNe, Int.reduceToNat, Int.reduceAdd, Int.reduceSub, reduceCtorEq, Nat.reduceBEq, Nat.reduceBNe, p0]
          have kp1 : Kp σ (hpush σ [.int .i32 n]) := fun j c hj => push_old hj
          refine ⟨l, Uv, used, rfl, hsh _ kp1, hus, by omega, by omega, hune, ?_⟩
          have hX : hget (hpush (hpush σ [.int .i32 n]) (rnC (pick l used)).flatten) (hpush σ [.int .i32 n]).length = some (rnC (pick l used)).flatten := push_new rfl
          have he : elemsOf (hpush (hpush σ [.int .i32 n]) (rnC (pick l used)).flatten) 1 (.slice σ.length 0 1 (some 1) 1) = some ([[AV.int .i32 n]] : List (List AV)).flatten := by
            simp only [elemsOf, if_true, push_old (c := (rnC (pick l used)).flatten) (push_new (σ := σ) (c := [AV.int .i32 n]) rfl), Option.bind_some]; rfl
          obtain ⟨v, τ, a1, a2, a3, a4, a5⟩ := grow_any (b := 4) (by decide) (hgo _ _ hX) (ys := [[.int .i32 n]]) (by simp [pick]; omega) he rfl (by simp) rfl
          obtain ⟨d, rfl, hd⟩ := hnil τ v a5
          have q0 : ∀ c c' : List AV, hget (hpush (hpush σ c) c') 0 = some tabC := fun c c' => push_old (push_old g0)
          have qA : ∀ c c' : List AV, hget (hpush (hpush σ c) c') A = some (atC at_).flatten := fun c c' => push_old (push_old gA)
          have fr : ∀ j c, hget σ j = some c → hget τ j = some c ∧ d ≠ j := fun j c hj => by
            obtain ⟨b1, b2⟩ := a4 j c (push_old (push_old hj)) (by have := hget_lt hj; simp only [LvD, ne_eq, Option.some.injEq, push_len]; omega)
            exact ⟨b1, fun h => b2 (by rw [← h]; rfl)⟩
          have s0 := (fr _ _ g0).1
          simp only [U50_app, Z50, x50_104, x50_105, x50_108, x50_109, x50_111, x50_116, base1, ↓reduceIte, Nat.reduceAdd, Nat.reduceSub, Nat.reduceMul, Nat.reduceEqDiff, Nat.reduceLeDiff, Nat.reduceLT, Int.reduceLT, Int.reduceLE, Int.reduceEq, Int.reduceNe, Int.reduceToNat, Int.reduceAdd, Int.reduceSub, reduceCtorEq, Nat.reduceBEq, Nat.reduceBNe, lenOf_imm, loopR_exit, loopR_ret, q0, qA, haa, a1, a2, a3, s0]
          refine ⟨d, pick l used ++ [n], by rw [List.length_append]; rfl, hd, hpick, ?_⟩
          simp only [U50_app, Z50, x50_104, x50_105, x50_108, x50_109, x50_111, x50_116, base1, ↓reduceIte, Nat.reduceAdd, Nat.reduceSub, Nat.reduceMul, Nat.reduceEqDiff, Nat.reduceLeDiff, Nat.reduceLT, Int.reduceLT, Int.reduceLE, Int.reduceEq, Int.reduceNe, Int.reduceToNat, Int.reduceAdd, Int.reduceSub, reduceCtorEq, Nat.reduceBEq, Nat.reduceBNe, lenOf_imm, loopR_exit, loopR_ret]
          exact tail _ _ (fun j c hj => (kill_other (fr j c hj).2).trans (fr j c hj).1) ⟨e2, e6, e8, e9, e10⟩ e11 e14 e18 e19 e20 rfl rfl
  · have hke : k = at_.length := by omega
    have hT' : T = (used, b) := by
      rw [← hT, show at_.length - k = 0 by omega]; rfl
    simp only [U50_app, Z50, x50_80, x50_104, x50_105, x50_108, x50_109, x50_111, x50_116, base1, ↓reduceIte, Nat.reduceAdd, Nat.reduceSub, Nat.reduceMul, Nat.reduceEqDiff, Nat.reduceLeDiff, Nat.reduceLT, Int.reduceLT, Int.reduceLE, Int.reduceEq, Int.reduceNe, Int.reduceToNat, Int.reduceAdd, Int.reduceSub, reduceCtorEq, Nat.reduceBEq, Nat.reduceBNe, lenOf_imm, loopR_exit, loopR_ret, e2, e6, e8, e9, e10, e11, e14, e18, e19, e20, l0, hlt']
    exact hQ _ _ Uv ⟨hkp, hA, gA, ⟨e2, e6, e8, e9, e10⟩, e11⟩ (by rw [hT']; exact hg) hnw hUA (by rw [hT']; exact hus) (by rw [hT']; show used.length ≤ _; omega) (by rw [hT']; exact hb0) (by rw [hT']; exact hb5) (by rw [hT']; exact e14) e18
/-! They are gone. -/
def mkI (l : List Int) (G : Nat) (Ov : AV) (i : Nat) (used : List Nat) (σ0 : AHeap) (b : Int) (Tg : List Bool) (m : Nat) (e : Env) (σ : AHeap) : Prop :=
  ∃ (k : Nat) (gone : List Bool) (Uv : AV), k ≤ used.length ∧ m = used.length - k ∧ (∀ j c, hget σ0 j = some c → j ≠ G → hget σ j = some c) ∧ gone.length = l.length ∧ hget σ G = some (goC gone) ∧ Grow σ Uv 1 (atC used) ∧ LvD Uv ≠ some G ∧ markS gone (used.drop k) = Tg ∧ beE l G Ov i e ∧ e 14 = .int .i64 b ∧ e 18 = Uv ∧ e 23 = .int .i64 (k : Int)
theorem mk_step (l : List Int) (hl : l.length ≤ 10000) (G : Nat) (Ov : AV) (i : Nat) (used : List Nat) (hus : ∀ a ∈ used, a < l.length) (hul : used.length ≤ 10000) (σ0 : AHeap) (b : Int) (Tg : List Bool)
    (hQ : ∀ e σ, (∀ j c, hget σ0 j = some c → j ≠ G → hget σ j = some c) → Tg.length = l.length → hget σ G = some (goC Tg) → beE l G Ov i e → e 14 = .int .i64 b → unw U50 0 R kk (.normal) e σ) (m : Nat) (e : Env) (σ : AHeap) (h : mkI l G Ov i used σ0 b Tg m e σ) :
    sC U50 0 b50_100 (unw U50 0 (loopR U50 0 R (.block 8 kk) (mkI l G Ov i used σ0 b Tg) m) .fin) e σ := by
  obtain ⟨k, gone, Uv, hk, hm, hkp, hgl, hG, hg, hUG, hT, ⟨e2, e6, e8, e9, e10⟩, e14, e18, e23⟩ := h
  have lu : (atC used).length = used.length := by simp
  have hls : lenSl Uv = some used.length := grow_lenS ⟨hg, lu⟩
  have hwr : IntKind.wrap .i64 ((k : Int) + 1) = ((k + 1 : Nat) : Int) := by rw [Gz.wrap64 (by omega)]; omega
  by_cases hlt' : (k : Int) < (used.length : Int)
  · have hlt : k < used.length := by omega
    have hge0 : (0 : Int) ≤ (k : Int) := by omega
    obtain ⟨a, ha⟩ : ∃ a, used[k]? = some a := ⟨_, List.getElem?_eq_getElem hlt⟩
    have hal := hus a (List.mem_of_getElem? ha)
    have ha1 : (a : Int) < (l.length : Int) := by omega
    have ha0 : (0 : Int) ≤ (a : Int) := by omega
    have haa : (atC used).flatten[k]? = some (.int .i64 (a : Int)) := by rw [at_flat, List.getElem?_map, ha]; rfl
    rcases hg with ⟨_, h⟩ | ⟨d, rfl, hd, h1, hc⟩
    · have := congrArg List.length h
      rw [lu, List.length_nil] at this; omega
    rw [lu] at e18 hls
    have l0 : lenOf (.slice d 0 used.length none 1) = some used.length := rfl
    have hdG : d ≠ G := fun h => hUG (by rw [h]; rfl)
    have p1 : put (goC gone) a [.bool true] = some (goC (gone.set a true)) := by rw [put_one1 (by simp; omega), goC, goC, List.map_set]
    have hT2 : markS (gone.set a true) (used.drop (k + 1)) = Tg := by
      rw [← hT, List.drop_eq_getElem_cons hlt]
      have : used[k] = a := by rw [List.getElem?_eq_getElem hlt] at ha; exact Option.some.inj ha
      rw [this]; rfl
    simp only [U50_app, Z50, x50_80, x50_104, x50_105, x50_108, x50_109, x50_111, x50_116, base1, ↓reduceIte, Nat.reduceAdd, Nat.reduceSub, Nat.reduceMul, Nat.reduceEqDiff, Nat.reduceLeDiff, Nat.reduceLT, Int.reduceLT, Int.reduceLE, Int.reduceEq, Int.reduceNe, Int.reduceToNat, Int.reduceAdd, Int.reduceSub, reduceCtorEq, Nat.reduceBEq, Nat.reduceBNe, lenOf_imm, loopR_exit, loopR_ret, e2, e6, e8, e9, e10, e14, e18, e23, l0, hlt', hlt, hge0, Int.toNat_natCast, hd, haa, ha1, ha0, hal, hG, p1, hwr]
    rw [loopR_normal]
    refine ⟨used.length - (k + 1), _, _, by omega, .refl _ _ _, k + 1, gone.set a true, .slice d 0 used.length none 1, hlt, rfl, fun j c hj hjG => by rw [set_other (fun h => hjG h.symm)]; exact hkp j c hj hjG, by simp; exact hgl, set_same hG, .inr ⟨d, by rw [lu], by rw [set_other (fun h => hdG h.symm)]; exact hd, h1, hc⟩, hUG, hT2, ⟨e2, e6, e8, e9, e10⟩, e14, e18, rfl⟩
  · have hT' : Tg = gone := by rw [← hT, List.drop_eq_nil_of_le (by omega)]; rfl
    simp only [U50_app, Z50, x50_80, x50_104, x50_105, x50_108, x50_109, x50_111, x50_116, base1, ↓reduceIte, Nat.reduceAdd, Nat.reduceSub, Nat.reduceMul, Nat.reduceEqDiff, Nat.reduceLeDiff, Nat.reduceLT, Int.reduceLT, Int.reduceLE, Int.reduceEq, Int.reduceNe, Int.reduceToNat, Int.reduceAdd, Int.reduceSub, reduceCtorEq, Nat.reduceBEq, Nat.reduceBNe, lenOf_imm, loopR_exit, loopR_ret, e2, e6, e8, e9, e10, e14, e18, e23, hls, Option.map_some, hlt']
    exact hQ _ _ hkp (by rw [hT']; exact hgl) (by rw [hT']; exact hG) ⟨e2, e6, e8, e9, e10⟩ e14
end
/-! All of them. -/
theorem rows_to {b : Int} (h0 : 0 ≤ b) (h5 : b < 5) : ∃ (r : Int) (x : El), rowsR[b.toNat]? = some (rowR r x.1 x.2.1 x.2.2) ∧ rowTo b = [x] := by
  have : b = 0 ∨ b = 1 ∨ b = 2 ∨ b = 3 ∨ b = 4 := by omega
  rcases this with rfl | rfl | rfl | rfl | rfl
  · exact ⟨97, (10, 32, 2), rfl, rfl⟩
  · exact ⟨98, (11, 32, 2), rfl, rfl⟩
  · exact ⟨99, (12, 32, 2), rfl, rfl⟩
  · exact ⟨101, (13, 32, 2), rfl, rfl⟩
  · exact ⟨769, (0, 41, 2), rfl, rfl⟩
def ElQ (es : List El) (r : AV) (σ : AHeap) : Prop := Frz σ r (.tuple [.imm (elC es) false false, .int .i64 0])
theorem el_len1 (es : List El) : ∀ r ∈ elC es, r.length = 3 := fun r hr => by
  obtain ⟨b, _, rfl⟩ := List.mem_map.1 hr
  rfl
theorem el_pure (es : List El) : pureLL (elC es) = true := pureLL_of fun r hr => by
  obtain ⟨b, _, rfl⟩ := List.mem_map.1 hr
  rfl
def ouI (l : List Int) (G : Nat) (T : List El) (m : Nat) (e : Env) (σ : AHeap) : Prop :=
  ∃ (i : Nat) (gone : List Bool) (out : List El) (Ov : AV), i ≤ l.length ∧ m = l.length - i ∧ gone.length = l.length ∧ hget σ 0 = some tabC ∧ hget σ G = some (goC gone) ∧ G ≠ 0 ∧ Grow σ Ov 3 (elC out) ∧ LvD Ov ≠ some 0 ∧ LvD Ov ≠ some G ∧ out.length ≤ 2 * i ∧ elS l (l.length - i) i gone out = T ∧ beE l G Ov i e
/-- Behind one rune: the next one. -/
def nxE (l : List Int) (G : Nat) (T : List El) (i : Nat) (gone : List Bool) (out : List El) (Ov : AV) (e : Env) (σ : AHeap) : Prop :=
  gone.length = l.length ∧ hget σ 0 = some tabC ∧ hget σ G = some (goC gone) ∧ Grow σ Ov 3 (elC out) ∧ LvD Ov ≠ some 0 ∧ LvD Ov ≠ some G ∧ out.length ≤ 2 * (i + 1) ∧ elS l (l.length - (i + 1)) (i + 1) gone out = T ∧ e 2 = .ptr 0 0 ∧ e 6 = .imm (rnC l) false false ∧ e 8 = .slice G 0 l.length (some l.length) 1 ∧ e 9 = Ov ∧ e 10 = .int .i64 (i : Int)
abbrev LR50 (l : List Int) (G : Nat) (T : List El) (m : Nat) : MExit → Env → AHeap → Prop := loopR U50 0 (RetQ [.t 4, .t 5] (ElQ T)) (.block 0 (.seq b50_123 .fin)) (ouI l G T) m
theorem ou_next {l : List Int} (hl : l.length ≤ 5000) {G : Nat} (hG0 : G ≠ 0) {T : List El} {m i : Nat} (hlt : i < l.length) (hm : m = l.length - i) {gone : List Bool} {out : List El} {Ov : AV} {e : Env} {σ : AHeap} (h : nxE l G T i gone out Ov e σ) :
    sC U50 0 b50_116 (unw U50 0 (LR50 l G T m) .fin) e σ := by
  obtain ⟨hgl, h0, hG, hg, dO0, dOG, hol, hT, e2, e6, e8, e9, e10⟩ := h
  have hwr : IntKind.wrap .i64 ((i : Int) + 1) = ((i + 1 : Nat) : Int) := by rw [Gz.wrap64 (by omega)]; omega
  simp only [U50_app, Z50, x50_80, x50_104, x50_105, x50_108, x50_109, x50_111, x50_116, base1, ↓reduceIte, Nat.reduceAdd, Nat.reduceSub, Nat.reduceMul, Nat.reduceEqDiff, Nat.reduceLeDiff, Nat.reduceLT, Int.reduceLT, Int.reduceLE, Int.reduceEq, Int.reduceNe, Int.reduceToNat, Int.reduceAdd, Int.reduceSub, reduceCtorEq, Nat.reduceBEq, Nat.reduceBNe, LR50, loopR_exit, loopR_ret, e2, e6, e8, e9, e10, hwr]
  rw [loopR_normal]
  exact ⟨l.length - (i + 1), _, _, by omega, .refl _ _ _, i + 1, gone, out, Ov, hlt, rfl, hgl, h0, hG, hG0, hg, dO0, dOG, hol, hT, ⟨e2, e6, e8, e9, rfl⟩⟩
/-- It is implied. -/
theorem ou_imp {l : List Int} (hl : l.length ≤ 5000) {G : Nat} (hG0 : G ≠ 0) {T : List El} {m i : Nat} (hlt : i < l.length) (hm : m = l.length - i) {gone : List Bool} {out : List El} {Ov : AV} {e : Env} {σ : AHeap} {b : Int} (hb : b < 0)
    (hgl : gone.length = l.length) (h0 : hget σ 0 = some tabC) (hG : hget σ G = some (goC gone)) (hg : Grow σ Ov 3 (elC out)) (dO0 : LvD Ov ≠ some 0) (dOG : LvD Ov ≠ some G) (hol : out.length ≤ 2 * i) (hT : elS l (l.length - (i + 1)) (i + 1) gone (out ++ [(imp1 (rn1 l i), 32, 2), (imp2 (rn1 l i), 0, 0)]) = T) (he : beE l G Ov i e) (e14 : e 14 = .int .i64 b) :
    sC U50 0 b50_109 (unw U50 0 (LR50 l G T m) (.block 1 (.seq b50_116 .fin))) e σ := by
  obtain ⟨e2, e6, e8, e9, e10⟩ := he
  have ll : (rnC l).length = l.length := by simp
  have hlt' : (i : Int) < (l.length : Int) := by omega
  have hge0 : (0 : Int) ≤ (i : Int) := by omega
  obtain ⟨n, hn⟩ : ∃ n, l[i]? = some n := ⟨_, List.getElem?_eq_getElem hlt⟩
  have hr1 : rn1 l i = n := by rw [rn1, hn]; rfl
  rw [hr1] at hT
  have hnn : (rnC l)[i]? = some [.int .i32 n] := by rw [rnC, List.getElem?_map, hn]; rfl
  simp only [U50_app, Z50, x50_80, x50_104, x50_105, x50_109, x50_111, base1, ↓reduceIte, Nat.reduceAdd, Nat.reduceSub, Nat.reduceMul, Nat.reduceEqDiff, Nat.reduceLeDiff, Nat.reduceLT, Int.reduceLT, Int.reduceLE, Int.reduceEq, Int.reduceNe, Int.reduceToNat, Int.reduceAdd, Int.reduceSub, reduceCtorEq, Nat.reduceBEq, Nat.reduceBNe, LR50, lenOf_imm, loopR_exit, loopR_ret, e2, e6, e8, e9, e10, e14, hb, ll, hlt, hlt', hge0, Int.toNat_natCast, hnn]
  refine ⟨n, rfl, ?_⟩
  have gn : ∀ c d : List AV, hget (hset (hpush σ c) σ.length d) σ.length = some d := fun c d => set_same (push_new rfl)
  have pn : ∀ c : List AV, hget (hpush σ c) σ.length = some c := fun c => push_new rfl
  have pz : put ([.int .i64 0, .int .i64 0, .int .i64 0, .int .i64 0, .int .i64 0, .int .i64 0] : List AV) 0 (impC n) = some (impC n) := rfl
  have hg1 := grow_frame hg (τ := hset (hpush σ [.int .i64 0, .int .i64 0, .int .i64 0, .int .i64 0, .int .i64 0, .int .i64 0]) σ.length (impC n)) fun j c hj _ => al_frame hj
  have hgo := grow_old hg
  have he1 : ∀ σ1 : AHeap, elemsOf (hpush σ1 [.int .i64 (imp1 n), .int .i64 32, .int .i64 2, .int .i64 (imp2 n), .int .i64 0, .int .i64 0]) 3 (.slice σ1.length 0 2 (some 2) 3) = some (elC [(imp1 n, 32, 2), (imp2 n, 0, 0)]).flatten := fun σ1 => by
    simp only [elemsOf, if_true, push_new rfl, Option.bind_some]; rfl
  have hg2 := grow_frame hg1 (τ := hpush (hset (hpush σ [.int .i64 0, .int .i64 0, .int .i64 0, .int .i64 0, .int .i64 0, .int .i64 0]) σ.length (impC n)) [.int .i64 (imp1 n), .int .i64 32, .int .i64 2, .int .i64 (imp2 n), .int .i64 0, .int .i64 0]) fun j c hj _ => push_old hj
  obtain ⟨v, τ, a1, a2, a3, a4, a5⟩ := grow_any (b := 24) (by decide) hg2 (ys := elC [(imp1 n, 32, 2), (imp2 n, 0, 0)]) (by simp; omega) (he1 _) rfl (el_len1 _) rfl
  have old : ∀ {j : Nat} {c : List AV}, hget σ j = some c → hget (hpush (hset (hpush σ [.int .i64 0, .int .i64 0, .int .i64 0, .int .i64 0, .int .i64 0, .int .i64 0]) σ.length (impC n)) [.int .i64 (imp1 n), .int .i64 32, .int .i64 2, .int .i64 (imp2 n), .int .i64 0, .int .i64 0]) j = some c := fun hj => push_old (al_frame hj)
  simp only [U50_app, Z50, x50_80, x50_104, x50_105, x50_109, x50_111, base1, ↓reduceIte, Nat.reduceAdd, Nat.reduceSub, Nat.reduceMul, Nat.reduceEqDiff, Nat.reduceLeDiff, Nat.reduceLT, Int.reduceLT, Int.reduceLE, Int.reduceEq, Int.reduceNe, Int.reduceToNat, Int.reduceAdd, Int.reduceSub, reduceCtorEq, Nat.reduceBEq, Nat.reduceBNe, LR50, loopR_exit, loopR_ret, e2, e6, e8, e9, e10, pn, gn, pz, a1, a2, a3]
  exact ou_next hl hG0 hlt hm ⟨hgl, (a4 _ _ (old h0) dO0).1, (a4 _ _ (old hG) dOG).1, by rw [elC, List.map_append]; exact a5, (a4 _ _ (old h0) dO0).2, (a4 _ _ (old hG) dOG).2, by simp; omega, hT, e2, e6, e8, rfl, e10⟩
/-- A row, and what joins it. -/
theorem ou_row {l : List Int} (hl : l.length ≤ 5000) {G : Nat} (hG0 : G ≠ 0) {T : List El} {m i : Nat} (hlt : i < l.length) (hm : m = l.length - i) {gone : List Bool} {out : List El} {Ov : AV} {A : Nat} {at_ : List Nat} (hat : ∀ a ∈ at_, a < l.length) (hal : at_.length ≤ l.length) {σ0 : AHeap} {e : Env} {σ : AHeap} {n : Nat} {b : Int} (hb : 0 ≤ b) (hb5 : b < 5) (hn1 : 1 ≤ n) (hn : n ≤ at_.length)
    (hgl : gone.length = l.length) (h0 : hget σ0 0 = some tabC) (hG : hget σ0 G = some (goC gone)) (hg : Grow σ0 Ov 3 (elC out)) (dO0 : LvD Ov ≠ some 0) (dOG : LvD Ov ≠ some G) (hol : out.length ≤ 2 * i)
    (hT : elS l (l.length - (i + 1)) (i + 1) (markS gone (inS l at_ (at_.length - n) n (at_.take n) b 0).1) (out ++ rowTo (inS l at_ (at_.length - n) n (at_.take n) b 0).2) = T) (he : atE l G Ov i A at_ σ0 e σ) (e13 : e 13 = .int .i64 (n : Int)) (e14 : e 14 = .int .i64 b) :
    sC U50 0 b50_108 (unw U50 0 (LR50 l G T m) (.block 1 (.seq b50_116 .fin))) e σ := by
  obtain ⟨kp, hA, gA, ⟨e2, e6, e8, e9, e10⟩, e11⟩ := he
  have htl : (at_.take n).length = n := by rw [List.length_take]; omega
  have x1 : evSlice 1 (.slice A 0 at_.length none 1) none (some (.int .i64 (n : Int))) none = some (.slice A 0 n none 1) := ev_to (by omega)
  have he1 : elemsOf σ 1 (.slice A 0 n none 1) = some (atC (at_.take n)).flatten := by
    simp only [elemsOf, if_true, gA, Option.bind_some, Nat.mul_one]; exact at_sub at_ (by omega)
  obtain ⟨v, τ, a1, a2, a3, a4, a5⟩ := grow_any (σ := σ) (Lv := .nilslice) (w := 1) (b := 8) (rows := []) (by decide) (.inl ⟨rfl, rfl⟩) (ys := atC (at_.take n)) (x := .slice A 0 n none 1) (by simp; omega) he1 (by show some n = some (atC (at_.take n)).length; rw [List.length_map, htl]) (at_len1 _) (at_cell _)
  rw [List.nil_append] at a5
  have kpt : Kp σ τ := fun j c hj => (a4 j c hj (by simp [LvD])).1
  have vnew : ∀ j c, hget σ j = some c → LvD v ≠ some j := fun j c hj => (a4 j c hj (by simp [LvD])).2
  simp only [U50_app, Z50, x50_80, x50_104, x50_108, x50_109, x50_111, base1, ↓reduceIte, Nat.reduceAdd, Nat.reduceSub, Nat.reduceMul, Nat.reduceEqDiff, Nat.reduceLeDiff, Nat.reduceLT, Int.reduceLT, Int.reduceLE, Int.reduceEq, Int.reduceNe, Int.reduceToNat, Int.reduceAdd, Int.reduceSub, reduceCtorEq, Nat.reduceBEq, Nat.reduceBNe, LR50, loopR_exit, loopR_ret, e2, e6, e8, e9, e10, e11, e13, e14, x1, a1, a2, a3]
  refine sC_inv (a := b50_88) (inI l G Ov i A at_ σ0 (inS l at_ (at_.length - n) n (at_.take n) b 0)) (at_.length - n) _ _ (.refl _ _ _)
    ⟨n, at_.take n, v, b, 0, hn, rfl, ⟨kp.trans kpt, hA, kpt _ _ gA, ⟨e2, e6, e8, e9, e10⟩, e11⟩, a5, fun j c hj => vnew j c (kp j c hj), vnew _ _ gA, fun a ha => hat a (List.mem_of_mem_take ha), by intro h; rw [h] at htl; simp at htl; omega, by omega, rfl, hb, hb5, e14, rfl, rfl, rfl⟩
    (in_step l (by omega) G Ov i A at_ hat (by omega) σ0 h0 _ fun e' σ' Uv he' hgU hnU hUA hus hul hx0 hx5 f14 f18 => ?_)
  obtain ⟨kp', _, gA', ⟨f2, f6, f8, f9, f10⟩, f11⟩ := he'
  generalize inS l at_ (at_.length - n) n (at_.take n) b 0 = ub at hT hgU hus hul hx0 hx5 f14
  simp only [U50_app, Z50, x50_80, x50_105, x50_108, x50_109, x50_111, base1, ↓reduceIte, Nat.reduceAdd, Nat.reduceSub, Nat.reduceMul, Nat.reduceEqDiff, Nat.reduceLeDiff, Nat.reduceLT, Int.reduceLT, Int.reduceLE, Int.reduceEq, Int.reduceNe, Int.reduceToNat, Int.reduceAdd, Int.reduceSub, reduceCtorEq, Nat.reduceBEq, Nat.reduceBNe, LR50, loopR_exit, loopR_ret]
  refine sC_inv (a := b50_100) (mkI l G Ov i ub.1 σ' ub.2 (markS gone ub.1)) ub.1.length _ _ (.refl _ _ _)
    ⟨0, gone, Uv, Nat.zero_le _, rfl, fun j c hj _ => hj, hgl, kp' _ _ hG, hgU, hnU _ _ hG, rfl, ⟨f2, f6, f8, f9, f10⟩, f14, f18, rfl⟩
    (mk_step l (by omega) G Ov i ub.1 hus (by omega) σ' ub.2 _ fun e2' σ2 hk2 hgl2 hG2 ⟨g2, g6, g8, g9, g10⟩ g14 => ?_)
  obtain ⟨r, x, hrow, hto⟩ := rows_to hx0 hx5
  rw [hto] at hT
  have hb' : ∃ k : Nat, ub.2 = (k : Int) := ⟨ub.2.toNat, by omega⟩
  obtain ⟨q, hq⟩ := hb'
  rw [hq] at g14 hrow
  rw [Int.toNat_natCast] at hrow
  have q5' : (q : Int) < 5 := by omega
  have q5 : q < 5 := by omega
  have q0 : (0 : Int) ≤ (q : Int) := by omega
  have l5 : rowsR.length = 5 := rfl
  have h02 : hget σ2 0 = some tabC := hk2 _ _ (kp' _ _ h0) (fun h => hG0 h.symm)
  have t1 : tabC[1]? = some (.imm rowsR false false) := rfl
  have hg2 := grow_frame hg (τ := σ2) fun j c hj hd => hk2 _ _ (kp' _ _ hj) (fun h => dOG (by rw [hd, h]))
  have hrl : (rowR r x.1 x.2.1 x.2.2).length = 2 := rfl
  have he2 : elemsOf σ2 3 (.imm [[.int .i64 x.1, .int .i64 x.2.1, .int .i64 x.2.2]] false false) = some (elC [x]).flatten := rfl
  obtain ⟨v2, τ2, b1, b2, b3, b4, b5⟩ := grow_any (b := 24) (by decide) hg2 (ys := elC [x]) (by simp; omega) he2 rfl (el_len1 _) rfl
  simp only [U50_app, Z50, x50_80, x50_104, x50_105, x50_108, x50_109, x50_111, base1, ↓reduceIte, Nat.reduceAdd, Nat.reduceSub, Nat.reduceMul, Nat.reduceEqDiff, Nat.reduceLeDiff, Nat.reduceLT, Int.reduceLT, Int.reduceLE, Int.reduceEq, Int.reduceNe, Int.reduceToNat, Int.reduceAdd, Int.reduceSub, reduceCtorEq, Nat.reduceBEq, Nat.reduceBNe, LR50, lenOf_imm, loopR_exit, loopR_ret, g2, g6, g8, g9, g10, g14, h02, t1, l5, q5, q5', q0, Int.toNat_natCast, hrow, b1, b2, b3]
  exact ou_next hl hG0 hlt hm ⟨hgl2, (b4 _ _ h02 dO0).1, (b4 _ _ hG2 dOG).1, by rw [elC, List.map_append]; exact b5, (b4 _ _ h02 dO0).2, (b4 _ _ hG2 dOG).2, by simp; omega, hT, g2, g6, g8, rfl, g10⟩
theorem ou_step (l : List Int) (hl : l.length ≤ 5000) (G : Nat) (T : List El) (m : Nat) (e : Env) (σ : AHeap) (h : ouI l G T m e σ) :
    sC U50 0 b50_118 (unw U50 0 (loopR U50 0 (RetQ [.t 4, .t 5] (ElQ T)) (.block 0 (.seq b50_123 .fin)) (ouI l G T) m) .fin) e σ := by
  obtain ⟨i, gone, out, Ov, hi, hm, hgl, h0, hG, hG0, hg, dO0, dOG, hol, hT, ⟨e2, e6, e8, e9, e10⟩⟩ := h
  have ll : (rnC l).length = l.length := by simp
  have hwr : IntKind.wrap .i64 ((i : Int) + 1) = ((i + 1 : Nat) : Int) := by rw [Gz.wrap64 (by omega)]; omega
  rcases Nat.lt_or_ge i l.length with hlt | hge
  · have hlt' : (i : Int) < (l.length : Int) := by omega
    have hge0 : (0 : Int) ≤ (i : Int) := by omega
    obtain ⟨b, hb⟩ : ∃ b, gone[i]? = some b := ⟨_, List.getElem?_eq_getElem (by omega)⟩
    have hgb : (goC gone)[i]? = some (.bool b) := by rw [goC, List.getElem?_map, hb]; rfl
    have hif : isFree gone i = !b := by unfold isFree; rw [hb]; rfl
    rw [show l.length - i = (l.length - (i + 1)) + 1 by omega, elS, hif] at hT
    cases b with
    | true =>
      rw [if_pos (by rfl)] at hT
      simp only [U50_app, Z50, x50_80, x50_104, x50_105, x50_108, x50_109, x50_111, x50_116, base1, ↓reduceIte, Nat.reduceAdd, Nat.reduceSub, Nat.reduceMul, Nat.reduceEqDiff, Nat.reduceLeDiff, Nat.reduceLT, Int.reduceLT, Int.reduceLE, Int.reduceEq, Int.reduceNe, Int.reduceToNat, Int.reduceAdd, Int.reduceSub, reduceCtorEq, Nat.reduceBEq, Nat.reduceBNe, lenOf_imm, loopR_exit, loopR_ret, e2, e6, e8, e9, e10, ll, hlt, hlt', hge0, Int.toNat_natCast, hG, hgb, hwr]
      rw [loopR_normal]
      exact ⟨l.length - (i + 1), _, _, by omega, .refl _ _ _, i + 1, gone, out, Ov, hlt, rfl, hgl, h0, hG, hG0, hg, dO0, dOG, by omega, hT, ⟨e2, e6, e8, e9, rfl⟩⟩
    | false =>
      rw [if_neg (by simp)] at hT
      simp only [U50_app, Z50, x50_80, x50_104, x50_105, x50_108, x50_109, x50_116, base1, ↓reduceIte, Nat.reduceAdd, Nat.reduceSub, Nat.reduceMul, Nat.reduceEqDiff, Nat.reduceLeDiff, Nat.reduceLT, Int.reduceLT, Int.reduceLE, Int.reduceEq, Int.reduceNe, Int.reduceToNat, Int.reduceAdd, Int.reduceSub, reduceCtorEq, Nat.reduceBEq, Nat.reduceBNe, lenOf_imm, loopR_exit, loopR_ret, e2, e6, e8, e9, e10, ll, hlt, hlt', hge0, Int.toNat_natCast, hG, hgb]
      refine sC_inv (a := b50_33) (frI l G Ov i gone σ) (l.length - i) _ _ (.refl _ _ _) ⟨i, .nilslice, Nat.le_refl _, by omega, rfl, Kp.refl σ, .inl ⟨rfl, by rw [free_nil]; rfl⟩, fun j c _ h => by (simp [LvD] at h), ⟨e2, e6, e8, e9, e10⟩, rfl, rfl⟩ (fr_step l (by omega) G Ov i gone hgl σ hG fun e' σ' Lv kp hgA hnw ⟨f2, f6, f8, f9, f10⟩ f11 => ?_)
      have him : i ∈ freeS gone i l.length := List.mem_filter.2 ⟨List.mem_range.2 hlt, by rw [hif]; simp⟩
      have hfm : ∀ a ∈ freeS gone i l.length, a < l.length := fun a ha => (free_mem ha).2
      have hfl := free_len gone i l.length
      dsimp only at hT
      generalize freeS gone i l.length = at_ at hT him hfm hfl hgA
      rcases hgA with ⟨_, h⟩ | ⟨A, rfl, gA, h1, hc⟩
      · cases at_ with
        | nil => cases him
        | cons => cases h
      rw [show (atC at_).length = at_.length by simp] at f11
      have hnA : ∀ j c, hget σ j = some c → A ≠ j := fun j c hj h => hnw j c hj (by rw [← h]; rfl)
      simp only [U50_app, Z50, x50_80, x50_104, x50_105, x50_108, x50_111, x50_116, base1, ↓reduceIte, Nat.reduceAdd, Nat.reduceSub, Nat.reduceMul, Nat.reduceEqDiff, Nat.reduceLeDiff, Nat.reduceLT, Int.reduceLT, Int.reduceLE, Int.reduceEq, Int.reduceNe, Int.reduceToNat, Int.reduceAdd, Int.reduceSub, reduceCtorEq, Nat.reduceBEq, Nat.reduceBNe, loopR_exit, loopR_ret]
      refine sC_inv (a := b50_51) (blI l G Ov i A at_ σ (beS l at_ 3 1 (0, -1))) 3 _ _ (.refl _ _ _) ⟨1, 0, -1, Nat.le_refl _, by decide, rfl, ⟨kp, hnA, gA, ⟨f2, f6, f8, f9, f10⟩, f11⟩, rfl, Nat.zero_le _, .inl (by decide), by decide, rfl, rfl, rfl⟩
        (bl_step l (by omega) G Ov i A at_ hfm (by omega) σ h0 _ fun e2 σ2 he2 hb1 hb2 hb5 g13 g14 => ?_)
      have he2' := he2
      obtain ⟨kp2, _, gA2, be2, g11⟩ := he2'
      generalize beS l at_ 3 1 (0, -1) = nb at hT hb1 hb2 hb5 g13 g14
      by_cases hneg : nb.2 < 0
      · rw [if_pos hneg] at hT
        exact ou_imp hl hG0 hlt hm hneg hgl (kp2 _ _ h0) (kp2 _ _ hG) (grow_frame hg fun j c hj _ => kp2 j c hj) dO0 dOG hol hT be2 g14
      · rw [if_neg hneg] at hT
        have g14' := g14
        obtain ⟨k2, k6, k8, k9, k10⟩ := be2
        simp only [U50_app, Z50, x50_80, x50_104, x50_105, x50_109, x50_111, x50_116, base1, ↓reduceIte, Nat.reduceAdd, Nat.reduceSub, Nat.reduceMul, Nat.reduceEqDiff, Nat.reduceLeDiff, Nat.reduceLT, Int.reduceLT, Int.reduceLE, Int.reduceEq, Int.reduceNe, Int.reduceToNat, Int.reduceAdd, Int.reduceSub, reduceCtorEq, Nat.reduceBEq, Nat.reduceBNe, loopR_exit, loopR_ret, g14, hneg]
        exact ou_row hl hG0 hlt hm hfm (by omega) (by omega) hb5 (by omega) hb1 hgl h0 hG hg dO0 dOG hol hT ⟨kp2, hnA, gA2, ⟨k2, k6, k8, k9, k10⟩, g11⟩ g13 g14
  · have hlt' : ¬ (i : Int) < (l.length : Int) := by omega
    rw [show l.length - i = 0 by omega] at hT
    have hT : out = T := hT
    subst hT
    simp only [U50_app, Z50, x50_80, x50_104, x50_105, x50_108, x50_109, x50_111, x50_116, base1, ↓reduceIte, Nat.reduceAdd, Nat.reduceSub, Nat.reduceMul, Nat.reduceEqDiff, Nat.reduceLeDiff, Nat.reduceLT, Int.reduceLT, Int.reduceLE, Int.reduceEq, Int.reduceNe, Int.reduceToNat, Int.reduceAdd, Int.reduceSub, reduceCtorEq, Nat.reduceBEq, Nat.reduceBNe, lenOf_imm, loopR_exit, loopR_ret, e2, e6, e8, e9, e10, ll, hlt']
    refine .tuple rfl (fun j y z hy hz => ?_)
    match j with
    | 0 => simp at hy hz; subst hy; subst hz; exact grow_frz hg (el_pure out)
    | 1 => simp at hy hz; subst hy; subst hz; exact .pure rfl
    | n + 2 => simp at hy
end Go.Proofs.Ytmjnmnhpmbbmgaa.tour

/- Elements of a text; their levels; the key they make. No condition. -/
set_option linter.unusedVariables false
set_option linter.unusedSimpArgs false
namespace Go.Proofs.Ytmjnmnhpmbbmgaa.tour
open Go.ChangeShapes Go.WideShapes Go.ChangeAt Go.RowKit Go.Gz Go.Gz.H
abbrev r51_0 : List MOper := [⟨(some 2), .box (.t 0), none⟩,
  ⟨(some 4), .alloc [.nilslice, .nilslice, .nilslice, .nilslice], none⟩]
def b51_0 : SCode := .region r51_0
abbrev r51_1 : List MOper := [⟨(some 5), .alloc [.nilslice, .nilslice, .nilslice, .nilslice], none⟩]
def b51_1 : SCode := .region r51_1
abbrev r51_2 : List MOper := [⟨(some 6), .move (.c (.bool false)), none⟩]
def b51_2 : SCode := .region r51_2
abbrev r51_3 : List MOper := [⟨(some 7), .move (.c (.int .i64 0)), none⟩]
def b51_3 : SCode := .region r51_3
abbrev r51_4 : List MOper := [⟨(some 11), .move (.t 7), none⟩,
  ⟨(some 12), .move (.t 1), none⟩,
  ⟨(some 13), .lenSl (.t 12), none⟩,
  ⟨(some 14), .bin .lss .num (.t 11) (.t 13), none⟩]
def b51_4 : SCode := .region r51_4
def b51_5 : SCode := .cond (.t 14) .skip (.exit 0)
def b51_6 : SCode := .seq b51_4 b51_5
abbrev r51_7 : List MOper := [⟨(some 17), .move (.t 1), none⟩,
  ⟨(some 18), .move (.t 7), none⟩,
  ⟨(some 19), .indexAddr 3 (.t 17) (.t 18), none⟩,
  ⟨(some 20), .loadN 3 (.t 19), none⟩,
  ⟨(some 8), .alloc [.int .i64 0, .int .i64 0, .int .i64 0], none⟩,
  ⟨none, .store 3 (.t 8) (.t 20), none⟩]
def b51_7 : SCode := .region r51_7
abbrev r51_8 : List MOper := [⟨(some 21), .fieldAddr 3 (.t 2), none⟩,
  ⟨(some 22), .load1 (.t 21), none⟩,
  ⟨(some 23), .move (.t 22), none⟩,
  ⟨(some 24), .fieldAddr 0 (.t 8), (some (23, true))⟩,
  ⟨(some 25), .load1 (.t 24), (some (23, true))⟩,
  ⟨(some 26), .bin .geq .num (.t 25) (.c (.int .i64 1)), (some (23, true))⟩,
  ⟨(some 27), .pick (.t 23) (.t 26) (.c (.bool false)), none⟩,
  ⟨(some 28), .move (.t 27), none⟩,
  ⟨(some 29), .fieldAddr 0 (.t 8), (some (28, true))⟩,
  ⟨(some 30), .load1 (.t 29), (some (28, true))⟩,
  ⟨(some 31), .fieldAddr 2 (.t 2), (some (28, true))⟩,
  ⟨(some 32), .load1 (.t 31), (some (28, true))⟩,
  ⟨(some 33), .bin .leq .num (.t 30) (.t 32), (some (28, true))⟩,
  ⟨(some 34), .pick (.t 28) (.t 33) (.c (.bool false)), none⟩,
  ⟨(some 9), .move (.t 34), none⟩]
def b51_8 : SCode := .region r51_8
abbrev r51_9 : List MOper := [⟨(some 35), .fieldAddr 3 (.t 2), none⟩,
  ⟨(some 36), .load1 (.t 35), none⟩,
  ⟨(some 37), .move (.t 36), none⟩,
  ⟨(some 38), .fieldAddr 0 (.t 8), (some (37, true))⟩,
  ⟨(some 39), .load1 (.t 38), (some (37, true))⟩,
  ⟨(some 40), .bin .eql .num (.t 39) (.c (.int .i64 0)), (some (37, true))⟩,
  ⟨(some 41), .pick (.t 37) (.t 40) (.c (.bool false)), none⟩,
  ⟨(some 42), .move (.t 41), none⟩,
  ⟨(some 43), .move (.t 6), (some (42, true))⟩,
  ⟨(some 44), .pick (.t 42) (.t 43) (.c (.bool false)), none⟩,
  ⟨(some 10), .move (.t 44), none⟩]
def b51_9 : SCode := .region r51_9
abbrev r51_10 : List MOper := [⟨(some 45), .fieldAddr 0 (.t 8), none⟩,
  ⟨(some 46), .load1 (.t 45), none⟩,
  ⟨(some 47), .bin .gtr .num (.t 46) (.c (.int .i64 0)), none⟩]
def b51_10 : SCode := .region r51_10
abbrev r51_11 : List MOper := [⟨(some 48), .move (.t 9), none⟩,
  ⟨(some 6), .move (.t 48), none⟩]
def b51_11 : SCode := .region r51_11
def b51_12 : SCode := .cond (.t 47) b51_11 .skip
def b51_13 : SCode := .seq b51_10 b51_12
abbrev r51_14 : List MOper := [⟨(some 49), .move (.t 10), none⟩]
def b51_14 : SCode := .region r51_14
def b51_15 : SCode := .cond (.t 49) (.exit 1) .skip
def b51_16 : SCode := .seq b51_14 b51_15
abbrev r51_17 : List MOper := [⟨(some 50), .move (.t 9), none⟩]
def b51_17 : SCode := .region r51_17
abbrev r51_18 : List MOper := [⟨(some 51), .indexArrAddr 4 1 (.t 5) (.c (.int .i64 3)), none⟩,
  ⟨(some 52), .load1 (.t 51), none⟩,
  ⟨(some 53), .fieldAddr 0 (.t 8), none⟩,
  ⟨(some 54), .load1 (.t 53), none⟩,
  ⟨(some 55), .buildSlice [.int .i64 0] 1 1 [(0, 1, (.t 54))], none⟩,
  ⟨(some 56), .append 1 8 (.t 52) (.t 55), none⟩,
  ⟨(some 57), .indexArrAddr 4 1 (.t 5) (.c (.int .i64 3)), none⟩,
  ⟨none, .store 1 (.t 57) (.t 56), none⟩]
def b51_18 : SCode := .region r51_18
def b51_19 : SCode := .seq b51_18 (.exit 1)
def b51_20 : SCode := .cond (.t 50) b51_19 .skip
def b51_21 : SCode := .seq b51_17 b51_20
abbrev r51_22 : List MOper := [⟨(some 58), .fieldAddr 0 (.t 8), none⟩,
  ⟨(some 59), .load1 (.t 58), none⟩,
  ⟨(some 60), .bin .gtr .num (.t 59) (.c (.int .i64 0)), none⟩]
def b51_22 : SCode := .region r51_22
abbrev r51_23 : List MOper := [⟨(some 61), .indexArrAddr 4 1 (.t 5) (.c (.int .i64 0)), none⟩,
  ⟨(some 62), .load1 (.t 61), none⟩,
  ⟨(some 63), .fieldAddr 0 (.t 8), none⟩,
  ⟨(some 64), .load1 (.t 63), none⟩,
  ⟨(some 65), .buildSlice [.int .i64 0] 1 1 [(0, 1, (.t 64))], none⟩,
  ⟨(some 66), .append 1 8 (.t 62) (.t 65), none⟩,
  ⟨(some 67), .indexArrAddr 4 1 (.t 5) (.c (.int .i64 0)), none⟩,
  ⟨none, .store 1 (.t 67) (.t 66), none⟩]
def b51_23 : SCode := .region r51_23
def b51_24 : SCode := .cond (.t 60) b51_23 .skip
def b51_25 : SCode := .seq b51_22 b51_24
abbrev r51_26 : List MOper := [⟨(some 68), .fieldAddr 1 (.t 8), none⟩,
  ⟨(some 69), .load1 (.t 68), none⟩,
  ⟨(some 70), .bin .gtr .num (.t 69) (.c (.int .i64 0)), none⟩]
def b51_26 : SCode := .region r51_26
abbrev r51_27 : List MOper := [⟨(some 71), .indexArrAddr 4 1 (.t 5) (.c (.int .i64 1)), none⟩,
  ⟨(some 72), .load1 (.t 71), none⟩,
  ⟨(some 73), .fieldAddr 1 (.t 8), none⟩,
  ⟨(some 74), .load1 (.t 73), none⟩,
  ⟨(some 75), .buildSlice [.int .i64 0] 1 1 [(0, 1, (.t 74))], none⟩,
  ⟨(some 76), .append 1 8 (.t 72) (.t 75), none⟩,
  ⟨(some 77), .indexArrAddr 4 1 (.t 5) (.c (.int .i64 1)), none⟩,
  ⟨none, .store 1 (.t 77) (.t 76), none⟩]
def b51_27 : SCode := .region r51_27
def b51_28 : SCode := .cond (.t 70) b51_27 .skip
def b51_29 : SCode := .seq b51_26 b51_28
abbrev r51_30 : List MOper := [⟨(some 78), .fieldAddr 2 (.t 8), none⟩,
  ⟨(some 79), .load1 (.t 78), none⟩,
  ⟨(some 80), .bin .gtr .num (.t 79) (.c (.int .i64 0)), none⟩]
def b51_30 : SCode := .region r51_30
abbrev r51_31 : List MOper := [⟨(some 81), .indexArrAddr 4 1 (.t 5) (.c (.int .i64 2)), none⟩,
  ⟨(some 82), .load1 (.t 81), none⟩,
  ⟨(some 83), .fieldAddr 2 (.t 8), none⟩,
  ⟨(some 84), .load1 (.t 83), none⟩,
  ⟨(some 85), .buildSlice [.int .i64 0] 1 1 [(0, 1, (.t 84))], none⟩,
  ⟨(some 86), .append 1 8 (.t 82) (.t 85), none⟩,
  ⟨(some 87), .indexArrAddr 4 1 (.t 5) (.c (.int .i64 2)), none⟩,
  ⟨none, .store 1 (.t 87) (.t 86), none⟩]
def b51_31 : SCode := .region r51_31
def b51_32 : SCode := .cond (.t 80) b51_31 .skip
def b51_33 : SCode := .seq b51_30 b51_32
abbrev r51_34 : List MOper := [⟨(some 88), .fieldAddr 3 (.t 2), none⟩,
  ⟨(some 89), .load1 (.t 88), none⟩,
  ⟨(some 90), .move (.t 89), none⟩,
  ⟨(some 91), .fieldAddr 0 (.t 8), (some (90, true))⟩,
  ⟨(some 92), .load1 (.t 91), (some (90, true))⟩,
  ⟨(some 93), .bin .gtr .num (.t 92) (.c (.int .i64 0)), (some (90, true))⟩,
  ⟨(some 94), .move (.t 93), (some (90, true))⟩,
  ⟨(some 95), .fieldAddr 2 (.t 8), (some (94, false))⟩,
  ⟨(some 96), .load1 (.t 95), (some (94, false))⟩,
  ⟨(some 97), .bin .gtr .num (.t 96) (.c (.int .i64 0)), (some (94, false))⟩,
  ⟨(some 98), .pick (.t 94) (.c (.bool true)) (.t 97), (some (90, true))⟩,
  ⟨(some 99), .pick (.t 90) (.t 98) (.c (.bool false)), none⟩]
def b51_34 : SCode := .region r51_34
abbrev r51_35 : List MOper := [⟨(some 100), .indexArrAddr 4 1 (.t 5) (.c (.int .i64 3)), none⟩,
  ⟨(some 101), .load1 (.t 100), none⟩,
  ⟨(some 102), .buildSlice [.int .i64 0] 1 1 [(0, 1, (.c (.int .i64 65535)))], none⟩,
  ⟨(some 103), .append 1 8 (.t 101) (.t 102), none⟩,
  ⟨(some 104), .indexArrAddr 4 1 (.t 5) (.c (.int .i64 3)), none⟩,
  ⟨none, .store 1 (.t 104) (.t 103), none⟩]
def b51_35 : SCode := .region r51_35
def b51_36 : SCode := .cond (.t 99) b51_35 .skip
def b51_37 : SCode := .seq b51_34 b51_36
def b51_38 : SCode := .seq b51_33 b51_37
def b51_39 : SCode := .seq b51_29 b51_38
def b51_40 : SCode := .seq b51_25 b51_39
def b51_41 : SCode := .seq b51_21 b51_40
def b51_42 : SCode := .seq b51_16 b51_41
def b51_43 : SCode := .seq b51_13 b51_42
def b51_44 : SCode := .seq b51_9 b51_43
def b51_45 : SCode := .seq b51_8 b51_44
def b51_46 : SCode := .seq b51_7 b51_45
def b51_47 : SCode := .block 1 b51_46
abbrev r51_48 : List MOper := [⟨(some 15), .move (.t 7), none⟩,
  ⟨(some 16), .bin .add .num (.t 15) (.c (.int .i64 1)), none⟩,
  ⟨(some 7), .move (.t 16), none⟩]
def b51_48 : SCode := .region r51_48
def b51_49 : SCode := .seq b51_47 b51_48
def b51_50 : SCode := .seq b51_6 b51_49
def b51_51 : SCode := .loop b51_50
def b51_52 : SCode := .block 0 b51_51
def b51_53 : SCode := .seq b51_3 b51_52
abbrev r51_54 : List MOper := [⟨(some 105), .loadN 4 (.t 5), none⟩,
  ⟨none, .store 4 (.t 4) (.t 105), none⟩]
def b51_54 : SCode := .region r51_54
def b51_55 : SCode := .seq b51_54 .ret
def b51_56 : SCode := .seq b51_53 b51_55
def b51_57 : SCode := .seq b51_2 b51_56
def b51_58 : SCode := .seq b51_1 b51_57
def b51_59 : SCode := .seq b51_0 b51_58
def s51 : SFunc := ⟨106, [.cN 4 4], b51_59⟩
theorem c51 : sFn Try.prog 51 = some s51 := by kernel_rfl
theorem x51_37 : XS b51_37 b51_34 b51_36 := rfl
theorem x51_38 : XS b51_38 b51_33 b51_37 := rfl
theorem x51_39 : XS b51_39 b51_29 b51_38 := rfl
theorem x51_40 : XS b51_40 b51_25 b51_39 := rfl
theorem x51_50 : XS b51_50 b51_6 b51_49 := rfl
theorem Z51 : XR b51_0 r51_0 ∧ XR b51_1 r51_1 ∧ XR b51_2 r51_2 ∧ XR b51_3 r51_3 ∧ XR b51_4 r51_4 ∧ XC b51_5 (.t 14) .skip (.exit 0) ∧ XS b51_6 b51_4 b51_5 ∧ XR b51_7 r51_7 ∧ XR b51_8 r51_8 ∧ XR b51_9 r51_9 ∧ XR b51_10 r51_10 ∧ XR b51_11 r51_11 ∧ XC b51_12 (.t 47) b51_11 .skip ∧ XS b51_13 b51_10 b51_12 ∧ XR b51_14 r51_14 ∧ XC b51_15 (.t 49) (.exit 1) .skip ∧ XS b51_16 b51_14 b51_15 ∧ XR b51_17 r51_17 ∧ XR b51_18 r51_18 ∧ XS b51_19 b51_18 (.exit 1) ∧ XC b51_20 (.t 50) b51_19 .skip ∧ XS b51_21 b51_17 b51_20 ∧ XR b51_22 r51_22 ∧ XR b51_23 r51_23 ∧ XC b51_24 (.t 60) b51_23 .skip ∧ XS b51_25 b51_22 b51_24 ∧ XR b51_26 r51_26 ∧ XR b51_27 r51_27 ∧ XC b51_28 (.t 70) b51_27 .skip ∧ XS b51_29 b51_26 b51_28 ∧ XR b51_30 r51_30 ∧ XR b51_31 r51_31 ∧ XC b51_32 (.t 80) b51_31 .skip ∧ XS b51_33 b51_30 b51_32 ∧ XR b51_34 r51_34 ∧ XR b51_35 r51_35 ∧ XC b51_36 (.t 99) b51_35 .skip ∧ XS b51_41 b51_21 b51_40 ∧ XS b51_42 b51_16 b51_41 ∧ XS b51_43 b51_13 b51_42 ∧ XS b51_44 b51_9 b51_43 ∧ XS b51_45 b51_8 b51_44 ∧ XS b51_46 b51_7 b51_45 ∧ XB b51_47 1 b51_46 ∧ XR b51_48 r51_48 ∧ XS b51_49 b51_47 b51_48 ∧ XB b51_52 0 b51_51 ∧ XS b51_53 b51_3 b51_52 ∧ XR b51_54 r51_54 ∧ XS b51_55 b51_54 .ret ∧ XS b51_56 b51_53 b51_55 ∧ XS b51_57 b51_2 b51_56 ∧ XS b51_58 b51_1 b51_57 ∧ XS b51_59 b51_0 b51_58 ∧ XY s51 106 b51_59 [.cN 4 4] := ⟨rfl, rfl, rfl, rfl, rfl, sC_cond, rfl, rfl, rfl, rfl, rfl, rfl, sC_cond, rfl, rfl, sC_cond, rfl, rfl, rfl, rfl, sC_cond, rfl, rfl, rfl, sC_cond, rfl, rfl, rfl, sC_cond, rfl, rfl, rfl, sC_cond, rfl, rfl, rfl, sC_cond, rfl, rfl, rfl, rfl, rfl, rfl, rfl, rfl, rfl, rfl, rfl, rfl, rfl, rfl, rfl, rfl, rfl, rfl⟩

set_option maxHeartbeats 4000000
set_option maxRecDepth 10000
def ansEl : Option (List El) → AV
  | some l => .tuple [.imm (elC l) false false, .int .i64 0]
  | none => .tuple [.nilslice, .int .i64 2]
theorem ansEl_pure (p : Option (List El)) : (ansEl p).pure = true := by
  cases p with
  | none => rfl
  | some l => simp only [ansEl, AV.pure, pureL, el_pure, Bool.and_self]
theorem to_len (b : Int) : (rowTo b).length = 1 := by
  unfold rowTo
  repeat' split
  all_goals rfl
theorem el_len (l : List Int) : ∀ (f i : Nat) (gone : List Bool) (out : List El), (elS l f i gone out).length ≤ out.length + 2 * f
  | 0, i, gone, out => by simp [elS]
  | f + 1, i, gone, out => by
    rw [elS]
    split
    · have := el_len l f (i + 1) gone out; omega
    · dsimp only
      split
      · have := el_len l f (i + 1) gone (out ++ [(imp1 (rn1 l i), 32, 2), (imp2 (rn1 l i), 0, 0)])
        simp only [List.length_append, List.length_cons, List.length_nil] at this; omega
      · have := fun g x => el_len l f (i + 1) g (out ++ rowTo x)
        simp only [List.length_append, to_len] at this
        exact Nat.le_trans (this _ _) (by omega)
noncomputable def elemS (s : List Int) : Option (List El) := match (normS s).1 with
  | none => none
  | some l => some (elS l l.length 0 (List.replicate l.length false) [])
theorem elem_len (s : List Int) (es : List El) (h : elemS s = some es) : es.length ≤ 4 * s.length := by
  unfold elemS at h
  have hn := (normS s).2
  cases hp : (normS s).1 with
  | none => rw [hp] at h; cases h
  | some l =>
    rw [hp] at h
    have hl := hn l hp
    have := el_len l l.length 0 (List.replicate l.length false) []
    simp only [Option.some.injEq] at h
    rw [h] at this
    simp only [List.length_nil] at this; omega
theorem elem_ok (s : List Int) (hs : s.length ≤ 1000) : Tri Try.prog 50 [.agg tabC, .imm (rnC s) false false] [] fun r _ => r.pure = true ∧ r = ansEl (elemS s) := by
  refine Tri.frozen (Q := fun r σ => Frz σ r (ansEl (elemS s))) (Tri.of_s c50 U50_sound ?_) (fun r σ h => ⟨_, h, ansEl_pure _, rfl⟩)
  have hN := (normS s).2
  simp only [U50_app, Z50, x50_80, x50_104, x50_105, x50_108, x50_109, x50_111, x50_116, base1, ↓reduceIte, Nat.reduceAdd, Nat.reduceSub, Nat.reduceMul, Nat.reduceEqDiff, Nat.reduceLeDiff, Nat.reduceLT, Int.reduceLT, Int.reduceLE, Int.reduceEq, Int.reduceNe, Int.reduceToNat, Int.reduceAdd, Int.reduceSub, reduceCtorEq, Nat.reduceBEq, Nat.reduceBNe]
  refine ⟨rfl, ?_⟩
  simp only [U50_app, Z50, x50_80, x50_104, x50_105, x50_108, x50_109, x50_111, x50_116, base1, ↓reduceIte, Nat.reduceAdd, Nat.reduceSub, Nat.reduceMul, Nat.reduceEqDiff, Nat.reduceLeDiff, Nat.reduceLT, Int.reduceLT, Int.reduceLE, Int.reduceEq, Int.reduceNe, Int.reduceToNat, Int.reduceAdd, Int.reduceSub, reduceCtorEq, Nat.reduceBEq, Nat.reduceBNe]
  refine ⟨s, rfl, hs, ?_⟩
  unfold elemS
  cases hp : (normS s).1 with
  | none =>
    simp only [U50_app, Z50, x50_80, x50_104, x50_105, x50_108, x50_109, x50_111, x50_116, base1, ↓reduceIte, Nat.reduceAdd, Nat.reduceSub, Nat.reduceMul, Nat.reduceEqDiff, Nat.reduceLeDiff, Nat.reduceLT, Int.reduceLT, Int.reduceLE, Int.reduceEq, Int.reduceNe, Int.reduceToNat, Int.reduceAdd, Int.reduceSub, reduceCtorEq, Nat.reduceBEq, Nat.reduceBNe, ansRd]
    exact .pure rfl
  | some l =>
    have hl := hN l hp
    have ll : (rnC l).length = l.length := by simp
    have k1 : (0 : Int) ≤ (l.length : Int) := by omega
    have k2 : (l.length : Int) ≤ 9223372036854775807 := by omega
    have k3 : ((1 : Nat) : Int) * (l.length : Int) ≤ 281474976710656 := by omega
    have k4 : (l.length : Int) ≤ 281474976710656 := by omega
    have hrep : (List.replicate l.length [AV.bool false]).flatten = goC (List.replicate l.length false) := by
      rw [List.flatten_replicate_singleton, goC, List.map_replicate]
    simp only [U50_app, Z50, x50_80, x50_104, x50_105, x50_108, x50_109, x50_111, x50_116, base1, ↓reduceIte, Nat.reduceAdd, Nat.reduceSub, Nat.reduceMul, Nat.reduceEqDiff, Nat.reduceLeDiff, Nat.reduceLT, Int.reduceLT, Int.reduceLE, Int.reduceEq, Int.reduceNe, Int.reduceToNat, Int.reduceAdd, Int.reduceSub, reduceCtorEq, Nat.reduceBEq, Nat.reduceBNe, ansRd, lenOf_imm, ll, k1, k2, k3, k4, Int.le_refl, Int.toNat_natCast, hrep, Int.one_mul]
    exact sC_inv (a := b50_118) (ouI l 1 (elS l l.length 0 (List.replicate l.length false) [])) l.length _ _ (.refl _ _ _) ⟨0, List.replicate l.length false, [], .nilslice, Nat.zero_le _, rfl, by simp, rfl, rfl, by decide, .inl ⟨rfl, rfl⟩, by simp [LvD], by simp [LvD], Nat.le_refl _, rfl, ⟨rfl, rfl, rfl, rfl, rfl⟩⟩ (ou_step l (by omega) 1 _)
def elemD (args : List AV) (σ : AHeap) (K : AV → AHeap → Prop) : Prop := ∃ s : List Int, args = [.agg tabC, .imm (rnC s) false false] ∧ s.length ≤ 1000 ∧ K (ansEl (elemS s)) σ
theorem elemD_ok (args : List AV) (σ : AHeap) (K : AV → AHeap → Prop) (h : elemD args σ K) : Tri Try.prog 50 args σ K := by
  obtain ⟨s, rfl, hs, h⟩ := h
  refine (Tri.pureD ?_ (elem_ok s hs) σ).mono fun x σ' hr => by rw [hr.1, hr.2]; exact h
  have := tab_pure1
  simp only [pureL, Bool.and_true] at this ⊢
  rw [this, imm_pureR]; rfl
theorem elemD_one : OneD elemD := ⟨fun args σ K K' hk ⟨s, h1, h2, h⟩ => ⟨s, h1, h2, hk _ _ h⟩, fun ι args σ K ⟨s, h1, h2, i, h⟩ => ⟨i, s, h1, h2, h⟩⟩
/-! Levels. -/
def LvD3 (A : AV) : Prop := ∀ j, j ≤ 2 → LvD A ≠ some j
/-- The levels as they grow: at block 2, an element at a block of its own. -/
structure LvP (σ : AHeap) (E : Nat) (cE : List AV) (a b c : List Int) (A B C : AV) : Prop where
  t : hget σ 0 = some tabC
  o : hget σ 1 = some [.nilslice, .nilslice, .nilslice, .nilslice]
  g : hget σ 2 = some [A, B, C, .nilslice]
  e : hget σ E = some cE
  eb : E ≠ 2
  ga : Grow σ A 1 (inC a)
  gb : Grow σ B 1 (inC b)
  gc : Grow σ C 1 (inC c)
  dA : LvD3 A
  dB : LvD3 B
  dC : LvD3 C
  eA : LvD A ≠ some E
  eB : LvD B ≠ some E
  eC : LvD C ≠ some E
  ab : ∀ d, LvD A = some d → LvD B ≠ some d
  ac : ∀ d, LvD A = some d → LvD C ≠ some d
  bc : ∀ d, LvD B = some d → LvD C ≠ some d
theorem n3 {A : AV} (v0 : LvD A ≠ some 0) (v1 : LvD A ≠ some 1) (v2 : LvD A ≠ some 2) : LvD3 A := fun j hj => by
    have : j = 0 ∨ j = 1 ∨ j = 2 := by omega
    rcases this with rfl | rfl | rfl <;> assumption
theorem ne_sym {A B : AV} (h : ∀ d, LvD A = some d → LvD B ≠ some d) : ∀ d, LvD B = some d → LvD A ≠ some d := fun d h1 h2 => h d h2 h1
theorem lv_a {σ : AHeap} {E : Nat} {cE : List AV} {a b c : List Int} {A B C : AV} (h : LvP σ E cE a b c A B C) (x : Int) (hk : a.length ≤ 1000000 ∧ b.length ≤ 1000000 ∧ c.length ≤ 1000000) :
    ∃ v τ, evAppend 1 8 A (.slice σ.length 0 1 (some 1) 1) (hpush σ [.int .i64 x]) = some (v, τ) ∧ v.isCell = true ∧ v.cells? = some [v] ∧ hget τ 2 = some [A, B, C, .nilslice] ∧ LvP (hset τ 2 [v, B, C, .nilslice]) E cE (a ++ [x]) b c v B C := by
  obtain ⟨v, τ, a1, a2, a3, a4, a5⟩ := grow_one (b := 8) (by decide) h.ga (by simp; omega) [.int .i64 x] rfl rfl
  have g2 := (a4 _ _ h.g (h.dA 2 (by decide))).1
  have v2 := (a4 _ _ h.g (h.dA 2 (by decide))).2
  have v1 := (a4 _ _ h.o (h.dA 1 (by decide))).2
  have v0 := (a4 _ _ h.t (h.dA 0 (by decide))).2
  have fs : ∀ {j : Nat} {q : List AV}, hget σ j = some q → j ≠ 2 → LvD A ≠ some j → hget (hset τ 2 [v, B, C, .nilslice]) j = some q := fun {j q} hj h2 hd => (set_other (fun h => h2 h.symm)).trans (a4 _ _ hj hd).1
  have gr : ∀ {Y : AV} {r : List (List AV)}, Grow σ Y 1 r → (∀ d, LvD Y = some d → LvD A ≠ some d) → LvD Y ≠ some 2 → Grow (hset τ 2 [v, B, C, .nilslice]) Y 1 r ∧ (∀ d, LvD Y = some d → LvD v ≠ some d) := fun {Y r} hY hd h2 => ⟨grow_frame hY fun j q hj hq => fs hj (fun h => h2 (by rw [hq, h])) (hd j hq), fun d hq => by
    rcases hY with ⟨rfl, _⟩ | ⟨d', rfl, hd', _⟩
    · cases hq
    · cases hq; exact (a4 _ _ hd' (hd _ rfl)).2⟩
  have vn : Grow (hset τ 2 [v, B, C, .nilslice]) v 1 (inC (a ++ [x])) := by
    rw [inC, List.map_append]
    exact grow_frame a5 fun j q hj hq => (set_other (fun h => v2 (by rw [hq, h]))).trans hj
  exact ⟨v, τ, a1, a2, a3, g2, ⟨fs h.t (by decide) (h.dA 0 (by decide)), fs h.o (by decide) (h.dA 1 (by decide)), set_same g2, fs h.e h.eb h.eA, h.eb, vn, (gr h.gb (ne_sym h.ab) (h.dB 2 (by decide))).1, (gr h.gc (ne_sym h.ac) (h.dC 2 (by decide))).1, n3 v0 v1 v2, h.dB, h.dC, (a4 _ _ h.e h.eA).2, h.eB, h.eC, ne_sym (gr h.gb (ne_sym h.ab) (h.dB 2 (by decide))).2, ne_sym (gr h.gc (ne_sym h.ac) (h.dC 2 (by decide))).2, h.bc⟩⟩
theorem lv_b {σ : AHeap} {E : Nat} {cE : List AV} {a b c : List Int} {A B C : AV} (h : LvP σ E cE a b c A B C) (x : Int) (hk : a.length ≤ 1000000 ∧ b.length ≤ 1000000 ∧ c.length ≤ 1000000) :
    ∃ v τ, evAppend 1 8 B (.slice σ.length 0 1 (some 1) 1) (hpush σ [.int .i64 x]) = some (v, τ) ∧ v.isCell = true ∧ v.cells? = some [v] ∧ hget τ 2 = some [A, B, C, .nilslice] ∧ LvP (hset τ 2 [A, v, C, .nilslice]) E cE a (b ++ [x]) c A v C := by
  obtain ⟨v, τ, a1, a2, a3, a4, a5⟩ := grow_one (b := 8) (by decide) h.gb (by simp; omega) [.int .i64 x] rfl rfl
  have g2 := (a4 _ _ h.g (h.dB 2 (by decide))).1
  have v2 := (a4 _ _ h.g (h.dB 2 (by decide))).2
  have v1 := (a4 _ _ h.o (h.dB 1 (by decide))).2
  have v0 := (a4 _ _ h.t (h.dB 0 (by decide))).2
  have fs : ∀ {j : Nat} {q : List AV}, hget σ j = some q → j ≠ 2 → LvD B ≠ some j → hget (hset τ 2 [A, v, C, .nilslice]) j = some q := fun {j q} hj h2 hd => (set_other (fun h => h2 h.symm)).trans (a4 _ _ hj hd).1
  have gr : ∀ {Y : AV} {r : List (List AV)}, Grow σ Y 1 r → (∀ d, LvD Y = some d → LvD B ≠ some d) → LvD Y ≠ some 2 → Grow (hset τ 2 [A, v, C, .nilslice]) Y 1 r ∧ (∀ d, LvD Y = some d → LvD v ≠ some d) := fun {Y r} hY hd h2 => ⟨grow_frame hY fun j q hj hq => fs hj (fun h => h2 (by rw [hq, h])) (hd j hq), fun d hq => by
    rcases hY with ⟨rfl, _⟩ | ⟨d', rfl, hd', _⟩
    · cases hq
    · cases hq; exact (a4 _ _ hd' (hd _ rfl)).2⟩
  have vn : Grow (hset τ 2 [A, v, C, .nilslice]) v 1 (inC (b ++ [x])) := by
    rw [inC, List.map_append]
    exact grow_frame a5 fun j q hj hq => (set_other (fun h => v2 (by rw [hq, h]))).trans hj
  exact ⟨v, τ, a1, a2, a3, g2, ⟨fs h.t (by decide) (h.dB 0 (by decide)), fs h.o (by decide) (h.dB 1 (by decide)), set_same g2, fs h.e h.eb h.eB, h.eb, (gr h.ga h.ab (h.dA 2 (by decide))).1, vn, (gr h.gc (ne_sym h.bc) (h.dC 2 (by decide))).1, h.dA, n3 v0 v1 v2, h.dC, h.eA, (a4 _ _ h.e h.eB).2, h.eC, (gr h.ga h.ab (h.dA 2 (by decide))).2, h.ac, ne_sym (gr h.gc (ne_sym h.bc) (h.dC 2 (by decide))).2⟩⟩
theorem lv_c {σ : AHeap} {E : Nat} {cE : List AV} {a b c : List Int} {A B C : AV} (h : LvP σ E cE a b c A B C) (x : Int) (hk : a.length ≤ 1000000 ∧ b.length ≤ 1000000 ∧ c.length ≤ 1000000) :
    ∃ v τ, evAppend 1 8 C (.slice σ.length 0 1 (some 1) 1) (hpush σ [.int .i64 x]) = some (v, τ) ∧ v.isCell = true ∧ v.cells? = some [v] ∧ hget τ 2 = some [A, B, C, .nilslice] ∧ LvP (hset τ 2 [A, B, v, .nilslice]) E cE a b (c ++ [x]) A B v := by
  obtain ⟨v, τ, a1, a2, a3, a4, a5⟩ := grow_one (b := 8) (by decide) h.gc (by simp; omega) [.int .i64 x] rfl rfl
  have g2 := (a4 _ _ h.g (h.dC 2 (by decide))).1
  have v2 := (a4 _ _ h.g (h.dC 2 (by decide))).2
  have v1 := (a4 _ _ h.o (h.dC 1 (by decide))).2
  have v0 := (a4 _ _ h.t (h.dC 0 (by decide))).2
  have fs : ∀ {j : Nat} {q : List AV}, hget σ j = some q → j ≠ 2 → LvD C ≠ some j → hget (hset τ 2 [A, B, v, .nilslice]) j = some q := fun {j q} hj h2 hd => (set_other (fun h => h2 h.symm)).trans (a4 _ _ hj hd).1
  have gr : ∀ {Y : AV} {r : List (List AV)}, Grow σ Y 1 r → (∀ d, LvD Y = some d → LvD C ≠ some d) → LvD Y ≠ some 2 → Grow (hset τ 2 [A, B, v, .nilslice]) Y 1 r ∧ (∀ d, LvD Y = some d → LvD v ≠ some d) := fun {Y r} hY hd h2 => ⟨grow_frame hY fun j q hj hq => fs hj (fun h => h2 (by rw [hq, h])) (hd j hq), fun d hq => by
    rcases hY with ⟨rfl, _⟩ | ⟨d', rfl, hd', _⟩
    · cases hq
    · cases hq; exact (a4 _ _ hd' (hd _ rfl)).2⟩
  have vn : Grow (hset τ 2 [A, B, v, .nilslice]) v 1 (inC (c ++ [x])) := by
    rw [inC, List.map_append]
    exact grow_frame a5 fun j q hj hq => (set_other (fun h => v2 (by rw [hq, h]))).trans hj
  exact ⟨v, τ, a1, a2, a3, g2, ⟨fs h.t (by decide) (h.dC 0 (by decide)), fs h.o (by decide) (h.dC 1 (by decide)), set_same g2, fs h.e h.eb h.eC, h.eb, (gr h.ga h.ac (h.dA 2 (by decide))).1, (gr h.gb h.bc (h.dB 2 (by decide))).1, vn, h.dA, h.dB, n3 v0 v1 v2, h.eA, h.eB, (a4 _ _ h.e h.eC).2, h.ab, (gr h.ga h.ac (h.dA 2 (by decide))).2, (gr h.gb h.bc (h.dB 2 (by decide))).2⟩⟩
def lvI (es : List El) (m : Nat) (e : Env) (σ : AHeap) : Prop :=
  ∃ (i E : Nat) (cE : List AV) (a b c : List Int) (A B C : AV), i ≤ es.length ∧ m = es.length - i ∧ LvP σ E cE a b c A B C ∧ a.length ≤ i ∧ b.length ≤ i ∧ c.length ≤ i ∧
    e 1 = .imm (elC es) false false ∧ e 2 = .ptr 0 0 ∧ e 4 = .ptr 1 0 ∧ e 5 = .ptr 2 0 ∧ e 7 = .int .i64 (i : Int)
abbrev LevI (n : Nat) := {p : List Int × List Int × List Int // p.1.length ≤ n ∧ p.2.1.length ≤ n ∧ p.2.2.length ≤ n}
abbrev levC (p : List Int × List Int × List Int) : List AV := [.imm (inC p.1) false false, .imm (inC p.2.1) false false, .imm (inC p.2.2) false false, .nilslice]
def LevQ {n : Nat} (p : LevI n) (r : AV) (σ : AHeap) : Prop := Frz σ r (.agg (levC p.1))
abbrev LR51 (es : List El) (m : Nat) : MExit → Env → AHeap → Prop := loopR noCall 0 (RetQ [.cN 4 4] fun r σ => ∃ p : LevI es.length, LevQ p r σ) (.block 0 (.seq b51_55 .fin)) (lvI es) m
theorem lv_alloc {σ : AHeap} {E : Nat} {cE : List AV} {a b c : List Int} {A B C : AV} (h : LvP σ E cE a b c A B C) (z x : List AV) : LvP (hset (hpush σ z) σ.length x) σ.length x a b c A B C := by
  have hlt := hget_lt h.g
  have nA : ∀ {X : AV} {r : List (List AV)}, Grow σ X 1 r → LvD X ≠ some σ.length := fun hg he => by have := grow_old hg _ he; omega
  exact ⟨al_frame h.t, al_frame h.o, al_frame h.g, set_same (push_new rfl), by omega, grow_frame h.ga fun j q hj _ => al_frame hj, grow_frame h.gb fun j q hj _ => al_frame hj, grow_frame h.gc fun j q hj _ => al_frame hj, h.dA, h.dB, h.dC, nA h.ga, nA h.gb, nA h.gc, h.ab, h.ac, h.bc⟩
/-- The end of an element. -/
theorem lv_next {es : List El} (hes : es.length ≤ 100000) {m i : Nat} (hlt : i < es.length) (hm : m = es.length - i) {e : Env} {σ : AHeap} {E : Nat} {cE : List AV} {a b c : List Int} {A B C : AV} (h : LvP σ E cE a b c A B C) (ha : a.length ≤ i + 1) (hb : b.length ≤ i + 1) (hc : c.length ≤ i + 1)
    (e1 : e 1 = .imm (elC es) false false) (e2 : e 2 = .ptr 0 0) (e4 : e 4 = .ptr 1 0) (e5 : e 5 = .ptr 2 0) (e7 : e 7 = .int .i64 (i : Int)) : sC noCall 0 b51_37 (unw noCall 0 (LR51 es m) (.block 1 (.seq b51_48 .fin))) e σ := by
  have hwr : IntKind.wrap .i64 ((i : Int) + 1) = ((i + 1 : Nat) : Int) := by rw [Gz.wrap64 (by omega)]; omega
  have t3 : tabC[3]? = some (.bool false) := rfl
  simp only [Z51, x51_37, x51_38, x51_39, x51_40, x51_50, base1, ↓reduceIte, Nat.reduceAdd, Nat.reduceSub, Nat.reduceMul, Nat.reduceEqDiff, Nat.reduceLeDiff, Nat.reduceLT, Int.reduceLT, Int.reduceLE, Int.reduceEq, Int.reduceNe, Int.reduceToNat, Int.reduceAdd, Int.reduceSub, reduceCtorEq, Nat.reduceBEq, Nat.reduceBNe, LR51, loopR_exit, loopR_ret, e1, e2, e4, e5, e7, h.t, t3, hwr]
  rw [loopR_normal]
  exact ⟨es.length - (i + 1), _, _, by omega, .refl _ _ _, i + 1, E, cE, a, b, c, A, B, C, hlt, rfl, h, ha, hb, hc, e1, e2, e4, e5, rfl⟩
theorem lv_3 {es : List El} (hes : es.length ≤ 100000) {m i : Nat} (hlt : i < es.length) (hm : m = es.length - i) {e : Env} {σ : AHeap} {E : Nat} {x y z : Int} {a b c : List Int} {A B C : AV} (h : LvP σ E [.int .i64 x, .int .i64 y, .int .i64 z] a b c A B C) (ha : a.length ≤ i + 1) (hb : b.length ≤ i + 1) (hc : c.length ≤ i)
    (e1 : e 1 = .imm (elC es) false false) (e2 : e 2 = .ptr 0 0) (e4 : e 4 = .ptr 1 0) (e5 : e 5 = .ptr 2 0) (e7 : e 7 = .int .i64 (i : Int)) (e8 : e 8 = .ptr E 0) : sC noCall 0 b51_38 (unw noCall 0 (LR51 es m) (.block 1 (.seq b51_48 .fin))) e σ := by
  by_cases h0 : (0 : Int) < z
  · obtain ⟨v, τ, a1, a2, a3, g2, hn⟩ := lv_c h z (by omega)
    simp only [Z51, x51_38, x51_39, x51_40, x51_50, base1, ↓reduceIte, Nat.reduceAdd, Nat.reduceSub, Nat.reduceMul, Nat.reduceEqDiff, Nat.reduceLeDiff, Nat.reduceLT, Int.reduceLT, Int.reduceLE, Int.reduceEq, Int.reduceNe, Int.reduceToNat, Int.reduceAdd, Int.reduceSub, reduceCtorEq, Nat.reduceBEq, Nat.reduceBNe, LR51, loopR_exit, loopR_ret, e1, e2, e4, e5, e7, e8, h.e, h.g, h0, a1, a2, a3, g2]
    exact lv_next hes hlt hm hn ha hb (by simp; omega) e1 e2 e4 e5 e7
  · simp only [Z51, x51_38, x51_39, x51_40, x51_50, base1, ↓reduceIte, Nat.reduceAdd, Nat.reduceSub, Nat.reduceMul, Nat.reduceEqDiff, Nat.reduceLeDiff, Nat.reduceLT, Int.reduceLT, Int.reduceLE, Int.reduceEq, Int.reduceNe, Int.reduceToNat, Int.reduceAdd, Int.reduceSub, reduceCtorEq, Nat.reduceBEq, Nat.reduceBNe, LR51, loopR_exit, loopR_ret, e1, e2, e4, e5, e7, e8, h.e, h0]
    exact lv_next hes hlt hm h ha hb (by omega) e1 e2 e4 e5 e7
theorem lv_2 {es : List El} (hes : es.length ≤ 100000) {m i : Nat} (hlt : i < es.length) (hm : m = es.length - i) {e : Env} {σ : AHeap} {E : Nat} {x y z : Int} {a b c : List Int} {A B C : AV} (h : LvP σ E [.int .i64 x, .int .i64 y, .int .i64 z] a b c A B C) (ha : a.length ≤ i + 1) (hb : b.length ≤ i) (hc : c.length ≤ i)
    (e1 : e 1 = .imm (elC es) false false) (e2 : e 2 = .ptr 0 0) (e4 : e 4 = .ptr 1 0) (e5 : e 5 = .ptr 2 0) (e7 : e 7 = .int .i64 (i : Int)) (e8 : e 8 = .ptr E 0) : sC noCall 0 b51_39 (unw noCall 0 (LR51 es m) (.block 1 (.seq b51_48 .fin))) e σ := by
  by_cases h0 : (0 : Int) < y
  · obtain ⟨v, τ, a1, a2, a3, g2, hn⟩ := lv_b h y (by omega)
    simp only [Z51, x51_39, x51_40, x51_50, base1, ↓reduceIte, Nat.reduceAdd, Nat.reduceSub, Nat.reduceMul, Nat.reduceEqDiff, Nat.reduceLeDiff, Nat.reduceLT, Int.reduceLT, Int.reduceLE, Int.reduceEq, Int.reduceNe, Int.reduceToNat, Int.reduceAdd, Int.reduceSub, reduceCtorEq, Nat.reduceBEq, Nat.reduceBNe, LR51, loopR_exit, loopR_ret, e1, e2, e4, e5, e7, e8, h.e, h.g, h0, a1, a2, a3, g2]
    exact lv_3 hes hlt hm hn ha (by simp; omega) hc e1 e2 e4 e5 e7 e8
  · simp only [Z51, x51_39, x51_40, x51_50, base1, ↓reduceIte, Nat.reduceAdd, Nat.reduceSub, Nat.reduceMul, Nat.reduceEqDiff, Nat.reduceLeDiff, Nat.reduceLT, Int.reduceLT, Int.reduceLE, Int.reduceEq, Int.reduceNe, Int.reduceToNat, Int.reduceAdd, Int.reduceSub, reduceCtorEq, Nat.reduceBEq, Nat.reduceBNe, LR51, loopR_exit, loopR_ret, e1, e2, e4, e5, e7, e8, h.e, h0]
    exact lv_3 hes hlt hm h ha (by omega) hc e1 e2 e4 e5 e7 e8
theorem lv_1 {es : List El} (hes : es.length ≤ 100000) {m i : Nat} (hlt : i < es.length) (hm : m = es.length - i) {e : Env} {σ : AHeap} {E : Nat} {x y z : Int} {a b c : List Int} {A B C : AV} (h : LvP σ E [.int .i64 x, .int .i64 y, .int .i64 z] a b c A B C) (ha : a.length ≤ i) (hb : b.length ≤ i) (hc : c.length ≤ i)
    (e1 : e 1 = .imm (elC es) false false) (e2 : e 2 = .ptr 0 0) (e4 : e 4 = .ptr 1 0) (e5 : e 5 = .ptr 2 0) (e7 : e 7 = .int .i64 (i : Int)) (e8 : e 8 = .ptr E 0) : sC noCall 0 b51_40 (unw noCall 0 (LR51 es m) (.block 1 (.seq b51_48 .fin))) e σ := by
  by_cases h0 : (0 : Int) < x
  · obtain ⟨v, τ, a1, a2, a3, g2, hn⟩ := lv_a h x (by omega)
    simp only [Z51, x51_40, x51_50, base1, ↓reduceIte, Nat.reduceAdd, Nat.reduceSub, Nat.reduceMul, Nat.reduceEqDiff, Nat.reduceLeDiff, Nat.reduceLT, Int.reduceLT, Int.reduceLE, Int.reduceEq, Int.reduceNe, Int.reduceToNat, Int.reduceAdd, Int.reduceSub, reduceCtorEq, Nat.reduceBEq, Nat.reduceBNe, LR51, loopR_exit, loopR_ret, e1, e2, e4, e5, e7, e8, h.e, h.g, h0, a1, a2, a3, g2]
    exact lv_2 hes hlt hm hn (by simp; omega) hb hc e1 e2 e4 e5 e7 e8
  · simp only [Z51, x51_40, x51_50, base1, ↓reduceIte, Nat.reduceAdd, Nat.reduceSub, Nat.reduceMul, Nat.reduceEqDiff, Nat.reduceLeDiff, Nat.reduceLT, Int.reduceLT, Int.reduceLE, Int.reduceEq, Int.reduceNe, Int.reduceToNat, Int.reduceAdd, Int.reduceSub, reduceCtorEq, Nat.reduceBEq, Nat.reduceBNe, LR51, loopR_exit, loopR_ret, e1, e2, e4, e5, e7, e8, h.e, h0]
    exact lv_2 hes hlt hm h (by omega) hb hc e1 e2 e4 e5 e7 e8
theorem lv_step (es : List El) (hes : es.length ≤ 100000) (m : Nat) (e : Env) (σ : AHeap) (h : lvI es m e σ) : sC noCall 0 b51_50 (unw noCall 0 (LR51 es m) .fin) e σ := by
  obtain ⟨i, E, cE, a, b, c, A, B, C, hi, hm, hP, ha, hb, hc, e1, e2, e4, e5, e7⟩ := h
  have ll : (elC es).length = es.length := by simp
  rcases Nat.lt_or_ge i es.length with hlt | hge
  · have hlt' : (i : Int) < (es.length : Int) := by omega
    have hge0 : (0 : Int) ≤ (i : Int) := by omega
    obtain ⟨x, hx⟩ : ∃ x, es[i]? = some x := ⟨_, List.getElem?_eq_getElem hlt⟩
    have hxx : (elC es)[i]? = some [.int .i64 x.1, .int .i64 x.2.1, .int .i64 x.2.2] := by rw [elC, List.getElem?_map, hx]; rfl
    have hP1 := lv_alloc hP [.int .i64 0, .int .i64 0, .int .i64 0] [.int .i64 x.1, .int .i64 x.2.1, .int .i64 x.2.2]
    have pn : ∀ c : List AV, hget (hpush σ c) σ.length = some c := fun c => push_new rfl
    have t3 : tabC[3]? = some (.bool false) := rfl
    by_cases h0 : (0 : Int) < x.1
    all_goals
      simp only [Z51, x51_37, x51_38, x51_39, x51_50, base1, ↓reduceIte, Nat.reduceAdd, Nat.reduceSub, Nat.reduceMul, Nat.reduceEqDiff, Nat.reduceLeDiff, Nat.reduceLT, Int.reduceLT, Int.reduceLE, Int.reduceEq, Int.reduceNe, Int.reduceToNat, Int.reduceAdd, Int.reduceSub, reduceCtorEq, Nat.reduceBEq, Nat.reduceBNe, LR51, lenOf_imm, loopR_exit, loopR_ret, e1, e2, e4, e5, e7, ll, hlt, hlt', hge0, Int.toNat_natCast, hxx, pn, hP1.t, t3, hP1.e, h0]
      exact lv_1 hes hlt hm hP1 ha hb hc e1 e2 e4 e5 e7 rfl
  · have hlt' : ¬ (i : Int) < (es.length : Int) := by omega
    have hs2 : ∀ d : List AV, hget (hset σ 1 d) 1 = some d := fun d => set_same hP.o
    have sb : sub [A, B, C, .nilslice] 0 4 = some [A, B, C, .nilslice] := rfl
    have cA := grow_cell hP.ga
    have cB := grow_cell hP.gb
    have cC := grow_cell hP.gc
    simp only [Z51, x51_37, x51_38, x51_39, x51_40, x51_50, base1, ↓reduceIte, Nat.reduceAdd, Nat.reduceSub, Nat.reduceMul, Nat.reduceEqDiff, Nat.reduceLeDiff, Nat.reduceLT, Int.reduceLT, Int.reduceLE, Int.reduceEq, Int.reduceNe, Int.reduceToNat, Int.reduceAdd, Int.reduceSub, reduceCtorEq, Nat.reduceBEq, Nat.reduceBNe, LR51, lenOf_imm, loopR_exit, loopR_ret, e1, e2, e4, e5, e7, ll, hlt', hP.g, hP.o, hs2, cA, cB, cC]
    have fr : ∀ {X : AV} {l : List Int} {q : List AV}, Grow σ X 1 (inC l) → LvD3 X → Frz (hset σ 1 q) X (.imm (inC l) false false) := fun {X l q} hg hd => grow_frz (grow_frame hg fun j c hj hq => (set_other (fun h => hd 1 (by decide) (by rw [hq, h]))).trans hj) (in_pure l)
    refine ⟨⟨(a, b, c), by show a.length ≤ _; omega, by show b.length ≤ _; omega, by show c.length ≤ _; omega⟩, .agg rfl (fun j y z hy hz => ?_)⟩
    match j with
    | 0 => simp at hy hz; subst hy; subst hz; exact fr hP.ga hP.dA
    | 1 => simp at hy hz; subst hy; subst hz; exact fr hP.gb hP.dB
    | 2 => simp at hy hz; subst hy; subst hz; exact fr hP.gc hP.dC
    | 3 => simp at hy hz; subst hy; subst hz; exact .pure rfl
    | n + 4 => simp at hy
theorem lev_ex (es : List El) : ∃ p : LevI es.length, es.length ≤ 100000 → Tri Try.prog 51 [.agg tabC, .imm (elC es) false false] [] (LevQ p) := by
  by_cases h : es.length ≤ 100000
  · obtain ⟨v, hv⟩ := Tri.one (Q := LevQ (n := es.length)) c51 (noCall_sound _) one_none (by kernel_rfl) (args := [.agg tabC, .imm (elC es) false false]) (σ := []) (by
      simp only [Z51, x51_37, x51_38, x51_39, x51_40, base1, ↓reduceIte, Nat.reduceAdd, Nat.reduceSub, Nat.reduceMul, Nat.reduceEqDiff, Nat.reduceLeDiff, Nat.reduceLT, Int.reduceLT, Int.reduceLE, Int.reduceEq, Int.reduceNe, Int.reduceToNat, Int.reduceAdd, Int.reduceSub, reduceCtorEq, Nat.reduceBEq, Nat.reduceBNe]
      exact sC_inv (a := b51_50) (lvI es) es.length _ _ (.refl _ _ _) ⟨0, 1, _, [], [], [], .nilslice, .nilslice, .nilslice, Nat.zero_le _, rfl, ⟨rfl, rfl, rfl, rfl, by decide, .inl ⟨rfl, rfl⟩, .inl ⟨rfl, rfl⟩, .inl ⟨rfl, rfl⟩, fun j _ h => by simp [LvD] at h, fun j _ h => by simp [LvD] at h, fun j _ h => by simp [LvD] at h, by simp [LvD], by simp [LvD], by simp [LvD], fun d h => by simp [LvD] at h, fun d h => by simp [LvD] at h, fun d h => by simp [LvD] at h⟩, Nat.le_refl _, Nat.le_refl _, Nat.le_refl _, rfl, rfl, rfl, rfl, rfl⟩ (lv_step es h))
    exact ⟨v, fun _ => hv⟩
  · exact ⟨⟨([], [], []), by simp⟩, fun h1 => absurd h1 h⟩
noncomputable def levS (es : List El) : LevI es.length := Classical.choose (lev_ex es)
theorem lev_pure (p : List Int × List Int × List Int) : (AV.agg (levC p)).pure = true := by simp only [levC, AV.pure, pureL, in_pure, Bool.and_self]
theorem lev_ok (es : List El) (h : es.length ≤ 100000) : Tri Try.prog 51 [.agg tabC, .imm (elC es) false false] [] fun r _ => r.pure = true ∧ r = .agg (levC (levS es).1) :=
  Tri.frozen (Classical.choose_spec (lev_ex es) h) fun r σ h => ⟨_, h, lev_pure _, rfl⟩
def levD (args : List AV) (σ : AHeap) (K : AV → AHeap → Prop) : Prop := ∃ es : List El, args = [.agg tabC, .imm (elC es) false false] ∧ es.length ≤ 100000 ∧ K (.agg (levC (levS es).1)) σ
theorem levD_ok (args : List AV) (σ : AHeap) (K : AV → AHeap → Prop) (h : levD args σ K) : Tri Try.prog 51 args σ K := by
  obtain ⟨s, rfl, hs, h⟩ := h
  refine (Tri.pureD ?_ (lev_ok s hs) σ).mono fun x σ' hr => by rw [hr.1, hr.2]; exact h
  have := tab_pure1
  simp only [pureL, Bool.and_true] at this ⊢
  rw [this]; simp only [AV.pure, el_pure, Bool.and_self]
theorem levD_one : OneD levD := ⟨fun args σ K K' hk ⟨s, h1, h2, h⟩ => ⟨s, h1, h2, hk _ _ h⟩, fun ι args σ K ⟨s, h1, h2, i, h⟩ => ⟨i, s, h1, h2, h⟩⟩
end Go.Proofs.Ytmjnmnhpmbbmgaa.tour
