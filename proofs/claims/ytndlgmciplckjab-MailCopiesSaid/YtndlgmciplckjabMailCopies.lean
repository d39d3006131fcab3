/- The law gazetteerlaw20.MailCopies returns true for every input: a note that is told twice comes twice, the same; one that is lost does not come; all others do. No condition. -/
import Derived.Test.YtndlgmciplckjabME
set_option linter.unusedVariables false
set_option linter.unusedSimpArgs false
namespace Go.Proofs.Ytndlgmciplckjab.mailCopies
open Go.ChangeShapes Go.WideShapes Go.ChangeAt Go.RowKit Go.Gz Go.Proofs.Ytndlgmciplckjab.note
abbrev r4_0 : List MOper := [⟨(some 4), .move (.c (.bool false)), none⟩]
def b4_0 : SCode := .region r4_0
abbrev r4_1 : List MOper := [⟨(some 18), .call 5 [], none⟩,
  ⟨(some 19), .un .not (.t 18), none⟩]
def b4_1 : SCode := .region r4_1
abbrev r4_2 : List MOper := [⟨(some 4), .move (.c (.bool false)), none⟩]
def b4_2 : SCode := .region r4_2
def b4_3 : SCode := .seq b4_2 .ret
def b4_4 : SCode := .cond (.t 19) b4_3 .skip
def b4_5 : SCode := .seq b4_1 b4_4
abbrev r4_6 : List MOper := [⟨(some 20), .move (.t 1), none⟩,
  ⟨(some 21), .lenSl (.t 20), none⟩,
  ⟨(some 22), .bin .gtr .num (.t 21) (.c (.int .i64 100)), none⟩]
def b4_6 : SCode := .region r4_6
abbrev r4_7 : List MOper := [⟨(some 4), .move (.c (.bool true)), none⟩]
def b4_7 : SCode := .region r4_7
def b4_8 : SCode := .seq b4_7 .ret
def b4_9 : SCode := .cond (.t 22) b4_8 .skip
def b4_10 : SCode := .seq b4_6 b4_9
abbrev r4_11 : List MOper := [⟨(some 23), .call 7 [], none⟩,
  ⟨(some 5), .move (.t 23), none⟩]
def b4_11 : SCode := .region r4_11
abbrev r4_12 : List MOper := [⟨(some 24), .move (.t 5), none⟩,
  ⟨(some 25), .bin .eql .nilp (.t 24) (.c (.nilptr)), none⟩]
def b4_12 : SCode := .region r4_12
abbrev r4_13 : List MOper := [⟨(some 4), .move (.c (.bool false)), none⟩]
def b4_13 : SCode := .region r4_13
def b4_14 : SCode := .seq b4_13 .ret
def b4_15 : SCode := .cond (.t 25) b4_14 .skip
def b4_16 : SCode := .seq b4_12 b4_15
abbrev r4_17 : List MOper := [⟨(some 26), .move (.t 0), none⟩,
  ⟨(some 27), .convInt .i64 (.t 26), none⟩,
  ⟨(some 28), .bin .rem .num (.t 27) (.c (.int .i64 30)), none⟩,
  ⟨(some 29), .bin .add .num (.c (.int .i64 1)) (.t 28), none⟩,
  ⟨(some 6), .move (.t 29), none⟩]
def b4_17 : SCode := .region r4_17
abbrev r4_18 : List MOper := [⟨(some 7), .move (.c (.nilslice)), none⟩]
def b4_18 : SCode := .region r4_18
abbrev r4_19 : List MOper := [⟨(some 8), .alloc [.int .i64 0, .int .i64 0, .int .i64 0, .int .i64 0, .int .i64 0, .int .i64 0, .int .i64 0, .int .i64 0, .int .i64 0, .int .i64 0, .int .i64 0, .int .i64 0, .int .i64 0, .int .i64 0, .int .i64 0, .int .i64 0, .int .i64 0, .int .i64 0, .int .i64 0, .int .i64 0, .int .i64 0, .int .i64 0, .int .i64 0, .int .i64 0, .int .i64 0, .int .i64 0, .int .i64 0, .int .i64 0, .int .i64 0, .int .i64 0, .int .i64 0], none⟩]
def b4_19 : SCode := .region r4_19
abbrev r4_20 : List MOper := [⟨(some 9), .move (.c (.int .i64 0)), none⟩]
def b4_20 : SCode := .region r4_20
abbrev r4_21 : List MOper := [⟨(some 30), .move (.t 9), none⟩,
  ⟨(some 31), .move (.t 6), none⟩,
  ⟨(some 32), .bin .lss .num (.t 30) (.t 31), none⟩]
def b4_21 : SCode := .region r4_21
def b4_22 : SCode := .cond (.t 32) .skip (.exit 0)
def b4_23 : SCode := .seq b4_21 b4_22
abbrev r4_24 : List MOper := [⟨(some 35), .move (.t 7), none⟩,
  ⟨(some 36), .move (.t 9), none⟩,
  ⟨(some 37), .build [.int .i64 0, .int .i64 0, .int .i64 0, .int .i64 0, .int .i64 0, .int .i64 0, .int .i64 0, .int .i64 0, .str [], .str [], .str [], .str [], .int .i64 0, .int .i64 0, .int .i64 0, .int .i64 0, .bool false, .str [], .nilslice, .str [], .bool false, .str [], .str [], .nilslice, .nilslice, .int .i64 0, .nilslice] [(0, 1, (.c (.int .i64 5))), (1, 1, (.c (.int .i64 1))), (2, 1, (.c (.int .i64 0))), (4, 1, (.t 36))], none⟩,
  ⟨(some 38), .buildSlice [.int .i64 0, .int .i64 0, .int .i64 0, .int .i64 0, .int .i64 0, .int .i64 0, .int .i64 0, .int .i64 0, .str [], .str [], .str [], .str [], .int .i64 0, .int .i64 0, .int .i64 0, .int .i64 0, .bool false, .str [], .nilslice, .str [], .bool false, .str [], .str [], .nilslice, .nilslice, .int .i64 0, .nilslice] 27 1 [(0, 27, (.t 37))], none⟩,
  ⟨(some 39), .append 27 344 (.t 35) (.t 38), none⟩,
  ⟨(some 7), .move (.t 39), none⟩]
def b4_24 : SCode := .region r4_24
abbrev r4_25 : List MOper := [⟨(some 40), .move (.t 9), none⟩,
  ⟨(some 41), .indexArrAddr 31 1 (.t 8) (.t 40), none⟩,
  ⟨none, .store 1 (.t 41) (.c (.int .i64 1)), none⟩]
def b4_25 : SCode := .region r4_25
def b4_26 : SCode := .seq b4_24 b4_25
def b4_27 : SCode := .block 1 b4_26
abbrev r4_28 : List MOper := [⟨(some 33), .move (.t 9), none⟩,
  ⟨(some 34), .bin .add .num (.t 33) (.c (.int .i64 1)), none⟩,
  ⟨(some 9), .move (.t 34), none⟩]
def b4_28 : SCode := .region r4_28
def b4_29 : SCode := .seq b4_27 b4_28
def b4_30 : SCode := .seq b4_23 b4_29
def b4_31 : SCode := .loop b4_30
def b4_32 : SCode := .block 0 b4_31
def b4_33 : SCode := .seq b4_20 b4_32
abbrev r4_34 : List MOper := [⟨(some 42), .move (.t 5), none⟩,
  ⟨(some 43), .move (.t 7), none⟩,
  ⟨(some 44), .call 10 [(.t 42), (.t 43)], none⟩,
  ⟨(some 45), .move (.t 6), none⟩,
  ⟨(some 46), .bin .neq .num (.t 44) (.t 45), none⟩]
def b4_34 : SCode := .region r4_34
abbrev r4_35 : List MOper := [⟨(some 4), .move (.c (.bool false)), none⟩]
def b4_35 : SCode := .region r4_35
def b4_36 : SCode := .seq b4_35 .ret
def b4_37 : SCode := .cond (.t 46) b4_36 .skip
def b4_38 : SCode := .seq b4_34 b4_37
abbrev r4_39 : List MOper := [⟨(some 10), .move (.c (.nilslice)), none⟩]
def b4_39 : SCode := .region r4_39
abbrev r4_40 : List MOper := [⟨(some 11), .move (.c (.int .i64 0)), none⟩]
def b4_40 : SCode := .region r4_40
abbrev r4_41 : List MOper := [⟨(some 47), .move (.t 11), none⟩,
  ⟨(some 48), .move (.t 6), none⟩,
  ⟨(some 49), .bin .lss .num (.t 47) (.t 48), none⟩]
def b4_41 : SCode := .region r4_41
def b4_42 : SCode := .cond (.t 49) .skip (.exit 2)
def b4_43 : SCode := .seq b4_41 b4_42
abbrev r4_44 : List MOper := [⟨(some 52), .move (.t 10), none⟩,
  ⟨(some 53), .move (.t 11), none⟩,
  ⟨(some 54), .buildSlice [.int .i64 0] 1 1 [(0, 1, (.t 53))], none⟩,
  ⟨(some 55), .append 1 8 (.t 52) (.t 54), none⟩,
  ⟨(some 10), .move (.t 55), none⟩]
def b4_44 : SCode := .region r4_44
def b4_45 : SCode := .block 3 b4_44
abbrev r4_46 : List MOper := [⟨(some 50), .move (.t 11), none⟩,
  ⟨(some 51), .bin .add .num (.t 50) (.c (.int .i64 1)), none⟩,
  ⟨(some 11), .move (.t 51), none⟩]
def b4_46 : SCode := .region r4_46
def b4_47 : SCode := .seq b4_45 b4_46
def b4_48 : SCode := .seq b4_43 b4_47
def b4_49 : SCode := .loop b4_48
def b4_50 : SCode := .block 2 b4_49
def b4_51 : SCode := .seq b4_40 b4_50
abbrev r4_52 : List MOper := [⟨(some 12), .move (.c (.int .i64 0)), none⟩]
def b4_52 : SCode := .region r4_52
abbrev r4_53 : List MOper := [⟨(some 56), .move (.t 12), none⟩,
  ⟨(some 57), .move (.t 1), none⟩,
  ⟨(some 58), .lenSl (.t 57), none⟩,
  ⟨(some 59), .bin .lss .num (.t 56) (.t 58), none⟩,
  ⟨(some 60), .move (.t 59), none⟩,
  ⟨(some 61), .move (.t 10), (some (60, true))⟩,
  ⟨(some 62), .lenSl (.t 61), (some (60, true))⟩,
  ⟨(some 63), .bin .gtr .num (.t 62) (.c (.int .i64 0)), (some (60, true))⟩,
  ⟨(some 64), .pick (.t 60) (.t 63) (.c (.bool false)), none⟩]
def b4_53 : SCode := .region r4_53
def b4_54 : SCode := .cond (.t 64) .skip (.exit 4)
def b4_55 : SCode := .seq b4_53 b4_54
abbrev r4_56 : List MOper := [⟨(some 67), .move (.t 1), none⟩,
  ⟨(some 68), .move (.t 12), none⟩,
  ⟨(some 69), .indexAddr 1 (.t 67) (.t 68), none⟩,
  ⟨(some 70), .load1 (.t 69), none⟩,
  ⟨(some 71), .bin .shr .num (.t 70) (.c (.int .u64 1)), none⟩,
  ⟨(some 72), .convInt .i64 (.t 71), none⟩,
  ⟨(some 73), .move (.t 10), none⟩,
  ⟨(some 74), .lenSl (.t 73), none⟩,
  ⟨(some 75), .bin .rem .num (.t 72) (.t 74), none⟩,
  ⟨(some 13), .move (.t 75), none⟩]
def b4_56 : SCode := .region r4_56
abbrev r4_57 : List MOper := [⟨(some 76), .move (.t 10), none⟩,
  ⟨(some 77), .move (.t 13), none⟩,
  ⟨(some 78), .indexAddr 1 (.t 76) (.t 77), none⟩,
  ⟨(some 79), .load1 (.t 78), none⟩,
  ⟨(some 14), .move (.t 79), none⟩]
def b4_57 : SCode := .region r4_57
abbrev r4_58 : List MOper := [⟨(some 80), .move (.t 1), none⟩,
  ⟨(some 81), .move (.t 12), none⟩,
  ⟨(some 82), .indexAddr 1 (.t 80) (.t 81), none⟩,
  ⟨(some 83), .load1 (.t 82), none⟩,
  ⟨(some 84), .bin .and .num (.t 83) (.c (.int .u8 1)), none⟩,
  ⟨(some 85), .bin .eql .num (.t 84) (.c (.int .u8 0)), none⟩]
def b4_58 : SCode := .region r4_58
abbrev r4_59 : List MOper := [⟨(some 86), .move (.t 5), none⟩,
  ⟨(some 87), .move (.t 13), none⟩,
  ⟨(some 88), .call 13 [(.t 86), (.t 87)], none⟩,
  ⟨(some 89), .un .not (.t 88), none⟩]
def b4_59 : SCode := .region r4_59
abbrev r4_60 : List MOper := [⟨(some 4), .move (.c (.bool false)), none⟩]
def b4_60 : SCode := .region r4_60
def b4_61 : SCode := .seq b4_60 .ret
def b4_62 : SCode := .cond (.t 89) b4_61 .skip
def b4_63 : SCode := .seq b4_59 b4_62
abbrev r4_64 : List MOper := [⟨(some 90), .move (.t 10), none⟩,
  ⟨(some 91), .move (.t 14), none⟩,
  ⟨(some 92), .buildSlice [.int .i64 0] 1 1 [(0, 1, (.t 91))], none⟩,
  ⟨(some 93), .append 1 8 (.t 90) (.t 92), none⟩,
  ⟨(some 10), .move (.t 93), none⟩]
def b4_64 : SCode := .region r4_64
abbrev r4_65 : List MOper := [⟨(some 94), .move (.t 14), none⟩,
  ⟨(some 95), .indexArrAddr 31 1 (.t 8) (.t 94), none⟩,
  ⟨(some 96), .load1 (.t 95), none⟩,
  ⟨(some 97), .bin .add .num (.t 96) (.c (.int .i64 1)), none⟩,
  ⟨(some 98), .indexArrAddr 31 1 (.t 8) (.t 94), none⟩,
  ⟨none, .store 1 (.t 98) (.t 97), none⟩]
def b4_65 : SCode := .region r4_65
def b4_66 : SCode := .seq b4_64 b4_65
def b4_67 : SCode := .seq b4_63 b4_66
abbrev r4_68 : List MOper := [⟨(some 99), .move (.t 5), none⟩,
  ⟨(some 100), .move (.t 13), none⟩,
  ⟨(some 101), .call 14 [(.t 99), (.t 100)], none⟩,
  ⟨(some 102), .un .not (.t 101), none⟩]
def b4_68 : SCode := .region r4_68
abbrev r4_69 : List MOper := [⟨(some 4), .move (.c (.bool false)), none⟩]
def b4_69 : SCode := .region r4_69
def b4_70 : SCode := .seq b4_69 .ret
def b4_71 : SCode := .cond (.t 102) b4_70 .skip
def b4_72 : SCode := .seq b4_68 b4_71
abbrev t4_73 : LTree := (.quiet ⟨(some 104), .move (.t 10), none⟩ 1
  (.quiet ⟨(some 105), .move (.t 13), none⟩ 2
  (.quiet ⟨(some 106), .slice 1 (.t 104) none (some (.t 105)) none, none⟩ 3
  (.quiet ⟨(some 108), .move (.t 10), none⟩ 5
  (.quiet ⟨(some 109), .move (.t 13), none⟩ 6
  (.quiet ⟨(some 110), .bin .add .num (.t 109) (.c (.int .i64 1)), none⟩ 7
  (.quiet ⟨(some 111), .slice 1 (.t 108) (some (.t 110)) none none, none⟩ 8
  (.loud ⟨(some 103), .buildSlice [.int .i64 0] 1 0 [], none⟩ []
  (.loud ⟨(some 107), .append 1 8 (.t 103) (.t 106), none⟩ []
  (.loud ⟨(some 112), .append 1 8 (.t 107) (.t 111), none⟩ []
  (.quiet ⟨(some 10), .move (.t 112), none⟩ 10
  .leaf) .stop) .stop) .stop))))))))
def b4_73 : SCode := .draw t4_73
abbrev r4_74 : List MOper := [⟨(some 113), .move (.t 14), none⟩,
  ⟨(some 114), .indexArrAddr 31 1 (.t 8) (.t 113), none⟩,
  ⟨(some 115), .load1 (.t 114), none⟩,
  ⟨(some 116), .bin .sub .num (.t 115) (.c (.int .i64 1)), none⟩,
  ⟨(some 117), .indexArrAddr 31 1 (.t 8) (.t 113), none⟩,
  ⟨none, .store 1 (.t 117) (.t 116), none⟩]
def b4_74 : SCode := .region r4_74
def b4_75 : SCode := .seq b4_73 b4_74
def b4_76 : SCode := .seq b4_72 b4_75
def b4_77 : SCode := .cond (.t 85) b4_67 b4_76
def b4_78 : SCode := .seq b4_58 b4_77
def b4_79 : SCode := .seq b4_57 b4_78
def b4_80 : SCode := .seq b4_56 b4_79
def b4_81 : SCode := .block 5 b4_80
abbrev r4_82 : List MOper := [⟨(some 65), .move (.t 12), none⟩,
  ⟨(some 66), .bin .add .num (.t 65) (.c (.int .i64 1)), none⟩,
  ⟨(some 12), .move (.t 66), none⟩]
def b4_82 : SCode := .region r4_82
def b4_83 : SCode := .seq b4_81 b4_82
def b4_84 : SCode := .seq b4_55 b4_83
def b4_85 : SCode := .loop b4_84
def b4_86 : SCode := .block 4 b4_85
def b4_87 : SCode := .seq b4_52 b4_86
abbrev r4_88 : List MOper := [⟨(some 118), .move (.t 5), none⟩,
  ⟨(some 119), .call 15 [(.t 118)], none⟩,
  ⟨(some 120), .bin .gtr .num (.t 119) (.c (.int .i64 0)), none⟩]
def b4_88 : SCode := .region r4_88
def b4_89 : SCode := .cond (.t 120) .skip (.exit 6)
def b4_90 : SCode := .seq b4_88 b4_89
abbrev r4_91 : List MOper := [⟨(some 122), .move (.t 5), none⟩,
  ⟨(some 123), .call 11 [(.t 122), (.c (.int .i64 0))], none⟩,
  ⟨(some 121), .move (.t 123), none⟩,
  ⟨(some 124), .extract (.t 121) 0, none⟩,
  ⟨(some 125), .extract (.t 121) 1, none⟩,
  ⟨(some 15), .alloc [.int .i64 0, .int .i64 0, .int .i64 0, .int .i64 0, .int .i64 0, .int .i64 0, .int .i64 0, .int .i64 0, .str [], .str [], .str [], .str [], .int .i64 0, .int .i64 0, .int .i64 0, .int .i64 0, .bool false, .str [], .nilslice, .str [], .bool false, .str [], .str [], .nilslice, .nilslice, .int .i64 0, .nilslice], none⟩,
  ⟨none, .store 27 (.t 15) (.t 124), none⟩,
  ⟨(some 16), .move (.t 125), none⟩]
def b4_91 : SCode := .region r4_91
abbrev r4_92 : List MOper := [⟨(some 126), .move (.t 16), none⟩,
  ⟨(some 127), .un .not (.t 126), none⟩,
  ⟨(some 128), .move (.t 127), none⟩,
  ⟨(some 129), .fieldAddr 4 (.t 15), (some (128, false))⟩,
  ⟨(some 130), .load1 (.t 129), (some (128, false))⟩,
  ⟨(some 131), .bin .lss .num (.t 130) (.c (.int .i64 0)), (some (128, false))⟩,
  ⟨(some 132), .pick (.t 128) (.c (.bool true)) (.t 131), none⟩,
  ⟨(some 133), .move (.t 132), none⟩,
  ⟨(some 134), .fieldAddr 4 (.t 15), (some (133, false))⟩,
  ⟨(some 135), .load1 (.t 134), (some (133, false))⟩,
  ⟨(some 136), .move (.t 6), (some (133, false))⟩,
  ⟨(some 137), .bin .geq .num (.t 135) (.t 136), (some (133, false))⟩,
  ⟨(some 138), .pick (.t 133) (.c (.bool true)) (.t 137), none⟩]
def b4_92 : SCode := .region r4_92
abbrev r4_93 : List MOper := [⟨(some 4), .move (.c (.bool false)), none⟩]
def b4_93 : SCode := .region r4_93
def b4_94 : SCode := .seq b4_93 .ret
def b4_95 : SCode := .cond (.t 138) b4_94 .skip
def b4_96 : SCode := .seq b4_92 b4_95
abbrev r4_97 : List MOper := [⟨(some 139), .fieldAddr 4 (.t 15), none⟩,
  ⟨(some 140), .load1 (.t 139), none⟩,
  ⟨(some 141), .indexArrAddr 31 1 (.t 8) (.t 140), none⟩,
  ⟨(some 142), .load1 (.t 141), none⟩,
  ⟨(some 143), .bin .sub .num (.t 142) (.c (.int .i64 1)), none⟩,
  ⟨(some 144), .indexArrAddr 31 1 (.t 8) (.t 140), none⟩,
  ⟨none, .store 1 (.t 144) (.t 143), none⟩]
def b4_97 : SCode := .region r4_97
abbrev r4_98 : List MOper := [⟨(some 145), .fieldAddr 4 (.t 15), none⟩,
  ⟨(some 146), .load1 (.t 145), none⟩,
  ⟨(some 147), .indexArrAddr 31 1 (.t 8) (.t 146), none⟩,
  ⟨(some 148), .load1 (.t 147), none⟩,
  ⟨(some 149), .bin .lss .num (.t 148) (.c (.int .i64 0)), none⟩]
def b4_98 : SCode := .region r4_98
abbrev r4_99 : List MOper := [⟨(some 4), .move (.c (.bool false)), none⟩]
def b4_99 : SCode := .region r4_99
def b4_100 : SCode := .seq b4_99 .ret
def b4_101 : SCode := .cond (.t 149) b4_100 .skip
def b4_102 : SCode := .seq b4_98 b4_101
def b4_103 : SCode := .seq b4_97 b4_102
def b4_104 : SCode := .seq b4_96 b4_103
def b4_105 : SCode := .seq b4_91 b4_104
def b4_106 : SCode := .block 7 b4_105
def b4_107 : SCode := .seq b4_90 b4_106
def b4_108 : SCode := .loop b4_107
def b4_109 : SCode := .block 6 b4_108
abbrev r4_110 : List MOper := [⟨(some 17), .move (.c (.int .i64 0)), none⟩]
def b4_110 : SCode := .region r4_110
abbrev r4_111 : List MOper := [⟨(some 150), .move (.t 17), none⟩,
  ⟨(some 151), .move (.t 6), none⟩,
  ⟨(some 152), .bin .lss .num (.t 150) (.t 151), none⟩]
def b4_111 : SCode := .region r4_111
def b4_112 : SCode := .cond (.t 152) .skip (.exit 8)
def b4_113 : SCode := .seq b4_111 b4_112
abbrev r4_114 : List MOper := [⟨(some 155), .move (.t 17), none⟩,
  ⟨(some 156), .indexArrAddr 31 1 (.t 8) (.t 155), none⟩,
  ⟨(some 157), .load1 (.t 156), none⟩,
  ⟨(some 158), .bin .neq .num (.t 157) (.c (.int .i64 0)), none⟩]
def b4_114 : SCode := .region r4_114
abbrev r4_115 : List MOper := [⟨(some 4), .move (.c (.bool false)), none⟩]
def b4_115 : SCode := .region r4_115
def b4_116 : SCode := .seq b4_115 .ret
def b4_117 : SCode := .cond (.t 158) b4_116 .skip
def b4_118 : SCode := .seq b4_114 b4_117
def b4_119 : SCode := .block 9 b4_118
abbrev r4_120 : List MOper := [⟨(some 153), .move (.t 17), none⟩,
  ⟨(some 154), .bin .add .num (.t 153) (.c (.int .i64 1)), none⟩,
  ⟨(some 17), .move (.t 154), none⟩]
def b4_120 : SCode := .region r4_120
def b4_121 : SCode := .seq b4_119 b4_120
def b4_122 : SCode := .seq b4_113 b4_121
def b4_123 : SCode := .loop b4_122
def b4_124 : SCode := .block 8 b4_123
def b4_125 : SCode := .seq b4_110 b4_124
abbrev r4_126 : List MOper := [⟨(some 4), .move (.c (.bool true)), none⟩]
def b4_126 : SCode := .region r4_126
def b4_127 : SCode := .seq b4_126 .ret
def b4_128 : SCode := .seq b4_125 b4_127
def b4_129 : SCode := .seq b4_109 b4_128
def b4_130 : SCode := .seq b4_87 b4_129
def b4_131 : SCode := .seq b4_51 b4_130
def b4_132 : SCode := .seq b4_39 b4_131
def b4_133 : SCode := .seq b4_38 b4_132
def b4_134 : SCode := .seq b4_33 b4_133
def b4_135 : SCode := .seq b4_19 b4_134
def b4_136 : SCode := .seq b4_18 b4_135
def b4_137 : SCode := .seq b4_17 b4_136
def b4_138 : SCode := .seq b4_16 b4_137
def b4_139 : SCode := .seq b4_11 b4_138
def b4_140 : SCode := .seq b4_10 b4_139
def b4_141 : SCode := .seq b4_5 b4_140
def b4_142 : SCode := .seq b4_0 b4_141
def s4 : SFunc := ⟨159, [.t 4], b4_142⟩
theorem c4 : sFn Try.prog 4 = some s4 := by kernel_rfl
theorem x4_129 : XS b4_129 b4_109 b4_128 := rfl
theorem x4_130 : XS b4_130 b4_87 b4_129 := rfl
theorem x4_133 : XS b4_133 b4_38 b4_132 := rfl
theorem Z4 : XR b4_0 r4_0 ∧ XR b4_1 r4_1 ∧ XR b4_2 r4_2 ∧ XS b4_3 b4_2 .ret ∧ XC b4_4 (.t 19) b4_3 .skip ∧ XS b4_5 b4_1 b4_4 ∧ XR b4_6 r4_6 ∧ XR b4_7 r4_7 ∧ XS b4_8 b4_7 .ret ∧ XC b4_9 (.t 22) b4_8 .skip ∧ XS b4_10 b4_6 b4_9 ∧ XR b4_11 r4_11 ∧ XR b4_12 r4_12 ∧ XR b4_13 r4_13 ∧ XS b4_14 b4_13 .ret ∧ XC b4_15 (.t 25) b4_14 .skip ∧ XS b4_16 b4_12 b4_15 ∧ XR b4_17 r4_17 ∧ XR b4_18 r4_18 ∧ XR b4_19 r4_19 ∧ XR b4_20 r4_20 ∧ XR b4_21 r4_21 ∧ XC b4_22 (.t 32) .skip (.exit 0) ∧ XS b4_23 b4_21 b4_22 ∧ XR b4_24 r4_24 ∧ XR b4_25 r4_25 ∧ XS b4_26 b4_24 b4_25 ∧ XB b4_27 1 b4_26 ∧ XR b4_28 r4_28 ∧ XS b4_29 b4_27 b4_28 ∧ XS b4_30 b4_23 b4_29 ∧ XB b4_32 0 b4_31 ∧ XS b4_33 b4_20 b4_32 ∧ XR b4_34 r4_34 ∧ XR b4_35 r4_35 ∧ XS b4_36 b4_35 .ret ∧ XC b4_37 (.t 46) b4_36 .skip ∧ XS b4_38 b4_34 b4_37 ∧ XR b4_39 r4_39 ∧ XR b4_40 r4_40 ∧ XR b4_41 r4_41 ∧ XC b4_42 (.t 49) .skip (.exit 2) ∧ XS b4_43 b4_41 b4_42 ∧ XR b4_44 r4_44 ∧ XB b4_45 3 b4_44 ∧ XR b4_46 r4_46 ∧ XS b4_47 b4_45 b4_46 ∧ XS b4_48 b4_43 b4_47 ∧ XB b4_50 2 b4_49 ∧ XS b4_51 b4_40 b4_50 ∧ XR b4_52 r4_52 ∧ XR b4_53 r4_53 ∧ XC b4_54 (.t 64) .skip (.exit 4) ∧ XS b4_55 b4_53 b4_54 ∧ XR b4_56 r4_56 ∧ XR b4_57 r4_57 ∧ XR b4_58 r4_58 ∧ XR b4_59 r4_59 ∧ XR b4_60 r4_60 ∧ XS b4_61 b4_60 .ret ∧ XC b4_62 (.t 89) b4_61 .skip ∧ XS b4_63 b4_59 b4_62 ∧ XR b4_64 r4_64 ∧ XR b4_65 r4_65 ∧ XS b4_66 b4_64 b4_65 ∧ XS b4_67 b4_63 b4_66 ∧ XR b4_68 r4_68 ∧ XR b4_69 r4_69 ∧ XS b4_70 b4_69 .ret ∧ XC b4_71 (.t 102) b4_70 .skip ∧ XS b4_72 b4_68 b4_71 ∧ XT b4_73 t4_73 ∧ XR b4_74 r4_74 ∧ XS b4_75 b4_73 b4_74 ∧ XS b4_76 b4_72 b4_75 ∧ XC b4_77 (.t 85) b4_67 b4_76 ∧ XS b4_78 b4_58 b4_77 ∧ XS b4_79 b4_57 b4_78 ∧ XS b4_80 b4_56 b4_79 ∧ XB b4_81 5 b4_80 ∧ XR b4_82 r4_82 ∧ XS b4_83 b4_81 b4_82 ∧ XS b4_84 b4_55 b4_83 ∧ XB b4_86 4 b4_85 ∧ XS b4_87 b4_52 b4_86 ∧ XR b4_88 r4_88 ∧ XC b4_89 (.t 120) .skip (.exit 6) ∧ XS b4_90 b4_88 b4_89 ∧ XR b4_91 r4_91 ∧ XR b4_92 r4_92 ∧ XR b4_93 r4_93 ∧ XS b4_94 b4_93 .ret ∧ XC b4_95 (.t 138) b4_94 .skip ∧ XS b4_96 b4_92 b4_95 ∧ XR b4_97 r4_97 ∧ XR b4_98 r4_98 ∧ XR b4_99 r4_99 ∧ XS b4_100 b4_99 .ret ∧ XC b4_101 (.t 149) b4_100 .skip ∧ XS b4_102 b4_98 b4_101 ∧ XS b4_103 b4_97 b4_102 ∧ XS b4_104 b4_96 b4_103 ∧ XS b4_105 b4_91 b4_104 ∧ XB b4_106 7 b4_105 ∧ XS b4_107 b4_90 b4_106 ∧ XB b4_109 6 b4_108 ∧ XR b4_110 r4_110 ∧ XR b4_111 r4_111 ∧ XC b4_112 (.t 152) .skip (.exit 8) ∧ XS b4_113 b4_111 b4_112 ∧ XR b4_114 r4_114 ∧ XR b4_115 r4_115 ∧ XS b4_116 b4_115 .ret ∧ XC b4_117 (.t 158) b4_116 .skip ∧ XS b4_118 b4_114 b4_117 ∧ XB b4_119 9 b4_118 ∧ XR b4_120 r4_120 ∧ XS b4_121 b4_119 b4_120 ∧ XS b4_122 b4_113 b4_121 ∧ XB b4_124 8 b4_123 ∧ XS b4_125 b4_110 b4_124 ∧ XR b4_126 r4_126 ∧ XS b4_127 b4_126 .ret ∧ XS b4_128 b4_125 b4_127 ∧ XS b4_131 b4_51 b4_130 ∧ XS b4_132 b4_39 b4_131 ∧ XS b4_134 b4_33 b4_133 ∧ XS b4_135 b4_19 b4_134 ∧ XS b4_136 b4_18 b4_135 ∧ XS b4_137 b4_17 b4_136 ∧ XS b4_138 b4_16 b4_137 ∧ XS b4_139 b4_11 b4_138 ∧ XS b4_140 b4_10 b4_139 ∧ XS b4_141 b4_5 b4_140 ∧ XS b4_142 b4_0 b4_141 ∧ XY s4 159 b4_142 [.t 4] := ⟨rfl, rfl, rfl, rfl, sC_cond, rfl, rfl, rfl, rfl, sC_cond, rfl, rfl, rfl, rfl, rfl, sC_cond, rfl, rfl, rfl, rfl, rfl, rfl, sC_cond, rfl, rfl, rfl, rfl, rfl, rfl, rfl, rfl, rfl, rfl, rfl, rfl, rfl, sC_cond, rfl, rfl, rfl, rfl, sC_cond, rfl, rfl, rfl, rfl, rfl, rfl, rfl, rfl, rfl, rfl, sC_cond, rfl, rfl, rfl, rfl, rfl, rfl, rfl, sC_cond, rfl, rfl, rfl, rfl, rfl, rfl, rfl, rfl, sC_cond, rfl, rfl, rfl, rfl, rfl, sC_cond, rfl, rfl, rfl, rfl, rfl, rfl, rfl, rfl, rfl, rfl, sC_cond, rfl, rfl, rfl, rfl, rfl, sC_cond, rfl, rfl, rfl, rfl, rfl, sC_cond, rfl, rfl, rfl, rfl, rfl, rfl, rfl, rfl, rfl, sC_cond, rfl, rfl, rfl, rfl, sC_cond, rfl, rfl, rfl, rfl, rfl, rfl, rfl, rfl, rfl, rfl, rfl, rfl, rfl, rfl, rfl, rfl, rfl, rfl, rfl, rfl, rfl, rfl⟩

set_option maxHeartbeats 4000000
set_option maxRecDepth 10000
def T4 : PCall := rowQ 5 mawakeD (rowQ 7 mnewD (rowQ 10 msendOD (rowQ 11 mtakeD (rowQ 13 mcopyD (rowQ 14 mloseD (rowQ 15 mlenD noCall))))))
theorem T4_app {f : FuncId} {args : List AV} {σ : AHeap} {K : AV → AHeap → Prop} : T4 f args σ K = rowQ 5 mawakeD (rowQ 7 mnewD (rowQ 10 msendOD (rowQ 11 mtakeD (rowQ 13 mcopyD (rowQ 14 mloseD (rowQ 15 mlenD noCall)))))) f args σ K := _root_.id rfl
theorem T4_sound : Sound Try.prog T4 := rowQ_sound mawakeD_ok (rowQ_sound mnewD_ok (rowQ_sound msendOD_ok (rowQ_sound mtakeD_ok (rowQ_sound mcopyD_ok (rowQ_sound mloseD_ok (rowQ_sound mlenD_ok (noCall_sound _)))))))
theorem yes_true {σ : AHeap} : Yes (.bool true) σ := rfl
def bt (j : Nat) : NoteV := bare 5 1 0 0 (j : Int)
abbrev btC (j : Nat) : List AV := bareC 5 1 0 0 (j : Int)
theorem bt_may {j : Nat} (h : j ≤ 1000) : mayB (bt j) = true := by
  have hn : numB (j : Int) = true := by simp only [numB, Bool.and_eq_true, decide_eq_true_eq]; omega
  have h1 : asksB (bt j) = true := by
    show (!AskV.zero.bad && !RepV.zero.bad && (decide ((5 : Int) = 1) || noAskB AskV.zero) && (decide ((5 : Int) = 2) || noRepB RepV.zero)) = true
    decide +kernel
  have h2 : headB (bt j) = true := by
    show (!decide ((5 : Int) < 1) && (!decide (12 < (5 : Int)) && (partyB 1 && (partyB 0 && (!decide ((1 : Int) = 0) && (numB 0 && numB (j : Int))))))) = true
    rw [hn]; decide +kernel
  have h3 : tickB (bt j) = true := by
    show (decide ((j : Int) = 0) || [5, 6].contains (5 : Int)) = true
    simp
  have h4 : spansB (bt j) = true := rfl
  have h5 : mapsB (bt j) = true := rfl
  simp only [mayB, h1, h2, h3, h4, h5, Bool.and_self]
theorem sent : ∀ {i : Nat}, i ≤ 1000 → sendS [] ((List.range i).map bt) = (min i 512, (List.range (min i 512)).map fun j => (bt j).bytes)
  | 0, _ => rfl
  | i + 1, h => by
    have ih := sent (i := i) (by omega)
    have e : (List.range (i + 1)).map bt = (List.range i).map bt ++ [bt i] := by rw [List.range_succ, List.map_append]; rfl
    have e2 : sendS [] ((List.range (i + 1)).map bt) = send1 (sendS [] ((List.range i).map bt)) (bt i) := by rw [e, sendS, List.foldl_append]; rfl
    rw [e2, ih]
    unfold send1
    by_cases hl : i < 512
    · rw [if_pos ⟨bt_may (by omega), by simp; omega⟩, show min i 512 = i by omega, show min (i + 1) 512 = i + 1 by omega, List.range_succ, List.map_append]; rfl
    · rw [if_neg (by simp; omega), show min i 512 = 512 by omega, show min (i + 1) 512 = 512 by omega]
theorem bt_cells (j : Nat) : (btC j).map nz1 = (bt j).cells := rfl
/-! How many of each. -/
def cntC (o : List Nat) : List AV := (List.range 31).map fun x => .int .i64 ((o.count x : Nat) : Int)
theorem cnt_len (o : List Nat) : (cntC o).length = 31 := by simp [cntC]
theorem cnt_at {o : List Nat} {x : Nat} (h : x < 31) : (cntC o)[x]? = some (.int .i64 ((o.count x : Nat) : Int)) := by simp [cntC, h]
theorem cnt_set {o p : List Nat} {x : Nat} {c : Nat} (h : x < 31) (hx : p.count x = c) (hy : ∀ y, y ≠ x → p.count y = o.count y) : put (cntC o) x [.int .i64 (c : Int)] = some (cntC p) := by
  rw [put_one1 (by rw [cnt_len]; exact h)]
  congr 1
  apply List.ext_getElem?
  intro n
  rw [List.getElem?_set]
  by_cases hn : x = n
  · subst hn
    rw [if_pos rfl, if_pos (by rw [cnt_len]; exact h), cnt_at h, hx]
  · rw [if_neg hn]
    by_cases hlt : n < 31
    · rw [cnt_at hlt, cnt_at hlt, hy n (fun h => hn h.symm)]
    · rw [List.getElem?_eq_none (by rw [cnt_len]; omega), List.getElem?_eq_none (by rw [cnt_len]; omega)]
theorem cnt_app {o : List Nat} {x : Nat} (h : x < 31) : put (cntC o) x [.int .i64 ((o.count x + 1 : Nat) : Int)] = some (cntC (o ++ [x])) :=
  cnt_set h (by rw [List.count_append, List.count_cons_self]; simp) fun y hy => by rw [List.count_append, List.count_cons_of_ne (fun h => hy h.symm)]; simp
theorem count_split {o : List Nat} {a x : Nat} (h : o[a]? = some x) (y : Nat) : o.count y = (o.eraseIdx a).count y + if x = y then 1 else 0 := by
  have ha := (List.getElem?_eq_some_iff.1 h).1
  have hx := (List.getElem?_eq_some_iff.1 h).2
  have e : o = o.take a ++ x :: o.drop (a + 1) := by rw [← hx, List.getElem_cons_drop, List.take_append_drop]
  rw [List.eraseIdx_eq_take_drop_succ]
  conv => lhs; rw [e]
  rw [List.count_append, List.count_append, List.count_cons]
  by_cases hxy : x = y
  · subst hxy; simp; omega
  · rw [if_neg hxy]; simp [hxy]
theorem cnt_del {o : List Nat} {a x : Nat} (h : x < 31) (ha : o[a]? = some x) : ∃ c : Nat, o.count x = c + 1 ∧ put (cntC o) x [.int .i64 (c : Int)] = some (cntC (o.eraseIdx a)) := by
  have h1 := count_split ha x
  rw [if_pos rfl] at h1
  exact ⟨_, h1, cnt_set h rfl fun y hy => by have := count_split ha y; rw [if_neg (fun h => hy h.symm)] at this; omega⟩
theorem cnt_zero : List.replicate 31 (AV.int .i64 0) = cntC [] := by rfl
abbrev ordC (o : List Nat) : List (List AV) := o.map fun (j : Nat) => [AV.int .i64 (j : Int)]
abbrev bts (o : List Nat) : List (List UInt8) := o.map fun (j : Nat) => (bt j).bytes
theorem grow_lenS {σ : AHeap} {Lv : AV} {w n : Nat} {rows : List (List AV)} (h : Grow σ Lv w rows ∧ rows.length = n) : lenSl Lv = some n := by
  obtain ⟨h | ⟨d, h, _⟩, hn⟩ := h
  · rw [h.1, ← hn, h.2]; rfl
  · rw [h, ← hn]; rfl
theorem count_range (i : Nat) : (List.range i).count i = 0 := List.count_eq_zero.2 (by simp)
/-! What is sent. -/
def cfI (ops : List UInt8) (M S B k : Nat) (m : Nat) (e : Env) (σ : AHeap) : Prop :=
  ∃ (i : Nat) (Lv : AV), i ≤ k ∧ m = k - i ∧ Ml σ M S [] none ∧ Grow σ Lv 27 ((List.range i).map btC) ∧ hget σ B = some (cntC (List.range i)) ∧ B ≠ M ∧ B ≠ S ∧ LvD Lv ≠ some M ∧ LvD Lv ≠ some S ∧ LvD Lv ≠ some B ∧
    e 1 = .imm (rws ops) false false ∧ e 5 = .ptr M 0 ∧ e 6 = .int .i64 (k : Int) ∧ e 7 = Lv ∧ e 8 = .ptr B 0 ∧ e 9 = .int .i64 (i : Int)
theorem cf_step (ops : List UInt8) (M S B k : Nat) (hk : k ≤ 30)
    (hQ : ∀ e σ Lv, Ml σ M S [] none → Grow σ Lv 27 ((List.range k).map btC) → hget σ B = some (cntC (List.range k)) → B ≠ M → B ≠ S → LvD Lv ≠ some M → LvD Lv ≠ some S → LvD Lv ≠ some B → e 1 = .imm (rws ops) false false → e 5 = .ptr M 0 → e 6 = .int .i64 (k : Int) → e 7 = Lv → e 8 = .ptr B 0 → sC T4 0 b4_133 (unw T4 0 (RetQ [.t 4] Yes) .fin) e σ) (m : Nat) (e : Env) (σ : AHeap) (h : cfI ops M S B k m e σ) :
    sC T4 0 b4_30 (unw T4 0 (loopR T4 0 (RetQ [.t 4] Yes) (.block 0 (.seq b4_133 .fin)) (cfI ops M S B k) m) .fin) e σ := by
  obtain ⟨i, Lv, hi, hm, hml, hg, hB, bM, bS, dM, dS, dB, e1, e5, e6, e7, e8, e9⟩ := h
  rcases Nat.lt_or_ge i k with hlt | hge
  · have hlt' : (i : Int) < (k : Int) := by omega
    have hge0 : (0 : Int) ≤ (i : Int) := by omega
    have h31' : (i : Int) < 31 := by omega
    have h31 : i < 31 := by omega
    have hwr : IntKind.wrap .i64 ((i : Int) + 1) = ((i + 1 : Nat) : Int) := by rw [Gz.wrap64 (by omega)]; omega
    obtain ⟨v, τ, a1, a2, a3, a4, a5⟩ := grow_one (b := 344) (by decide) hg (by simp; omega) (btC i) rfl rfl
    have t1 := (a4 _ _ hB dB).1
    have p1 : put (cntC (List.range i)) i [.int .i64 1] = some (cntC (List.range (i + 1))) := by
      have := cnt_app (o := List.range i) h31
      rw [count_range, ← List.range_succ] at this
      exact this
    simp only [T4_app, Z4, x4_129, x4_130, base1, ↓reduceIte, Nat.reduceAdd, Nat.reduceSub, Nat.reduceMul, Nat.reduceEqDiff, Nat.reduceLeDiff, Nat.reduceLT, Int.reduceLT, Int.reduceLE, Int.reduceEq, Int.reduceNe, Int.reduceToNat, Int.reduceAdd, Int.reduceSub, reduceCtorEq, Nat.reduceBEq, Nat.reduceBNe, loopR_exit, loopR_ret, e1, e5, e6, e7, e8, e9, hlt', a1, a2, a3, t1, hge0, h31', h31, Int.toNat_natCast, p1, hwr]
    rw [loopR_normal]
    have ml1 : Ml (hset τ B (cntC (List.range (i + 1)))) M S [] none := ml_keep0 hml fun j c hj hd => by
      rw [set_other (hd.elim (fun h => h ▸ bM) (fun h => h ▸ bS))]
      exact (a4 _ _ hj (hd.elim (fun h => h ▸ dM) (fun h => h ▸ dS))).1
    obtain ⟨cS, hcS⟩ := ml_spool hml
    have vB := (a4 _ _ hB dB).2
    refine ⟨k - (i + 1), _, _, by omega, .refl _ _ _, i + 1, v, hlt, rfl, ml1, ?_, set_same t1, bM, bS, (a4 _ _ hml.m dM).2, (a4 _ _ hcS dS).2, vB, e1, e5, e6, rfl, e8, rfl⟩
    rw [List.range_succ, List.map_append]
    exact grow_frame a5 fun j c hj hd => by rw [set_other (fun h => vB (by rw [hd, h]))]; exact hj
  · have hlt' : ¬ (i : Int) < (k : Int) := by omega
    have hie : i = k := by omega
    subst hie
    simp only [T4_app, Z4, x4_129, x4_130, base1, ↓reduceIte, Nat.reduceAdd, Nat.reduceSub, Nat.reduceMul, Nat.reduceEqDiff, Nat.reduceLeDiff, Nat.reduceLT, Int.reduceLT, Int.reduceLE, Int.reduceEq, Int.reduceNe, Int.reduceToNat, Int.reduceAdd, Int.reduceSub, reduceCtorEq, Nat.reduceBEq, Nat.reduceBNe, loopR_exit, loopR_ret, e1, e5, e6, e7, e8, e9, hlt']
    exact hQ _ _ Lv hml hg hB bM bS dM dS dB e1 e5 e6 e7 e8
/-! The order. -/
def c2I (ops : List UInt8) (M S B k : Nat) (D : Option Nat) (m : Nat) (e : Env) (σ : AHeap) : Prop :=
  ∃ (i : Nat) (Ov : AV), i ≤ k ∧ m = k - i ∧ Ml σ M S (bts (List.range k)) D ∧ Grow σ Ov 1 (ordC (List.range i)) ∧ hget σ B = some (cntC (List.range k)) ∧ LvD Ov ≠ some M ∧ LvD Ov ≠ some S ∧ LvD Ov ≠ some B ∧ (∀ d, D = some d → LvD Ov ≠ some d) ∧
    e 1 = .imm (rws ops) false false ∧ e 5 = .ptr M 0 ∧ e 6 = .int .i64 (k : Int) ∧ e 8 = .ptr B 0 ∧ e 10 = Ov ∧ e 11 = .int .i64 (i : Int)
theorem c2_step (ops : List UInt8) (M S B k : Nat) (hk : k ≤ 30) (D : Option Nat)
    (hQ : ∀ e σ Ov, Ml σ M S (bts (List.range k)) D → Grow σ Ov 1 (ordC (List.range k)) → hget σ B = some (cntC (List.range k)) → LvD Ov ≠ some M → LvD Ov ≠ some S → LvD Ov ≠ some B → (∀ d, D = some d → LvD Ov ≠ some d) → e 1 = .imm (rws ops) false false → e 5 = .ptr M 0 → e 6 = .int .i64 (k : Int) → e 8 = .ptr B 0 → e 10 = Ov → sC T4 0 b4_130 (unw T4 0 (RetQ [.t 4] Yes) .fin) e σ) (m : Nat) (e : Env) (σ : AHeap) (h : c2I ops M S B k D m e σ) :
    sC T4 0 b4_48 (unw T4 0 (loopR T4 0 (RetQ [.t 4] Yes) (.block 2 (.seq b4_130 .fin)) (c2I ops M S B k D) m) .fin) e σ := by
  obtain ⟨i, Ov, hi, hm, hml, hg, hB, dM, dS, dB, dD, e1, e5, e6, e8, e10, e11⟩ := h
  rcases Nat.lt_or_ge i k with hlt | hge
  · have hlt' : (i : Int) < (k : Int) := by omega
    have hwr : IntKind.wrap .i64 ((i : Int) + 1) = ((i + 1 : Nat) : Int) := by rw [Gz.wrap64 (by omega)]; omega
    obtain ⟨v, τ, a1, a2, a3, a4, a5⟩ := grow_one (b := 8) (by decide) hg (by simp; omega) [.int .i64 (i : Int)] rfl rfl
    simp only [T4_app, Z4, x4_129, base1, ↓reduceIte, Nat.reduceAdd, Nat.reduceSub, Nat.reduceMul, Nat.reduceEqDiff, Nat.reduceLeDiff, Nat.reduceLT, Int.reduceLT, Int.reduceLE, Int.reduceEq, Int.reduceNe, Int.reduceToNat, Int.reduceAdd, Int.reduceSub, reduceCtorEq, Nat.reduceBEq, Nat.reduceBNe, loopR_exit, loopR_ret, e1, e5, e6, e8, e10, e11, hlt', a1, a2, a3, hwr]
    rw [loopR_normal]
    have ml1 : Ml τ M S (bts (List.range k)) D := ml_keep hml fun j c hj hd => (a4 _ _ hj (hd.elim (fun h => h ▸ dM) (fun h => h.elim (fun h => h ▸ dS) (fun h => dD j h)))).1
    obtain ⟨cS, hcS⟩ := ml_spool hml
    refine ⟨k - (i + 1), _, _, by omega, .refl _ _ _, i + 1, v, hlt, rfl, ml1, ?_, (a4 _ _ hB dB).1, (a4 _ _ hml.m dM).2, (a4 _ _ hcS dS).2, (a4 _ _ hB dB).2, fun x hx => ?_, e1, e5, e6, e8, rfl, rfl⟩
    · rw [List.range_succ, ordC, List.map_append]; exact a5
    · rcases hml.sp with ⟨h, _, _⟩ | ⟨y, _, h, _, _, hy⟩
      · rw [h] at hx; cases hx
      · rw [h] at hx; cases hx
        exact (a4 _ _ hy (dD _ h)).2
  · have hlt' : ¬ (i : Int) < (k : Int) := by omega
    have hie : i = k := by omega
    subst hie
    simp only [T4_app, Z4, x4_129, base1, ↓reduceIte, Nat.reduceAdd, Nat.reduceSub, Nat.reduceMul, Nat.reduceEqDiff, Nat.reduceLeDiff, Nat.reduceLT, Int.reduceLT, Int.reduceLE, Int.reduceEq, Int.reduceNe, Int.reduceToNat, Int.reduceAdd, Int.reduceSub, reduceCtorEq, Nat.reduceBEq, Nat.reduceBNe, loopR_exit, loopR_ret, e1, e5, e6, e8, e10, e11, hlt']
    exact hQ _ _ Ov hml hg hB dM dS dB dD e1 e5 e6 e8 e10
/-! All are none. -/
def c5I (B k : Nat) (m : Nat) (e : Env) (σ : AHeap) : Prop := ∃ i, i ≤ k ∧ m = k - i ∧ hget σ B = some (cntC []) ∧ e 6 = .int .i64 (k : Int) ∧ e 8 = .ptr B 0 ∧ e 17 = .int .i64 (i : Int)
theorem c5_step (B k : Nat) (hk : k ≤ 30) (m : Nat) (e : Env) (σ : AHeap) (h : c5I B k m e σ) :
    sC T4 0 b4_122 (unw T4 0 (loopR T4 0 (RetQ [.t 4] Yes) (.block 8 (.seq b4_127 .fin)) (c5I B k) m) .fin) e σ := by
  obtain ⟨i, hi, hm, hB, e6, e8, e17⟩ := h
  rcases Nat.lt_or_ge i k with hlt | hge
  · have hlt' : (i : Int) < (k : Int) := by omega
    have hge0 : (0 : Int) ≤ (i : Int) := by omega
    have h31' : (i : Int) < 31 := by omega
    have h31 : i < 31 := by omega
    have hc : (cntC [])[i]? = some (.int .i64 0) := cnt_at h31
    have hwr : IntKind.wrap .i64 ((i : Int) + 1) = ((i + 1 : Nat) : Int) := by rw [Gz.wrap64 (by omega)]; omega
    simp only [T4_app, Z4, x4_129, x4_130, x4_133, base1, ↓reduceIte, Nat.reduceAdd, Nat.reduceSub, Nat.reduceMul, Nat.reduceEqDiff, Nat.reduceLeDiff, Nat.reduceLT, Int.reduceLT, Int.reduceLE, Int.reduceEq, Int.reduceNe, Int.reduceToNat, Int.reduceAdd, Int.reduceSub, reduceCtorEq, Nat.reduceBEq, Nat.reduceBNe, loopR_exit, loopR_ret, e6, e8, e17, hlt', hB, hge0, h31', h31, Int.toNat_natCast, hc, hwr]
    rw [loopR_normal]
    exact ⟨k - (i + 1), _, _, by omega, .refl _ _ _, i + 1, hlt, rfl, hB, e6, e8, rfl⟩
  · have hlt' : ¬ (i : Int) < (k : Int) := by omega
    simp only [T4_app, Z4, x4_129, x4_130, x4_133, base1, ↓reduceIte, Nat.reduceAdd, Nat.reduceSub, Nat.reduceMul, Nat.reduceEqDiff, Nat.reduceLeDiff, Nat.reduceLT, Int.reduceLT, Int.reduceLE, Int.reduceEq, Int.reduceNe, Int.reduceToNat, Int.reduceAdd, Int.reduceSub, reduceCtorEq, Nat.reduceBEq, Nat.reduceBNe, loopR_exit, loopR_ret, e6, e8, e17, hlt']
    exact yes_true
/-! All are taken. -/
def c4I (M S B k : Nat) (m : Nat) (e : Env) (σ : AHeap) : Prop :=
  ∃ (o : List Nat) (D : Option Nat), m = o.length ∧ (∀ j ∈ o, j < k) ∧ Ml σ M S (bts o) D ∧ hget σ B = some (cntC o) ∧ D ≠ some B ∧ e 5 = .ptr M 0 ∧ e 6 = .int .i64 (k : Int) ∧ e 8 = .ptr B 0
theorem c4_step (M S B k : Nat) (hk : k ≤ 30) (bM : B ≠ M) (bS : B ≠ S) (m : Nat) (e : Env) (σ : AHeap) (h : c4I M S B k m e σ) :
    sC T4 0 b4_107 (unw T4 0 (loopR T4 0 (RetQ [.t 4] Yes) (.block 6 (.seq b4_128 .fin)) (c4I M S B k) m) .fin) e σ := by
  obtain ⟨o, D, hm, ho, hml, hB, bD, e5, e6, e8⟩ := h
  have hbl : (bts o).length = o.length := by simp
  simp only [T4_app, Z4, x4_129, x4_130, x4_133, base1, ↓reduceIte, Nat.reduceAdd, Nat.reduceSub, Nat.reduceMul, Nat.reduceEqDiff, Nat.reduceLeDiff, Nat.reduceLT, Int.reduceLT, Int.reduceLE, Int.reduceEq, Int.reduceNe, Int.reduceToNat, Int.reduceAdd, Int.reduceSub, reduceCtorEq, Nat.reduceBEq, Nat.reduceBNe, loopR_exit, loopR_ret, e5, e6, e8]
  refine ⟨M, S, _, D, rfl, hml, ?_⟩
  cases o with
  | nil =>
    simp only [T4_app, Z4, x4_129, x4_130, x4_133, base1, ↓reduceIte, Nat.reduceAdd, Nat.reduceSub, Nat.reduceMul, Nat.reduceEqDiff, Nat.reduceLeDiff, Nat.reduceLT, Int.reduceLT, Int.reduceLE, Int.reduceEq, Int.reduceNe, Int.reduceToNat, Int.reduceAdd, Int.reduceSub, reduceCtorEq, Nat.reduceBEq, Nat.reduceBNe, loopR_exit, loopR_ret, e5, e6, e8, List.map_nil, List.length_nil]
    exact sC_inv (a := b4_122) (c5I B k) k _ _ (.refl _ _ _) ⟨0, Nat.zero_le _, rfl, hB, e6, e8, rfl⟩ (c5_step B k hk)
  | cons x o =>
    have hx : x < k := ho x (by simp)
    have hpos : (0 : Int) < (((bts o).length + 1 : Nat) : Int) := by omega
    simp only [T4_app, Z4, x4_129, x4_130, x4_133, base1, ↓reduceIte, Nat.reduceAdd, Nat.reduceSub, Nat.reduceMul, Nat.reduceEqDiff, Nat.reduceLeDiff, Nat.reduceLT, Int.reduceLT, Int.reduceLE, Int.reduceEq, Int.reduceNe, Int.reduceToNat, Int.reduceAdd, Int.reduceSub, reduceCtorEq, Nat.reduceBEq, Nat.reduceBNe, loopR_exit, loopR_ret, e5, e6, e8, hpos]
    refine ⟨M, S, 0, _, D, rfl, by decide, hml, fun z hz => ?_, fun hp => ?_, fun j z hj hz σ1 D1 hm1 hf1 => ?_⟩
    · obtain ⟨y, _, rfl⟩ := List.mem_map.1 hz
      have : (bt y).bytes.length = 20 := rfl
      omega
    · simp [place] at hp
    have hj0 : j = 0 := by simp [place] at hj; omega
    subst hj0
    have hz : z = (bt x).bytes := by simpa using hz.symm
    subst hz
    have hm1 : Ml σ1 M S (bts o) D1 := hm1
    rw [note_good (bt_may (by omega)) (bare_sz _ _ _ _ _)]
    obtain ⟨b1, b2⟩ := hf1 B _ hB bS bD
    obtain ⟨c, hc, pc⟩ := cnt_del (o := x :: o) (a := 0) (x := x) (by omega) rfl
    have pc : put (cntC (x :: o)) x [.int .i64 (c : Int)] = some (cntC o) := pc
    have hca : (cntC (x :: o))[x]? = some (.int .i64 ((c + 1 : Nat) : Int)) := by rw [cnt_at (by omega), hc]
    have hlt' : (x : Int) < (k : Int) := by omega
    have hge0 : (0 : Int) ≤ (x : Int) := by omega
    have h31' : (x : Int) < 31 := by omega
    have h31 : x < 31 := by omega
    have hcb : c ≤ 1000000000 := by
      have := List.count_le_length (a := x) (l := x :: o)
      have := hml.few
      rw [hbl] at this; omega
    have hwr : IntKind.wrap .i64 (((c + 1 : Nat) : Int) - 1) = (c : Int) := by rw [Gz.wrap64 (by omega)]; omega
    have hca2 : (cntC o)[x]? = some (.int .i64 (c : Int)) := by
      rw [cnt_at (by omega)]
      have := count_split (o := x :: o) (a := 0) (x := x) rfl x
      rw [if_pos rfl, hc] at this
      have h3 : ((x :: o).eraseIdx 0) = o := rfl
      rw [h3] at this
      rw [show o.count x = c by omega]
    have hn0 : ¬ (c : Int) < 0 := by omega
    have hn1 : ¬ (x : Int) < 0 := by omega
    have hn2 : ¬ (k : Int) ≤ (x : Int) := by omega
    have pn : ∀ c : List AV, hget (hpush σ1 c) σ1.length = some c := fun c => push_new rfl
    have sn : ∀ c c' : List AV, hget (hset (hpush σ1 c) σ1.length c') σ1.length = some c' := fun c c' => set_same (pn c)
    have pz : put (bareC 0 0 0 0 0) 0 (bt x, (0 : Int)).1.cells = some (bt x).cells := put_all rfl
    have c4 : (bt x).cells[4]? = some (.int .i64 (x : Int)) := rfl
    have ncl : (bt x, (0 : Int)).1.cells.length = 27 := rfl
    have ncc : ((bt x, (0 : Int)).1.cells.all fun x => x.isCell) = true := rfl
    have blt := hget_lt b1
    have gB : ∀ q c' : List AV, hget (hset (hpush σ1 q) σ1.length c') B = some (cntC (x :: o)) := fun q c' => al_frame b1
    have gN : ∀ q c' d : List AV, hget (hset (hset (hpush σ1 q) σ1.length c') B d) σ1.length = some c' := fun q c' d => (set_other (by omega)).trans (sn q c')
    have gB2 : ∀ q c' d : List AV, hget (hset (hset (hpush σ1 q) σ1.length c') B d) B = some d := fun q c' d => set_same (gB q c')
    simp only [T4_app, Z4, x4_129, x4_130, x4_133, base1, ↓reduceIte, Nat.reduceAdd, Nat.reduceSub, Nat.reduceMul, Nat.reduceEqDiff, Nat.reduceLeDiff, Nat.reduceLT, Int.reduceLT, Int.reduceLE, Int.reduceEq, Int.reduceNe, Int.reduceToNat, Int.reduceAdd, Int.reduceSub, reduceCtorEq, Nat.reduceBEq, Nat.reduceBNe, loopR_exit, loopR_ret, e5, e6, e8, pn, sn, pz, c4, ncl, ncc, hlt', hge0, h31', h31, hn0, hn1, hn2, Int.toNat_natCast, gB, gN, gB2, hca, hca2, hwr, pc]
    rw [loopR_normal]
    refine ⟨o.length, _, _, by simp at hm; omega, .refl _ _ _, o, D1, rfl, fun j hj => ho j (by simp [hj]), ml_keep hm1 fun j q hj hd => ?_, gB2 _ _ _, b2, e5, e6, e8⟩
    rw [set_other (hd.elim (fun h => h ▸ bM) (fun h => h.elim (fun h => h ▸ bS) (fun h hh => b2 (by rw [h, hh]))))]
    exact al_frame hj
/-! Told twice, lost. -/
theorem erase_map {α β : Type} {f : α → β} {l : List α} {k : Nat} : (l.map f).eraseIdx k = (l.eraseIdx k).map f := by
  rw [List.eraseIdx_eq_take_drop_succ, List.eraseIdx_eq_take_drop_succ, List.map_append, List.map_take, List.map_drop]
theorem ev_to {w k n sz : Nat} (h : k ≤ n) : evSlice sz (.slice w 0 n none sz) none (some (.int .i64 (k : Int))) none = some (.slice w 0 k none sz) := by
  have b1 : bound? none n n = some n := rfl
  have b2 : bound? (some (.int .i64 (k : Int))) n n = some k := by rw [bound_int, if_pos (by omega), if_pos (by omega)]; simp
  have b3 : bound? none 0 k = some 0 := rfl
  simp only [evSlice, topOf, b1, b2, b3]
  rw [if_pos ⟨by omega, by omega, trivial⟩]
  simp
theorem ev_from {w k n sz : Nat} (h : k ≤ n) : evSlice sz (.slice w 0 n none sz) (some (.int .i64 (k : Int))) none none = some (.slice w (k * sz) (n - k) none sz) := by
  have b1 : bound? none n n = some n := rfl
  have b3 : bound? (some (.int .i64 (k : Int))) 0 n = some k := by rw [bound_int, if_pos (by omega), if_pos (by omega)]; simp
  simp only [evSlice, topOf, b1, b3]
  rw [if_pos ⟨by omega, by omega, trivial⟩]
  simp
theorem grow_frS {σ σ' : AHeap} {S : Nat} {D D' : Option Nat} {Wv : AV} {w : Nat} {rows : List (List AV)} (h : Grow σ Wv w rows) (hf : FrS σ σ' S D D') (dS : LvD Wv ≠ some S) (dD : ∀ d, D = some d → LvD Wv ≠ some d) : Grow σ' Wv w rows ∧ ∀ d, D' = some d → LvD Wv ≠ some d := by
  refine ⟨grow_frame h fun j c hj hd => (hf j c hj (fun h => dS (by rw [hd, h])) (fun h => dD j h hd)).1, fun x hx hh => ?_⟩
  rcases h with ⟨rfl, _⟩ | ⟨d, rfl, hd, _⟩
  · cases hh
  · cases hh
    exact (hf _ _ hd (fun h => dS (by rw [h]; rfl)) (fun h => dD _ h rfl)).2 hx
theorem shr_b (b : UInt8) : abin .shr .num (byteAV b) (.int .u64 1) = some (.int .u8 ((b.toNat / 2 : Nat) : Int)) := by
  have : abin .shr .num (byteAV b) (.int .u64 1) = some (.int .u8 (((b.toNat : Nat) : Int).fdiv 2)) := rfl
  rw [this]; congr 2
  rw [Int.fdiv_eq_ediv_of_nonneg _ (by decide)]; omega
theorem and_b (b : UInt8) : ∃ q, abin .and .num (byteAV b) (.int .u8 1) = some (.int .u8 q) := ⟨_, rfl⟩
theorem row_at8 {bs : List UInt8} {i : Nat} (h : i < bs.length) : (rws bs)[i]? = some [byteAV bs[i]] := by simp [rws, h]
def c3I (ops : List UInt8) (M S B k : Nat) (m : Nat) (e : Env) (σ : AHeap) : Prop :=
  ∃ (i : Nat) (o : List Nat) (Ov : AV) (D : Option Nat), i ≤ ops.length ∧ m = ops.length - i ∧ o.length ≤ 30 + i ∧ (∀ j ∈ o, j < k) ∧ Ml σ M S (bts o) D ∧ Grow σ Ov 1 (ordC o) ∧ hget σ B = some (cntC o) ∧ D ≠ some B ∧ LvD Ov ≠ some M ∧ LvD Ov ≠ some S ∧ LvD Ov ≠ some B ∧ (∀ d, D = some d → LvD Ov ≠ some d) ∧
    e 1 = .imm (rws ops) false false ∧ e 5 = .ptr M 0 ∧ e 6 = .int .i64 (k : Int) ∧ e 8 = .ptr B 0 ∧ e 10 = Ov ∧ e 12 = .int .i64 (i : Int)
theorem c3_step (ops : List UInt8) (hops : ops.length ≤ 100) (M S B k : Nat) (hk : k ≤ 30) (bM : B ≠ M) (bS : B ≠ S)
    (hQ : ∀ e σ o D, (∀ j ∈ o, j < k) → Ml σ M S (bts o) D → hget σ B = some (cntC o) → D ≠ some B → e 5 = .ptr M 0 → e 6 = .int .i64 (k : Int) → e 8 = .ptr B 0 → sC T4 0 b4_129 (unw T4 0 (RetQ [.t 4] Yes) .fin) e σ) (m : Nat) (e : Env) (σ : AHeap) (h : c3I ops M S B k m e σ) :
    sC T4 0 b4_84 (unw T4 0 (loopR T4 0 (RetQ [.t 4] Yes) (.block 4 (.seq b4_129 .fin)) (c3I ops M S B k) m) .fin) e σ := by
  obtain ⟨i, o, Ov, D, hi, hm, hol, ho, hml, hg, hB, bD, dM, dS, dB, dD, e1, e5, e6, e8, e10, e12⟩ := h
  have hls : lenSl Ov = some o.length := grow_lenS ⟨hg, by simp⟩
  have hbl : (bts o).length = o.length := by simp
  have hocl : (ordC o).length = o.length := by simp
  by_cases hlt : (i : Int) < (ops.length : Int)
  · by_cases hpos : (0 : Int) < (o.length : Int)
    · have hlt2 : i < ops.length := by omega
      have hge0 : (0 : Int) ≤ (i : Int) := by omega
      have hrow := row_at8 hlt2
      rcases hg with ⟨_, h0⟩ | ⟨w, rfl, hd, h1, hcell⟩
      · have := congrArg List.length h0
        rw [hocl, List.length_nil] at this
        omega
      rw [hocl] at e10
      have l0 : lenOf (.slice w 0 o.length none 1) = some o.length := rfl
      simp only [T4_app, Z4, x4_129, x4_130, x4_133, base1, ↓reduceIte, Nat.reduceAdd, Nat.reduceSub, Nat.reduceMul, Nat.reduceEqDiff, Nat.reduceLeDiff, Nat.reduceLT, Int.reduceLT, Int.reduceLE, Int.reduceEq, Int.reduceNe, Int.reduceToNat, Int.reduceAdd, Int.reduceSub, reduceCtorEq, Nat.reduceBEq, Nat.reduceBNe, loopR_exit, loopR_ret, lenOf_imm, rws_len, e1, e5, e6, e8, e10, e12, hlt, hpos, l0, hrow, hge0, hlt2, Int.toNat_natCast]
      obtain ⟨q, hq⟩ := and_b ops[i]
      have hcv : IntKind.wrap .i64 ((ops[i].toNat / 2 : Nat) : Int) = ((ops[i].toNat / 2 : Nat) : Int) := Gz.wrap64 (by have := ops[i].toNat_lt; omega)
      have hrem : ((ops[i].toNat / 2 : Nat) : Int).tmod (o.length : Int) = ((ops[i].toNat / 2 % o.length : Nat) : Int) := rfl
      have hne : ¬ (o.length : Int) = 0 := by omega
      have ha : ops[i].toNat / 2 % o.length < o.length := Nat.mod_lt _ (by omega)
      have hsh := shr_b ops[i]
      generalize ops[i].toNat / 2 % o.length = a at hrem ha
      have ha' : (a : Int) < (o.length : Int) := by omega
      have ha0 : (0 : Int) ≤ (a : Int) := by omega
      have hpl : place (a : Int) (bts o).length = (a : Int) := by
        rw [hbl]; unfold place
        rw [if_neg (by omega)]
        show ((a % o.length : Nat) : Int) = _
        rw [Nat.mod_eq_of_lt ha]
      obtain ⟨x, hx⟩ : ∃ x, o[a]? = some x := ⟨_, List.getElem?_eq_getElem ha⟩
      have hxk := ho x (List.mem_of_getElem? hx)
      have hfx : (ordC o).flatten[a]? = some (.int .i64 (x : Int)) := by
        have := flat_at (j := 0) h1 (i := a) (row := [.int .i64 (x : Int)]) (x := .int .i64 (x : Int)) (by rw [ordC, List.getElem?_map, hx]; rfl) rfl
        simpa using this
      have hwi : IntKind.wrap .i64 ((i : Int) + 1) = ((i + 1 : Nat) : Int) := by rw [Gz.wrap64 (by omega)]; omega
      have hwa : IntKind.wrap .i64 ((a : Int) + 1) = ((a + 1 : Nat) : Int) := by rw [Gz.wrap64 (by omega)]; omega
      have h31' : (x : Int) < 31 := by omega
      have h31 : x < 31 := by omega
      have hx0 : (0 : Int) ≤ (x : Int) := by omega
      have hcx := cnt_at (o := o) h31
      have hcl := List.count_le_length (a := x) (l := o)
      by_cases hq0 : q = 0
      · simp only [T4_app, Z4, x4_129, x4_130, x4_133, base1, ↓reduceIte, Nat.reduceAdd, Nat.reduceSub, Nat.reduceMul, Nat.reduceEqDiff, Nat.reduceLeDiff, Nat.reduceLT, Int.reduceLT, Int.reduceLE, Int.reduceEq, Int.reduceNe, Int.reduceToNat, Int.reduceAdd, Int.reduceSub, reduceCtorEq, Nat.reduceBEq, Nat.reduceBNe, loopR_exit, loopR_ret, lenOf_imm, rws_len, e1, e5, e6, e8, e10, e12, hlt, hpos, l0, hrow, hge0, hlt2, Int.toNat_natCast, hsh, hcv, hrem, hne, ha', ha, ha0, hd, hfx, hq, hq0]
        refine ⟨M, S, (a : Int), _, D, rfl, by omega, hml, fun hp => ?_, fun j z hj hz hlen σ1 D1 hm1 hf1 => ?_⟩
        · rw [hpl, hbl] at hp; omega
        rw [hpl] at hj
        have : j = a := by omega
        subst this
        have hz : z = (bt x).bytes := by rw [List.getElem?_map, hx] at hz; exact (Option.some.inj hz).symm
        subst hz
        have hg0 : Grow σ (.slice w 0 o.length none 1) 1 (ordC o) := .inr ⟨w, by rw [hocl], hd, h1, hcell⟩
        obtain ⟨g1, g2⟩ := grow_frS hg0 hf1 (fun h => dS (by rw [hocl]; exact h)) (fun d h hh => dD d h (by rw [hocl]; exact hh))
        obtain ⟨v, τ, a1, a2, a3, a4, a5⟩ := grow_one (b := 8) (by decide) g1 (by rw [hocl]; omega) [.int .i64 (x : Int)] rfl rfl
        obtain ⟨b1, b2⟩ := hf1 B _ hB bS bD
        have dB' : LvD (.slice w 0 o.length none 1) ≠ some B := fun h => dB (by rw [hocl]; exact h)
        have dM' : LvD (.slice w 0 o.length none 1) ≠ some M := fun h => dM (by rw [hocl]; exact h)
        have dS' : LvD (.slice w 0 o.length none 1) ≠ some S := fun h => dS (by rw [hocl]; exact h)
        have t1 := (a4 _ _ b1 dB').1
        have hwc : IntKind.wrap .i64 (((o.count x : Nat) : Int) + 1) = ((o.count x + 1 : Nat) : Int) := by rw [Gz.wrap64 (by omega)]; omega
        have pc := cnt_app (o := o) h31
        simp only [T4_app, Z4, x4_129, x4_130, x4_133, base1, ↓reduceIte, Nat.reduceAdd, Nat.reduceSub, Nat.reduceMul, Nat.reduceEqDiff, Nat.reduceLeDiff, Nat.reduceLT, Int.reduceLT, Int.reduceLE, Int.reduceEq, Int.reduceNe, Int.reduceToNat, Int.reduceAdd, Int.reduceSub, reduceCtorEq, Nat.reduceBEq, Nat.reduceBNe, loopR_exit, loopR_ret, e1, e5, e6, e8, e10, e12, a1, a2, a3, t1, h31', h31, hx0, Int.toNat_natCast, hcx, hwc, pc, hwi]
        rw [loopR_normal]
        have vB := (a4 _ _ b1 dB').2
        obtain ⟨cS, hcS⟩ := ml_spool hm1
        refine ⟨ops.length - (i + 1), _, _, by omega, .refl _ _ _, i + 1, o ++ [x], v, D1, hlt2, rfl, by simp; omega, fun y hy => ?_, ?_, ?_, set_same t1, b2, (a4 _ _ hm1.m dM').2, (a4 _ _ hcS dS').2, vB, fun y hy => ?_, e1, e5, e6, e8, rfl, rfl⟩
        · rcases List.mem_append.1 hy with h | h
          · exact ho y h
          · simp at h; subst h; exact hxk
        · rw [bts, List.map_append]
          exact ml_keep hm1 fun j q hj hd => by
            rw [set_other (hd.elim (fun h => h ▸ bM) (fun h => h.elim (fun h => h ▸ bS) (fun h hh => b2 (by rw [h, hh]))))]
            exact (a4 _ _ hj (hd.elim (fun h => h ▸ dM') (fun h => h.elim (fun h => h ▸ dS') (fun h => g2 j h)))).1
        · rw [ordC, List.map_append]
          exact grow_frame a5 fun j q hj hd => by rw [set_other (fun h => vB (by rw [hd, h]))]; exact hj
        · rcases hm1.sp with ⟨h, _, _⟩ | ⟨z, _, h, _, _, hz⟩
          · rw [h] at hy; cases hy
          · rw [h] at hy; cases hy
            exact (a4 _ _ hz (g2 _ h)).2
      · simp only [T4_app, Z4, x4_129, x4_130, x4_133, base1, ↓reduceIte, Nat.reduceAdd, Nat.reduceSub, Nat.reduceMul, Nat.reduceEqDiff, Nat.reduceLeDiff, Nat.reduceLT, Int.reduceLT, Int.reduceLE, Int.reduceEq, Int.reduceNe, Int.reduceToNat, Int.reduceAdd, Int.reduceSub, reduceCtorEq, Nat.reduceBEq, Nat.reduceBNe, loopR_exit, loopR_ret, lenOf_imm, rws_len, e1, e5, e6, e8, e10, e12, hlt, hpos, l0, hrow, hge0, hlt2, Int.toNat_natCast, hsh, hcv, hrem, hne, ha', ha, ha0, hd, hfx, hq, hq0]
        refine ⟨M, S, (a : Int), _, D, rfl, by omega, hml, fun hp => ?_, fun j z hj hz σ1 D1 hm1 hf1 => ?_⟩
        · rw [hpl] at hp; omega
        rw [hpl] at hj
        have : j = a := by omega
        subst this
        rw [show (bts o).eraseIdx j = bts (o.eraseIdx j) from erase_map] at hm1
        have hg0 : Grow σ (.slice w 0 o.length none 1) 1 (ordC o) := .inr ⟨w, by rw [hocl], hd, h1, hcell⟩
        obtain ⟨g1, g2⟩ := grow_frS hg0 hf1 (fun h => dS (by rw [hocl]; exact h)) (fun d h hh => dD d h (by rw [hocl]; exact hh))
        obtain ⟨hd1, _⟩ := hf1 w _ hd (fun h => dS (by rw [h]; rfl)) (fun h => dD w h rfl)
        obtain ⟨v1, τ1, v, τ, a1, a2, a3, a4, a5, a6, a7, a8⟩ := cut_grow (b := 8) (by decide) hd1 h1 hcell (by rw [hocl]; exact ha) (by rw [hocl]; omega)
        rw [hocl] at a4
        simp only [Nat.mul_one] at a4
        have x1 : evSlice 1 (.slice w 0 o.length none 1) none (some (.int .i64 (j : Int))) none = some (.slice w 0 j none 1) := ev_to (by omega)
        have x2 : evSlice 1 (.slice w 0 o.length none 1) (some (.int .i64 ((j + 1 : Nat) : Int))) none none = some (.slice w (j + 1) (o.length - (j + 1)) none 1) := by
          have := ev_from (w := w) (k := j + 1) (n := o.length) (sz := 1) (by omega)
          rwa [Nat.mul_one] at this
        obtain ⟨b1, b2⟩ := hf1 B _ hB bS bD
        have t1 := (a7 _ _ b1).1
        obtain ⟨c, hc, pc⟩ := cnt_del h31 hx
        rw [hc] at hcx
        have hwc : IntKind.wrap .i64 (((c + 1 : Nat) : Int) - 1) = (c : Int) := by rw [Gz.wrap64 (by omega)]; omega
        simp only [T4_app, Z4, x4_129, x4_130, x4_133, base1, ↓reduceIte, Nat.reduceAdd, Nat.reduceSub, Nat.reduceMul, Nat.reduceEqDiff, Nat.reduceLeDiff, Nat.reduceLT, Int.reduceLT, Int.reduceLE, Int.reduceEq, Int.reduceNe, Int.reduceToNat, Int.reduceAdd, Int.reduceSub, reduceCtorEq, Nat.reduceBEq, Nat.reduceBNe, loopR_exit, loopR_ret, e1, e5, e6, e8, e10, e12, hwa, x1, x2, a1, a2, a3, a4, a5, a6, t1, h31', h31, hx0, Int.toNat_natCast, hcx, hwc, pc, hwi]
        rw [loopR_normal]
        have vB := (a7 _ _ b1).2
        obtain ⟨cS, hcS⟩ := ml_spool hm1
        refine ⟨ops.length - (i + 1), _, _, by omega, .refl _ _ _, i + 1, o.eraseIdx j, v, D1, hlt2, rfl, by have := List.length_eraseIdx_le o j; omega, fun y hy => ho y (List.mem_of_mem_eraseIdx hy), ?_, ?_, set_same t1, b2, (a7 _ _ hm1.m).2, (a7 _ _ hcS).2, vB, fun y hy => ?_, e1, e5, e6, e8, rfl, rfl⟩
        · exact ml_keep hm1 fun j q hj hd => by
            rw [set_other (hd.elim (fun h => h ▸ bM) (fun h => h.elim (fun h => h ▸ bS) (fun h hh => b2 (by rw [h, hh]))))]
            exact (a7 _ _ hj).1
        · rw [ordC, ← erase_map]
          exact grow_frame a8 fun j q hj hd => by rw [set_other (fun h => vB (by rw [hd, h]))]; exact hj
        · rcases hm1.sp with ⟨h, _, _⟩ | ⟨z, _, h, _, _, hz⟩
          · rw [h] at hy; cases hy
          · rw [h] at hy; cases hy
            exact (a7 _ _ hz).2
    · simp only [T4_app, Z4, x4_130, x4_133, base1, ↓reduceIte, Nat.reduceAdd, Nat.reduceSub, Nat.reduceMul, Nat.reduceEqDiff, Nat.reduceLeDiff, Nat.reduceLT, Int.reduceLT, Int.reduceLE, Int.reduceEq, Int.reduceNe, Int.reduceToNat, Int.reduceAdd, Int.reduceSub, reduceCtorEq, Nat.reduceBEq, Nat.reduceBNe, loopR_exit, loopR_ret, lenOf_imm, rws_len, e1, e5, e6, e8, e10, e12, hlt, hpos, hls, Option.map_some]
      exact hQ _ _ o D ho hml hB bD e5 e6 e8
  · simp only [T4_app, Z4, x4_130, x4_133, base1, ↓reduceIte, Nat.reduceAdd, Nat.reduceSub, Nat.reduceMul, Nat.reduceEqDiff, Nat.reduceLeDiff, Nat.reduceLT, Int.reduceLT, Int.reduceLE, Int.reduceEq, Int.reduceNe, Int.reduceToNat, Int.reduceAdd, Int.reduceSub, reduceCtorEq, Nat.reduceBEq, Nat.reduceBNe, loopR_exit, loopR_ret, lenOf_imm, rws_len, e1, e5, e6, e8, e10, e12, hlt]
    exact hQ _ _ o D ho hml hB bD e5 e6 e8
theorem rest129 (M S B k : Nat) (hk : k ≤ 30) (bM : B ≠ M) (bS : B ≠ S) (e : Env) (σ : AHeap) (o : List Nat) (D : Option Nat) (ho : ∀ j ∈ o, j < k) (hml : Ml σ M S (bts o) D) (hB : hget σ B = some (cntC o)) (bD : D ≠ some B) (e5 : e 5 = .ptr M 0) (e6 : e 6 = .int .i64 (k : Int)) (e8 : e 8 = .ptr B 0) :
    sC T4 0 b4_129 (unw T4 0 (RetQ [.t 4] Yes) .fin) e σ := by
  simp only [T4_app, Z4, x4_129, x4_130, x4_133, base1, ↓reduceIte, Nat.reduceAdd, Nat.reduceSub, Nat.reduceMul, Nat.reduceEqDiff, Nat.reduceLeDiff, Nat.reduceLT, Int.reduceLT, Int.reduceLE, Int.reduceEq, Int.reduceNe, Int.reduceToNat, Int.reduceAdd, Int.reduceSub, reduceCtorEq, Nat.reduceBEq, Nat.reduceBNe]
  exact sC_inv (a := b4_107) (c4I M S B k) o.length _ _ (.refl _ _ _) ⟨o, D, rfl, ho, hml, hB, bD, e5, e6, e8⟩ (c4_step M S B k hk bM bS)
theorem rest130 (ops : List UInt8) (hops : ops.length ≤ 100) (M S B k : Nat) (hk : k ≤ 30) (bM : B ≠ M) (bS : B ≠ S) (D : Option Nat) (bD : D ≠ some B) (e : Env) (σ : AHeap) (Ov : AV) (hml : Ml σ M S (bts (List.range k)) D) (hg : Grow σ Ov 1 (ordC (List.range k))) (hB : hget σ B = some (cntC (List.range k))) (dM : LvD Ov ≠ some M) (dS : LvD Ov ≠ some S) (dB : LvD Ov ≠ some B) (dD : ∀ d, D = some d → LvD Ov ≠ some d) (e1 : e 1 = .imm (rws ops) false false) (e5 : e 5 = .ptr M 0) (e6 : e 6 = .int .i64 (k : Int)) (e8 : e 8 = .ptr B 0) (e10 : e 10 = Ov) :
    sC T4 0 b4_130 (unw T4 0 (RetQ [.t 4] Yes) .fin) e σ := by
  simp only [T4_app, Z4, x4_130, x4_133, base1, ↓reduceIte, Nat.reduceAdd, Nat.reduceSub, Nat.reduceMul, Nat.reduceEqDiff, Nat.reduceLeDiff, Nat.reduceLT, Int.reduceLT, Int.reduceLE, Int.reduceEq, Int.reduceNe, Int.reduceToNat, Int.reduceAdd, Int.reduceSub, reduceCtorEq, Nat.reduceBEq, Nat.reduceBNe]
  exact sC_inv (a := b4_84) (c3I ops M S B k) ops.length _ _ (.refl _ _ _) ⟨0, List.range k, Ov, D, Nat.zero_le _, rfl, by simp; omega, fun j hj => List.mem_range.1 hj, hml, hg, hB, bD, dM, dS, dB, dD, e1, e5, e6, e8, e10, rfl⟩
    (c3_step ops hops M S B k hk bM bS fun e σ o D h1 h2 h3 h4 h5 h6 h7 => rest129 M S B k hk bM bS e σ o D h1 h2 h3 h4 h5 h6 h7)
theorem rest133 (ops : List UInt8) (hops : ops.length ≤ 100) (M S B k : Nat) (hk : k ≤ 30) (hk1 : 1 ≤ k) (e : Env) (σ : AHeap) (Lv : AV) (hml : Ml σ M S [] none) (hg : Grow σ Lv 27 ((List.range k).map btC)) (hB : hget σ B = some (cntC (List.range k))) (bM : B ≠ M) (bS : B ≠ S) (dM : LvD Lv ≠ some M) (dS : LvD Lv ≠ some S) (dB : LvD Lv ≠ some B) (e1 : e 1 = .imm (rws ops) false false) (e5 : e 5 = .ptr M 0) (e6 : e 6 = .int .i64 (k : Int)) (e7 : e 7 = Lv) (e8 : e 8 = .ptr B 0) :
    sC T4 0 b4_133 (unw T4 0 (RetQ [.t 4] Yes) .fin) e σ := by
  rcases hg with ⟨_, hn⟩ | ⟨d, rfl, hd, hl27, hcl⟩
  · have := congrArg List.length hn
    rw [List.length_map, List.length_range, List.length_nil] at this
    omega
  have hdS : d ≠ S := fun h => dS (by rw [h]; rfl)
  have hN : ((List.range k).map btC).length = k := by simp
  rw [hN] at e7
  have hsent := sent (i := k) (by omega)
  rw [show min k 512 = k by omega] at hsent
  simp only [T4_app, Z4, x4_129, x4_133, base1, ↓reduceIte, Nat.reduceAdd, Nat.reduceSub, Nat.reduceMul, Nat.reduceEqDiff, Nat.reduceLeDiff, Nat.reduceLT, Int.reduceLT, Int.reduceLE, Int.reduceEq, Int.reduceNe, Int.reduceToNat, Int.reduceAdd, Int.reduceSub, reduceCtorEq, Nat.reduceBEq, Nat.reduceBNe, e1, e5, e6, e7, e8]
  refine .inr ⟨M, S, d, none, (List.range k).map bt, (List.range k).map btC, [], [], none, by simp, by rw [List.append_nil]; exact hd, hdS, by simp, by simp, fun i cs n hc hn => ?_, fun n hn => ?_, by simp; omega, hml, fun σ1 D1 m1 f1 => ?_⟩
  · rw [List.getElem?_map] at hc hn
    cases hr : (List.range k)[i]? with
    | none => rw [hr] at hc; cases hc
    | some j => rw [hr] at hc hn; cases hc; cases hn; exact bt_cells j
  · obtain ⟨j, _, rfl⟩ := List.mem_map.1 hn
    exact bare_sz _ _ _ _ _
  rw [hsent] at m1 ⊢
  obtain ⟨b1, b2⟩ := f1 B _ hB bS (by simp)
  simp only [T4_app, Z4, x4_129, x4_133, base1, ↓reduceIte, Nat.reduceAdd, Nat.reduceSub, Nat.reduceMul, Nat.reduceEqDiff, Nat.reduceLeDiff, Nat.reduceLT, Int.reduceLT, Int.reduceLE, Int.reduceEq, Int.reduceNe, Int.reduceToNat, Int.reduceAdd, Int.reduceSub, reduceCtorEq, Nat.reduceBEq, Nat.reduceBNe, e1, e5, e6, e7, e8]
  exact sC_inv (a := b4_48) (c2I ops M S B k D1) k _ _ (.refl _ _ _) ⟨0, .nilslice, Nat.zero_le _, rfl, m1, .inl ⟨rfl, rfl⟩, b1, by simp [LvD], by simp [LvD], by simp [LvD], (fun x _ h => by cases h), e1, e5, e6, e8, rfl, rfl⟩
    (c2_step ops M S B k hk D1 fun e σ Ov h1 h2 h3 h4 h5 h6 h7 h8 h9 h10 h11 h12 => rest130 ops hops M S B k hk bM bS D1 b2 e σ Ov h1 h2 h3 h4 h5 h6 h7 h8 h9 h10 h11 h12)
theorem law (n : Nat) (hn : n ≤ 255) (ops : List UInt8) : sF T4 s4 [.int .u8 (n : Int), .imm (rws ops) false false] [] Yes := by
  simp only [T4_app, Z4, x4_129, x4_130, x4_133, base1, ↓reduceIte, Nat.reduceAdd, Nat.reduceSub, Nat.reduceMul, Nat.reduceEqDiff, Nat.reduceLeDiff, Nat.reduceLT, Int.reduceLT, Int.reduceLE, Int.reduceEq, Int.reduceNe, Int.reduceToNat, Int.reduceAdd, Int.reduceSub, reduceCtorEq, Nat.reduceBEq, Nat.reduceBNe]
  refine ⟨rfl, fun σ => ?_⟩
  by_cases hbig : (100 : Int) < (ops.length : Int)
  · simp only [T4_app, Z4, x4_129, x4_130, x4_133, base1, ↓reduceIte, Nat.reduceAdd, Nat.reduceSub, Nat.reduceMul, Nat.reduceEqDiff, Nat.reduceLeDiff, Nat.reduceLT, Int.reduceLT, Int.reduceLE, Int.reduceEq, Int.reduceNe, Int.reduceToNat, Int.reduceAdd, Int.reduceSub, reduceCtorEq, Nat.reduceBEq, Nat.reduceBNe, lenOf_imm, rws_len, hbig]
    exact yes_true
  · simp only [T4_app, Z4, x4_129, x4_130, x4_133, base1, ↓reduceIte, Nat.reduceAdd, Nat.reduceSub, Nat.reduceMul, Nat.reduceEqDiff, Nat.reduceLeDiff, Nat.reduceLT, Int.reduceLT, Int.reduceLE, Int.reduceEq, Int.reduceNe, Int.reduceToNat, Int.reduceAdd, Int.reduceSub, reduceCtorEq, Nat.reduceBEq, Nat.reduceBNe, lenOf_imm, rws_len, hbig]
    refine ⟨rfl, ?_⟩
    have m0 := ml_new (σ := σ)
    have lt : (hpush (hpush σ [.int .i64 512, .nilslice]) [.ptr σ.length 0]).length = σ.length + 2 := by simp [push_len]
    generalize hpush (hpush σ [.int .i64 512, .nilslice]) [.ptr σ.length 0] = σ1 at m0 lt ⊢
    have hc : IntKind.wrap .i64 (n : Int) = (n : Int) := Gz.wrap64 (by omega)
    have hr : (n : Int).tmod 30 = ((n % 30 : Nat) : Int) := rfl
    have hw : IntKind.wrap .i64 (1 + ((n % 30 : Nat) : Int)) = ((1 + n % 30 : Nat) : Int) := by rw [Gz.wrap64 (by omega)]; omega
    simp only [T4_app, Z4, x4_129, x4_130, base1, ↓reduceIte, Nat.reduceAdd, Nat.reduceSub, Nat.reduceMul, Nat.reduceEqDiff, Nat.reduceLeDiff, Nat.reduceLT, Int.reduceLT, Int.reduceLE, Int.reduceEq, Int.reduceNe, Int.reduceToNat, Int.reduceAdd, Int.reduceSub, reduceCtorEq, Nat.reduceBEq, Nat.reduceBNe, hc, hr, hw]
    have hk : 1 + n % 30 ≤ 30 := by omega
    have hk1 : 1 ≤ 1 + n % 30 := by omega
    generalize 1 + n % 30 = k at hk hk1 ⊢
    exact sC_inv (a := b4_30) (cfI ops (σ.length + 1) σ.length (σ.length + 2) k) k _ _ (.refl _ _ _) ⟨0, .nilslice, Nat.zero_le _, rfl, ml_keep0 m0 (fun j c hj _ => push_old hj), .inl ⟨rfl, rfl⟩, push_new lt.symm, by omega, by omega, by simp [LvD], by simp [LvD], by simp [LvD], rfl, rfl, rfl, rfl, by rw [← lt]; rfl, rfl⟩
      (cf_step ops _ _ _ k hk fun e σ Lv h1 h2 h3 h4 h5 h6 h7 h8 h9 h10 h11 h12 h13 => rest133 ops (by omega) _ _ _ k hk hk1 e σ Lv h1 h2 h3 h4 h5 h6 h7 h8 h9 h10 h11 h12 h13)
theorem rd_byte {t : TypeId} (ht : Try.prog.underlying t = some (.int .u8)) : Rd Try.prog t (fun b : UInt8 => [byteAV b]) (fun _ => True) := by
  intro H enc W fuel cs x h hz
  obtain ⟨n, ⟨h1, h2⟩, hr⟩ := rd_int (k := .u8) ht H enc W fuel cs x h hz
  have h1 : 0 ≤ n := h1
  have h2 : n ≤ 255 := h2
  refine ⟨bOf n, trivial, fun C hC hO => ?_⟩
  have e : byteAV (bOf n) = .int .u8 n := by
    rw [byteAV_bOf]
    have : IntKind.wrap .u8 n = n % 256 := IntKind.wrap_u8 n
    rw [this]; congr 1; omega
  show LRel C [byteAV (bOf n)] cs
  rw [e]; exact hr C hC hO
abbrev Inp := Int × (List UInt8 × Unit)
def avs (p : Inp) : List AV := [.int .u8 p.1, .imm (rws p.2.1) false false]
def oks (p : Inp) : Prop := (IntKind.min .u8 ≤ p.1 ∧ p.1 ≤ IntKind.max .u8) ∧ ((p.2.1.length * Try.prog.bytesOf 5 ≤ reachBytes ∧ ∀ y ∈ p.2.1, True) ∧ True)
theorem args : Args Try.prog Try.f4.params.toList avs oks := by
  have hp : Try.f4.params.toList = [5, 58] := by kernel_rfl
  rw [hp]
  exact .cons (arg_int (by kernel_rfl)) (.cons (arg_slice (P := Try.prog) (t := 58) (e := 5) (by kernel_rfl) (by decide +kernel) (rd_byte (t := 5) (by kernel_rfl))) .nil)
theorem comes (y : Inp) (hy : oks y) : Tri Try.prog 4 (avs y) [] Yes := by
  obtain ⟨a, b, u⟩ := y
  obtain ⟨⟨h1, h2⟩, _⟩ := hy
  have h1' : (0 : Int) ≤ a := h1
  have h2' : a ≤ (255 : Int) := h2
  obtain ⟨k, rfl⟩ := Int.eq_ofNat_of_zero_le h1'
  exact Tri.of_s c4 T4_sound (law k (by omega) b)
theorem own : ownKnob Try.prog.godebug = none := by kernel_rfl
theorem laidOut : laidOutB Try.prog = true := by kernel_rfl
theorem lifted (os : Os) (started : os.Started) (H : Type) (enc : TypeId × Value → H) :
    ReturnsInHanded {} Try.checked os 4 .any (Rows.mailCopiesSpec.pre6 enc Try.prog Try.f4 Rows.mailCopiesRow.domain false) (Rows.mailCopiesSpec.post enc Try.prog Try.f4 false true false false) := by
  refine returnsInHanded_of_change_sized (C := Try.checked) own started (by kernel_rfl) Try.func4
    (ChangeSpec.witness6 (enc := enc) (C := Try.checked) false ⟨#[], #[.int .u8 0, .slice none 0 0], []⟩ 8 (by kernel_rfl) (by kernel_rfl) (by kernel_rfl) (by kernel_rfl)) ?_
  intro W base args0 ds gs before hval hW _ hz _
  have hp : Try.f4.params.toList = [5, 58] := by kernel_rfl
  refine calls_post (avs := avs) (oks := oks) laidOut ?_ (by kernel_rfl) (tb := 4) (by kernel_rfl) rfl ?_ args comes hval hW hz
  · rw [hp]; intro t ht
    have h3 : ([5, 58].all fun t => Try.prog.readableRec t && Nat.blt t Try.prog.types.size) = true := by kernel_rfl
    have := List.all_eq_true.1 h3 t ht
    rw [Bool.and_eq_true, Nat.blt_eq] at this
    exact this
  · intro ds h
    rw [hp] at h
    match ds, h with
    | [_, _], _ => rfl
end Go.Proofs.Ytndlgmciplckjab.mailCopies
namespace Go.Proofs.Ytndlgmciplckjab
open Go.ChangeShapes Go.WideShapes Go.ChangeAt Go.RowKit
theorem mailCopies_holds : Rows.MailCopiesSaid :=
  OpenClaim.holds_of_wide 4 Try.f4 rfl rfl rfl rfl rfl rfl rfl ⟨rfl, rfl, rfl, rfl, rfl⟩ rfl rfl rfl rfl rfl (by kernel_rfl) Try.func4 (by kernel_rfl)
    (of_decide_eq_true (by kernel_rfl)) (by unfold Func.isWrapper; first | (rw [if_pos (by decide +kernel)]; kernel_rfl) | (rw [if_neg (by decide +kernel)]; exact ⟨rfl, rfl⟩))
    (fun os started H enc _ => mailCopies.lifted os started H enc)
end Go.Proofs.Ytndlgmciplckjab
