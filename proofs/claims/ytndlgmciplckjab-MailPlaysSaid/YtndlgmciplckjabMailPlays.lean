/- The law gazetteerlaw20.MailPlays returns true for every input: whatever is sent, taken, told twice, lost: each answer, how many are on their way. No condition. -/
import Derived.Test.YtndlgmciplckjabME
set_option linter.unusedVariables false
set_option linter.unusedSimpArgs false
namespace Go.Proofs.Ytndlgmciplckjab.mailPlays
open Go.ChangeShapes Go.WideShapes Go.ChangeAt Go.RowKit Go.Gz Go.Proofs.Ytndlgmciplckjab.note
abbrev r3_0 : List MOper := [⟨(some 2), .move (.c (.bool false)), none⟩]
def b3_0 : SCode := .region r3_0
abbrev r3_1 : List MOper := [⟨(some 13), .call 5 [], none⟩,
  ⟨(some 14), .un .not (.t 13), none⟩]
def b3_1 : SCode := .region r3_1
abbrev r3_2 : List MOper := [⟨(some 2), .move (.c (.bool false)), none⟩]
def b3_2 : SCode := .region r3_2
def b3_3 : SCode := .seq b3_2 .ret
def b3_4 : SCode := .cond (.t 14) b3_3 .skip
def b3_5 : SCode := .seq b3_1 b3_4
abbrev r3_6 : List MOper := [⟨(some 15), .move (.t 0), none⟩,
  ⟨(some 16), .call 6 [(.t 15)], none⟩,
  ⟨(some 17), .un .not (.t 16), none⟩]
def b3_6 : SCode := .region r3_6
abbrev r3_7 : List MOper := [⟨(some 2), .move (.c (.bool true)), none⟩]
def b3_7 : SCode := .region r3_7
def b3_8 : SCode := .seq b3_7 .ret
def b3_9 : SCode := .cond (.t 17) b3_8 .skip
def b3_10 : SCode := .seq b3_6 b3_9
abbrev r3_11 : List MOper := [⟨(some 18), .call 7 [], none⟩,
  ⟨(some 3), .move (.t 18), none⟩]
def b3_11 : SCode := .region r3_11
abbrev r3_12 : List MOper := [⟨(some 19), .move (.t 3), none⟩,
  ⟨(some 20), .bin .eql .nilp (.t 19) (.c (.nilptr)), none⟩]
def b3_12 : SCode := .region r3_12
abbrev r3_13 : List MOper := [⟨(some 2), .move (.c (.bool false)), none⟩]
def b3_13 : SCode := .region r3_13
def b3_14 : SCode := .seq b3_13 .ret
def b3_15 : SCode := .cond (.t 20) b3_14 .skip
def b3_16 : SCode := .seq b3_12 b3_15
abbrev r3_17 : List MOper := [⟨(some 4), .move (.c (.nilslice)), none⟩]
def b3_17 : SCode := .region r3_17
abbrev r3_18 : List MOper := [⟨(some 5), .move (.c (.int .i64 0)), none⟩]
def b3_18 : SCode := .region r3_18
abbrev r3_19 : List MOper := [⟨(some 21), .move (.t 5), none⟩,
  ⟨(some 22), .move (.t 0), none⟩,
  ⟨(some 23), .lenSl (.t 22), none⟩,
  ⟨(some 24), .bin .lss .num (.t 21) (.t 23), none⟩]
def b3_19 : SCode := .region r3_19
def b3_20 : SCode := .cond (.t 24) .skip (.exit 0)
def b3_21 : SCode := .seq b3_19 b3_20
abbrev r3_22 : List MOper := [⟨(some 27), .move (.t 0), none⟩,
  ⟨(some 28), .move (.t 5), none⟩,
  ⟨(some 29), .indexAddr 29 (.t 27) (.t 28), none⟩,
  ⟨(some 30), .loadN 29 (.t 29), none⟩,
  ⟨(some 6), .alloc [.int .i64 0, .int .i64 0, .int .i64 0, .int .i64 0, .int .i64 0, .int .i64 0, .int .i64 0, .int .i64 0, .int .i64 0, .int .i64 0, .str [], .str [], .str [], .str [], .int .i64 0, .int .i64 0, .int .i64 0, .int .i64 0, .bool false, .str [], .nilslice, .str [], .bool false, .str [], .str [], .nilslice, .nilslice, .int .i64 0, .nilslice], none⟩,
  ⟨none, .store 29 (.t 6) (.t 30), none⟩]
def b3_22 : SCode := .region r3_22
abbrev r3_23 : List MOper := [⟨(some 31), .fieldAddr 1 (.t 6), none⟩,
  ⟨(some 32), .load1 (.t 31), none⟩,
  ⟨(some 33), .bin .geq .num (.t 32) (.c (.int .i64 0)), none⟩,
  ⟨(some 34), .move (.t 33), none⟩,
  ⟨(some 35), .move (.t 4), (some (34, true))⟩,
  ⟨(some 36), .lenSl (.t 35), (some (34, true))⟩,
  ⟨(some 37), .bin .gtr .num (.t 36) (.c (.int .i64 0)), (some (34, true))⟩,
  ⟨(some 38), .pick (.t 34) (.t 37) (.c (.bool false)), none⟩,
  ⟨(some 7), .move (.t 38), none⟩]
def b3_23 : SCode := .region r3_23
abbrev r3_24 : List MOper := [⟨(some 8), .move (.c (.int .i64 0)), none⟩]
def b3_24 : SCode := .region r3_24
abbrev r3_25 : List MOper := [⟨(some 39), .move (.t 7), none⟩]
def b3_25 : SCode := .region r3_25
abbrev r3_26 : List MOper := [⟨(some 40), .fieldAddr 1 (.t 6), none⟩,
  ⟨(some 41), .load1 (.t 40), none⟩,
  ⟨(some 42), .move (.t 4), none⟩,
  ⟨(some 43), .lenSl (.t 42), none⟩,
  ⟨(some 44), .bin .rem .num (.t 41) (.t 43), none⟩,
  ⟨(some 8), .move (.t 44), none⟩]
def b3_26 : SCode := .region r3_26
def b3_27 : SCode := .cond (.t 39) b3_26 .skip
def b3_28 : SCode := .seq b3_25 b3_27
abbrev r3_29 : List MOper := [⟨(some 45), .fieldAddr 0 (.t 6), none⟩,
  ⟨(some 46), .load1 (.t 45), none⟩]
def b3_29 : SCode := .region r3_29
abbrev r3_30 : List MOper := [⟨(some 48), .bin .eql .num (.t 46) (.c (.int .i64 0)), none⟩,
  ⟨(some 47), .move (.t 48), none⟩]
def b3_30 : SCode := .region r3_30
abbrev r3_31 : List MOper := [⟨(some 49), .bin .eql .num (.t 46) (.c (.int .i64 1)), none⟩,
  ⟨(some 47), .move (.t 49), none⟩]
def b3_31 : SCode := .region r3_31
abbrev r3_32 : List MOper := [⟨(some 50), .bin .eql .num (.t 46) (.c (.int .i64 2)), none⟩,
  ⟨(some 47), .move (.t 50), none⟩]
def b3_32 : SCode := .region r3_32
def b3_33 : SCode := .cond (.t 47) .skip b3_32
def b3_34 : SCode := .seq b3_31 b3_33
def b3_35 : SCode := .cond (.t 47) .skip b3_34
def b3_36 : SCode := .seq b3_30 b3_35
abbrev r3_37 : List MOper := [⟨(some 51), .fieldAddr 2 (.t 6), none⟩,
  ⟨(some 52), .loadN 27 (.t 51), none⟩,
  ⟨(some 53), .call 8 [(.t 52)], none⟩,
  ⟨(some 9), .alloc [.int .i64 0, .int .i64 0, .int .i64 0, .int .i64 0, .int .i64 0, .int .i64 0, .int .i64 0, .int .i64 0, .str [], .str [], .str [], .str [], .int .i64 0, .int .i64 0, .int .i64 0, .int .i64 0, .bool false, .str [], .nilslice, .str [], .bool false, .str [], .str [], .nilslice, .nilslice, .int .i64 0, .nilslice], none⟩,
  ⟨none, .store 27 (.t 9) (.t 53), none⟩]
def b3_37 : SCode := .region r3_37
abbrev r3_38 : List MOper := [⟨(some 10), .move (.c (.int .i64 0)), none⟩]
def b3_38 : SCode := .region r3_38
abbrev r3_39 : List MOper := [⟨(some 54), .loadN 27 (.t 9), none⟩,
  ⟨(some 55), .call 9 [(.t 54)], none⟩,
  ⟨(some 56), .move (.t 55), none⟩,
  ⟨(some 57), .move (.t 4), (some (56, true))⟩,
  ⟨(some 58), .lenSl (.t 57), (some (56, true))⟩,
  ⟨(some 59), .bin .lss .num (.t 58) (.c (.int .i64 512)), (some (56, true))⟩,
  ⟨(some 60), .pick (.t 56) (.t 59) (.c (.bool false)), none⟩]
def b3_39 : SCode := .region r3_39
abbrev r3_40 : List MOper := [⟨(some 61), .move (.t 4), none⟩,
  ⟨(some 62), .loadN 27 (.t 9), none⟩,
  ⟨(some 63), .buildSlice [.int .i64 0, .int .i64 0, .int .i64 0, .int .i64 0, .int .i64 0, .int .i64 0, .int .i64 0, .int .i64 0, .str [], .str [], .str [], .str [], .int .i64 0, .int .i64 0, .int .i64 0, .int .i64 0, .bool false, .str [], .nilslice, .str [], .bool false, .str [], .str [], .nilslice, .nilslice, .int .i64 0, .nilslice] 27 1 [(0, 27, (.t 62))], none⟩,
  ⟨(some 64), .append 27 344 (.t 61) (.t 63), none⟩,
  ⟨(some 4), .move (.t 64), none⟩]
def b3_40 : SCode := .region r3_40
abbrev r3_41 : List MOper := [⟨(some 10), .move (.c (.int .i64 1)), none⟩]
def b3_41 : SCode := .region r3_41
def b3_42 : SCode := .seq b3_40 b3_41
def b3_43 : SCode := .cond (.t 60) b3_42 .skip
def b3_44 : SCode := .seq b3_39 b3_43
abbrev r3_45 : List MOper := [⟨(some 65), .move (.t 3), none⟩,
  ⟨(some 66), .loadN 27 (.t 9), none⟩,
  ⟨(some 67), .buildSlice [.int .i64 0, .int .i64 0, .int .i64 0, .int .i64 0, .int .i64 0, .int .i64 0, .int .i64 0, .int .i64 0, .str [], .str [], .str [], .str [], .int .i64 0, .int .i64 0, .int .i64 0, .int .i64 0, .bool false, .str [], .nilslice, .str [], .bool false, .str [], .str [], .nilslice, .nilslice, .int .i64 0, .nilslice] 27 1 [(0, 27, (.t 66))], none⟩,
  ⟨(some 68), .call 10 [(.t 65), (.t 67)], none⟩,
  ⟨(some 69), .move (.t 10), none⟩,
  ⟨(some 70), .bin .neq .num (.t 68) (.t 69), none⟩]
def b3_45 : SCode := .region r3_45
abbrev r3_46 : List MOper := [⟨(some 2), .move (.c (.bool false)), none⟩]
def b3_46 : SCode := .region r3_46
def b3_47 : SCode := .seq b3_46 .ret
def b3_48 : SCode := .cond (.t 70) b3_47 .skip
def b3_49 : SCode := .seq b3_45 b3_48
def b3_50 : SCode := .seq b3_44 b3_49
def b3_51 : SCode := .seq b3_38 b3_50
def b3_52 : SCode := .seq b3_37 b3_51
abbrev r3_53 : List MOper := [⟨(some 72), .bin .eql .num (.t 46) (.c (.int .i64 3)), none⟩,
  ⟨(some 71), .move (.t 72), none⟩]
def b3_53 : SCode := .region r3_53
abbrev r3_54 : List MOper := [⟨(some 73), .bin .eql .num (.t 46) (.c (.int .i64 4)), none⟩,
  ⟨(some 71), .move (.t 73), none⟩]
def b3_54 : SCode := .region r3_54
def b3_55 : SCode := .cond (.t 71) .skip b3_54
def b3_56 : SCode := .seq b3_53 b3_55
abbrev r3_57 : List MOper := [⟨(some 75), .move (.t 3), none⟩,
  ⟨(some 76), .fieldAddr 1 (.t 6), none⟩,
  ⟨(some 77), .load1 (.t 76), none⟩,
  ⟨(some 78), .call 11 [(.t 75), (.t 77)], none⟩,
  ⟨(some 74), .move (.t 78), none⟩,
  ⟨(some 79), .extract (.t 74) 0, none⟩,
  ⟨(some 80), .extract (.t 74) 1, none⟩,
  ⟨(some 11), .alloc [.int .i64 0, .int .i64 0, .int .i64 0, .int .i64 0, .int .i64 0, .int .i64 0, .int .i64 0, .int .i64 0, .str [], .str [], .str [], .str [], .int .i64 0, .int .i64 0, .int .i64 0, .int .i64 0, .bool false, .str [], .nilslice, .str [], .bool false, .str [], .str [], .nilslice, .nilslice, .int .i64 0, .nilslice], none⟩,
  ⟨none, .store 27 (.t 11) (.t 79), none⟩,
  ⟨(some 12), .move (.t 80), none⟩]
def b3_57 : SCode := .region r3_57
abbrev t3_58 : LTree := (.quiet ⟨(some 81), .move (.t 12), none⟩ 0
  (.quiet ⟨(some 82), .move (.t 7), none⟩ 1
  (.quiet ⟨(some 83), .bin .neq .bool (.t 81) (.t 82), none⟩ 2
  (.quiet ⟨(some 84), .move (.t 83), none⟩ 3
  (.quiet ⟨(some 85), .move (.t 7), (some (84, false))⟩ 4
  (.quiet ⟨(some 86), .move (.t 85), (some (84, false))⟩ 5
  (.quiet ⟨(some 87), .loadN 27 (.t 11), (some (86, true))⟩ 6
  (.quiet ⟨(some 88), .move (.t 4), (some (86, true))⟩ 7
  (.quiet ⟨(some 89), .move (.t 8), (some (86, true))⟩ 8
  (.quiet ⟨(some 90), .indexAddr 27 (.t 88) (.t 89), (some (86, true))⟩ 9
  (.quiet ⟨(some 91), .loadN 27 (.t 90), (some (86, true))⟩ 10
  (.loud ⟨(some 92), .call 12 [(.t 87), (.t 91)], (some (86, true))⟩ []
  (.quiet ⟨(some 93), .un .not (.t 92), (some (86, true))⟩ 12
  (.quiet ⟨(some 94), .pick (.t 86) (.t 93) (.c (.bool false)), (some (84, false))⟩ 13
  (.quiet ⟨(some 95), .pick (.t 84) (.c (.bool true)) (.t 94), none⟩ 14
  .leaf))) .stop))))))))))))
def b3_58 : SCode := .draw t3_58
abbrev r3_59 : List MOper := [⟨(some 2), .move (.c (.bool false)), none⟩]
def b3_59 : SCode := .region r3_59
def b3_60 : SCode := .seq b3_59 .ret
def b3_61 : SCode := .cond (.t 95) b3_60 .skip
def b3_62 : SCode := .seq b3_58 b3_61
abbrev r3_63 : List MOper := [⟨(some 96), .move (.t 7), none⟩]
def b3_63 : SCode := .region r3_63
abbrev t3_64 : LTree := (.quiet ⟨(some 98), .move (.t 4), none⟩ 1
  (.quiet ⟨(some 99), .move (.t 8), none⟩ 2
  (.quiet ⟨(some 100), .slice 27 (.t 98) none (some (.t 99)) none, none⟩ 3
  (.quiet ⟨(some 102), .move (.t 4), none⟩ 5
  (.quiet ⟨(some 103), .move (.t 8), none⟩ 6
  (.quiet ⟨(some 104), .bin .add .num (.t 103) (.c (.int .i64 1)), none⟩ 7
  (.quiet ⟨(some 105), .slice 27 (.t 102) (some (.t 104)) none none, none⟩ 8
  (.loud ⟨(some 97), .buildSlice [.int .i64 0, .int .i64 0, .int .i64 0, .int .i64 0, .int .i64 0, .int .i64 0, .int .i64 0, .int .i64 0, .str [], .str [], .str [], .str [], .int .i64 0, .int .i64 0, .int .i64 0, .int .i64 0, .bool false, .str [], .nilslice, .str [], .bool false, .str [], .str [], .nilslice, .nilslice, .int .i64 0, .nilslice] 27 0 [], none⟩ []
  (.loud ⟨(some 101), .append 27 344 (.t 97) (.t 100), none⟩ []
  (.loud ⟨(some 106), .append 27 344 (.t 101) (.t 105), none⟩ []
  (.quiet ⟨(some 4), .move (.t 106), none⟩ 10
  .leaf) .stop) .stop) .stop))))))))
def b3_64 : SCode := .draw t3_64
def b3_65 : SCode := .cond (.t 96) b3_64 .skip
def b3_66 : SCode := .seq b3_63 b3_65
def b3_67 : SCode := .seq b3_62 b3_66
def b3_68 : SCode := .seq b3_57 b3_67
abbrev r3_69 : List MOper := [⟨(some 108), .bin .eql .num (.t 46) (.c (.int .i64 5)), none⟩,
  ⟨(some 107), .move (.t 108), none⟩]
def b3_69 : SCode := .region r3_69
abbrev r3_70 : List MOper := [⟨(some 109), .move (.t 3), none⟩,
  ⟨(some 110), .fieldAddr 1 (.t 6), none⟩,
  ⟨(some 111), .load1 (.t 110), none⟩,
  ⟨(some 112), .call 13 [(.t 109), (.t 111)], none⟩,
  ⟨(some 113), .move (.t 7), none⟩,
  ⟨(some 114), .move (.t 113), none⟩,
  ⟨(some 115), .move (.t 4), (some (114, true))⟩,
  ⟨(some 116), .lenSl (.t 115), (some (114, true))⟩,
  ⟨(some 117), .bin .lss .num (.t 116) (.c (.int .i64 512)), (some (114, true))⟩,
  ⟨(some 118), .pick (.t 114) (.t 117) (.c (.bool false)), none⟩,
  ⟨(some 119), .bin .neq .bool (.t 112) (.t 118), none⟩]
def b3_70 : SCode := .region r3_70
abbrev r3_71 : List MOper := [⟨(some 2), .move (.c (.bool false)), none⟩]
def b3_71 : SCode := .region r3_71
def b3_72 : SCode := .seq b3_71 .ret
def b3_73 : SCode := .cond (.t 119) b3_72 .skip
def b3_74 : SCode := .seq b3_70 b3_73
abbrev r3_75 : List MOper := [⟨(some 120), .move (.t 7), none⟩,
  ⟨(some 121), .move (.t 120), none⟩,
  ⟨(some 122), .move (.t 4), (some (121, true))⟩,
  ⟨(some 123), .lenSl (.t 122), (some (121, true))⟩,
  ⟨(some 124), .bin .lss .num (.t 123) (.c (.int .i64 512)), (some (121, true))⟩,
  ⟨(some 125), .pick (.t 121) (.t 124) (.c (.bool false)), none⟩]
def b3_75 : SCode := .region r3_75
abbrev r3_76 : List MOper := [⟨(some 126), .move (.t 4), none⟩,
  ⟨(some 127), .move (.t 4), none⟩,
  ⟨(some 128), .move (.t 8), none⟩,
  ⟨(some 129), .indexAddr 27 (.t 127) (.t 128), none⟩,
  ⟨(some 130), .loadN 27 (.t 129), none⟩,
  ⟨(some 131), .buildSlice [.int .i64 0, .int .i64 0, .int .i64 0, .int .i64 0, .int .i64 0, .int .i64 0, .int .i64 0, .int .i64 0, .str [], .str [], .str [], .str [], .int .i64 0, .int .i64 0, .int .i64 0, .int .i64 0, .bool false, .str [], .nilslice, .str [], .bool false, .str [], .str [], .nilslice, .nilslice, .int .i64 0, .nilslice] 27 1 [(0, 27, (.t 130))], none⟩,
  ⟨(some 132), .append 27 344 (.t 126) (.t 131), none⟩,
  ⟨(some 4), .move (.t 132), none⟩]
def b3_76 : SCode := .region r3_76
def b3_77 : SCode := .cond (.t 125) b3_76 .skip
def b3_78 : SCode := .seq b3_75 b3_77
def b3_79 : SCode := .seq b3_74 b3_78
abbrev r3_80 : List MOper := [⟨(some 134), .bin .eql .num (.t 46) (.c (.int .i64 6)), none⟩,
  ⟨(some 133), .move (.t 134), none⟩]
def b3_80 : SCode := .region r3_80
abbrev r3_81 : List MOper := [⟨(some 135), .move (.t 3), none⟩,
  ⟨(some 136), .fieldAddr 1 (.t 6), none⟩,
  ⟨(some 137), .load1 (.t 136), none⟩,
  ⟨(some 138), .call 14 [(.t 135), (.t 137)], none⟩,
  ⟨(some 139), .move (.t 7), none⟩,
  ⟨(some 140), .bin .neq .bool (.t 138) (.t 139), none⟩]
def b3_81 : SCode := .region r3_81
abbrev r3_82 : List MOper := [⟨(some 2), .move (.c (.bool false)), none⟩]
def b3_82 : SCode := .region r3_82
def b3_83 : SCode := .seq b3_82 .ret
def b3_84 : SCode := .cond (.t 140) b3_83 .skip
def b3_85 : SCode := .seq b3_81 b3_84
abbrev r3_86 : List MOper := [⟨(some 141), .move (.t 7), none⟩]
def b3_86 : SCode := .region r3_86
abbrev t3_87 : LTree := (.quiet ⟨(some 143), .move (.t 4), none⟩ 1
  (.quiet ⟨(some 144), .move (.t 8), none⟩ 2
  (.quiet ⟨(some 145), .slice 27 (.t 143) none (some (.t 144)) none, none⟩ 3
  (.quiet ⟨(some 147), .move (.t 4), none⟩ 5
  (.quiet ⟨(some 148), .move (.t 8), none⟩ 6
  (.quiet ⟨(some 149), .bin .add .num (.t 148) (.c (.int .i64 1)), none⟩ 7
  (.quiet ⟨(some 150), .slice 27 (.t 147) (some (.t 149)) none none, none⟩ 8
  (.loud ⟨(some 142), .buildSlice [.int .i64 0, .int .i64 0, .int .i64 0, .int .i64 0, .int .i64 0, .int .i64 0, .int .i64 0, .int .i64 0, .str [], .str [], .str [], .str [], .int .i64 0, .int .i64 0, .int .i64 0, .int .i64 0, .bool false, .str [], .nilslice, .str [], .bool false, .str [], .str [], .nilslice, .nilslice, .int .i64 0, .nilslice] 27 0 [], none⟩ []
  (.loud ⟨(some 146), .append 27 344 (.t 142) (.t 145), none⟩ []
  (.loud ⟨(some 151), .append 27 344 (.t 146) (.t 150), none⟩ []
  (.quiet ⟨(some 4), .move (.t 151), none⟩ 10
  .leaf) .stop) .stop) .stop))))))))
def b3_87 : SCode := .draw t3_87
def b3_88 : SCode := .cond (.t 141) b3_87 .skip
def b3_89 : SCode := .seq b3_86 b3_88
def b3_90 : SCode := .seq b3_85 b3_89
def b3_91 : SCode := .cond (.t 133) b3_90 .skip
def b3_92 : SCode := .seq b3_80 b3_91
def b3_93 : SCode := .cond (.t 107) b3_79 b3_92
def b3_94 : SCode := .seq b3_69 b3_93
def b3_95 : SCode := .cond (.t 71) b3_68 b3_94
def b3_96 : SCode := .seq b3_56 b3_95
def b3_97 : SCode := .cond (.t 47) b3_52 b3_96
def b3_98 : SCode := .seq b3_36 b3_97
def b3_99 : SCode := .block 2 b3_98
def b3_100 : SCode := .seq b3_29 b3_99
abbrev r3_101 : List MOper := [⟨(some 152), .move (.t 3), none⟩,
  ⟨(some 153), .call 15 [(.t 152)], none⟩,
  ⟨(some 154), .move (.t 4), none⟩,
  ⟨(some 155), .lenSl (.t 154), none⟩,
  ⟨(some 156), .bin .neq .num (.t 153) (.t 155), none⟩]
def b3_101 : SCode := .region r3_101
abbrev r3_102 : List MOper := [⟨(some 2), .move (.c (.bool false)), none⟩]
def b3_102 : SCode := .region r3_102
def b3_103 : SCode := .seq b3_102 .ret
def b3_104 : SCode := .cond (.t 156) b3_103 .skip
def b3_105 : SCode := .seq b3_101 b3_104
def b3_106 : SCode := .seq b3_100 b3_105
def b3_107 : SCode := .seq b3_28 b3_106
def b3_108 : SCode := .seq b3_24 b3_107
def b3_109 : SCode := .seq b3_23 b3_108
def b3_110 : SCode := .seq b3_22 b3_109
def b3_111 : SCode := .block 1 b3_110
abbrev r3_112 : List MOper := [⟨(some 25), .move (.t 5), none⟩,
  ⟨(some 26), .bin .add .num (.t 25) (.c (.int .i64 1)), none⟩,
  ⟨(some 5), .move (.t 26), none⟩]
def b3_112 : SCode := .region r3_112
def b3_113 : SCode := .seq b3_111 b3_112
def b3_114 : SCode := .seq b3_21 b3_113
def b3_115 : SCode := .loop b3_114
def b3_116 : SCode := .block 0 b3_115
def b3_117 : SCode := .seq b3_18 b3_116
abbrev r3_118 : List MOper := [⟨(some 2), .move (.c (.bool true)), none⟩]
def b3_118 : SCode := .region r3_118
def b3_119 : SCode := .seq b3_118 .ret
def b3_120 : SCode := .seq b3_117 b3_119
def b3_121 : SCode := .seq b3_17 b3_120
def b3_122 : SCode := .seq b3_16 b3_121
def b3_123 : SCode := .seq b3_11 b3_122
def b3_124 : SCode := .seq b3_10 b3_123
def b3_125 : SCode := .seq b3_5 b3_124
def b3_126 : SCode := .seq b3_0 b3_125
def s3 : SFunc := ⟨157, [.t 2], b3_126⟩
theorem c3 : sFn Try.prog 3 = some s3 := by kernel_rfl
theorem x3_52 : XS b3_52 b3_37 b3_51 := rfl
theorem x3_68 : XS b3_68 b3_57 b3_67 := rfl
theorem x3_79 : XS b3_79 b3_74 b3_78 := rfl
theorem x3_90 : XS b3_90 b3_85 b3_89 := rfl
theorem x3_100 : XS b3_100 b3_29 b3_99 := rfl
theorem x3_105 : XS b3_105 b3_101 b3_104 := rfl
theorem Z3 : XR b3_0 r3_0 ∧ XR b3_1 r3_1 ∧ XR b3_2 r3_2 ∧ XS b3_3 b3_2 .ret ∧ XC b3_4 (.t 14) b3_3 .skip ∧ XS b3_5 b3_1 b3_4 ∧ XR b3_6 r3_6 ∧ XR b3_7 r3_7 ∧ XS b3_8 b3_7 .ret ∧ XC b3_9 (.t 17) b3_8 .skip ∧ XS b3_10 b3_6 b3_9 ∧ XR b3_11 r3_11 ∧ XR b3_12 r3_12 ∧ XR b3_13 r3_13 ∧ XS b3_14 b3_13 .ret ∧ XC b3_15 (.t 20) b3_14 .skip ∧ XS b3_16 b3_12 b3_15 ∧ XR b3_17 r3_17 ∧ XR b3_18 r3_18 ∧ XR b3_19 r3_19 ∧ XC b3_20 (.t 24) .skip (.exit 0) ∧ XS b3_21 b3_19 b3_20 ∧ XR b3_22 r3_22 ∧ XR b3_23 r3_23 ∧ XR b3_24 r3_24 ∧ XR b3_25 r3_25 ∧ XR b3_26 r3_26 ∧ XC b3_27 (.t 39) b3_26 .skip ∧ XS b3_28 b3_25 b3_27 ∧ XR b3_29 r3_29 ∧ XR b3_30 r3_30 ∧ XR b3_31 r3_31 ∧ XR b3_32 r3_32 ∧ XC b3_33 (.t 47) .skip b3_32 ∧ XS b3_34 b3_31 b3_33 ∧ XC b3_35 (.t 47) .skip b3_34 ∧ XS b3_36 b3_30 b3_35 ∧ XR b3_37 r3_37 ∧ XR b3_38 r3_38 ∧ XR b3_39 r3_39 ∧ XR b3_40 r3_40 ∧ XR b3_41 r3_41 ∧ XS b3_42 b3_40 b3_41 ∧ XC b3_43 (.t 60) b3_42 .skip ∧ XS b3_44 b3_39 b3_43 ∧ XR b3_45 r3_45 ∧ XR b3_46 r3_46 ∧ XS b3_47 b3_46 .ret ∧ XC b3_48 (.t 70) b3_47 .skip ∧ XS b3_49 b3_45 b3_48 ∧ XS b3_50 b3_44 b3_49 ∧ XS b3_51 b3_38 b3_50 ∧ XR b3_53 r3_53 ∧ XR b3_54 r3_54 ∧ XC b3_55 (.t 71) .skip b3_54 ∧ XS b3_56 b3_53 b3_55 ∧ XR b3_57 r3_57 ∧ XT b3_58 t3_58 ∧ XR b3_59 r3_59 ∧ XS b3_60 b3_59 .ret ∧ XC b3_61 (.t 95) b3_60 .skip ∧ XS b3_62 b3_58 b3_61 ∧ XR b3_63 r3_63 ∧ XT b3_64 t3_64 ∧ XC b3_65 (.t 96) b3_64 .skip ∧ XS b3_66 b3_63 b3_65 ∧ XS b3_67 b3_62 b3_66 ∧ XR b3_69 r3_69 ∧ XR b3_70 r3_70 ∧ XR b3_71 r3_71 ∧ XS b3_72 b3_71 .ret ∧ XC b3_73 (.t 119) b3_72 .skip ∧ XS b3_74 b3_70 b3_73 ∧ XR b3_75 r3_75 ∧ XR b3_76 r3_76 ∧ XC b3_77 (.t 125) b3_76 .skip ∧ XS b3_78 b3_75 b3_77 ∧ XR b3_80 r3_80 ∧ XR b3_81 r3_81 ∧ XR b3_82 r3_82 ∧ XS b3_83 b3_82 .ret ∧ XC b3_84 (.t 140) b3_83 .skip ∧ XS b3_85 b3_81 b3_84 ∧ XR b3_86 r3_86 ∧ XT b3_87 t3_87 ∧ XC b3_88 (.t 141) b3_87 .skip ∧ XS b3_89 b3_86 b3_88 ∧ XC b3_91 (.t 133) b3_90 .skip ∧ XS b3_92 b3_80 b3_91 ∧ XC b3_93 (.t 107) b3_79 b3_92 ∧ XS b3_94 b3_69 b3_93 ∧ XC b3_95 (.t 71) b3_68 b3_94 ∧ XS b3_96 b3_56 b3_95 ∧ XC b3_97 (.t 47) b3_52 b3_96 ∧ XS b3_98 b3_36 b3_97 ∧ XB b3_99 2 b3_98 ∧ XR b3_101 r3_101 ∧ XR b3_102 r3_102 ∧ XS b3_103 b3_102 .ret ∧ XC b3_104 (.t 156) b3_103 .skip ∧ XS b3_106 b3_100 b3_105 ∧ XS b3_107 b3_28 b3_106 ∧ XS b3_108 b3_24 b3_107 ∧ XS b3_109 b3_23 b3_108 ∧ XS b3_110 b3_22 b3_109 ∧ XB b3_111 1 b3_110 ∧ XR b3_112 r3_112 ∧ XS b3_113 b3_111 b3_112 ∧ XS b3_114 b3_21 b3_113 ∧ XB b3_116 0 b3_115 ∧ XS b3_117 b3_18 b3_116 ∧ XR b3_118 r3_118 ∧ XS b3_119 b3_118 .ret ∧ XS b3_120 b3_117 b3_119 ∧ XS b3_121 b3_17 b3_120 ∧ XS b3_122 b3_16 b3_121 ∧ XS b3_123 b3_11 b3_122 ∧ XS b3_124 b3_10 b3_123 ∧ XS b3_125 b3_5 b3_124 ∧ XS b3_126 b3_0 b3_125 ∧ XY s3 157 b3_126 [.t 2] := ⟨rfl, rfl, rfl, rfl, sC_cond, rfl, rfl, rfl, rfl, sC_cond, rfl, rfl, rfl, rfl, rfl, sC_cond, rfl, rfl, rfl, rfl, sC_cond, rfl, rfl, rfl, rfl, rfl, rfl, sC_cond, rfl, rfl, rfl, rfl, rfl, sC_cond, rfl, sC_cond, rfl, rfl, rfl, rfl, rfl, rfl, rfl, sC_cond, rfl, rfl, rfl, rfl, sC_cond, rfl, rfl, rfl, rfl, rfl, sC_cond, rfl, rfl, rfl, rfl, rfl, sC_cond, rfl, rfl, rfl, sC_cond, rfl, rfl, rfl, rfl, rfl, rfl, sC_cond, rfl, rfl, rfl, sC_cond, rfl, rfl, rfl, rfl, rfl, sC_cond, rfl, rfl, rfl, sC_cond, rfl, sC_cond, rfl, sC_cond, rfl, sC_cond, rfl, sC_cond, rfl, rfl, rfl, rfl, rfl, sC_cond, rfl, rfl, rfl, rfl, rfl, rfl, rfl, rfl, rfl, rfl, rfl, rfl, rfl, rfl, rfl, rfl, rfl, rfl, rfl, rfl, rfl⟩

set_option maxHeartbeats 4000000
set_option maxRecDepth 10000
def T3 : PCall := rowQ 5 mawakeD (rowQ 6 deedsD (rowQ 7 mnewD (rowQ 8 madeD (rowQ 9 mayD (rowQ 10 msendOD (rowQ 11 mtakeD (rowQ 12 sameD (rowQ 13 mcopyD (rowQ 14 mloseD (rowQ 15 mlenD noCall))))))))))
theorem T3_app {f : FuncId} {args : List AV} {σ : AHeap} {K : AV → AHeap → Prop} : T3 f args σ K = rowQ 5 mawakeD (rowQ 6 deedsD (rowQ 7 mnewD (rowQ 8 madeD (rowQ 9 mayD (rowQ 10 msendOD (rowQ 11 mtakeD (rowQ 12 sameD (rowQ 13 mcopyD (rowQ 14 mloseD (rowQ 15 mlenD noCall)))))))))) f args σ K := _root_.id rfl
theorem T3_sound : Sound Try.prog T3 := rowQ_sound mawakeD_ok (rowQ_sound deedsD_ok (rowQ_sound mnewD_ok (rowQ_sound madeD_ok (rowQ_sound mayD_ok (rowQ_sound msendOD_ok (rowQ_sound mtakeD_ok (rowQ_sound sameD_ok (rowQ_sound mcopyD_ok (rowQ_sound mloseD_ok (rowQ_sound mlenD_ok (noCall_sound _)))))))))))
theorem yes_true {σ : AHeap} : Yes (.bool true) σ := rfl
/-- What is sent and may be known. -/
structure Gd (n : NoteV) : Prop where
  may : mayB n = true
  sz : n.sz
  cmp : n.cmp
  len : n.bytes.length ≤ 4000000
def pv (l : List DeedV) (M S i k : Nat) (e : Env) (σ : AHeap) : Prop :=
  ∃ (ns : List NoteV) (D : Option Nat) (Wv : AV), ns.length ≤ k ∧ (∀ n ∈ ns, Gd n) ∧ Ml σ M S (ns.map NoteV.bytes) D ∧ Grow σ Wv 27 (ns.map NoteV.cells) ∧ LvD Wv ≠ some M ∧ LvD Wv ≠ some S ∧ (∀ d, D = some d → LvD Wv ≠ some d) ∧
    e 0 = .imm (l.map DeedV.cells) false false ∧ e 3 = .ptr M 0 ∧ e 4 = Wv ∧ e 5 = .int .i64 (i : Int)
def plI (l : List DeedV) (M S : Nat) (m : Nat) (e : Env) (σ : AHeap) : Prop := ∃ i, i ≤ l.length ∧ m = l.length - i ∧ pv l M S i i e σ
theorem grow_lenS {σ : AHeap} {Lv : AV} {w n : Nat} {rows : List (List AV)} (h : Grow σ Lv w rows ∧ rows.length = n) : lenSl Lv = some n := by
  obtain ⟨h | ⟨d, h, _⟩, hn⟩ := h
  · rw [h.1, ← hn, h.2]; rfl
  · rw [h, ← hn]; rfl
section
variable {l : List DeedV} {M S i : Nat} {Q : AV → AHeap → Prop} {m : Nat}
abbrev LR (l : List DeedV) (M S : Nat) (m : Nat) : MExit → Env → AHeap → Prop := loopR T3 0 (RetQ [.t 2] Yes) (.block 0 (.seq b3_119 .fin)) (plI l M S) m
theorem tail (hl : l.length ≤ 100) (hi : i < l.length) (hm : m = l.length - i) {e : Env} {σ : AHeap} (h : pv l M S i (i + 1) e σ) : sC T3 0 b3_105 (unw T3 0 (LR l M S m) (.block 1 (.seq b3_112 .fin))) e σ := by
  obtain ⟨ns, D, Wv, hn, hg, hml, hw, dM, dS, dD, e0, e3, e4, e5⟩ := h
  have hls : lenSl Wv = some ns.length := grow_lenS ⟨hw, by simp⟩
  have hb : (ns.map NoteV.bytes).length = ns.length := by simp
  have hwr : IntKind.wrap .i64 ((i : Int) + 1) = ((i + 1 : Nat) : Int) := by rw [Gz.wrap64 (by omega)]; omega
  simp only [T3_app, Z3, x3_52, x3_68, x3_79, x3_90, x3_100, x3_105, base1, ↓reduceIte, Nat.reduceAdd, Nat.reduceSub, Nat.reduceMul, Nat.reduceEqDiff, Nat.reduceLeDiff, Nat.reduceLT, Int.reduceLT, Int.reduceLE, Int.reduceEq, Int.reduceNe, Int.reduceToNat, Int.reduceAdd, Int.reduceSub, reduceCtorEq, Nat.reduceBEq, Nat.reduceBNe, LR, loopR_exit, loopR_ret, e3, e4, e5]
  refine ⟨M, S, _, D, rfl, hml, ?_⟩
  simp only [T3_app, Z3, x3_52, x3_68, x3_79, x3_90, x3_100, x3_105, base1, ↓reduceIte, Nat.reduceAdd, Nat.reduceSub, Nat.reduceMul, Nat.reduceEqDiff, Nat.reduceLeDiff, Nat.reduceLT, Int.reduceLT, Int.reduceLE, Int.reduceEq, Int.reduceNe, Int.reduceToNat, Int.reduceAdd, Int.reduceSub, reduceCtorEq, Nat.reduceBEq, Nat.reduceBNe, LR, loopR_exit, loopR_ret, e3, e4, e5, hls, hb, Option.map_some, hwr]
  rw [loopR_normal]
  exact ⟨l.length - (i + 1), _, _, by omega, .refl _ _ _, i + 1, hi, rfl, ns, D, Wv, hn, hg, hml, hw, dM, dS, dD, e0, e3, e4, rfl⟩
/-- A state at the switch. -/
def hdP (l : List DeedV) (M S i : Nat) (d : DeedV) (e : Env) (σ : AHeap) : Prop :=
  ∃ (ns : List NoteV) (D : Option Nat) (Wv : AV) (N : Nat), ns.length ≤ i ∧ (∀ n ∈ ns, Gd n) ∧ Ml σ M S (ns.map NoteV.bytes) D ∧ Grow σ Wv 27 (ns.map NoteV.cells) ∧ LvD Wv ≠ some M ∧ LvD Wv ≠ some S ∧ (∀ d, D = some d → LvD Wv ≠ some d) ∧
    e 0 = .imm (l.map DeedV.cells) false false ∧ e 3 = .ptr M 0 ∧ e 4 = Wv ∧ e 5 = .int .i64 (i : Int) ∧ e 6 = .ptr N 0 ∧ hget σ N = some d.cells ∧
    ((e 7 = .bool false ∧ place d.n ns.length < 0) ∨ ∃ k : Nat, e 7 = .bool true ∧ place d.n ns.length = (k : Int) ∧ k < ns.length ∧ e 8 = .int .i64 (k : Int))
theorem ml_dlt {σ : AHeap} {M S : Nat} {ss : List (List UInt8)} {D : Option Nat} (h : Ml σ M S ss D) : D ≠ some σ.length := by
  rcases h.sp with ⟨rfl, _, _⟩ | ⟨d, _, rfl, _, _, h⟩
  · simp
  · have := hget_lt h; intro e; cases e; omega
theorem made_gd {r : RowV} (h : r.smallP) (hm : mayB (made r) = true) : Gd (made r) := ⟨hm, made_sz h, made_cmp h, made_len h⟩
theorem send_one {τ : AHeap} {ss : List (List UInt8)} {D : Option Nat} {n : NoteV} {K : AV → AHeap → Prop} (hm : Ml τ M S ss D) (hs : n.sz) (hK : ∀ σ' D', Ml σ' M S (send1 (0, ss) n).2 D' → FrS (hpush τ n.cells) σ' S D D' → K (.int .i64 ((send1 (0, ss) n).1 : Int)) σ') :
    msendOD [.ptr M 0, .slice τ.length 0 1 (some 1) 27] (hpush τ n.cells) K := by
  obtain ⟨cS, hcS⟩ := ml_spool hm
  refine .inr ⟨M, S, τ.length, some 1, [n], [n.cells], [], ss, D, rfl, by simp [push_new], by have := hget_lt hcS; omega, ml_dlt hm, rfl, fun i cs q hc hq => ?_, fun q hq => ?_, by simp, ml_keep hm fun j c hj _ => push_old hj, hK⟩
  · match i with
    | 0 => simp at hc hq; subst hc; subst hq; rfl
    | i + 1 => simp at hc
  · simp at hq; subst hq; exact hs
theorem grow_frS {σ σ' : AHeap} {D D' : Option Nat} {Wv : AV} {w : Nat} {rows : List (List AV)} (h : Grow σ Wv w rows) (hf : FrS σ σ' S D D') (dS : LvD Wv ≠ some S) (dD : ∀ d, D = some d → LvD Wv ≠ some d) : Grow σ' Wv w rows ∧ ∀ d, D' = some d → LvD Wv ≠ some d := by
  refine ⟨grow_frame h fun j c hj hd => (hf j c hj (fun h => dS (by rw [hd, h])) (fun h => dD j h hd)).1, fun x hx hh => ?_⟩
  rcases h with ⟨rfl, _⟩ | ⟨d, rfl, hd, _⟩
  · cases hh
  · cases hh
    exact (hf _ _ hd (fun h => dS (by rw [h]; rfl)) (fun h => dD _ h rfl)).2 hx
theorem caseSend (hl : l.length ≤ 100) (hi : i < l.length) (hm : m = l.length - i) {d : DeedV} (hs : d.row.smallP) {e : Env} {σ : AHeap} (h : hdP l M S i d e σ) :
    sC T3 0 b3_52 (unw T3 0 (LR l M S m) (.block 2 (.seq b3_105 (.block 1 (.seq b3_112 .fin))))) e σ := by
  obtain ⟨ns, D, Wv, N, hn, hgd, hml, hw, dM, dS, dD, e0, e3, e4, e5, e6, hN, _⟩ := h
  have hll := hs.lal
  have hls := hs.shl
  have hlw : lenSl Wv = some ns.length := grow_lenS ⟨hw, by simp⟩
  simp only [T3_app, Z3, x3_52, x3_68, x3_79, x3_90, x3_100, base1, ↓reduceIte, Nat.reduceAdd, Nat.reduceSub, Nat.reduceMul, Nat.reduceEqDiff, Nat.reduceLeDiff, Nat.reduceLT, Int.reduceLT, Int.reduceLE, Int.reduceEq, Int.reduceNe, Int.reduceToNat, Int.reduceAdd, Int.reduceSub, reduceCtorEq, Nat.reduceBEq, Nat.reduceBNe, LR, loopR_exit, loopR_ret, e0, e3, e4, e5, e6, hN, deed_row]
  refine ⟨d.row, rfl, by omega, by omega, ?_⟩
  have pn : ∀ c : List AV, hget (hpush σ c) σ.length = some c := fun c => push_new rfl
  have sn : ∀ c c' : List AV, hget (hset (hpush σ c) σ.length c') σ.length = some c' := fun c c' => set_same (pn c)
  have old : ∀ {j : Nat} {x : List AV}, hget σ j = some x → hget (hset (hpush σ zN) σ.length (made d.row).cells) j = some x := fun h => al_frame h
  have sn1 := sn zN (made d.row).cells
  simp only [T3_app, Z3, x3_52, x3_68, x3_79, x3_90, x3_100, base1, ↓reduceIte, Nat.reduceAdd, Nat.reduceSub, Nat.reduceMul, Nat.reduceEqDiff, Nat.reduceLeDiff, Nat.reduceLT, Int.reduceLT, Int.reduceLE, Int.reduceEq, Int.reduceNe, Int.reduceToNat, Int.reduceAdd, Int.reduceSub, reduceCtorEq, Nat.reduceBEq, Nat.reduceBNe, LR, loopR_exit, loopR_ret, e0, e3, e4, e5, e6, pn, sn1, nc_len, nc_cell, put_note, sub_note]
  refine ⟨made d.row, rfl, made_sz hs, ?_⟩
  have hw1 := grow_frame hw (τ := hset (hpush σ zN) σ.length (made d.row).cells) fun j c hj _ => old hj
  have ml1 : Ml (hset (hpush σ zN) σ.length (made d.row).cells) M S (ns.map NoteV.bytes) D := ml_keep hml fun j c hj _ => old hj
  have hn2 : LvD Wv ≠ some σ.length := fun h => by have := grow_old hw _ h; omega
  have dlt := ml_dlt hml
  obtain ⟨cS, hcS⟩ := ml_spool ml1
  generalize hset (hpush σ zN) σ.length (made d.row).cells = σ1 at *
  generalize σ.length = N1 at *
  cases hmay : mayB (made d.row) with
  | true =>
    have h512 : (ns.length : Int) < 512 := by omega
    obtain ⟨v, τ, a1, a2, a3, a4, a5⟩ := grow_one (b := 344) (by decide) hw1 (by simp; omega) (made d.row).cells rfl rfl
    have t1 := (a4 _ _ sn1 hn2).1
    simp only [T3_app, Z3, x3_52, x3_68, x3_79, x3_90, x3_100, base1, ↓reduceIte, Nat.reduceAdd, Nat.reduceSub, Nat.reduceMul, Nat.reduceEqDiff, Nat.reduceLeDiff, Nat.reduceLT, Int.reduceLT, Int.reduceLE, Int.reduceEq, Int.reduceNe, Int.reduceToNat, Int.reduceAdd, Int.reduceSub, reduceCtorEq, Nat.reduceBEq, Nat.reduceBNe, LR, loopR_exit, loopR_ret, e0, e3, e4, e5, e6, hmay, hlw, Option.map_some, h512, sn1, nc_len, nc_cell, put_note, sub_note, a1, a2, a3, t1]
    have ml2 : Ml τ M S (ns.map NoteV.bytes) D := ml_keep ml1 fun j c hj hd => (a4 _ _ hj (hd.elim (fun h => h ▸ dM) (fun h => h.elim (fun h => h ▸ dS) (fun h => dD j h)))).1
    have vD : ∀ x, D = some x → LvD v ≠ some x := fun x hx => by
      rcases ml1.sp with ⟨h, _, _⟩ | ⟨y, _, h, _, _, hy⟩
      · rw [h] at hx; cases hx
      · rw [h] at hx; cases hx
        exact (a4 _ _ hy (dD _ h)).2
    refine send_one ml2 (made_sz hs) fun σ2 D2 hm2 hf2 => ?_
    have hlen : (ns.map NoteV.bytes).length < 512 := by simp; omega
    have hs1 : send1 (0, ns.map NoteV.bytes) (made d.row) = (1, (ns ++ [made d.row]).map NoteV.bytes) := by unfold send1; rw [if_pos ⟨hmay, hlen⟩, List.map_append]; rfl
    rw [hs1] at hm2 ⊢
    have vM := (a4 _ _ ml1.m dM).2
    have vS := (a4 _ _ hcS dS).2
    obtain ⟨g1, g2⟩ := grow_frS (grow_frame a5 (τ := hpush τ (made d.row).cells) fun j c hj _ => push_old hj) hf2 vS vD
    simp only [T3_app, Z3, x3_52, x3_68, x3_79, x3_90, x3_100, base1, ↓reduceIte, Nat.reduceAdd, Nat.reduceSub, Nat.reduceMul, Nat.reduceEqDiff, Nat.reduceLeDiff, Nat.reduceLT, Int.reduceLT, Int.reduceLE, Int.reduceEq, Int.reduceNe, Int.reduceToNat, Int.reduceAdd, Int.reduceSub, reduceCtorEq, Nat.reduceBEq, Nat.reduceBNe, LR, loopR_exit, loopR_ret, e0, e3, e4, e5, e6]
    refine tail hl hi hm ⟨ns ++ [made d.row], D2, v, by simp; omega, fun n hn => ?_, hm2, by rw [List.map_append]; exact g1, vM, vS, g2, e0, e3, rfl, e5⟩
    rcases List.mem_append.1 hn with h | h
    · exact hgd n h
    · simp at h; subst h; exact made_gd hs hmay
  | false =>
    simp only [T3_app, Z3, x3_52, x3_68, x3_79, x3_90, x3_100, base1, ↓reduceIte, Nat.reduceAdd, Nat.reduceSub, Nat.reduceMul, Nat.reduceEqDiff, Nat.reduceLeDiff, Nat.reduceLT, Int.reduceLT, Int.reduceLE, Int.reduceEq, Int.reduceNe, Int.reduceToNat, Int.reduceAdd, Int.reduceSub, reduceCtorEq, Nat.reduceBEq, Nat.reduceBNe, LR, loopR_exit, loopR_ret, e0, e3, e4, e5, e6, hmay, sn1, nc_len, nc_cell, put_note, sub_note]
    refine send_one ml1 (made_sz hs) fun σ2 D2 hm2 hf2 => ?_
    have hs1 : send1 (0, ns.map NoteV.bytes) (made d.row) = (0, ns.map NoteV.bytes) := by unfold send1; rw [if_neg (by rw [hmay]; simp)]
    rw [hs1] at hm2 ⊢
    obtain ⟨g1, g2⟩ := grow_frS (grow_frame hw1 (τ := hpush σ1 (made d.row).cells) fun j c hj _ => push_old hj) hf2 dS dD
    simp only [T3_app, Z3, x3_52, x3_68, x3_79, x3_90, x3_100, base1, ↓reduceIte, Nat.reduceAdd, Nat.reduceSub, Nat.reduceMul, Nat.reduceEqDiff, Nat.reduceLeDiff, Nat.reduceLT, Int.reduceLT, Int.reduceLE, Int.reduceEq, Int.reduceNe, Int.reduceToNat, Int.reduceAdd, Int.reduceSub, reduceCtorEq, Nat.reduceBEq, Nat.reduceBNe, LR, loopR_exit, loopR_ret, e0, e3, e4, e5, e6]
    exact tail hl hi hm ⟨ns, D2, Wv, by omega, hgd, hm2, g1, dM, dS, g2, e0, e3, e4, e5⟩
theorem erase_map {α β : Type} {f : α → β} {l : List α} {k : Nat} : (l.map f).eraseIdx k = (l.eraseIdx k).map f := by
  rw [List.eraseIdx_eq_take_drop_succ, List.eraseIdx_eq_take_drop_succ, List.map_append, List.map_take, List.map_drop]
theorem ev_to {w k n sz : Nat} (h : k ≤ n) : evSlice sz (.slice w 0 n none sz) none (some (.int .i64 (k : Int))) none = some (.slice w 0 k none sz) := by
  have b1 : bound? none n n = some n := rfl
  have b2 : bound? (some (.int .i64 (k : Int))) n n = some k := by rw [bound_int, if_pos (by omega), if_pos (by omega)]; simp
  have b3 : bound? none 0 k = some 0 := rfl
  simp only [evSlice, topOf, b1, b2, b3]
  rw [if_pos ⟨by omega, by omega, trivial⟩]
  simp
theorem ev_from {w k n sz : Nat} (h : k ≤ n) : evSlice sz (.slice w 0 n none sz) (some (.int .i64 (k : Int))) none none = some (.slice w (k * sz) (n - k) none sz) := by
  have b1 : bound? none n n = some n := rfl
  have b3 : bound? (some (.int .i64 (k : Int))) 0 n = some k := by rw [bound_int, if_pos (by omega), if_pos (by omega)]; simp
  simp only [evSlice, topOf, b1, b3]
  rw [if_pos ⟨by omega, by omega, trivial⟩]
  simp
theorem caseTake (hl : l.length ≤ 100) (hi : i < l.length) (hm : m = l.length - i) {d : DeedV} (hb : d.n ≤ 9223372036854775807) {e : Env} {σ : AHeap} (h : hdP l M S i d e σ) :
    sC T3 0 b3_68 (unw T3 0 (LR l M S m) (.block 2 (.seq b3_105 (.block 1 (.seq b3_112 .fin))))) e σ := by
  obtain ⟨ns, D, Wv, N, hn, hgd, hml, hw, dM, dS, dD, e0, e3, e4, e5, e6, hN, hc⟩ := h
  have hbl : (ns.map NoteV.bytes).length = ns.length := by simp
  have hb4 : ∀ x ∈ ns.map NoteV.bytes, x.length ≤ 4000000 := fun x hx => by
    obtain ⟨y, hy, rfl⟩ := List.mem_map.1 hx
    exact (hgd y hy).len
  simp only [T3_app, Z3, x3_52, x3_68, x3_79, x3_90, x3_100, base1, ↓reduceIte, Nat.reduceAdd, Nat.reduceSub, Nat.reduceMul, Nat.reduceEqDiff, Nat.reduceLeDiff, Nat.reduceLT, Int.reduceLT, Int.reduceLE, Int.reduceEq, Int.reduceNe, Int.reduceToNat, Int.reduceAdd, Int.reduceSub, reduceCtorEq, Nat.reduceBEq, Nat.reduceBNe, LR, loopR_exit, loopR_ret, e0, e3, e4, e5, e6, hN, deed_n]
  refine ⟨M, S, d.n, _, D, rfl, hb, hml, hb4, fun hp σ1 hm1 hf1 => ?_, fun k x hk hx σ1 D1 hm1 hf1 => ?_⟩
  · rw [hbl] at hp
    obtain ⟨g1, g2⟩ := grow_frS hw hf1 dS dD
    have e7 : e 7 = .bool false := by
      rcases hc with ⟨h, _⟩ | ⟨k, _, h, _⟩
      · exact h
      · omega
    have pn : ∀ c : List AV, hget (hpush σ1 c) σ1.length = some c := fun c => push_new rfl
    have ml1 : ∀ c c' : List AV, Ml (hset (hpush σ1 c) σ1.length c') M S (ns.map NoteV.bytes) D := fun c c' => ml_keep hm1 fun j x hj _ => al_frame hj
    have gw : ∀ c c' : List AV, Grow (hset (hpush σ1 c) σ1.length c') Wv 27 (ns.map NoteV.cells) := fun c c' => grow_frame g1 fun j x hj _ => al_frame hj
    have pz : put zN 0 zeroC = some zeroC := rfl
    have zl : zeroC.length = 27 := rfl
    have zc : (zeroC.all fun x => x.isCell) = true := rfl
    simp only [T3_app, Z3, x3_52, x3_68, x3_79, x3_90, x3_100, base1, ↓reduceIte, Nat.reduceAdd, Nat.reduceSub, Nat.reduceMul, Nat.reduceEqDiff, Nat.reduceLeDiff, Nat.reduceLT, Int.reduceLT, Int.reduceLE, Int.reduceEq, Int.reduceNe, Int.reduceToNat, Int.reduceAdd, Int.reduceSub, reduceCtorEq, Nat.reduceBEq, Nat.reduceBNe, LR, loopR_exit, loopR_ret, e0, e3, e4, e5, e6, e7, pn, pz, zl, zc]
    exact tail hl hi hm ⟨ns, D, Wv, by omega, hgd, ml1 _ _, gw _ _, dM, dS, g2, e0, e3, e4, e5⟩
  · rw [hbl] at hk
    obtain ⟨k', e7, hk', hlt, e8⟩ : ∃ k : Nat, e 7 = .bool true ∧ place d.n ns.length = (k : Int) ∧ k < ns.length ∧ e 8 = .int .i64 (k : Int) := by
      rcases hc with ⟨_, h⟩ | h
      · omega
      · exact h
    have : k' = k := by omega
    subst this
    obtain ⟨n, hnk⟩ : ∃ n, ns[k']? = some n := ⟨_, List.getElem?_eq_getElem hlt⟩
    have hxn : x = n.bytes := by rw [List.getElem?_map, hnk] at hx; exact (Option.some.inj hx).symm
    subst hxn
    have gd := hgd n (List.mem_of_getElem? hnk)
    rw [note_good gd.may gd.sz]
    obtain ⟨g1, g2⟩ := grow_frS hw hf1 dS dD
    rw [erase_map] at hm1
    rcases g1 with ⟨_, h0⟩ | ⟨w, rfl, hd, h27, hcell⟩
    · have := congrArg List.length h0
      rw [List.length_map, List.length_nil] at this
      omega
    have hcl : (ns.map NoteV.cells).length = ns.length := by simp
    rw [hcl] at e4
    have hge0 : (0 : Int) ≤ (k' : Int) := by omega
    have hlt' : (k' : Int) < (ns.length : Int) := by omega
    have hnc : (ns.map NoteV.cells)[k']? = some n.cells := by rw [List.getElem?_map, hnk]; rfl
    have hsb : sub (ns.map NoteV.cells).flatten (k' * 27) 27 = some n.cells := by
      have := sub_row27 (J := []) h27 hnc
      rwa [List.append_nil] at this
    have hwr : IntKind.wrap .i64 ((k' : Int) + 1) = ((k' + 1 : Nat) : Int) := by rw [Gz.wrap64 (by omega)]; omega
    have pn : ∀ c : List AV, hget (hpush σ1 c) σ1.length = some c := fun c => push_new rfl
    have sn : ∀ c c' : List AV, hget (hset (hpush σ1 c) σ1.length c') σ1.length = some c' := fun c c' => set_same (pn c)
    have sn1 := sn zN n.cells
    have gd1 : hget (hset (hpush σ1 zN) σ1.length n.cells) w = some (ns.map NoteV.cells).flatten := al_frame hd
    have ml1 : Ml (hset (hpush σ1 zN) σ1.length n.cells) M S ((ns.eraseIdx k').map NoteV.bytes) D1 := ml_keep hm1 fun j x hj _ => al_frame hj
    simp only [T3_app, Z3, x3_52, x3_68, x3_79, x3_90, x3_100, base1, ↓reduceIte, Nat.reduceAdd, Nat.reduceSub, Nat.reduceMul, Nat.reduceEqDiff, Nat.reduceLeDiff, Nat.reduceLT, Int.reduceLT, Int.reduceLE, Int.reduceEq, Int.reduceNe, Int.reduceToNat, Int.reduceAdd, Int.reduceSub, reduceCtorEq, Nat.reduceBEq, Nat.reduceBNe, LR, loopR_exit, loopR_ret, e0, e3, e4, e5, e6, e7, e8, pn, sn1, nc_len, nc_cell, put_note, sub_note, gd1, hsb, hge0, hlt', hlt, Int.toNat_natCast]
    refine ⟨n, n, rfl, gd.cmp, gd.cmp, fun t ht => ?_⟩
    have : t = true := ht.2 rfl
    subst this
    have hle : (ns.map NoteV.cells).length ≤ 1000000 := by rw [hcl]; omega
    generalize hset (hpush σ1 zN) σ1.length n.cells = σ2 at gd1 ml1 sn1 ⊢
    obtain ⟨v1, τ1, v, τ, a1, a2, a3, a4, a5, a6, a7, a8⟩ := cut_grow (b := 344) (by decide) gd1 h27 hcell (by rw [hcl]; exact hlt) hle
    rw [hcl] at a4
    have x1 : evSlice 27 (.slice w 0 ns.length none 27) none (some (.int .i64 (k' : Int))) none = some (.slice w 0 k' none 27) := ev_to (by omega)
    have x2 : evSlice 27 (.slice w 0 ns.length none 27) (some (.int .i64 ((k' + 1 : Nat) : Int))) none none = some (.slice w ((k' + 1) * 27) (ns.length - (k' + 1)) none 27) := ev_from (by omega)
    simp only [T3_app, Z3, x3_52, x3_68, x3_79, x3_90, x3_100, base1, ↓reduceIte, Nat.reduceAdd, Nat.reduceSub, Nat.reduceMul, Nat.reduceEqDiff, Nat.reduceLeDiff, Nat.reduceLT, Int.reduceLT, Int.reduceLE, Int.reduceEq, Int.reduceNe, Int.reduceToNat, Int.reduceAdd, Int.reduceSub, reduceCtorEq, Nat.reduceBEq, Nat.reduceBNe, LR, loopR_exit, loopR_ret, e0, e3, e4, e5, e6, e7, e8, hwr, x1, x2, a1, a2, a3, a4, a5, a6]
    have ml2 : Ml τ M S ((ns.eraseIdx k').map NoteV.bytes) D1 := ml_keep ml1 fun j x hj _ => (a7 j x hj).1
    obtain ⟨cS, hcS⟩ := ml_spool ml1
    refine tail hl hi hm ⟨ns.eraseIdx k', D1, v, ?_, fun n hn => hgd n (List.mem_of_mem_eraseIdx hn), ml2, by rw [← erase_map]; exact a8, (a7 _ _ ml1.m).2, (a7 _ _ hcS).2, fun x hx => ?_, e0, e3, rfl, e5⟩
    · have := List.length_eraseIdx_le ns k'; omega
    · rcases ml1.sp with ⟨h, _, _⟩ | ⟨y, _, h, _, _, hy⟩
      · rw [h] at hx; cases hx
      · rw [h] at hx; cases hx
        exact (a7 _ _ hy).2
theorem caseCopy (hl : l.length ≤ 100) (hi : i < l.length) (hm : m = l.length - i) {d : DeedV} (hb : d.n ≤ 9223372036854775807) {e : Env} {σ : AHeap} (h : hdP l M S i d e σ) :
    sC T3 0 b3_79 (unw T3 0 (LR l M S m) (.block 2 (.seq b3_105 (.block 1 (.seq b3_112 .fin))))) e σ := by
  obtain ⟨ns, D, Wv, N, hn, hgd, hml, hw, dM, dS, dD, e0, e3, e4, e5, e6, hN, hc⟩ := h
  have hbl : (ns.map NoteV.bytes).length = ns.length := by simp
  have hlw : lenSl Wv = some ns.length := grow_lenS ⟨hw, by simp⟩
  have h512 : (ns.length : Int) < 512 := by omega
  simp only [T3_app, Z3, x3_52, x3_68, x3_79, x3_90, x3_100, base1, ↓reduceIte, Nat.reduceAdd, Nat.reduceSub, Nat.reduceMul, Nat.reduceEqDiff, Nat.reduceLeDiff, Nat.reduceLT, Int.reduceLT, Int.reduceLE, Int.reduceEq, Int.reduceNe, Int.reduceToNat, Int.reduceAdd, Int.reduceSub, reduceCtorEq, Nat.reduceBEq, Nat.reduceBNe, LR, loopR_exit, loopR_ret, e0, e3, e4, e5, e6, hN, deed_n]
  refine ⟨M, S, d.n, _, D, rfl, hb, hml, fun hp => ?_, fun k x hk hx _ σ1 D1 hm1 hf1 => ?_⟩
  · rw [hbl] at hp
    have e7 : e 7 = .bool false := by
      rcases hc with ⟨h, _⟩ | ⟨k, _, h, _⟩
      · exact h
      · omega
    simp only [T3_app, Z3, x3_52, x3_68, x3_79, x3_90, x3_100, base1, ↓reduceIte, Nat.reduceAdd, Nat.reduceSub, Nat.reduceMul, Nat.reduceEqDiff, Nat.reduceLeDiff, Nat.reduceLT, Int.reduceLT, Int.reduceLE, Int.reduceEq, Int.reduceNe, Int.reduceToNat, Int.reduceAdd, Int.reduceSub, reduceCtorEq, Nat.reduceBEq, Nat.reduceBNe, LR, loopR_exit, loopR_ret, e0, e3, e4, e5, e6, e7, hlw, Option.map_some, h512]
    exact tail hl hi hm ⟨ns, D, Wv, by omega, hgd, hml, hw, dM, dS, dD, e0, e3, e4, e5⟩
  · rw [hbl] at hk
    obtain ⟨k', e7, hk', hlt, e8⟩ : ∃ k : Nat, e 7 = .bool true ∧ place d.n ns.length = (k : Int) ∧ k < ns.length ∧ e 8 = .int .i64 (k : Int) := by
      rcases hc with ⟨_, h⟩ | h
      · omega
      · exact h
    have : k' = k := by omega
    subst this
    obtain ⟨n, hnk⟩ : ∃ n, ns[k']? = some n := ⟨_, List.getElem?_eq_getElem hlt⟩
    have hxn : x = n.bytes := by rw [List.getElem?_map, hnk] at hx; exact (Option.some.inj hx).symm
    subst hxn
    have gd := hgd n (List.mem_of_getElem? hnk)
    obtain ⟨g1, g2⟩ := grow_frS hw hf1 dS dD
    have g1' := g1
    rcases g1' with ⟨_, h0⟩ | ⟨w, rfl, hd, h27, hcell⟩
    · have := congrArg List.length h0
      rw [List.length_map, List.length_nil] at this
      omega
    have hcl : (ns.map NoteV.cells).length = ns.length := by simp
    have hge0 : (0 : Int) ≤ (k' : Int) := by omega
    have hlt' : (k' : Int) < (ns.length : Int) := by omega
    have hnc : (ns.map NoteV.cells)[k']? = some n.cells := by rw [List.getElem?_map, hnk]; rfl
    have hsb : sub (ns.map NoteV.cells).flatten (k' * 27) 27 = some n.cells := by
      have := sub_row27 (J := []) h27 hnc
      rwa [List.append_nil] at this
    obtain ⟨v, τ, a1, a2, a3, a4, a5⟩ := grow_one (b := 344) (by decide) g1 (by simp; omega) n.cells rfl rfl
    rw [hcl] at e4 a1
    have l0 : lenOf (.slice w 0 ns.length none 27) = some ns.length := rfl
    simp only [l0, T3_app, Z3, x3_52, x3_68, x3_79, x3_90, x3_100, base1, ↓reduceIte, Nat.reduceAdd, Nat.reduceSub, Nat.reduceMul, Nat.reduceEqDiff, Nat.reduceLeDiff, Nat.reduceLT, Int.reduceLT, Int.reduceLE, Int.reduceEq, Int.reduceNe, Int.reduceToNat, Int.reduceAdd, Int.reduceSub, reduceCtorEq, Nat.reduceBEq, Nat.reduceBNe, LR, loopR_exit, loopR_ret, e0, e3, e4, e5, e6, e7, e8, nc_len, nc_cell, put_note, sub_note, hd, hsb, hge0, hlt', hlt, Int.toNat_natCast, h512, a1, a2, a3]
    have ml2 : Ml τ M S ((ns ++ [n]).map NoteV.bytes) D1 := by
      rw [List.map_append]
      exact ml_keep hm1 fun j c hj hd => (a4 _ _ hj (hd.elim (fun h => h ▸ dM) (fun h => h.elim (fun h => h ▸ dS) (fun h => g2 j h)))).1
    obtain ⟨cS, hcS⟩ := ml_spool hm1
    refine tail hl hi hm ⟨ns ++ [n], D1, v, by simp; omega, fun q hq => ?_, ml2, by rw [List.map_append]; exact a5, (a4 _ _ hm1.m dM).2, (a4 _ _ hcS dS).2, fun x hx => ?_, e0, e3, rfl, e5⟩
    · rcases List.mem_append.1 hq with h | h
      · exact hgd q h
      · simp at h; subst h; exact gd
    · rcases hm1.sp with ⟨h, _, _⟩ | ⟨y, _, h, _, _, hy⟩
      · rw [h] at hx; cases hx
      · rw [h] at hx; cases hx
        exact (a4 _ _ hy (g2 _ h)).2
theorem caseLose (hl : l.length ≤ 100) (hi : i < l.length) (hm : m = l.length - i) {d : DeedV} (hb : d.n ≤ 9223372036854775807) {e : Env} {σ : AHeap} (h : hdP l M S i d e σ) :
    sC T3 0 b3_90 (unw T3 0 (LR l M S m) (.block 2 (.seq b3_105 (.block 1 (.seq b3_112 .fin))))) e σ := by
  obtain ⟨ns, D, Wv, N, hn, hgd, hml, hw, dM, dS, dD, e0, e3, e4, e5, e6, hN, hc⟩ := h
  have hbl : (ns.map NoteV.bytes).length = ns.length := by simp
  simp only [T3_app, Z3, x3_52, x3_68, x3_79, x3_90, x3_100, base1, ↓reduceIte, Nat.reduceAdd, Nat.reduceSub, Nat.reduceMul, Nat.reduceEqDiff, Nat.reduceLeDiff, Nat.reduceLT, Int.reduceLT, Int.reduceLE, Int.reduceEq, Int.reduceNe, Int.reduceToNat, Int.reduceAdd, Int.reduceSub, reduceCtorEq, Nat.reduceBEq, Nat.reduceBNe, LR, loopR_exit, loopR_ret, e0, e3, e4, e5, e6, hN, deed_n]
  refine ⟨M, S, d.n, _, D, rfl, hb, hml, fun hp => ?_, fun k x hk hx σ1 D1 hm1 hf1 => ?_⟩
  · rw [hbl] at hp
    have e7 : e 7 = .bool false := by
      rcases hc with ⟨h, _⟩ | ⟨k, _, h, _⟩
      · exact h
      · omega
    simp only [T3_app, Z3, x3_52, x3_68, x3_79, x3_90, x3_100, base1, ↓reduceIte, Nat.reduceAdd, Nat.reduceSub, Nat.reduceMul, Nat.reduceEqDiff, Nat.reduceLeDiff, Nat.reduceLT, Int.reduceLT, Int.reduceLE, Int.reduceEq, Int.reduceNe, Int.reduceToNat, Int.reduceAdd, Int.reduceSub, reduceCtorEq, Nat.reduceBEq, Nat.reduceBNe, LR, loopR_exit, loopR_ret, e0, e3, e4, e5, e6, e7]
    exact tail hl hi hm ⟨ns, D, Wv, by omega, hgd, hml, hw, dM, dS, dD, e0, e3, e4, e5⟩
  · rw [hbl] at hk
    obtain ⟨k', e7, hk', hlt, e8⟩ : ∃ k : Nat, e 7 = .bool true ∧ place d.n ns.length = (k : Int) ∧ k < ns.length ∧ e 8 = .int .i64 (k : Int) := by
      rcases hc with ⟨_, h⟩ | h
      · omega
      · exact h
    have : k' = k := by omega
    subst this
    obtain ⟨g1, g2⟩ := grow_frS hw hf1 dS dD
    rw [erase_map] at hm1
    rcases g1 with ⟨_, h0⟩ | ⟨w, rfl, hd, h27, hcell⟩
    · have := congrArg List.length h0
      rw [List.length_map, List.length_nil] at this
      omega
    have hcl : (ns.map NoteV.cells).length = ns.length := by simp
    rw [hcl] at e4
    have hwr : IntKind.wrap .i64 ((k' : Int) + 1) = ((k' + 1 : Nat) : Int) := by rw [Gz.wrap64 (by omega)]; omega
    obtain ⟨v1, τ1, v, τ, a1, a2, a3, a4, a5, a6, a7, a8⟩ := cut_grow (b := 344) (by decide) hd h27 hcell (by rw [hcl]; exact hlt) (by rw [hcl]; omega)
    rw [hcl] at a4
    have x1 : evSlice 27 (.slice w 0 ns.length none 27) none (some (.int .i64 (k' : Int))) none = some (.slice w 0 k' none 27) := ev_to (by omega)
    have x2 : evSlice 27 (.slice w 0 ns.length none 27) (some (.int .i64 ((k' + 1 : Nat) : Int))) none none = some (.slice w ((k' + 1) * 27) (ns.length - (k' + 1)) none 27) := ev_from (by omega)
    simp only [T3_app, Z3, x3_52, x3_68, x3_79, x3_90, x3_100, base1, ↓reduceIte, Nat.reduceAdd, Nat.reduceSub, Nat.reduceMul, Nat.reduceEqDiff, Nat.reduceLeDiff, Nat.reduceLT, Int.reduceLT, Int.reduceLE, Int.reduceEq, Int.reduceNe, Int.reduceToNat, Int.reduceAdd, Int.reduceSub, reduceCtorEq, Nat.reduceBEq, Nat.reduceBNe, LR, loopR_exit, loopR_ret, e0, e3, e4, e5, e6, e7, e8, hwr, x1, x2, a1, a2, a3, a4, a5, a6]
    have ml2 : Ml τ M S ((ns.eraseIdx k').map NoteV.bytes) D1 := ml_keep hm1 fun j x hj _ => (a7 j x hj).1
    obtain ⟨cS, hcS⟩ := ml_spool hm1
    refine tail hl hi hm ⟨ns.eraseIdx k', D1, v, ?_, fun n hn => hgd n (List.mem_of_mem_eraseIdx hn), ml2, by rw [← erase_map]; exact a8, (a7 _ _ hm1.m).2, (a7 _ _ hcS).2, fun x hx => ?_, e0, e3, rfl, e5⟩
    · have := List.length_eraseIdx_le ns k'; omega
    · rcases hm1.sp with ⟨h, _, _⟩ | ⟨y, _, h, _, _, hy⟩
      · rw [h] at hx; cases hx
      · rw [h] at hx; cases hx
        exact (a7 _ _ hy).2
theorem caseNone (hl : l.length ≤ 100) (hi : i < l.length) (hm : m = l.length - i) {d : DeedV} {e : Env} {σ : AHeap} (h : hdP l M S i d e σ) : pv l M S i (i + 1) e σ := by
  obtain ⟨ns, D, Wv, N, hn, hgd, hml, hw, dM, dS, dD, e0, e3, e4, e5, e6, hN, hc⟩ := h
  exact ⟨ns, D, Wv, by omega, hgd, hml, hw, dM, dS, dD, e0, e3, e4, e5⟩
theorem hdP_put {d : DeedV} {e : Env} {σ : AHeap} {t : Nat} {v : AV} (h : hdP l M S i d e σ) (ht : 8 < t) : hdP l M S i d (putD e (some t) v) σ := by
  have k : ∀ j, j ≤ 8 → putD e (some t) v j = e j := fun j hj => by rw [putD_some, if_neg (by omega)]
  obtain ⟨ns, D, Wv, N, hn, hgd, hml, hw, dM, dS, dD, e0, e3, e4, e5, e6, hN, hc⟩ := h
  exact ⟨ns, D, Wv, N, hn, hgd, hml, hw, dM, dS, dD, by rw [k _ (by decide)]; exact e0, by rw [k _ (by decide)]; exact e3, by rw [k _ (by decide)]; exact e4, by rw [k _ (by decide)]; exact e5, by rw [k _ (by decide)]; exact e6, hN, by rw [k _ (by decide), k _ (by decide)]; exact hc⟩
theorem switch (hl : l.length ≤ 100) (hi : i < l.length) (hm : m = l.length - i) {d : DeedV} (hs : d.row.smallP) (hb : d.n ≤ 9223372036854775807) {e : Env} {σ : AHeap} (h : hdP l M S i d e σ) :
    sC T3 0 b3_100 (unw T3 0 (LR l M S m) (.seq b3_105 (.block 1 (.seq b3_112 .fin)))) e σ := by
  have h' := h
  obtain ⟨_, _, _, N, _, _, _, _, _, _, _, _, _, _, _, e6, hN, _⟩ := h'
  by_cases q0 : d.do_ = 0
  · simp only [T3_app, Z3, x3_100, base1, ↓reduceIte, Nat.reduceAdd, Nat.reduceSub, Nat.reduceMul, Nat.reduceEqDiff, Nat.reduceLeDiff, Nat.reduceLT, Int.reduceLT, Int.reduceLE, Int.reduceEq, Int.reduceNe, Int.reduceToNat, Int.reduceAdd, Int.reduceSub, reduceCtorEq, Nat.reduceBEq, Nat.reduceBNe, e6, hN, deed_do, q0]
    exact caseSend hl hi hm hs (by repeat' first | exact h | refine hdP_put ?_ (by decide))
  by_cases q1 : d.do_ = 1
  · simp only [T3_app, Z3, x3_100, base1, ↓reduceIte, Nat.reduceAdd, Nat.reduceSub, Nat.reduceMul, Nat.reduceEqDiff, Nat.reduceLeDiff, Nat.reduceLT, Int.reduceLT, Int.reduceLE, Int.reduceEq, Int.reduceNe, Int.reduceToNat, Int.reduceAdd, Int.reduceSub, reduceCtorEq, Nat.reduceBEq, Nat.reduceBNe, e6, hN, deed_do, q1]
    exact caseSend hl hi hm hs (by repeat' first | exact h | refine hdP_put ?_ (by decide))
  by_cases q2 : d.do_ = 2
  · simp only [T3_app, Z3, x3_100, base1, ↓reduceIte, Nat.reduceAdd, Nat.reduceSub, Nat.reduceMul, Nat.reduceEqDiff, Nat.reduceLeDiff, Nat.reduceLT, Int.reduceLT, Int.reduceLE, Int.reduceEq, Int.reduceNe, Int.reduceToNat, Int.reduceAdd, Int.reduceSub, reduceCtorEq, Nat.reduceBEq, Nat.reduceBNe, e6, hN, deed_do, q2]
    exact caseSend hl hi hm hs (by repeat' first | exact h | refine hdP_put ?_ (by decide))
  by_cases q3 : d.do_ = 3
  · simp only [T3_app, Z3, x3_100, base1, ↓reduceIte, Nat.reduceAdd, Nat.reduceSub, Nat.reduceMul, Nat.reduceEqDiff, Nat.reduceLeDiff, Nat.reduceLT, Int.reduceLT, Int.reduceLE, Int.reduceEq, Int.reduceNe, Int.reduceToNat, Int.reduceAdd, Int.reduceSub, reduceCtorEq, Nat.reduceBEq, Nat.reduceBNe, e6, hN, deed_do, q3]
    exact caseTake hl hi hm hb (by repeat' first | exact h | refine hdP_put ?_ (by decide))
  by_cases q4 : d.do_ = 4
  · simp only [T3_app, Z3, x3_100, base1, ↓reduceIte, Nat.reduceAdd, Nat.reduceSub, Nat.reduceMul, Nat.reduceEqDiff, Nat.reduceLeDiff, Nat.reduceLT, Int.reduceLT, Int.reduceLE, Int.reduceEq, Int.reduceNe, Int.reduceToNat, Int.reduceAdd, Int.reduceSub, reduceCtorEq, Nat.reduceBEq, Nat.reduceBNe, e6, hN, deed_do, q4]
    exact caseTake hl hi hm hb (by repeat' first | exact h | refine hdP_put ?_ (by decide))
  by_cases q5 : d.do_ = 5
  · simp only [T3_app, Z3, x3_100, base1, ↓reduceIte, Nat.reduceAdd, Nat.reduceSub, Nat.reduceMul, Nat.reduceEqDiff, Nat.reduceLeDiff, Nat.reduceLT, Int.reduceLT, Int.reduceLE, Int.reduceEq, Int.reduceNe, Int.reduceToNat, Int.reduceAdd, Int.reduceSub, reduceCtorEq, Nat.reduceBEq, Nat.reduceBNe, e6, hN, deed_do, q5]
    exact caseCopy hl hi hm hb (by repeat' first | exact h | refine hdP_put ?_ (by decide))
  by_cases q6 : d.do_ = 6
  · simp only [T3_app, Z3, x3_100, base1, ↓reduceIte, Nat.reduceAdd, Nat.reduceSub, Nat.reduceMul, Nat.reduceEqDiff, Nat.reduceLeDiff, Nat.reduceLT, Int.reduceLT, Int.reduceLE, Int.reduceEq, Int.reduceNe, Int.reduceToNat, Int.reduceAdd, Int.reduceSub, reduceCtorEq, Nat.reduceBEq, Nat.reduceBNe, e6, hN, deed_do, q6]
    exact caseLose hl hi hm hb (by repeat' first | exact h | refine hdP_put ?_ (by decide))
  · simp only [T3_app, Z3, x3_100, base1, ↓reduceIte, Nat.reduceAdd, Nat.reduceSub, Nat.reduceMul, Nat.reduceEqDiff, Nat.reduceLeDiff, Nat.reduceLT, Int.reduceLT, Int.reduceLE, Int.reduceEq, Int.reduceNe, Int.reduceToNat, Int.reduceAdd, Int.reduceSub, reduceCtorEq, Nat.reduceBEq, Nat.reduceBNe, e6, hN, deed_do, q0, q1, q2, q3, q4, q5, q6]
    exact tail hl hi hm (caseNone hl hi hm (by repeat' first | exact h | refine hdP_put ?_ (by decide)))
end
theorem tmod_place {n : Int} {k : Nat} (h0 : 0 ≤ n) (hk : 0 < k) : ∃ j : Nat, place n k = (j : Int) ∧ j < k ∧ n.tmod (k : Int) = (j : Int) := by
  obtain ⟨c, rfl⟩ := Int.eq_ofNat_of_zero_le h0
  refine ⟨c % k, ?_, Nat.mod_lt _ hk, rfl⟩
  unfold place
  rw [if_neg (by omega)]; rfl
theorem pl_step (l : List DeedV) (hl : l.length ≤ 100) (hs : ∀ d ∈ l, d.row.smallP) (hb : ∀ d ∈ l, d.n ≤ 9223372036854775807) (M S : Nat) (m : Nat) (e : Env) (σ : AHeap) (h : plI l M S m e σ) :
    sC T3 0 b3_114 (unw T3 0 (LR l M S m) .fin) e σ := by
  obtain ⟨i, hi, hm, ns, D, Wv, hn, hg, hml, hw, dM, dS, dD, e0, e3, e4, e5⟩ := h
  have hmap : (l.map DeedV.cells).length = l.length := by simp
  have hlw : lenSl Wv = some ns.length := grow_lenS ⟨hw, by simp⟩
  rcases Nat.lt_or_ge i l.length with hlt | hge
  · have hlt' : (i : Int) < (l.length : Int) := by omega
    have hge0 : (0 : Int) ≤ (i : Int) := by omega
    obtain ⟨d, hd⟩ : ∃ d, l[i]? = some d := ⟨_, List.getElem?_eq_getElem hlt⟩
    have hdm := List.mem_of_getElem? hd
    have hdd : (l.map DeedV.cells)[i]? = some d.cells := by simp [hd]
    have pn : ∀ c : List AV, hget (hpush σ c) σ.length = some c := fun c => push_new rfl
    have sn : ∀ c c' : List AV, hget (hset (hpush σ c) σ.length c') σ.length = some c' := fun c c' => set_same (pn c)
    have pz : put (.int .i64 0 :: .int .i64 0 :: zN) 0 d.cells = some d.cells := rfl
    have hN := sn (.int .i64 0 :: .int .i64 0 :: zN) d.cells
    have ml1 : Ml (hset (hpush σ (.int .i64 0 :: .int .i64 0 :: zN)) σ.length d.cells) M S (ns.map NoteV.bytes) D := ml_keep hml fun j x hj _ => al_frame hj
    have gw : Grow (hset (hpush σ (.int .i64 0 :: .int .i64 0 :: zN)) σ.length d.cells) Wv 27 (ns.map NoteV.cells) := grow_frame hw fun j x hj _ => al_frame hj
    by_cases hn0 : (0 : Int) ≤ d.n
    · by_cases hw0 : (0 : Int) < (ns.length : Int)
      · obtain ⟨j, j1, j2, j3⟩ := tmod_place hn0 (k := ns.length) (by omega)
        have hne : ¬ (ns.length : Int) = 0 := by omega
        simp only [T3_app, Z3, x3_52, x3_68, x3_79, x3_90, base1, ↓reduceIte, Nat.reduceAdd, Nat.reduceSub, Nat.reduceMul, Nat.reduceEqDiff, Nat.reduceLeDiff, Nat.reduceLT, Int.reduceLT, Int.reduceLE, Int.reduceEq, Int.reduceNe, Int.reduceToNat, Int.reduceAdd, Int.reduceSub, reduceCtorEq, Nat.reduceBEq, Nat.reduceBNe, LR, loopR_exit, loopR_ret, lenOf_imm, e0, e3, e4, e5, hmap, hlt', hlt, hge0, Int.toNat_natCast, hdd, deed_all, deed_len, deed_cell, pn, pz, hN, deed_n, deed_do, hn0, hlw, Option.map_some, hw0, hne, j3]
        exact switch hl hlt hm (hs d hdm) (hb d hdm) ⟨ns, D, Wv, σ.length, hn, hg, ml1, gw, dM, dS, dD, e0, e3, e4, e5, rfl, hN, .inr ⟨j, rfl, j1, j2, rfl⟩⟩
      · have hpl : place d.n ns.length < 0 := by unfold place; rw [if_pos (.inr (by omega))]; decide
        simp only [T3_app, Z3, x3_52, x3_68, x3_79, x3_90, base1, ↓reduceIte, Nat.reduceAdd, Nat.reduceSub, Nat.reduceMul, Nat.reduceEqDiff, Nat.reduceLeDiff, Nat.reduceLT, Int.reduceLT, Int.reduceLE, Int.reduceEq, Int.reduceNe, Int.reduceToNat, Int.reduceAdd, Int.reduceSub, reduceCtorEq, Nat.reduceBEq, Nat.reduceBNe, LR, loopR_exit, loopR_ret, lenOf_imm, e0, e3, e4, e5, hmap, hlt', hlt, hge0, Int.toNat_natCast, hdd, deed_all, deed_len, deed_cell, pn, pz, hN, deed_n, deed_do, hn0, hlw, Option.map_some, hw0]
        exact switch hl hlt hm (hs d hdm) (hb d hdm) ⟨ns, D, Wv, σ.length, hn, hg, ml1, gw, dM, dS, dD, e0, e3, e4, e5, rfl, hN, .inl ⟨rfl, hpl⟩⟩
    · have hpl : place d.n ns.length < 0 := by unfold place; rw [if_pos (.inl (by omega))]; decide
      simp only [T3_app, Z3, x3_52, x3_68, x3_79, x3_90, base1, ↓reduceIte, Nat.reduceAdd, Nat.reduceSub, Nat.reduceMul, Nat.reduceEqDiff, Nat.reduceLeDiff, Nat.reduceLT, Int.reduceLT, Int.reduceLE, Int.reduceEq, Int.reduceNe, Int.reduceToNat, Int.reduceAdd, Int.reduceSub, reduceCtorEq, Nat.reduceBEq, Nat.reduceBNe, LR, loopR_exit, loopR_ret, lenOf_imm, e0, e3, e4, e5, hmap, hlt', hlt, hge0, Int.toNat_natCast, hdd, deed_all, deed_len, deed_cell, pn, pz, hN, deed_n, deed_do, hn0, hlw, Option.map_some]
      exact switch hl hlt hm (hs d hdm) (hb d hdm) ⟨ns, D, Wv, σ.length, hn, hg, ml1, gw, dM, dS, dD, e0, e3, e4, e5, rfl, hN, .inl ⟨rfl, hpl⟩⟩
  · have hlt' : ¬ (i : Int) < (l.length : Int) := by omega
    simp only [T3_app, Z3, x3_52, x3_68, x3_79, x3_90, x3_100, x3_105, base1, ↓reduceIte, Nat.reduceAdd, Nat.reduceSub, Nat.reduceMul, Nat.reduceEqDiff, Nat.reduceLeDiff, Nat.reduceLT, Int.reduceLT, Int.reduceLE, Int.reduceEq, Int.reduceNe, Int.reduceToNat, Int.reduceAdd, Int.reduceSub, reduceCtorEq, Nat.reduceBEq, Nat.reduceBNe, LR, loopR_exit, loopR_ret, lenOf_imm, e0, e3, e4, e5, hmap, hlt']
    exact yes_true
def DeedV.okS (d : DeedV) : Prop := d.n ≤ 9223372036854775807 ∧ d.row.okS
theorem law (l : List DeedV) (hb : l.length ≤ big) (hok : ∀ d ∈ l, DeedV.okS d) : sF T3 s3 [.imm (l.map DeedV.cells) false false] [] Yes := by
  simp only [T3_app, Z3, x3_52, x3_68, x3_79, x3_90, x3_100, x3_105, base1, ↓reduceIte, Nat.reduceAdd, Nat.reduceSub, Nat.reduceMul, Nat.reduceEqDiff, Nat.reduceLeDiff, Nat.reduceLT, Int.reduceLT, Int.reduceLE, Int.reduceEq, Int.reduceNe, Int.reduceToNat, Int.reduceAdd, Int.reduceSub, reduceCtorEq, Nat.reduceBEq, Nat.reduceBNe]
  refine ⟨rfl, fun σ => ?_⟩
  simp only [T3_app, Z3, x3_52, x3_68, x3_79, x3_90, x3_100, x3_105, base1, ↓reduceIte, Nat.reduceAdd, Nat.reduceSub, Nat.reduceMul, Nat.reduceEqDiff, Nat.reduceLeDiff, Nat.reduceLT, Int.reduceLT, Int.reduceLE, Int.reduceEq, Int.reduceNe, Int.reduceToNat, Int.reduceAdd, Int.reduceSub, reduceCtorEq, Nat.reduceBEq, Nat.reduceBNe]
  refine ⟨l, rfl, hb, fun d hd => (hok d hd).2, fun b hs => ?_⟩
  cases b with
  | false =>
    simp only [T3_app, Z3, x3_52, x3_68, x3_79, x3_90, x3_100, x3_105, base1, ↓reduceIte, Nat.reduceAdd, Nat.reduceSub, Nat.reduceMul, Nat.reduceEqDiff, Nat.reduceLeDiff, Nat.reduceLT, Int.reduceLT, Int.reduceLE, Int.reduceEq, Int.reduceNe, Int.reduceToNat, Int.reduceAdd, Int.reduceSub, reduceCtorEq, Nat.reduceBEq, Nat.reduceBNe]
    exact yes_true
  | true =>
    have hs := hs rfl
    simp only [T3_app, Z3, x3_52, x3_68, x3_79, x3_90, x3_100, x3_105, base1, ↓reduceIte, Nat.reduceAdd, Nat.reduceSub, Nat.reduceMul, Nat.reduceEqDiff, Nat.reduceLeDiff, Nat.reduceLT, Int.reduceLT, Int.reduceLE, Int.reduceEq, Int.reduceNe, Int.reduceToNat, Int.reduceAdd, Int.reduceSub, reduceCtorEq, Nat.reduceBEq, Nat.reduceBNe]
    refine ⟨rfl, ?_⟩
    have m0 := ml_new (σ := σ)
    generalize hpush (hpush σ [.int .i64 512, .nilslice]) [.ptr σ.length 0] = σ1 at m0 ⊢
    simp only [T3_app, Z3, x3_52, x3_68, x3_79, x3_90, x3_100, x3_105, base1, ↓reduceIte, Nat.reduceAdd, Nat.reduceSub, Nat.reduceMul, Nat.reduceEqDiff, Nat.reduceLeDiff, Nat.reduceLT, Int.reduceLT, Int.reduceLE, Int.reduceEq, Int.reduceNe, Int.reduceToNat, Int.reduceAdd, Int.reduceSub, reduceCtorEq, Nat.reduceBEq, Nat.reduceBNe]
    exact sC_inv (a := b3_114) (plI l (σ.length + 1) σ.length) l.length _ _ (.refl _ _ _) ⟨0, Nat.zero_le _, rfl, [], none, .nilslice, Nat.le_refl _, (fun n hn => by cases hn), m0, .inl ⟨rfl, rfl⟩, by simp [LvD], by simp [LvD], (fun d h => by cases h), rfl, rfl, rfl, rfl⟩ (pl_step l hs.len hs.row (fun d hd => (hok d hd).1) _ _)
theorem rdDeed : Rd Try.prog 43 DeedV.cells DeedV.okS := by
  have hu : Try.prog.underlying 43 = some (.struct (Try.prog.fieldsOf 43)) := by kernel_rfl
  have hf : (Try.prog.fieldsOf 43).toList = [⟨ "Do", 3, 0, false, "", "", 0⟩, ⟨ "N", 3, 1, false, "", "", 8⟩, ⟨ "Row", 41, 2, false, "", "", 16⟩] := by kernel_rfl
  have h := rdf_cons (P := Try.prog) (f := ⟨ "Do", 3, 0, false, "", "", 0⟩) (o := 0) rfl (rd_int (k := .i64) (by kernel_rfl))
    (rdf_cons (f := ⟨ "N", 3, 1, false, "", "", 8⟩) (by kernel_rfl) (rd_int (k := .i64) (by kernel_rfl))
    (rdf_cons (f := ⟨ "Row", 41, 2, false, "", "", 16⟩) (by kernel_rfl) rdRow (rdf_nil _)))
  rw [← hf] at h
  refine (rd_struct hu (by kernel_rfl) h).map (U := DeedV) (fun x => ⟨x.1, x.2.1, x.2.2.1⟩) (fun x => rfl) (fun x hx => ?_)
  obtain ⟨_, h2, h3, _⟩ := hx
  exact ⟨h2.2, h3⟩
abbrev Inp := List DeedV × Unit
def avs (p : Inp) : List AV := [.imm (p.1.map DeedV.cells) false false]
def oks (p : Inp) : Prop := (p.1.length * Try.prog.bytesOf 43 ≤ reachBytes ∧ ∀ y ∈ p.1, DeedV.okS y) ∧ True
theorem args : Args Try.prog Try.f3.params.toList avs oks := by
  have hp : Try.f3.params.toList = [22] := by kernel_rfl
  rw [hp]
  exact .cons (arg_slice (P := Try.prog) (t := 22) (e := 43) (by kernel_rfl) (by decide +kernel) rdDeed) .nil
theorem comes (y : Inp) (hy : oks y) : Tri Try.prog 3 (avs y) [] Yes := by
  obtain ⟨a, u⟩ := y
  obtain ⟨ha, _⟩ := hy
  have hb : Try.prog.bytesOf 43 = 360 := by kernel_rfl
  exact Tri.of_s c3 T3_sound (law a (le_of_mul (b := Try.prog.bytesOf 43) (by rw [hb]; decide) ha.1) ha.2)
theorem own : ownKnob Try.prog.godebug = none := by kernel_rfl
theorem laidOut : laidOutB Try.prog = true := by kernel_rfl
theorem lifted (os : Os) (started : os.Started) (H : Type) (enc : TypeId × Value → H) :
    ReturnsInHanded {} Try.checked os 3 .any (Rows.mailPlaysSpec.pre6 enc Try.prog Try.f3 Rows.mailPlaysRow.domain false) (Rows.mailPlaysSpec.post enc Try.prog Try.f3 false true false false) := by
  refine returnsInHanded_of_change_sized (C := Try.checked) own started (by kernel_rfl) Try.func3
    (ChangeSpec.witness6 (enc := enc) (C := Try.checked) false ⟨#[], #[.slice none 0 0], []⟩ 8 (by kernel_rfl) (by kernel_rfl) (by kernel_rfl) (by kernel_rfl)) ?_
  intro W base args0 ds gs before hval hW _ hz _
  have hp : Try.f3.params.toList = [22] := by kernel_rfl
  refine calls_post (avs := avs) (oks := oks) laidOut ?_ (by kernel_rfl) (tb := 4) (by kernel_rfl) rfl ?_ args comes hval hW hz
  · rw [hp]; intro t ht
    have h3 : ([22].all fun t => Try.prog.readableRec t && Nat.blt t Try.prog.types.size) = true := by kernel_rfl
    have := List.all_eq_true.1 h3 t ht
    rw [Bool.and_eq_true, Nat.blt_eq] at this
    exact this
  · intro ds h
    rw [hp] at h
    match ds, h with
    | [_], _ => rfl
end Go.Proofs.Ytndlgmciplckjab.mailPlays
namespace Go.Proofs.Ytndlgmciplckjab
open Go.ChangeShapes Go.WideShapes Go.ChangeAt Go.RowKit
theorem mailPlays_holds : Rows.MailPlaysSaid :=
  OpenClaim.holds_of_wide 3 Try.f3 rfl rfl rfl rfl rfl rfl rfl ⟨rfl, rfl, rfl, rfl, rfl⟩ rfl rfl rfl rfl rfl (by kernel_rfl) Try.func3 (by kernel_rfl)
    (of_decide_eq_true (by kernel_rfl)) (by unfold Func.isWrapper; first | (rw [if_pos (by decide +kernel)]; kernel_rfl) | (rw [if_neg (by decide +kernel)]; exact ⟨rfl, rfl⟩))
    (fun os started H enc _ => mailPlays.lifted os started H enc)
end Go.Proofs.Ytndlgmciplckjab
