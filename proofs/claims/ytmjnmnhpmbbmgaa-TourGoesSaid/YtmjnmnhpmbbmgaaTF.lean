/- The reference's store: a span is held, behind all that are. No condition. -/
import Derived.Test.YtmjnmnhpmbbmgaaTE
set_option linter.unusedVariables false
set_option linter.unusedSimpArgs false
namespace Go.Proofs.Ytmjnmnhpmbbmgaa.tour
open Go.ChangeShapes Go.WideShapes Go.ChangeAt Go.RowKit Go.Gz Go.Gz.H
abbrev r18_0 : List MOper := [⟨(some 6), .box (.t 1), none⟩,
  ⟨(some 10), .move (.c (.int .i64 0)), none⟩]
def b18_0 : SCode := .region r18_0
abbrev r18_1 : List MOper := [⟨(some 20), .loadN 2 (.t 6), none⟩,
  ⟨(some 21), .call 33 [(.t 20)], none⟩,
  ⟨(some 22), .move (.t 21), none⟩,
  ⟨(some 23), .move (.t 2), (some (22, false))⟩,
  ⟨(some 24), .bin .lss .num (.t 23) (.c (.int .i64 1)), (some (22, false))⟩,
  ⟨(some 25), .pick (.t 22) (.c (.bool true)) (.t 24), none⟩]
def b18_1 : SCode := .region r18_1
abbrev r18_2 : List MOper := [⟨(some 10), .move (.c (.int .i64 1)), none⟩]
def b18_2 : SCode := .region r18_2
def b18_3 : SCode := .seq b18_2 .ret
def b18_4 : SCode := .cond (.t 25) b18_3 .skip
def b18_5 : SCode := .seq b18_1 b18_4
abbrev r18_6 : List MOper := [⟨(some 26), .loadN 2 (.t 6), none⟩,
  ⟨(some 27), .move (.t 2), none⟩,
  ⟨(some 28), .build [.str [], .str [], .int .i64 0, .bool false, .nilslice, .nilslice] [(0, 2, (.t 26)), (2, 1, (.t 27))], none⟩,
  ⟨(some 11), .alloc [.str [], .str [], .int .i64 0, .bool false, .nilslice, .nilslice], none⟩,
  ⟨none, .store 6 (.t 11) (.t 28), none⟩]
def b18_6 : SCode := .region r18_6
abbrev r18_7 : List MOper := [⟨(some 12), .move (.c (.int .i64 0)), none⟩]
def b18_7 : SCode := .region r18_7
abbrev r18_8 : List MOper := [⟨(some 29), .move (.t 12), none⟩,
  ⟨(some 30), .move (.t 3), none⟩,
  ⟨(some 31), .lenSl (.t 30), none⟩,
  ⟨(some 32), .bin .lss .num (.t 29) (.t 31), none⟩]
def b18_8 : SCode := .region r18_8
def b18_9 : SCode := .cond (.t 32) .skip (.exit 0)
def b18_10 : SCode := .seq b18_8 b18_9
abbrev t18_11 : LTree := (.quiet ⟨(some 36), .move (.t 0), none⟩ 0
  (.quiet ⟨(some 37), .nilCheck (.t 36), none⟩ 1
  (.quiet ⟨(some 38), .fieldAddr 0 (.t 37), none⟩ 2
  (.quiet ⟨(some 39), .loadN 4 (.t 38), none⟩ 3
  (.quiet ⟨(some 40), .move (.t 3), none⟩ 4
  (.quiet ⟨(some 41), .move (.t 12), none⟩ 5
  (.quiet ⟨(some 42), .indexAddr 2 (.t 40) (.t 41), none⟩ 6
  (.quiet ⟨(some 43), .fieldAddr 0 (.t 42), none⟩ 7
  (.quiet ⟨(some 44), .load1 (.t 43), none⟩ 8
  (.loud ⟨(some 45), .call 28 [(.t 39), (.t 44)], none⟩ []
  (.quiet ⟨(some 35), .move (.t 45), none⟩ 10
  (.quiet ⟨(some 46), .extract (.t 35) 0, none⟩ 11
  (.quiet ⟨(some 47), .extract (.t 35) 1, none⟩ 12
  (.quiet ⟨(some 13), .move (.t 46), none⟩ 13
  (.quiet ⟨(some 14), .move (.t 47), none⟩ 14
  .leaf))))) .stop))))))))))
def b18_11 : SCode := .draw t18_11
abbrev r18_12 : List MOper := [⟨(some 48), .move (.t 14), none⟩,
  ⟨(some 49), .bin .neq .num (.t 48) (.c (.int .i64 0)), none⟩,
  ⟨(some 50), .move (.t 49), none⟩,
  ⟨(some 51), .move (.t 3), (some (50, false))⟩,
  ⟨(some 52), .move (.t 12), (some (50, false))⟩,
  ⟨(some 53), .indexAddr 2 (.t 51) (.t 52), (some (50, false))⟩,
  ⟨(some 54), .fieldAddr 1 (.t 53), (some (50, false))⟩,
  ⟨(some 55), .load1 (.t 54), (some (50, false))⟩,
  ⟨(some 56), .lenStr (.t 55), (some (50, false))⟩,
  ⟨(some 57), .bin .gtr .num (.t 56) (.c (.int .i64 64)), (some (50, false))⟩,
  ⟨(some 58), .pick (.t 50) (.c (.bool true)) (.t 57), none⟩,
  ⟨(some 59), .move (.t 58), none⟩,
  ⟨(some 60), .loadN 2 (.t 6), (some (59, false))⟩,
  ⟨(some 61), .move (.t 13), (some (59, false))⟩,
  ⟨(some 62), .call 34 [(.t 60), (.t 61)], (some (59, false))⟩,
  ⟨(some 63), .un .not (.t 62), (some (59, false))⟩,
  ⟨(some 64), .pick (.t 59) (.c (.bool true)) (.t 63), none⟩,
  ⟨(some 65), .move (.t 64), none⟩,
  ⟨(some 66), .fieldAddr 4 (.t 11), (some (65, false))⟩,
  ⟨(some 67), .move (.t 13), (some (65, false))⟩,
  ⟨(some 68), .move (.t 3), (some (65, false))⟩,
  ⟨(some 69), .move (.t 12), (some (65, false))⟩,
  ⟨(some 70), .indexAddr 2 (.t 68) (.t 69), (some (65, false))⟩,
  ⟨(some 71), .loadN 2 (.t 70), (some (65, false))⟩,
  ⟨(some 72), .call 29 [(.t 66), (.t 67), (.t 71)], (some (65, false))⟩,
  ⟨(some 73), .pick (.t 65) (.c (.bool true)) (.t 72), none⟩]
def b18_12 : SCode := .region r18_12
abbrev r18_13 : List MOper := [⟨(some 10), .move (.c (.int .i64 1)), none⟩]
def b18_13 : SCode := .region r18_13
def b18_14 : SCode := .seq b18_13 .ret
def b18_15 : SCode := .cond (.t 73) b18_14 .skip
def b18_16 : SCode := .seq b18_12 b18_15
def b18_17 : SCode := .seq b18_11 b18_16
def b18_18 : SCode := .block 1 b18_17
abbrev r18_19 : List MOper := [⟨(some 33), .move (.t 12), none⟩,
  ⟨(some 34), .bin .add .num (.t 33) (.c (.int .i64 1)), none⟩,
  ⟨(some 12), .move (.t 34), none⟩]
def b18_19 : SCode := .region r18_19
def b18_20 : SCode := .seq b18_18 b18_19
def b18_21 : SCode := .seq b18_10 b18_20
def b18_22 : SCode := .loop b18_21
def b18_23 : SCode := .block 0 b18_22
def b18_24 : SCode := .seq b18_7 b18_23
abbrev r18_25 : List MOper := [⟨(some 15), .move (.c (.int .i64 0)), none⟩]
def b18_25 : SCode := .region r18_25
abbrev r18_26 : List MOper := [⟨(some 74), .move (.t 15), none⟩,
  ⟨(some 75), .move (.t 4), none⟩,
  ⟨(some 76), .lenSl (.t 75), none⟩,
  ⟨(some 77), .bin .lss .num (.t 74) (.t 76), none⟩]
def b18_26 : SCode := .region r18_26
def b18_27 : SCode := .cond (.t 77) .skip (.exit 2)
def b18_28 : SCode := .seq b18_26 b18_27
abbrev r18_29 : List MOper := [⟨(some 81), .move (.t 4), none⟩,
  ⟨(some 82), .move (.t 15), none⟩,
  ⟨(some 83), .indexAddr 9 (.t 81) (.t 82), none⟩,
  ⟨(some 84), .fieldAddr 1 (.t 83), none⟩,
  ⟨(some 85), .loadN 8 (.t 84), none⟩,
  ⟨(some 86), .call 35 [(.t 85)], none⟩,
  ⟨(some 80), .move (.t 86), none⟩,
  ⟨(some 87), .extract (.t 80) 0, none⟩,
  ⟨(some 88), .extract (.t 80) 1, none⟩,
  ⟨(some 16), .move (.t 87), none⟩,
  ⟨(some 17), .move (.t 88), none⟩]
def b18_29 : SCode := .region r18_29
abbrev t18_30 : LTree := (.quiet ⟨(some 89), .move (.t 17), none⟩ 0
  (.quiet ⟨(some 90), .bin .neq .num (.t 89) (.c (.int .i64 0)), none⟩ 1
  (.quiet ⟨(some 91), .move (.t 90), none⟩ 2
  (.quiet ⟨(some 92), .move (.t 4), (some (91, false))⟩ 3
  (.quiet ⟨(some 93), .move (.t 15), (some (91, false))⟩ 4
  (.quiet ⟨(some 94), .indexAddr 9 (.t 92) (.t 93), (some (91, false))⟩ 5
  (.quiet ⟨(some 95), .fieldAddr 0 (.t 94), (some (91, false))⟩ 6
  (.quiet ⟨(some 96), .load1 (.t 95), (some (91, false))⟩ 7
  (.quiet ⟨(some 97), .move (.t 4), (some (91, false))⟩ 8
  (.quiet ⟨(some 98), .move (.t 15), (some (91, false))⟩ 9
  (.quiet ⟨(some 99), .indexAddr 9 (.t 97) (.t 98), (some (91, false))⟩ 10
  (.quiet ⟨(some 100), .fieldAddr 1 (.t 99), (some (91, false))⟩ 11
  (.quiet ⟨(some 101), .fieldAddr 1 (.t 100), (some (91, false))⟩ 12
  (.quiet ⟨(some 102), .load1 (.t 101), (some (91, false))⟩ 13
  (.quiet ⟨(some 103), .bin .neq .num (.t 96) (.t 102), (some (91, false))⟩ 14
  (.quiet ⟨(some 104), .pick (.t 91) (.c (.bool true)) (.t 103), none⟩ 15
  .leaf))))))))))))))))
def b18_30 : SCode := .draw t18_30
abbrev r18_31 : List MOper := [⟨(some 10), .move (.c (.int .i64 1)), none⟩]
def b18_31 : SCode := .region r18_31
def b18_32 : SCode := .seq b18_31 .ret
def b18_33 : SCode := .cond (.t 104) b18_32 .skip
def b18_34 : SCode := .seq b18_30 b18_33
abbrev r18_35 : List MOper := [⟨(some 105), .fieldAddr 5 (.t 11), none⟩,
  ⟨(some 106), .move (.t 4), none⟩,
  ⟨(some 107), .move (.t 15), none⟩,
  ⟨(some 108), .indexAddr 9 (.t 106) (.t 107), none⟩,
  ⟨(some 109), .fieldAddr 1 (.t 108), none⟩,
  ⟨(some 110), .loadN 8 (.t 109), none⟩,
  ⟨(some 111), .call 36 [(.t 105), (.t 110)], none⟩]
def b18_35 : SCode := .region r18_35
def b18_36 : SCode := .seq b18_34 b18_35
def b18_37 : SCode := .seq b18_29 b18_36
def b18_38 : SCode := .block 3 b18_37
abbrev r18_39 : List MOper := [⟨(some 78), .move (.t 15), none⟩,
  ⟨(some 79), .bin .add .num (.t 78) (.c (.int .i64 1)), none⟩,
  ⟨(some 15), .move (.t 79), none⟩]
def b18_39 : SCode := .region r18_39
def b18_40 : SCode := .seq b18_38 b18_39
def b18_41 : SCode := .seq b18_28 b18_40
def b18_42 : SCode := .loop b18_41
def b18_43 : SCode := .block 2 b18_42
def b18_44 : SCode := .seq b18_25 b18_43
abbrev r18_45 : List MOper := [⟨(some 112), .move (.t 0), none⟩,
  ⟨(some 113), .loadN 2 (.t 6), none⟩,
  ⟨(some 114), .move (.t 2), none⟩,
  ⟨(some 115), .call 37 [(.t 112), (.t 113), (.t 114)], none⟩,
  ⟨(some 116), .bin .geq .num (.t 115) (.c (.int .i64 0)), none⟩]
def b18_45 : SCode := .region r18_45
abbrev r18_46 : List MOper := [⟨(some 10), .move (.c (.int .i64 0)), none⟩]
def b18_46 : SCode := .region r18_46
def b18_47 : SCode := .seq b18_46 .ret
def b18_48 : SCode := .cond (.t 116) b18_47 .skip
def b18_49 : SCode := .seq b18_45 b18_48
abbrev r18_50 : List MOper := [⟨(some 117), .move (.t 2), none⟩,
  ⟨(some 118), .move (.t 0), none⟩,
  ⟨(some 119), .nilCheck (.t 118), none⟩,
  ⟨(some 120), .fieldAddr 6 (.t 119), none⟩,
  ⟨(some 121), .load1 (.t 120), none⟩,
  ⟨(some 122), .bin .leq .num (.t 117) (.t 121), none⟩]
def b18_50 : SCode := .region r18_50
abbrev r18_51 : List MOper := [⟨(some 10), .move (.c (.int .i64 11)), none⟩]
def b18_51 : SCode := .region r18_51
def b18_52 : SCode := .seq b18_51 .ret
def b18_53 : SCode := .cond (.t 122) b18_52 .skip
def b18_54 : SCode := .seq b18_50 b18_53
abbrev r18_55 : List MOper := [⟨(some 18), .move (.c (.int .i64 0)), none⟩]
def b18_55 : SCode := .region r18_55
abbrev r18_56 : List MOper := [⟨(some 19), .move (.c (.int .i64 0)), none⟩]
def b18_56 : SCode := .region r18_56
abbrev r18_57 : List MOper := [⟨(some 123), .move (.t 19), none⟩,
  ⟨(some 124), .move (.t 0), none⟩,
  ⟨(some 125), .nilCheck (.t 124), none⟩,
  ⟨(some 126), .fieldAddr 5 (.t 125), none⟩,
  ⟨(some 127), .load1 (.t 126), none⟩,
  ⟨(some 128), .lenSl (.t 127), none⟩,
  ⟨(some 129), .bin .lss .num (.t 123) (.t 128), none⟩]
def b18_57 : SCode := .region r18_57
def b18_58 : SCode := .cond (.t 129) .skip (.exit 4)
def b18_59 : SCode := .seq b18_57 b18_58
abbrev t18_60 : LTree := (.quiet ⟨(some 132), .move (.t 0), none⟩ 0
  (.quiet ⟨(some 133), .nilCheck (.t 132), none⟩ 1
  (.quiet ⟨(some 134), .fieldAddr 5 (.t 133), none⟩ 2
  (.quiet ⟨(some 135), .load1 (.t 134), none⟩ 3
  (.quiet ⟨(some 136), .move (.t 19), none⟩ 4
  (.quiet ⟨(some 137), .indexAddr 6 (.t 135) (.t 136), none⟩ 5
  (.quiet ⟨(some 138), .fieldAddr 0 (.t 137), none⟩ 6
  (.quiet ⟨(some 139), .loadN 2 (.t 138), none⟩ 7
  (.quiet ⟨(some 140), .loadN 2 (.t 6), none⟩ 8
  (.loud ⟨(some 141), .call 38 [(.t 139), (.t 140)], none⟩ []
  .leaf .stop))))))))))
def b18_60 : SCode := .draw t18_60
abbrev r18_61 : List MOper := [⟨(some 10), .move (.c (.int .i64 10)), none⟩]
def b18_61 : SCode := .region r18_61
def b18_62 : SCode := .seq b18_61 .ret
def b18_63 : SCode := .cond (.t 141) b18_62 .skip
def b18_64 : SCode := .seq b18_60 b18_63
abbrev t18_65 : LTree := (.quiet ⟨(some 142), .move (.t 0), none⟩ 0
  (.quiet ⟨(some 143), .nilCheck (.t 142), none⟩ 1
  (.quiet ⟨(some 144), .fieldAddr 5 (.t 143), none⟩ 2
  (.quiet ⟨(some 145), .load1 (.t 144), none⟩ 3
  (.quiet ⟨(some 146), .move (.t 19), none⟩ 4
  (.quiet ⟨(some 147), .indexAddr 6 (.t 145) (.t 146), none⟩ 5
  (.quiet ⟨(some 148), .fieldAddr 0 (.t 147), none⟩ 6
  (.quiet ⟨(some 149), .fieldAddr 0 (.t 148), none⟩ 7
  (.quiet ⟨(some 150), .load1 (.t 149), none⟩ 8
  (.quiet ⟨(some 151), .fieldAddr 0 (.t 6), none⟩ 9
  (.quiet ⟨(some 152), .load1 (.t 151), none⟩ 10
  (.quiet ⟨(some 153), .bin .lss .num (.t 150) (.t 152), none⟩ 11
  .leaf))))))))))))
def b18_65 : SCode := .draw t18_65
abbrev r18_66 : List MOper := [⟨(some 154), .move (.t 19), none⟩,
  ⟨(some 155), .bin .add .num (.t 154) (.c (.int .i64 1)), none⟩,
  ⟨(some 18), .move (.t 155), none⟩]
def b18_66 : SCode := .region r18_66
def b18_67 : SCode := .cond (.t 153) b18_66 .skip
def b18_68 : SCode := .seq b18_65 b18_67
def b18_69 : SCode := .seq b18_64 b18_68
def b18_70 : SCode := .block 5 b18_69
abbrev r18_71 : List MOper := [⟨(some 130), .move (.t 19), none⟩,
  ⟨(some 131), .bin .add .num (.t 130) (.c (.int .i64 1)), none⟩,
  ⟨(some 19), .move (.t 131), none⟩]
def b18_71 : SCode := .region r18_71
def b18_72 : SCode := .seq b18_70 b18_71
def b18_73 : SCode := .seq b18_59 b18_72
def b18_74 : SCode := .loop b18_73
def b18_75 : SCode := .block 4 b18_74
def b18_76 : SCode := .seq b18_56 b18_75
abbrev t18_77 : LTree := (.quiet ⟨(some 156), .move (.t 0), none⟩ 0
  (.quiet ⟨(some 157), .move (.t 0), none⟩ 1
  (.quiet ⟨(some 158), .nilCheck (.t 157), none⟩ 2
  (.quiet ⟨(some 159), .fieldAddr 5 (.t 158), none⟩ 3
  (.quiet ⟨(some 160), .load1 (.t 159), none⟩ 4
  (.quiet ⟨(some 161), .move (.t 18), none⟩ 5
  (.quiet ⟨(some 162), .slice 6 (.t 160) none (some (.t 161)) none, none⟩ 6
  (.quiet ⟨(some 164), .loadN 6 (.t 11), none⟩ 8
  (.quiet ⟨(some 167), .move (.t 0), none⟩ 11
  (.quiet ⟨(some 168), .nilCheck (.t 167), none⟩ 12
  (.quiet ⟨(some 169), .fieldAddr 5 (.t 168), none⟩ 13
  (.quiet ⟨(some 170), .load1 (.t 169), none⟩ 14
  (.quiet ⟨(some 171), .move (.t 18), none⟩ 15
  (.quiet ⟨(some 172), .slice 6 (.t 170) (some (.t 171)) none none, none⟩ 16
  (.loud ⟨(some 163), .append 6 96 (.c (.nilslice)) (.t 162), none⟩ [8, 14]
  (.loud ⟨(some 165), .buildSlice [.str [], .str [], .int .i64 0, .bool false, .nilslice, .nilslice] 6 1 [(0, 6, (.t 164))], none⟩ [4, 14]
  (.loud ⟨(some 166), .append 6 96 (.t 163) (.t 165), none⟩ [14]
  (.loud ⟨(some 173), .append 6 96 (.t 166) (.t 172), none⟩ []
  (.quiet ⟨(some 174), .nilCheck (.t 156), none⟩ 18
  (.quiet ⟨(some 175), .fieldAddr 5 (.t 174), none⟩ 19
  (.loud ⟨none, .store 1 (.t 175) (.t 173), none⟩ []
  .leaf .stop))) .stop) .stop) .stop) (.loud ⟨(some 165), .buildSlice [.str [], .str [], .int .i64 0, .bool false, .nilslice, .nilslice] 6 1 [(0, 6, (.t 164))], none⟩ [4, 14]
  (.loud ⟨(some 163), .append 6 96 (.c (.nilslice)) (.t 162), none⟩ [8, 14]
  (.loud ⟨(some 166), .append 6 96 (.t 163) (.t 165), none⟩ [14]
  (.loud ⟨(some 173), .append 6 96 (.t 166) (.t 172), none⟩ []
  (.quiet ⟨(some 174), .nilCheck (.t 156), none⟩ 18
  (.quiet ⟨(some 175), .fieldAddr 5 (.t 174), none⟩ 19
  (.loud ⟨none, .store 1 (.t 175) (.t 173), none⟩ []
  .leaf .stop))) .stop) .stop) .stop) .stop))))))))))))))))
def b18_77 : SCode := .draw t18_77
abbrev r18_78 : List MOper := [⟨(some 10), .move (.c (.int .i64 0)), none⟩]
def b18_78 : SCode := .region r18_78
def b18_79 : SCode := .seq b18_78 .ret
def b18_80 : SCode := .seq b18_77 b18_79
def b18_81 : SCode := .seq b18_76 b18_80
def b18_82 : SCode := .seq b18_55 b18_81
def b18_83 : SCode := .seq b18_54 b18_82
def b18_84 : SCode := .seq b18_49 b18_83
def b18_85 : SCode := .seq b18_44 b18_84
def b18_86 : SCode := .seq b18_24 b18_85
def b18_87 : SCode := .seq b18_6 b18_86
def b18_88 : SCode := .seq b18_5 b18_87
def b18_89 : SCode := .seq b18_0 b18_88
def s18 : SFunc := ⟨176, [.t 10], b18_89⟩
theorem c18 : sFn Try.prog 18 = some s18 := by kernel_rfl
theorem Z18 : XR b18_0 r18_0 ∧ XR b18_1 r18_1 ∧ XR b18_2 r18_2 ∧ XS b18_3 b18_2 .ret ∧ XC b18_4 (.t 25) b18_3 .skip ∧ XS b18_5 b18_1 b18_4 ∧ XR b18_6 r18_6 ∧ XR b18_7 r18_7 ∧ XR b18_8 r18_8 ∧ XC b18_9 (.t 32) .skip (.exit 0) ∧ XS b18_10 b18_8 b18_9 ∧ XT b18_11 t18_11 ∧ XR b18_12 r18_12 ∧ XR b18_13 r18_13 ∧ XS b18_14 b18_13 .ret ∧ XC b18_15 (.t 73) b18_14 .skip ∧ XS b18_16 b18_12 b18_15 ∧ XS b18_17 b18_11 b18_16 ∧ XB b18_18 1 b18_17 ∧ XR b18_19 r18_19 ∧ XS b18_20 b18_18 b18_19 ∧ XS b18_21 b18_10 b18_20 ∧ XB b18_23 0 b18_22 ∧ XS b18_24 b18_7 b18_23 ∧ XR b18_25 r18_25 ∧ XR b18_26 r18_26 ∧ XC b18_27 (.t 77) .skip (.exit 2) ∧ XS b18_28 b18_26 b18_27 ∧ XR b18_29 r18_29 ∧ XT b18_30 t18_30 ∧ XR b18_31 r18_31 ∧ XS b18_32 b18_31 .ret ∧ XC b18_33 (.t 104) b18_32 .skip ∧ XS b18_34 b18_30 b18_33 ∧ XR b18_35 r18_35 ∧ XS b18_36 b18_34 b18_35 ∧ XS b18_37 b18_29 b18_36 ∧ XB b18_38 3 b18_37 ∧ XR b18_39 r18_39 ∧ XS b18_40 b18_38 b18_39 ∧ XS b18_41 b18_28 b18_40 ∧ XB b18_43 2 b18_42 ∧ XS b18_44 b18_25 b18_43 ∧ XR b18_45 r18_45 ∧ XR b18_46 r18_46 ∧ XS b18_47 b18_46 .ret ∧ XC b18_48 (.t 116) b18_47 .skip ∧ XS b18_49 b18_45 b18_48 ∧ XR b18_50 r18_50 ∧ XR b18_51 r18_51 ∧ XS b18_52 b18_51 .ret ∧ XC b18_53 (.t 122) b18_52 .skip ∧ XS b18_54 b18_50 b18_53 ∧ XR b18_55 r18_55 ∧ XR b18_56 r18_56 ∧ XR b18_57 r18_57 ∧ XC b18_58 (.t 129) .skip (.exit 4) ∧ XS b18_59 b18_57 b18_58 ∧ XT b18_60 t18_60 ∧ XR b18_61 r18_61 ∧ XS b18_62 b18_61 .ret ∧ XC b18_63 (.t 141) b18_62 .skip ∧ XS b18_64 b18_60 b18_63 ∧ XT b18_65 t18_65 ∧ XR b18_66 r18_66 ∧ XC b18_67 (.t 153) b18_66 .skip ∧ XS b18_68 b18_65 b18_67 ∧ XS b18_69 b18_64 b18_68 ∧ XB b18_70 5 b18_69 ∧ XR b18_71 r18_71 ∧ XS b18_72 b18_70 b18_71 ∧ XS b18_73 b18_59 b18_72 ∧ XB b18_75 4 b18_74 ∧ XS b18_76 b18_56 b18_75 ∧ XT b18_77 t18_77 ∧ XR b18_78 r18_78 ∧ XS b18_79 b18_78 .ret ∧ XS b18_80 b18_77 b18_79 ∧ XS b18_81 b18_76 b18_80 ∧ XS b18_82 b18_55 b18_81 ∧ XS b18_83 b18_54 b18_82 ∧ XS b18_84 b18_49 b18_83 ∧ XS b18_85 b18_44 b18_84 ∧ XS b18_86 b18_24 b18_85 ∧ XS b18_87 b18_6 b18_86 ∧ XS b18_88 b18_5 b18_87 ∧ XS b18_89 b18_0 b18_88 ∧ XY s18 176 b18_89 [.t 10] := ⟨rfl, rfl, rfl, rfl, sC_cond, rfl, rfl, rfl, rfl, sC_cond, rfl, rfl, rfl, rfl, rfl, sC_cond, rfl, rfl, rfl, rfl, rfl, rfl, rfl, rfl, rfl, rfl, sC_cond, rfl, rfl, rfl, rfl, rfl, sC_cond, rfl, rfl, rfl, rfl, rfl, rfl, rfl, rfl, rfl, rfl, rfl, rfl, rfl, sC_cond, rfl, rfl, rfl, rfl, sC_cond, rfl, rfl, rfl, rfl, sC_cond, rfl, rfl, rfl, rfl, sC_cond, rfl, rfl, rfl, sC_cond, rfl, rfl, rfl, rfl, rfl, rfl, rfl, rfl, rfl, rfl, rfl, rfl, rfl, rfl, rfl, rfl, rfl, rfl, rfl, rfl, rfl, rfl⟩

set_option maxHeartbeats 4000000
set_option maxRecDepth 10000
abbrev newH (f t : Bs) : HD := ⟨f, t, .nilslice, [], .nilslice, none⟩
def holdK (σ : AHeap) (S : Nat) (Lv : AV) (hs : List HD) (f t : Bs) (K : AV → AHeap → Prop) : Prop :=
  ∀ σ' Lv', StoreAt σ' S Lv' (hs ++ [newH f t]) → (∀ j c, hget σ j = some c → j ≠ S → hget σ' j = some c ∧ LvD Lv' ≠ some j) → K (.int .i64 0) σ'
def holdD (args : List AV) (σ : AHeap) (K : AV → AHeap → Prop) : Prop := ∃ (S : Nat) (Lv : AV) (hs : List HD) (f t : Bs), args = [.ptr S 0, .agg [.str f, .str t], .int .i64 1, .nilslice, .nilslice] ∧ StoreAt σ S Lv hs ∧ hs.length < 1000 ∧ emS f t = false ∧ (∀ h ∈ hs, h.f ≠ f ∧ mtS h.f h.t f t = false ∧ lessBytes h.f f = true) ∧ holdK σ S Lv hs f t K
def U18 : PCall := rowQ 33 emptyD (rowQ 37 sameD (rowQ 38 meetsD noCall))
theorem U18_app {f : FuncId} {args : List AV} {σ : AHeap} {K : AV → AHeap → Prop} : U18 f args σ K = rowQ 33 emptyD (rowQ 37 sameD (rowQ 38 meetsD noCall)) f args σ K := _root_.id rfl
theorem U18_sound : Sound Try.prog U18 := rowQ_sound emptyD_ok (rowQ_sound sameD_ok (rowQ_sound meetsD_ok (noCall_sound _)))
def hE (S X Y : Nat) (σ0 : AHeap) (e : Env) (σ : AHeap) : Prop := σ = σ0 ∧ e 0 = .ptr S 0 ∧ e 2 = .int .i64 1 ∧ e 3 = .nilslice ∧ e 4 = .nilslice ∧ e 6 = .ptr X 0 ∧ e 11 = .ptr Y 0
def hI1 (S X Y : Nat) (σ0 : AHeap) (m : Nat) (e : Env) (σ : AHeap) : Prop := hE S X Y σ0 e σ ∧ e 12 = .int .i64 0
def hI2 (S X Y : Nat) (σ0 : AHeap) (m : Nat) (e : Env) (σ : AHeap) : Prop := hE S X Y σ0 e σ ∧ e 15 = .int .i64 0
def hI3 (S X Y : Nat) (σ0 : AHeap) (hs : List HD) (m : Nat) (e : Env) (σ : AHeap) : Prop := hE S X Y σ0 e σ ∧ ∃ k : Nat, k ≤ hs.length ∧ m = hs.length - k ∧ e 18 = .int .i64 (k : Int) ∧ e 19 = .int .i64 (k : Int)
theorem hold_new {σ τ : AHeap} {S : Nat} {Lv v : AV} {hs : List HD} {f t : Bs} (h : StoreAt σ S Lv hs) (hl : hs.length < 1000) (k1 : Kp σ τ) (k2 : ∀ j c, hget σ j = some c → LvD v ≠ some j) (k3 : Grow τ v 6 (hs.map heldC ++ [heldC (newH f t)])) :
    StoreAt (hset τ S (storeC v)) S v (hs ++ [newH f t]) := by
  have hS := k1 _ _ h.st
  have hvS : LvD v ≠ some S := k2 _ _ h.st
  have old : ∀ k ∈ hs, ∀ d, k.blk d → d ≠ S ∧ d < σ.length := fun k hk d hd => ⟨(h.ap.sh k hk d hd).1, own_lt h (.inr (.inr ⟨k, hk, hd⟩))⟩
  have blk0 : ∀ d, ¬ (newH f t).blk d := fun d hd => by rcases hd with hd | hd <;> cases hd
  have fr : ∀ k ∈ hs, ∀ {x w rows}, (∀ d, LvD x = some d → k.blk d) → Grow σ x w rows → Grow (hset τ S (storeC v)) x w rows := fun k hk x w rows hx hg => grow_frame hg fun j c hj hd => by
    rw [set_other (fun e => (old k hk j (hx j hd)).1 e.symm)]; exact k1 j c hj
  have mem : ∀ k ∈ hs ++ [newH f t], k ∈ hs ∨ k = newH f t := fun k hk => by simpa using hk
  refine ⟨set_same hS, grow_frame (by simpa using k3) fun j c hj hd => by rw [set_other (fun e => hvS (by rw [hd, e]))]; exact hj, fun k hk => ?_, fun k hk => ?_, fun k hk => ?_, by simp; omega, hvS, fun k hk d hd => ?_, fun k hk d hd => ?_, fun i j a b ha hb hij d hd => ?_⟩
  · rcases mem k hk with hk | rfl
    · exact fr k hk (fun d hd => .inl hd) (h.mv k hk)
    · exact .inl ⟨rfl, rfl⟩
  · rcases mem k hk with hk | rfl
    · exact fr k hk (fun d hd => .inr hd) (h.ov k hk)
    · exact .inl ⟨rfl, rfl⟩
  · rcases mem k hk with hk | rfl
    · exact h.sz k hk
    · exact Nat.zero_le _
  · rcases mem k hk with hk | rfl
    · have ho := own_lt h (.inr (.inr ⟨k, hk, hd⟩))
      refine ⟨(old k hk d hd).1, fun hv => ?_⟩
      rcases hd with hd | hd
      · rcases h.mv k hk with ⟨e, _⟩ | ⟨d', e, hc, _⟩
        · rw [e] at hd; cases hd
        · rw [e] at hd; cases hd; exact k2 _ _ hc hv
      · rcases h.ov k hk with ⟨e, _⟩ | ⟨d', e, hc, _⟩
        · rw [e] at hd; cases hd
        · rw [e] at hd; cases hd; exact k2 _ _ hc hv
    · exact (blk0 d hd).elim
  · rcases mem k hk with hk | rfl
    · exact h.ap.mo k hk d hd
    · cases hd
  · have at_ : ∀ {i : Nat} {x : HD}, (hs ++ [newH f t])[i]? = some x → hs[i]? = some x ∨ x = newH f t := by
      intro i x hx
      rw [List.getElem?_append] at hx
      split at hx
      · exact .inl hx
      · exact .inr (by have := List.mem_of_getElem? hx; simpa using this)
    rcases at_ ha with ha | rfl
    · rcases at_ hb with hb | rfl
      · exact h.ap.hh i j a b ha hb hij d hd
      · exact blk0 d
    · exact (blk0 d hd).elim
theorem holdD_ok (args : List AV) (σ : AHeap) (K : AV → AHeap → Prop) (h : holdD args σ K) : Tri Try.prog 18 args σ K := by
  obtain ⟨S, Lv, hs, f, t, rfl, hS, hl, hem, hh, h⟩ := h
  refine Tri.of_s c18 U18_sound ?_
  simp only [U18_app, Z18, base1, ↓reduceIte, Nat.reduceAdd, Nat.reduceSub, Nat.reduceMul, Nat.reduceEqDiff, Nat.reduceLeDiff, Nat.reduceLT, Int.reduceLT, Int.reduceLE, Int.reduceEq, Int.reduceNe, Int.reduceToNat, Int.reduceAdd, Int.reduceSub, reduceCtorEq, Nat.reduceBEq, Nat.reduceBNe]
  have kp1 : Kp σ (hpush σ [.str f, .str t]) := Kp.push
  have hX := push_new (σ := σ) (c := [.str f, .str t]) rfl
  generalize hσ1 : hpush σ [.str f, .str t] = σ1 at hX kp1
  have hx2 : sub [AV.str f, .str t] 0 2 = some [.str f, .str t] := rfl
  simp only [U18_app, Z18, base1, ↓reduceIte, Nat.reduceAdd, Nat.reduceSub, Nat.reduceMul, Nat.reduceEqDiff, Nat.reduceLeDiff, Nat.reduceLT, Int.reduceLT, Int.reduceLE, Int.reduceEq, Int.reduceNe, Int.reduceToNat, Int.reduceAdd, Int.reduceSub, reduceCtorEq, Nat.reduceBEq, Nat.reduceBNe, hX, hx2]
  refine ⟨f, t, rfl, ?_⟩
  have hp2 : hget (hpush σ1 [.str [], .str [], .int .i64 0, .bool false, .nilslice, .nilslice]) σ1.length = some [.str [], .str [], .int .i64 0, .bool false, .nilslice, .nilslice] := push_new rfl
  have kp2 : Kp σ1 (hset (hpush σ1 [.str [], .str [], .int .i64 0, .bool false, .nilslice, .nilslice]) σ1.length (heldC (newH f t))) := Kp.pushSet
  have hY : hget (hset (hpush σ1 [.str [], .str [], .int .i64 0, .bool false, .nilslice, .nilslice]) σ1.length (heldC (newH f t))) σ1.length = some (heldC (newH f t)) := set_same hp2
  generalize hσ2 : hset (hpush σ1 [.str [], .str [], .int .i64 0, .bool false, .nilslice, .nilslice]) σ1.length (heldC (newH f t)) = σ2 at kp2 hY
  have k02 : Kp σ σ2 := kp1.trans kp2
  have hX2 := kp2 _ _ hX
  have hS2 := k02.store hS
  generalize hxx : σ.length = X at hX hX2
  generalize hyy : σ1.length = Y at hσ2 hY hp2
  have hput : put [.str [], .str [], .int .i64 0, .bool false, .nilslice, .nilslice] 0 (heldC (newH f t)) = some (heldC (newH f t)) := rfl
  unfold newH heldC at hput hσ2
  simp only [U18_app, Z18, base1, ↓reduceIte, Nat.reduceAdd, Nat.reduceSub, Nat.reduceMul, Nat.reduceEqDiff, Nat.reduceLeDiff, Nat.reduceLT, Int.reduceLT, Int.reduceLE, Int.reduceEq, Int.reduceNe, Int.reduceToNat, Int.reduceAdd, Int.reduceSub, reduceCtorEq, Nat.reduceBEq, Nat.reduceBNe, hem, hX, hx2, hp2, hput, hσ2, hxx, hyy]
  refine sC_inv (a := b18_21) (hI1 S X Y σ2) 0 _ _ (.refl _ _ _) ⟨⟨rfl, rfl, rfl, rfl, rfl, rfl, rfl⟩, rfl⟩ ?_
  rintro m1 e1 σ' ⟨⟨rfl, e0, e2, e3, e4, e6, e11⟩, e12⟩
  simp only [U18_app, Z18, base1, ↓reduceIte, Nat.reduceAdd, Nat.reduceSub, Nat.reduceMul, Nat.reduceEqDiff, Nat.reduceLeDiff, Nat.reduceLT, Int.reduceLT, Int.reduceLE, Int.reduceEq, Int.reduceNe, Int.reduceToNat, Int.reduceAdd, Int.reduceSub, reduceCtorEq, Nat.reduceBEq, Nat.reduceBNe, loopR_exit, loopR_ret, lenOf_nilS, e0, e2, e3, e4, e6, e11, e12]
  refine sC_inv (a := b18_41) (hI2 S X Y σ') 0 _ _ (.refl _ _ _) ⟨⟨rfl, e0, e2, e3, e4, e6, e11⟩, rfl⟩ ?_
  clear e0 e2 e3 e4 e6 e11 e12
  rintro m2 e2 σ2 ⟨⟨rfl, e0, e2, e3, e4, e6, e11⟩, e15⟩
  simp only [U18_app, Z18, base1, ↓reduceIte, Nat.reduceAdd, Nat.reduceSub, Nat.reduceMul, Nat.reduceEqDiff, Nat.reduceLeDiff, Nat.reduceLT, Int.reduceLT, Int.reduceLE, Int.reduceEq, Int.reduceNe, Int.reduceToNat, Int.reduceAdd, Int.reduceSub, reduceCtorEq, Nat.reduceBEq, Nat.reduceBNe, loopR_exit, loopR_ret, lenOf_nilS, e0, e2, e3, e4, e6, e11, e15, hX2, hx2]
  refine ⟨S, Lv, hs, f, t, 1, rfl, hS2, fun k hk => (hh k hk).1, fun σ3 k23 => ?_⟩
  have hS3 := k23.store hS2
  have hst := hS3.st
  have ht6 : (storeC Lv)[6]? = some (.int .i64 0) := rfl
  simp only [U18_app, Z18, base1, ↓reduceIte, Nat.reduceAdd, Nat.reduceSub, Nat.reduceMul, Nat.reduceEqDiff, Nat.reduceLeDiff, Nat.reduceLT, Int.reduceLT, Int.reduceLE, Int.reduceEq, Int.reduceNe, Int.reduceToNat, Int.reduceAdd, Int.reduceSub, reduceCtorEq, Nat.reduceBEq, Nat.reduceBNe, loopR_exit, loopR_ret, e0, e2, e3, e4, e6, e11, hst, ht6]
  have hX3 := k23 _ _ hX2
  have hY3 : hget σ3 Y = some [.str f, .str t, .int .i64 1, .bool false, .nilslice, .nilslice] := k23 _ _ hY
  have k03 : Kp σ σ3 := k02.trans k23
  refine sC_inv (a := b18_73) (hI3 S X Y σ3 hs) hs.length _ _ (.refl _ _ _) ⟨⟨rfl, e0, e2, e3, e4, e6, e11⟩, 0, Nat.zero_le _, rfl, rfl, rfl⟩ ?_
  clear e0 e2 e3 e4 e6 e11 e15
  rintro m3 e3 σ3 ⟨⟨rfl, e0, e2, e3, e4, e6, e11⟩, k, hk, hm, e18, e19⟩
  have ht5 : (storeC Lv)[5]? = some Lv := rfl
  have hls : lenSl Lv = some hs.length := grow_lenS ⟨hS3.li, by simp⟩
  have hwr : IntKind.wrap .i64 ((k : Int) + 1) = ((k + 1 : Nat) : Int) := by rw [Gz.wrap64 (by omega)]; omega
  by_cases hlt' : (k : Int) < (hs.length : Int)
  · have hlt : k < hs.length := by omega
    have hge0 : (0 : Int) ≤ (k : Int) := by omega
    obtain ⟨x, hx⟩ : ∃ x, hs[k]? = some x := ⟨_, List.getElem?_eq_getElem hlt⟩
    rcases held_cases hS3 with ⟨_, h0⟩ | ⟨H, rfl, hH⟩
    · subst h0; cases hx
    · have c1 : sub (hs.map heldC).flatten (k * 6) 2 = some [.str x.f, .str x.t] := held_sub hx 0 2 (by decide)
      have c2 : (hs.map heldC).flatten[k * 6]? = some (.str x.f) := held_at hx (j := 0) rfl
      have hxf := hh x (List.mem_of_getElem? hx)
      have l0 : lenOf (.slice H 0 hs.length none 6) = some hs.length := rfl
      have hx0 : [AV.str f, .str t][0]? = some (.str f) := rfl
      simp only [U18_app, Z18, base1, ↓reduceIte, Nat.reduceAdd, Nat.reduceSub, Nat.reduceMul, Nat.reduceEqDiff, Nat.reduceLeDiff, Nat.reduceLT, Int.reduceLT, Int.reduceLE, Int.reduceEq, Int.reduceNe, Int.reduceToNat, Int.reduceAdd, Int.reduceSub, reduceCtorEq, Nat.reduceBEq, Nat.reduceBNe, loopR_exit, loopR_ret, e0, e2, e3, e4, e6, e11, e18, e19, hst, ht5, l0, Option.map_some, hlt', hlt, hge0, Int.toNat_natCast, hH, c1, hX3, hx2]
      refine ⟨x.f, x.t, f, t, rfl, ?_⟩
      simp only [U18_app, Z18, base1, ↓reduceIte, Nat.reduceAdd, Nat.reduceSub, Nat.reduceMul, Nat.reduceEqDiff, Nat.reduceLeDiff, Nat.reduceLT, Int.reduceLT, Int.reduceLE, Int.reduceEq, Int.reduceNe, Int.reduceToNat, Int.reduceAdd, Int.reduceSub, reduceCtorEq, Nat.reduceBEq, Nat.reduceBNe, loopR_exit, loopR_ret, e0, e2, e3, e4, e6, e11, e18, e19, hst, ht5, l0, Option.map_some, hlt', hlt, hge0, Int.toNat_natCast, hH, c1, c2, hX3, hx2, hxf.2.1, hxf.2.2, hwr]
      rw [loopR_normal]
      exact ⟨hs.length - (k + 1), _, _, by omega, .refl _ _ _, ⟨rfl, e0, e2, e3, e4, e6, e11⟩, k + 1, hlt, rfl, rfl, rfl⟩
  · have hke : k = hs.length := by omega
    subst hke
    have hll : (hs.map heldC).length = hs.length := by simp
    obtain ⟨x, x1, x2⟩ := cut_to (sz := 96) (k := hs.length) hS3.li (by omega)
    obtain ⟨y, y1, y2⟩ := cut_from (sz := 96) (k := hs.length) hS3.li (by omega)
    obtain ⟨⟨v1, τ1, v2, τ2, v, τ, o0, o1, o2, o3, o4, o5, o6, o7, o8, o9, p1, p2, p3⟩, w1, π1, w2, π2, w, π, q0, q1, q2, q3, q4, q5, q6, q7, q8, q9, r1, r2, r3⟩ := ins_grow (b := 96) (by decide) hS3.li (by omega) (by omega) (by omega) x2 y2 [.str f, .str t, .int .i64 1, .bool false, .nilslice, .nilslice] rfl rfl
    have hτ := p1 _ _ hst
    have hπ := r1 _ _ hst
    have t1 := o0.1 _ _ hY3
    have t2 := push_old (c := [.str f, .str t, .int .i64 1, .bool false, .nilslice, .nilslice]) (o0.1 _ _ hst)
    have t3 := q0.1 _ _ hY3
    have t4 := push_old (c := [.str f, .str t, .int .i64 1, .bool false, .nilslice, .nilslice]) hst
    have t5 := o0.1 _ _ hst
    have t6 := q0.1 _ _ hst
    have t7 := o0.2 _ _ hst
    have t8 := q0.2 _ _ hst
    have hY6 : sub [.str f, .str t, .int .i64 1, .bool false, .nilslice, .nilslice] 0 6 = some [.str f, .str t, .int .i64 1, .bool false, .nilslice, .nilslice] := rfl
    have hput5 : ∀ z, put (storeC Lv) 5 [z] = some (storeC z) := fun z => rfl
    have tk : (hs.map heldC).take hs.length = hs.map heldC := List.take_of_length_le (by simp)
    have td : (hs.map heldC).drop hs.length = [] := List.drop_eq_nil_of_le (by simp)
    rw [tk, td] at p3 r3
    have fin : ∀ v τ, Kp σ3 τ → (∀ j c, hget σ3 j = some c → LvD v ≠ some j) → Grow τ v 6 (hs.map heldC ++ [[.str f, .str t, .int .i64 1, .bool false, .nilslice, .nilslice]]) → K (.int .i64 0) (hset τ S (storeC v)) := by
      intro v τ k1 k2 k3
      refine h _ v (hold_new hS3 hl k1 k2 k3) fun j c hj hn => ⟨by rw [set_other (Ne.symm hn)]; exact k1 j c (k03 j c hj), k2 j c (k03 j c hj)⟩
    simp only [U18_app, Z18, base1, ↓reduceIte, Nat.reduceAdd, Nat.reduceSub, Nat.reduceMul, Nat.reduceEqDiff, Nat.reduceLeDiff, Nat.reduceLT, Int.reduceLT, Int.reduceLE, Int.reduceEq, Int.reduceNe, Int.reduceToNat, Int.reduceAdd, Int.reduceSub, reduceCtorEq, Nat.reduceBEq, Nat.reduceBNe, loopR_exit, loopR_ret, e0, e2, e3, e4, e6, e11, e18, e19, hst, ht5, hls, Option.map_some, hlt', hY3, hY6, x1, y1, o1, o2, o3, o4, o5, o6, o7, o8, o9, q1, q2, q3, q4, q5, q6, q7, q8, q9, hτ, hπ, t1, t2, t3, t4, t5, t6, t7, t8, hput5]
    exact ⟨fin _ _ p1 p2 p3, fin _ _ r1 r2 r3⟩
end Go.Proofs.Ytmjnmnhpmbbmgaa.tour

/- The reference's store: a page of a span that is held. No condition. -/
set_option linter.unusedVariables false
set_option linter.unusedSimpArgs false
namespace Go.Proofs.Ytmjnmnhpmbbmgaa.tour
open Go.ChangeShapes Go.WideShapes Go.ChangeAt Go.RowKit Go.Gz Go.Gz.H
abbrev r40_0 : List MOper := [⟨(some 4), .box (.t 1), none⟩,
  ⟨(some 5), .box (.t 2), none⟩,
  ⟨(some 6), .alloc [.int .i64 0, .int .i64 0, .int .i64 0, .bool false, .str [], .nilslice, .str [], .bool false], none⟩]
def b40_0 : SCode := .region r40_0
abbrev r40_1 : List MOper := [⟨(some 10), .move (.t 0), none⟩,
  ⟨(some 11), .nilCheck (.t 10), none⟩,
  ⟨(some 12), .fieldAddr 0 (.t 11), none⟩,
  ⟨(some 13), .fieldAddr 1 (.t 12), none⟩,
  ⟨(some 14), .load1 (.t 13), none⟩,
  ⟨(some 7), .move (.t 14), none⟩]
def b40_1 : SCode := .region r40_1
abbrev r40_2 : List MOper := [⟨(some 15), .fieldAddr 6 (.t 4), none⟩,
  ⟨(some 16), .load1 (.t 15), none⟩,
  ⟨(some 17), .bin .neq .num (.t 16) (.c (.str [])), none⟩,
  ⟨(some 18), .move (.t 17), none⟩,
  ⟨(some 19), .move (.t 7), (some (18, true))⟩,
  ⟨(some 20), .bin .eql .num (.t 19) (.c (.str [])), (some (18, true))⟩,
  ⟨(some 21), .move (.t 20), (some (18, true))⟩,
  ⟨(some 22), .fieldAddr 6 (.t 4), (some (21, false))⟩,
  ⟨(some 23), .load1 (.t 22), (some (21, false))⟩,
  ⟨(some 24), .move (.t 7), (some (21, false))⟩,
  ⟨(some 25), .bin .lss .num (.t 23) (.t 24), (some (21, false))⟩,
  ⟨(some 26), .pick (.t 21) (.c (.bool true)) (.t 25), (some (18, true))⟩,
  ⟨(some 27), .pick (.t 18) (.t 26) (.c (.bool false)), none⟩]
def b40_2 : SCode := .region r40_2
abbrev r40_3 : List MOper := [⟨(some 28), .fieldAddr 6 (.t 4), none⟩,
  ⟨(some 29), .load1 (.t 28), none⟩,
  ⟨(some 7), .move (.t 29), none⟩]
def b40_3 : SCode := .region r40_3
def b40_4 : SCode := .cond (.t 27) b40_3 .skip
def b40_5 : SCode := .seq b40_2 b40_4
abbrev r40_6 : List MOper := [⟨(some 30), .move (.t 7), none⟩,
  ⟨(some 31), .fieldAddr 6 (.t 5), none⟩,
  ⟨none, .store 1 (.t 31) (.t 30), none⟩]
def b40_6 : SCode := .region r40_6
abbrev r40_7 : List MOper := [⟨(some 8), .move (.c (.int .i64 0)), none⟩]
def b40_7 : SCode := .region r40_7
abbrev r40_8 : List MOper := [⟨(some 32), .move (.t 8), none⟩,
  ⟨(some 33), .move (.t 0), none⟩,
  ⟨(some 34), .nilCheck (.t 33), none⟩,
  ⟨(some 35), .fieldAddr 4 (.t 34), none⟩,
  ⟨(some 36), .fieldAddr 0 (.t 35), none⟩,
  ⟨(some 37), .load1 (.t 36), none⟩,
  ⟨(some 38), .lenSl (.t 37), none⟩,
  ⟨(some 39), .bin .lss .num (.t 32) (.t 38), none⟩]
def b40_8 : SCode := .region r40_8
def b40_9 : SCode := .cond (.t 39) .skip (.exit 0)
def b40_10 : SCode := .seq b40_8 b40_9
abbrev r40_11 : List MOper := [⟨(some 42), .move (.t 0), none⟩,
  ⟨(some 43), .nilCheck (.t 42), none⟩,
  ⟨(some 44), .fieldAddr 4 (.t 43), none⟩,
  ⟨(some 45), .fieldAddr 0 (.t 44), none⟩,
  ⟨(some 46), .load1 (.t 45), none⟩,
  ⟨(some 47), .move (.t 8), none⟩,
  ⟨(some 48), .indexAddr 3 (.t 46) (.t 47), none⟩,
  ⟨(some 49), .loadN 3 (.t 48), none⟩,
  ⟨(some 9), .alloc [.str [], .str [], .str []], none⟩,
  ⟨none, .store 3 (.t 9) (.t 49), none⟩]
def b40_11 : SCode := .region r40_11
abbrev r40_12 : List MOper := [⟨(some 50), .fieldAddr 0 (.t 9), none⟩,
  ⟨(some 51), .load1 (.t 50), none⟩,
  ⟨(some 52), .fieldAddr 5 (.t 4), none⟩,
  ⟨(some 53), .load1 (.t 52), none⟩,
  ⟨(some 54), .bin .lss .num (.t 51) (.t 53), none⟩,
  ⟨(some 55), .move (.t 54), none⟩,
  ⟨(some 56), .move (.t 7), (some (55, false))⟩,
  ⟨(some 57), .bin .neq .num (.t 56) (.c (.str [])), (some (55, false))⟩,
  ⟨(some 58), .move (.t 57), (some (55, false))⟩,
  ⟨(some 59), .fieldAddr 0 (.t 9), (some (58, true))⟩,
  ⟨(some 60), .load1 (.t 59), (some (58, true))⟩,
  ⟨(some 61), .move (.t 7), (some (58, true))⟩,
  ⟨(some 62), .bin .geq .num (.t 60) (.t 61), (some (58, true))⟩,
  ⟨(some 63), .pick (.t 58) (.t 62) (.c (.bool false)), (some (55, false))⟩,
  ⟨(some 64), .pick (.t 55) (.c (.bool true)) (.t 63), none⟩]
def b40_12 : SCode := .region r40_12
def b40_13 : SCode := .cond (.t 64) (.exit 1) .skip
def b40_14 : SCode := .seq b40_12 b40_13
abbrev r40_15 : List MOper := [⟨(some 65), .fieldAddr 5 (.t 5), none⟩,
  ⟨(some 66), .load1 (.t 65), none⟩,
  ⟨(some 67), .lenSl (.t 66), none⟩,
  ⟨(some 68), .fieldAddr 7 (.t 4), none⟩,
  ⟨(some 69), .load1 (.t 68), none⟩,
  ⟨(some 70), .bin .eql .num (.t 67) (.t 69), none⟩]
def b40_15 : SCode := .region r40_15
abbrev r40_16 : List MOper := [⟨(some 71), .fieldAddr 0 (.t 9), none⟩,
  ⟨(some 72), .load1 (.t 71), none⟩,
  ⟨(some 73), .fieldAddr 6 (.t 5), none⟩,
  ⟨none, .store 1 (.t 73) (.t 72), none⟩]
def b40_16 : SCode := .region r40_16
def b40_17 : SCode := .seq b40_16 (.exit 0)
def b40_18 : SCode := .cond (.t 70) b40_17 .skip
def b40_19 : SCode := .seq b40_15 b40_18
abbrev r40_20 : List MOper := [⟨(some 74), .fieldAddr 5 (.t 5), none⟩,
  ⟨(some 75), .load1 (.t 74), none⟩,
  ⟨(some 76), .fieldAddr 1 (.t 9), none⟩,
  ⟨(some 77), .loadN 2 (.t 76), none⟩,
  ⟨(some 78), .buildSlice [.str [], .str []] 2 1 [(0, 2, (.t 77))], none⟩,
  ⟨(some 79), .append 2 32 (.t 75) (.t 78), none⟩,
  ⟨(some 80), .fieldAddr 5 (.t 5), none⟩,
  ⟨none, .store 1 (.t 80) (.t 79), none⟩]
def b40_20 : SCode := .region r40_20
def b40_21 : SCode := .seq b40_19 b40_20
def b40_22 : SCode := .seq b40_14 b40_21
def b40_23 : SCode := .seq b40_11 b40_22
def b40_24 : SCode := .block 1 b40_23
abbrev r40_25 : List MOper := [⟨(some 40), .move (.t 8), none⟩,
  ⟨(some 41), .bin .add .num (.t 40) (.c (.int .i64 1)), none⟩,
  ⟨(some 8), .move (.t 41), none⟩]
def b40_25 : SCode := .region r40_25
def b40_26 : SCode := .seq b40_24 b40_25
def b40_27 : SCode := .seq b40_10 b40_26
def b40_28 : SCode := .loop b40_27
def b40_29 : SCode := .block 0 b40_28
def b40_30 : SCode := .seq b40_7 b40_29
abbrev r40_31 : List MOper := [⟨(some 81), .fieldAddr 6 (.t 5), none⟩,
  ⟨(some 82), .load1 (.t 81), none⟩,
  ⟨(some 83), .bin .neq .num (.t 82) (.c (.str [])), none⟩,
  ⟨(some 84), .move (.t 83), none⟩,
  ⟨(some 85), .fieldAddr 6 (.t 4), (some (84, true))⟩,
  ⟨(some 86), .load1 (.t 85), (some (84, true))⟩,
  ⟨(some 87), .bin .eql .num (.t 86) (.c (.str [])), (some (84, true))⟩,
  ⟨(some 88), .move (.t 87), (some (84, true))⟩,
  ⟨(some 89), .fieldAddr 6 (.t 5), (some (88, false))⟩,
  ⟨(some 90), .load1 (.t 89), (some (88, false))⟩,
  ⟨(some 91), .fieldAddr 6 (.t 4), (some (88, false))⟩,
  ⟨(some 92), .load1 (.t 91), (some (88, false))⟩,
  ⟨(some 93), .bin .lss .num (.t 90) (.t 92), (some (88, false))⟩,
  ⟨(some 94), .pick (.t 88) (.c (.bool true)) (.t 93), (some (84, true))⟩,
  ⟨(some 95), .pick (.t 84) (.t 94) (.c (.bool false)), none⟩,
  ⟨(some 96), .fieldAddr 7 (.t 5), none⟩,
  ⟨none, .store 1 (.t 96) (.t 95), none⟩]
def b40_31 : SCode := .region r40_31
abbrev r40_32 : List MOper := [⟨(some 97), .loadN 8 (.t 5), none⟩,
  ⟨none, .store 8 (.t 6) (.t 97), none⟩]
def b40_32 : SCode := .region r40_32
def b40_33 : SCode := .seq b40_32 .ret
def b40_34 : SCode := .seq b40_31 b40_33
def b40_35 : SCode := .seq b40_30 b40_34
def b40_36 : SCode := .seq b40_6 b40_35
def b40_37 : SCode := .seq b40_5 b40_36
def b40_38 : SCode := .seq b40_1 b40_37
def b40_39 : SCode := .seq b40_0 b40_38
def s40 : SFunc := ⟨98, [.cN 6 8], b40_39⟩
theorem c40 : sFn Try.prog 40 = some s40 := by kernel_rfl
theorem x40_34 : XS b40_34 b40_31 b40_33 := rfl
theorem x40_36 : XS b40_36 b40_6 b40_35 := rfl
theorem Z40 : XR b40_0 r40_0 ∧ XR b40_1 r40_1 ∧ XR b40_2 r40_2 ∧ XR b40_3 r40_3 ∧ XC b40_4 (.t 27) b40_3 .skip ∧ XS b40_5 b40_2 b40_4 ∧ XR b40_6 r40_6 ∧ XR b40_7 r40_7 ∧ XR b40_8 r40_8 ∧ XC b40_9 (.t 39) .skip (.exit 0) ∧ XS b40_10 b40_8 b40_9 ∧ XR b40_11 r40_11 ∧ XR b40_12 r40_12 ∧ XC b40_13 (.t 64) (.exit 1) .skip ∧ XS b40_14 b40_12 b40_13 ∧ XR b40_15 r40_15 ∧ XR b40_16 r40_16 ∧ XS b40_17 b40_16 (.exit 0) ∧ XC b40_18 (.t 70) b40_17 .skip ∧ XS b40_19 b40_15 b40_18 ∧ XR b40_20 r40_20 ∧ XS b40_21 b40_19 b40_20 ∧ XS b40_22 b40_14 b40_21 ∧ XS b40_23 b40_11 b40_22 ∧ XB b40_24 1 b40_23 ∧ XR b40_25 r40_25 ∧ XS b40_26 b40_24 b40_25 ∧ XS b40_27 b40_10 b40_26 ∧ XB b40_29 0 b40_28 ∧ XS b40_30 b40_7 b40_29 ∧ XR b40_31 r40_31 ∧ XR b40_32 r40_32 ∧ XS b40_33 b40_32 .ret ∧ XS b40_35 b40_30 b40_34 ∧ XS b40_37 b40_5 b40_36 ∧ XS b40_38 b40_1 b40_37 ∧ XS b40_39 b40_0 b40_38 ∧ XY s40 98 b40_39 [.cN 6 8] := ⟨rfl, rfl, rfl, rfl, sC_cond, rfl, rfl, rfl, rfl, sC_cond, rfl, rfl, rfl, sC_cond, rfl, rfl, rfl, rfl, sC_cond, rfl, rfl, rfl, rfl, rfl, rfl, rfl, rfl, rfl, rfl, rfl, rfl, rfl, rfl, rfl, rfl, rfl, rfl, rfl⟩

set_option maxHeartbeats 4000000
set_option maxRecDepth 10000
abbrev Rec := Bs × Bs
abbrev recC (l : List Rec) : List (List AV) := l.map fun (r : Rec) => [AV.str r.1, AV.str r.2]
def endS (to hto : Bs) : Bs := if to ≠ [] ∧ (hto = [] ∨ lessBytes to hto = true) then to else hto
def pS (frm en : Bs) (r : Rw) : Bool := !lessBytes r.1 frm && (decide (en = []) || lessBytes r.1 en)
def moreS (nx to : Bs) : Bool := decide (nx ≠ []) && (decide (to = []) || lessBytes nx to)
def pgRecs (rows : List Rw) (frm en : Bs) (lim : Nat) : List Rec := ((rows.filter (pS frm en)).take lim).map fun r => r.2
def pgNext (rows : List Rw) (frm en : Bs) (lim : Nat) : Bs := match (rows.filter (pS frm en))[lim]? with
  | some r => r.1
  | none => en
abbrev askP (q : Nat) (frm to : Bs) (lim : Nat) : List AV := [.int .i64 4, .int .i64 0, .int .i64 (q : Int), .str [], .str [], .str frm, .str to, .int .i64 (lim : Int)]
abbrev repP (q : Nat) (Lr : AV) (nx : Bs) (more : Bool) : List AV := [.int .i64 0, .int .i64 (q : Int), .int .i64 0, .bool false, .str [], Lr, .str nx, .bool more]
def pageK (σ : AHeap) (q : Nat) (rows : List Rw) (frm to hto : Bs) (lim : Nat) (K : AV → AHeap → Prop) : Prop :=
  ∀ σ' Lr, Kp σ σ' → Grow σ' Lr 2 (recC (pgRecs rows frm (endS to hto) lim)) → (∀ j c, hget σ j = some c → LvD Lr ≠ some j) →
    K (.agg (repP q Lr (pgNext rows frm (endS to hto) lim) (moreS (pgNext rows frm (endS to hto) lim) to))) σ'
def pageD (args : List AV) (σ : AHeap) (K : AV → AHeap → Prop) : Prop := ∃ (H off : Nat) (cells : List AV) (Mv : AV) (rows : List Rw) (hto frm to : Bs) (q lim : Nat),
  args = [.ptr H off, .agg (askP q frm to lim), .agg (repP q .nilslice [] false)] ∧ MapAt σ H (off + 4) cells Mv rows ∧ cells[off + 1]? = some (.str hto) ∧ lim ≤ 1000 ∧ pageK σ q rows frm to hto lim K
def pgI (σ0 : AHeap) (H off X R Z q : Nat) (rows : List Rw) (frm to en : Bs) (lim : Nat) (m : Nat) (e : Env) (σ : AHeap) : Prop :=
  ∃ (k : Nat) (Lr : AV), k ≤ rows.length ∧ m = rows.length - k ∧ (∀ j c, hget σ0 j = some c → j ≠ R → hget σ j = some c) ∧ hget σ R = some (repP q Lr en false) ∧ Grow σ Lr 2 (recC (((rows.take k).filter (pS frm en)).map fun r => r.2)) ∧ ((rows.take k).filter (pS frm en)).length ≤ lim ∧ (∀ j c, hget σ0 j = some c → LvD Lr ≠ some j) ∧
    e 0 = .ptr H off ∧ e 4 = .ptr X 0 ∧ e 5 = .ptr R 0 ∧ e 6 = .ptr Z 0 ∧ e 7 = .str en ∧ e 8 = .int .i64 (k : Int)
theorem page_rest {n0 H off X R Z q lim : Nat} {cells : List AV} {Mv : AV} {rows : List Rw} {frm to en nx0 : Bs} {K : AV → AHeap → Prop} {e : Env} {σ : AHeap}
    (hM : MapAt σ H (off + 4) cells Mv rows) (hX : hget σ X = some (askP q frm to lim)) (hR : hget σ R = some (repP q .nilslice [] false)) (hZ : hget σ Z = some zeroRep) (hXR : X ≠ R) (hZR : Z ≠ R) (hHR : H ≠ R) (hMR : LvD Mv ≠ some R) (hlim : lim ≤ 1000)
    (e0 : e 0 = .ptr H off) (e4 : e 4 = .ptr X 0) (e5 : e 5 = .ptr R 0) (e6 : e 6 = .ptr Z 0) (e7 : e 7 = .str en)
    (hK : ∀ σ' Lr, (∀ j c, hget σ j = some c → j ≠ R → j ≠ Z → hget σ' j = some c) → Grow σ' Lr 2 (recC (pgRecs rows frm en lim)) → (∀ j c, hget σ j = some c → LvD Lr ≠ some j) → K (.agg (repP q Lr (pgNext rows frm en lim) (moreS (pgNext rows frm en lim) to))) σ') :
    sC noCall n0 b40_36 (unw noCall n0 (RetQ [.cN 6 8] K) .fin) e σ := by
  have hR6 : ∀ z, put (repP q .nilslice [] false) 6 [.str z] = some (repP q .nilslice z false) := fun z => rfl
  simp only [Z40, x40_34, x40_36, base1, ↓reduceIte, Nat.reduceAdd, Nat.reduceSub, Nat.reduceMul, Nat.reduceEqDiff, Nat.reduceLeDiff, Nat.reduceLT, Int.reduceLT, Int.reduceLE, Int.reduceEq, Int.reduceNe, Int.reduceToNat, Int.reduceAdd, Int.reduceSub, reduceCtorEq, Nat.reduceBEq, Nat.reduceBNe, e5, e7, hR, hR6]
  have fr : ∀ j c, hget σ j = some c → j ≠ R → hget (hset σ R (repP q .nilslice en false)) j = some c := fun j c hj hn => by rw [set_other (Ne.symm hn)]; exact hj
  refine sC_inv (a := b40_27) (pgI (hset σ R (repP q .nilslice en false)) H off X R Z q rows frm to en lim) rows.length _ _ (.refl _ _ _) ⟨0, .nilslice, Nat.zero_le _, rfl, fun _ _ h _ => h, set_same hR, .inl ⟨rfl, rfl⟩, Nat.zero_le _, fun _ _ _ => by simp [LvD], e0, e4, e5, e6, e7, rfl⟩ ?_
  have hM0 : MapAt (hset σ R (repP q .nilslice en false)) H (off + 4) cells Mv rows := ⟨fr _ _ hM.1 hHR, hM.2.1, grow_frame hM.2.2.1 fun j c hj hd => fr j c hj fun e => hMR (by rw [hd, e]), hM.2.2.2⟩
  have hX0 := fr _ _ hX hXR
  have hZ0 := fr _ _ hZ hZR
  have hR0 := set_same (c := repP q .nilslice en false) hR
  have hK0 : ∀ σ' Lr, (∀ j c, hget (hset σ R (repP q .nilslice en false)) j = some c → j ≠ R → j ≠ Z → hget σ' j = some c) → Grow σ' Lr 2 (recC (pgRecs rows frm en lim)) → (∀ j c, hget (hset σ R (repP q .nilslice en false)) j = some c → LvD Lr ≠ some j) → K (.agg (repP q Lr (pgNext rows frm en lim) (moreS (pgNext rows frm en lim) to))) σ' := by
    intro σ' Lr h1 h2 h3
    refine hK σ' Lr (fun j c hj a b => h1 j c (fr j c hj a) a b) h2 fun j c hj => ?_
    by_cases hjR : j = R
    · subst hjR; exact h3 _ _ hR0
    · exact h3 j c (fr j c hj hjR)
  generalize hset σ R (repP q .nilslice en false) = σ0 at hM0 hX0 hZ0 hR0 hK0
  clear hM hX hR hZ hK fr e0 e4 e5 e6 e7 hR6
  obtain ⟨hH, hMc, hMg, hMl⟩ := hM0
  -- what comes behind the loop
  have fin : ∀ (e : Env) (σ : AHeap) (Lr : AV) (nx : Bs), (∀ j c, hget σ0 j = some c → j ≠ R → hget σ j = some c) → hget σ R = some (repP q Lr nx false) → Grow σ Lr 2 (recC (pgRecs rows frm en lim)) → (∀ j c, hget σ0 j = some c → LvD Lr ≠ some j) → nx = pgNext rows frm en lim → e 4 = .ptr X 0 → e 5 = .ptr R 0 → e 6 = .ptr Z 0 →
      unw noCall n0 (RetQ [.cN 6 8] K) (.seq b40_34 .fin) .normal e σ := by
    intro e σ Lr nx h1 h2 h3 h4 h5 e4 e5 e6
    have hX := h1 _ _ hX0 hXR
    have hZ := h1 _ _ hZ0 hZR
    have r6 : (repP q Lr nx false)[6]? = some (.str nx) := rfl
    have a6 : (askP q frm to lim)[6]? = some (.str to) := rfl
    have r7 : ∀ z, put (repP q Lr nx false) 7 [.bool z] = some (repP q Lr nx z) := fun z => rfl
    have r8 : ∀ z, sub (repP q Lr nx z) 0 8 = some (repP q Lr nx z) := fun z => rfl
    have z8 : ∀ z, put zeroRep 0 (repP q Lr nx z) = some (repP q Lr nx z) := fun z => rfl
    have hs : ∀ z, hget (hset σ R (repP q Lr nx z)) R = some (repP q Lr nx z) := fun z => set_same h2
    have hzz : ∀ z, hget (hset σ R (repP q Lr nx z)) Z = some zeroRep := fun z => by rw [set_other (Ne.symm hZR)]; exact hZ
    have hzr : ∀ z, hget (hset (hset σ R (repP q Lr nx z)) Z (repP q Lr nx z)) Z = some (repP q Lr nx z) := fun z => set_same (hzz z)
    have out : ∀ z, z = moreS nx to → K (.agg (repP q Lr nx z)) (hset (hset σ R (repP q Lr nx z)) Z (repP q Lr nx z)) := by
      rintro z rfl
      subst h5
      have hf : ∀ j c, hget σ j = some c → j ≠ R → j ≠ Z → hget (hset (hset σ R (repP q Lr (pgNext rows frm en lim) (moreS (pgNext rows frm en lim) to))) Z (repP q Lr (pgNext rows frm en lim) (moreS (pgNext rows frm en lim) to))) j = some c := fun j c hj a b => by rw [set_other (Ne.symm b), set_other (Ne.symm a)]; exact hj
      refine hK0 _ Lr (fun j c hj a b => hf j c (h1 j c hj a) a b) (grow_frame h3 fun j c hj hd => hf j c hj (fun e => h4 R _ hR0 (by rw [hd, e])) fun e => h4 Z _ hZ0 (by rw [hd, e])) h4
    have hcl : Lr.isCell = true := grow_cell h3
    by_cases n1 : nx = []
    · subst n1
      simp only [Z40, x40_34, x40_36, base1, ↓reduceIte, Nat.reduceAdd, Nat.reduceSub, Nat.reduceMul, Nat.reduceEqDiff, Nat.reduceLeDiff, Nat.reduceLT, Int.reduceLT, Int.reduceLE, Int.reduceEq, Int.reduceNe, Int.reduceToNat, Int.reduceAdd, Int.reduceSub, reduceCtorEq, Nat.reduceBEq, Nat.reduceBNe, e4, e5, e6, h2, r6, r7, r8, z8, hs, hzz, hzr, hcl]
      exact out false rfl
    · by_cases n2 : to = []
      · subst n2
        simp only [Z40, x40_34, x40_36, base1, ↓reduceIte, Nat.reduceAdd, Nat.reduceSub, Nat.reduceMul, Nat.reduceEqDiff, Nat.reduceLeDiff, Nat.reduceLT, Int.reduceLT, Int.reduceLE, Int.reduceEq, Int.reduceNe, Int.reduceToNat, Int.reduceAdd, Int.reduceSub, reduceCtorEq, Nat.reduceBEq, Nat.reduceBNe, e4, e5, e6, h2, hX, r6, a6, r7, r8, z8, hs, hzz, hzr, hcl, n1]
        exact out true (by simp [moreS, n1])
      · cases n3 : lessBytes nx to with
        | true =>
          simp only [Z40, x40_34, x40_36, base1, ↓reduceIte, Nat.reduceAdd, Nat.reduceSub, Nat.reduceMul, Nat.reduceEqDiff, Nat.reduceLeDiff, Nat.reduceLT, Int.reduceLT, Int.reduceLE, Int.reduceEq, Int.reduceNe, Int.reduceToNat, Int.reduceAdd, Int.reduceSub, reduceCtorEq, Nat.reduceBEq, Nat.reduceBNe, e4, e5, e6, h2, hX, r6, a6, r7, r8, z8, hs, hzz, hzr, hcl, n1, n2, n3]
          exact out true (by simp [moreS, n1, n2, n3])
        | false =>
          simp only [Z40, x40_34, x40_36, base1, ↓reduceIte, Nat.reduceAdd, Nat.reduceSub, Nat.reduceMul, Nat.reduceEqDiff, Nat.reduceLeDiff, Nat.reduceLT, Int.reduceLT, Int.reduceLE, Int.reduceEq, Int.reduceNe, Int.reduceToNat, Int.reduceAdd, Int.reduceSub, reduceCtorEq, Nat.reduceBEq, Nat.reduceBNe, e4, e5, e6, h2, hX, r6, a6, r7, r8, z8, hs, hzz, hzr, hcl, n1, n2, n3]
          exact out false (by simp [moreS, n1, n2, n3])
  rintro m e σ ⟨k, Lr, hk, hm, hfr, hR, hg, hlen, hfresh, e0, e4, e5, e6, e7, e8⟩
  have hHs := hfr _ _ hH hHR
  have hwr : IntKind.wrap .i64 ((k : Int) + 1) = ((k + 1 : Nat) : Int) := by rw [Gz.wrap64 (by omega)]; omega
  have lr : (rowC rows).length = rows.length := by simp
  have hls : lenSl Mv = some rows.length := grow_lenS ⟨hMg, lr⟩
  by_cases hlt' : (k : Int) < (rows.length : Int)
  · have hlt : k < rows.length := by omega
    have hge0 : (0 : Int) ≤ (k : Int) := by omega
    obtain ⟨r, hr⟩ : ∃ r, rows[k]? = some r := ⟨_, List.getElem?_eq_getElem hlt⟩
    obtain ⟨d, rfl, hd, h3⟩ : ∃ d, Mv = .slice d 0 rows.length none 3 ∧ hget σ0 d = some (rowC rows).flatten ∧ ∀ x ∈ rowC rows, x.length = 3 := by
      rcases hMg with ⟨_, h0⟩ | ⟨d, h1, h2, h3, _⟩
      · have : rows = [] := by simpa using h0
        subst this; cases hr
      · exact ⟨d, by rw [h1, lr], h2, h3⟩
    have hds := hfr _ _ hd fun e => hMR (by rw [e]; rfl)
    have l0 : lenOf (.slice d 0 rows.length none 3) = some rows.length := rfl
    have row : (rowC rows)[k]? = some [.str r.1, .str r.2.1, .str r.2.2] := by rw [rowC, List.getElem?_map, hr]; rfl
    have c1 : sub (rowC rows).flatten (k * 3) 3 = some [.str r.1, .str r.2.1, .str r.2.2] := flat_sub (j := 0) h3 row (by decide)
    have hp2 : hget (hpush σ [.str [], .str [], .str []]) σ.length = some [.str [], .str [], .str []] := push_new rfl
    have hput : put [.str [], .str [], .str []] 0 [.str r.1, .str r.2.1, .str r.2.2] = some [.str r.1, .str r.2.1, .str r.2.2] := rfl
    have kp2 : Kp σ (hset (hpush σ [.str [], .str [], .str []]) σ.length [.str r.1, .str r.2.1, .str r.2.2]) := Kp.pushSet
    have hY : hget (hset (hpush σ [.str [], .str [], .str []]) σ.length [.str r.1, .str r.2.1, .str r.2.2]) σ.length = some [.str r.1, .str r.2.1, .str r.2.2] := set_same hp2
    have hRlt := hget_lt hR
    generalize hσ2 : hset (hpush σ [.str [], .str [], .str []]) σ.length [.str r.1, .str r.2.1, .str r.2.2] = σ2 at kp2 hY
    have hX2 := kp2 _ _ (hfr _ _ hX0 hXR)
    have hR2 := kp2 _ _ hR
    have hg2 := kp2.grow hg
    have hfr2 : ∀ j c, hget σ0 j = some c → j ≠ R → hget σ2 j = some c := fun j c hj hn => kp2 _ _ (hfr j c hj hn)
    have y0 : [AV.str r.1, .str r.2.1, .str r.2.2][0]? = some (.str r.1) := rfl
    have y12 : sub [AV.str r.1, .str r.2.1, .str r.2.2] 1 2 = some [.str r.2.1, .str r.2.2] := rfl
    have a5 : (askP q frm to lim)[5]? = some (.str frm) := rfl
    have a7 : (askP q frm to lim)[7]? = some (.int .i64 (lim : Int)) := rfl
    have r5 : (repP q Lr en false)[5]? = some Lr := rfl
    have r6 : (repP q Lr en false)[6]? = some (.str en) := rfl
    have p6 : ∀ z, put (repP q Lr en false) 6 [.str z] = some (repP q Lr z false) := fun z => rfl
    have p5 : ∀ z, put (repP q Lr en false) 5 [z] = some (repP q z en false) := fun z => rfl
    have hlL : lenSl Lr = some ((rows.take k).filter (pS frm en)).length := grow_lenS ⟨hg, by simp⟩
    have htk : rows.take (k + 1) = rows.take k ++ [r] := by rw [List.take_add_one, hr]; rfl
    have skip : pS frm en r = false → ∀ e', e' 0 = .ptr H off → e' 4 = .ptr X 0 → e' 5 = .ptr R 0 → e' 6 = .ptr Z 0 → e' 7 = .str en → e' 8 = .int .i64 ((k + 1 : Nat) : Int) → loopR noCall n0 (RetQ [.cN 6 8] K) (.block 0 (.seq b40_34 .fin)) (pgI σ0 H off X R Z q rows frm to en lim) m .normal e' σ2 := by
      intro hp e' q0 q4 q5 q6 q7 q8
      rw [loopR_normal]
      have hf : (rows.take (k + 1)).filter (pS frm en) = (rows.take k).filter (pS frm en) := by rw [htk, List.filter_append]; simp [hp]
      exact ⟨rows.length - (k + 1), _, _, by omega, .refl _ _ _, k + 1, Lr, hlt, rfl, hfr2, hR2, by rw [hf]; exact hg2, by rw [hf]; exact hlen, hfresh, q0, q4, q5, q6, q7, q8⟩
    have full : pS frm en r = true → ((rows.take k).filter (pS frm en)).length = lim → ∀ e', e' 4 = .ptr X 0 → e' 5 = .ptr R 0 → e' 6 = .ptr Z 0 → unw noCall n0 (RetQ [.cN 6 8] K) (.seq b40_34 .fin) .normal e' (hset σ2 R (repP q Lr r.1 false)) := by
      intro hp hn e' q4 q5 q6
      have hall : rows.filter (pS frm en) = (rows.take k).filter (pS frm en) ++ r :: (rows.drop (k + 1)).filter (pS frm en) := by
        have : rows = rows.take k ++ r :: rows.drop (k + 1) := by
          have h1 := (List.getElem?_eq_some_iff.1 hr).2
          rw [← h1]; simp
        conv => lhs; rw [this]
        rw [List.filter_append, List.filter_cons, if_pos hp]
      have hrec : pgRecs rows frm en lim = ((rows.take k).filter (pS frm en)).map fun r => r.2 := by
        unfold pgRecs
        rw [hall, List.take_append_of_le_length (by omega), List.take_of_length_le (by omega)]
      refine fin e' _ Lr r.1 (fun j c hj hn => by rw [set_other (Ne.symm hn)]; exact hfr2 j c hj hn) (set_same hR2) ?_ hfresh ?_ q4 q5 q6
      · rw [hrec]
        exact grow_frame hg2 fun j c hj hd => by rw [set_other (fun e => hfresh R _ hR0 (by rw [hd, e]))]; exact hj
      · unfold pgNext
        rw [hall, List.getElem?_append_right (by omega), hn, Nat.sub_self]; rfl
    obtain ⟨v, τ, b1, b2, b3, b4, b5⟩ := grow_one (b := 32) (by decide) hg2 (by simp; omega) [.str r.2.1, .str r.2.2] rfl rfl
    have hτR := (b4 _ _ hR2 (hfresh _ _ hR0)).1
    have more : pS frm en r = true → ((rows.take k).filter (pS frm en)).length ≠ lim → ∀ e', e' 0 = .ptr H off → e' 4 = .ptr X 0 → e' 5 = .ptr R 0 → e' 6 = .ptr Z 0 → e' 7 = .str en → e' 8 = .int .i64 ((k + 1 : Nat) : Int) → loopR noCall n0 (RetQ [.cN 6 8] K) (.block 0 (.seq b40_34 .fin)) (pgI σ0 H off X R Z q rows frm to en lim) m .normal e' (hset τ R (repP q v en false)) := by
      intro hp hn e' q0 q4 q5 q6 q7 q8
      rw [loopR_normal]
      have hf : (rows.take (k + 1)).filter (pS frm en) = (rows.take k).filter (pS frm en) ++ [r] := by rw [htk, List.filter_append]; simp [hp]
      refine ⟨rows.length - (k + 1), _, _, by omega, .refl _ _ _, k + 1, v, hlt, rfl, fun j c hj hn => ?_, set_same hτR, ?_, by rw [hf]; simp; omega, fun j c hj => ?_, q0, q4, q5, q6, q7, q8⟩
      · rw [set_other (Ne.symm hn)]
        exact (b4 _ _ (hfr2 j c hj hn) (hfresh _ _ hj)).1
      · rw [hf, List.map_append, recC, List.map_append]
        exact grow_frame b5 fun j c hj hd => by rw [set_other (fun e => (b4 _ _ hR2 (hfresh _ _ hR0)).2 (by rw [hd, e]))]; exact hj
      · by_cases hjR : j = R
        · subst hjR; exact (b4 _ _ hR2 (hfresh _ _ hR0)).2
        · exact (b4 _ _ (hfr2 j c hj hjR) (hfresh _ _ hj)).2
    have cls : lessBytes r.1 frm = true ∨ (lessBytes r.1 frm = false ∧ en ≠ [] ∧ lessBytes r.1 en = false) ∨ (lessBytes r.1 frm = false ∧ en = []) ∨ (lessBytes r.1 frm = false ∧ en ≠ [] ∧ lessBytes r.1 en = true) := by
      cases lessBytes r.1 frm <;> cases lessBytes r.1 en <;> by_cases h : en = [] <;> simp [h]
    have nn : ((((rows.take k).filter (pS frm en)).length : Int) = (lim : Int)) ∨ ¬ ((((rows.take k).filter (pS frm en)).length : Int) = (lim : Int)) := Classical.em _
    rcases cls with g1 | ⟨g1, g2, g3⟩ | ⟨g1, rfl⟩ | ⟨g1, g2, g3⟩
    · simp only [Z40, x40_36, base1, ↓reduceIte, Nat.reduceAdd, Nat.reduceSub, Nat.reduceMul, Nat.reduceEqDiff, Nat.reduceLeDiff, Nat.reduceLT, Int.reduceLT, Int.reduceLE, Int.reduceEq, Int.reduceNe, Int.reduceToNat, Int.reduceAdd, Int.reduceSub, reduceCtorEq, Nat.reduceBEq, Nat.reduceBNe, loopR_exit, loopR_ret, e0, e4, e5, e6, e7, e8, hHs, hMc, l0, hlt', hlt, hge0, Int.toNat_natCast, hds, c1, hp2, hput, hσ2, hY, hX2, hR2, y0, y12, a5, a7, r5, r6, g1, hwr]
      exact skip (by simp [pS, g1]) _ e0 e4 e5 e6 e7 rfl
    · simp only [Z40, x40_36, base1, ↓reduceIte, Nat.reduceAdd, Nat.reduceSub, Nat.reduceMul, Nat.reduceEqDiff, Nat.reduceLeDiff, Nat.reduceLT, Int.reduceLT, Int.reduceLE, Int.reduceEq, Int.reduceNe, Int.reduceToNat, Int.reduceAdd, Int.reduceSub, reduceCtorEq, Nat.reduceBEq, Nat.reduceBNe, loopR_exit, loopR_ret, e0, e4, e5, e6, e7, e8, hHs, hMc, l0, hlt', hlt, hge0, Int.toNat_natCast, hds, c1, hp2, hput, hσ2, hY, hX2, hR2, y0, y12, a5, a7, r5, r6, g1, g2, g3, hwr]
      exact skip (by simp [pS, g1, g2, g3]) _ e0 e4 e5 e6 e7 rfl
    · have hp : pS frm [] r = true := by simp [pS, g1]
      rcases nn with n | n
      · simp only [Z40, x40_36, base1, ↓reduceIte, Nat.reduceAdd, Nat.reduceSub, Nat.reduceMul, Nat.reduceEqDiff, Nat.reduceLeDiff, Nat.reduceLT, Int.reduceLT, Int.reduceLE, Int.reduceEq, Int.reduceNe, Int.reduceToNat, Int.reduceAdd, Int.reduceSub, reduceCtorEq, Nat.reduceBEq, Nat.reduceBNe, loopR_exit, loopR_ret, e0, e4, e5, e6, e7, e8, hHs, hMc, l0, hlt', hlt, hge0, Int.toNat_natCast, hds, c1, hp2, hput, hσ2, hY, hX2, hR2, y0, y12, a5, a7, r5, r6, p6, hlL, Option.map_some, n, g1, hwr]
        exact full hp (by omega) _ e4 e5 e6
      · simp only [Z40, x40_36, base1, ↓reduceIte, Nat.reduceAdd, Nat.reduceSub, Nat.reduceMul, Nat.reduceEqDiff, Nat.reduceLeDiff, Nat.reduceLT, Int.reduceLT, Int.reduceLE, Int.reduceEq, Int.reduceNe, Int.reduceToNat, Int.reduceAdd, Int.reduceSub, reduceCtorEq, Nat.reduceBEq, Nat.reduceBNe, loopR_exit, loopR_ret, e0, e4, e5, e6, e7, e8, hHs, hMc, l0, hlt', hlt, hge0, Int.toNat_natCast, hds, c1, hp2, hput, hσ2, hY, hX2, hR2, y0, y12, a5, a7, r5, r6, p5, hlL, Option.map_some, n, g1, b1, b2, b3, hτR, hwr]
        exact more hp (by omega) _ e0 e4 e5 e6 e7 rfl
    · have hp : pS frm en r = true := by simp [pS, g1, g2, g3]
      rcases nn with n | n
      · simp only [Z40, x40_36, base1, ↓reduceIte, Nat.reduceAdd, Nat.reduceSub, Nat.reduceMul, Nat.reduceEqDiff, Nat.reduceLeDiff, Nat.reduceLT, Int.reduceLT, Int.reduceLE, Int.reduceEq, Int.reduceNe, Int.reduceToNat, Int.reduceAdd, Int.reduceSub, reduceCtorEq, Nat.reduceBEq, Nat.reduceBNe, loopR_exit, loopR_ret, e0, e4, e5, e6, e7, e8, hHs, hMc, l0, hlt', hlt, hge0, Int.toNat_natCast, hds, c1, hp2, hput, hσ2, hY, hX2, hR2, y0, y12, a5, a7, r5, r6, p6, hlL, Option.map_some, n, g1, g2, g3, hwr]
        exact full hp (by omega) _ e4 e5 e6
      · simp only [Z40, x40_36, base1, ↓reduceIte, Nat.reduceAdd, Nat.reduceSub, Nat.reduceMul, Nat.reduceEqDiff, Nat.reduceLeDiff, Nat.reduceLT, Int.reduceLT, Int.reduceLE, Int.reduceEq, Int.reduceNe, Int.reduceToNat, Int.reduceAdd, Int.reduceSub, reduceCtorEq, Nat.reduceBEq, Nat.reduceBNe, loopR_exit, loopR_ret, e0, e4, e5, e6, e7, e8, hHs, hMc, l0, hlt', hlt, hge0, Int.toNat_natCast, hds, c1, hp2, hput, hσ2, hY, hX2, hR2, y0, y12, a5, a7, r5, r6, p5, hlL, Option.map_some, n, g1, g2, g3, b1, b2, b3, hτR, hwr]
        exact more hp (by omega) _ e0 e4 e5 e6 e7 rfl
  · have hke : k = rows.length := by omega
    subst hke
    rw [List.take_length] at hg hlen
    simp only [Z40, x40_36, base1, ↓reduceIte, Nat.reduceAdd, Nat.reduceSub, Nat.reduceMul, Nat.reduceEqDiff, Nat.reduceLeDiff, Nat.reduceLT, Int.reduceLT, Int.reduceLE, Int.reduceEq, Int.reduceNe, Int.reduceToNat, Int.reduceAdd, Int.reduceSub, reduceCtorEq, Nat.reduceBEq, Nat.reduceBNe, loopR_exit, loopR_ret, e0, e4, e5, e6, e7, e8, hHs, hMc, hls, Option.map_some, hlt']
    refine fin _ _ Lr en hfr hR ?_ hfresh ?_ e4 e5 e6
    · unfold pgRecs
      rw [List.take_of_length_le hlen]; exact hg
    · unfold pgNext
      rw [List.getElem?_eq_none hlen]
theorem pageD_ok (args : List AV) (σ : AHeap) (K : AV → AHeap → Prop) (h : pageD args σ K) : Tri Try.prog 40 args σ K := by
  obtain ⟨H, off, cells, Mv, rows, hto, frm, to, q, lim, rfl, hM, hc1, hlim, h⟩ := h
  refine Tri.of_s c40 (noCall_sound _) ?_
  simp only [Z40, x40_34, base1, ↓reduceIte, Nat.reduceAdd, Nat.reduceSub, Nat.reduceMul, Nat.reduceEqDiff, Nat.reduceLeDiff, Nat.reduceLT, Int.reduceLT, Int.reduceLE, Int.reduceEq, Int.reduceNe, Int.reduceToNat, Int.reduceAdd, Int.reduceSub, reduceCtorEq, Nat.reduceBEq, Nat.reduceBNe]
  have z0 : zeroRep = [.int .i64 0, .int .i64 0, .int .i64 0, .bool false, .str [], .nilslice, .str [], .bool false] := rfl
  have kp1 : Kp σ (hpush σ (askP q frm to lim)) := Kp.push
  have kp2 : Kp (hpush σ (askP q frm to lim)) (hpush (hpush σ (askP q frm to lim)) (repP q .nilslice [] false)) := Kp.push
  have kp3 : Kp (hpush (hpush σ (askP q frm to lim)) (repP q .nilslice [] false)) (hpush (hpush (hpush σ (askP q frm to lim)) (repP q .nilslice [] false)) zeroRep) := Kp.push
  have hX1 := push_new (σ := σ) (c := askP q frm to lim) rfl
  have hR2 := push_new (σ := hpush σ (askP q frm to lim)) (c := repP q .nilslice [] false) rfl
  have hZ3 := push_new (σ := hpush (hpush σ (askP q frm to lim)) (repP q .nilslice [] false)) (c := zeroRep) rfl
  have hX3 := kp3 _ _ (kp2 _ _ hX1)
  have hR3 := kp3 _ _ hR2
  have k03 := kp1.trans (kp2.trans kp3)
  have nXR : σ.length ≠ (hpush σ (askP q frm to lim)).length := by rw [push_len]; omega
  have nZR : (hpush (hpush σ (askP q frm to lim)) (repP q .nilslice [] false)).length ≠ (hpush σ (askP q frm to lim)).length := by rw [push_len, push_len]; omega
  have oR : ∀ j c, hget σ j = some c → j ≠ (hpush σ (askP q frm to lim)).length := fun j c hj => by have := hget_lt hj; rw [push_len]; omega
  have oZ : ∀ j c, hget σ j = some c → j ≠ (hpush (hpush σ (askP q frm to lim)) (repP q .nilslice [] false)).length := fun j c hj => by have := hget_lt hj; rw [push_len, push_len]; omega
  clear kp1 kp2 kp3 hX1 hR2
  rw [z0] at k03 hX3 hR3 hZ3
  generalize hσ3 : hpush (hpush (hpush σ (askP q frm to lim)) (repP q .nilslice [] false)) [.int .i64 0, .int .i64 0, .int .i64 0, .bool false, .str [], .nilslice, .str [], .bool false] = σ3 at k03 hX3 hR3 hZ3 ⊢
  generalize (hpush (hpush σ (askP q frm to lim)) (repP q .nilslice [] false)).length = Z at hZ3 nZR oZ ⊢
  generalize (hpush σ (askP q frm to lim)).length = R at hR3 nXR nZR oR ⊢
  have hM3 := k03.map hM
  have hMR : LvD Mv ≠ some R := fun hd => by
    rcases hM.2.2.1 with ⟨h1, _⟩ | ⟨d, h1, h2, _⟩
    · rw [h1] at hd; cases hd
    · rw [h1] at hd; cases hd; exact oR _ _ h2 rfl
  have rest : ∀ e : Env, e 0 = .ptr H off → e 4 = .ptr σ.length 0 → e 5 = .ptr R 0 → e 6 = .ptr Z 0 → e 7 = .str (endS to hto) → sC noCall σ.length b40_36 (unw noCall σ.length (RetQ [.cN 6 8] K) .fin) e σ3 :=
    fun e e0 e4 e5 e6 e7 => page_rest (nx0 := []) hM3 hX3 hR3 hZ3 nXR nZR (oR _ _ hM.1) hMR hlim e0 e4 e5 e6 e7 fun σ' Lr h1 h2 h3 => h σ' Lr (fun j c hj => h1 j c (k03 _ _ hj) (oR j c hj) (oZ j c hj)) h2 fun j c hj => h3 j c (k03 _ _ hj)
  have hH3 := hM3.1
  have a6 : (askP q frm to lim)[6]? = some (.str to) := rfl
  by_cases n1 : to = []
  · simp only [Z40, x40_34, base1, ↓reduceIte, Nat.reduceAdd, Nat.reduceSub, Nat.reduceMul, Nat.reduceEqDiff, Nat.reduceLeDiff, Nat.reduceLT, Int.reduceLT, Int.reduceLE, Int.reduceEq, Int.reduceNe, Int.reduceToNat, Int.reduceAdd, Int.reduceSub, reduceCtorEq, Nat.reduceBEq, Nat.reduceBNe, hH3, hc1, hX3, a6, n1]
    exact rest _ rfl rfl rfl rfl (by rw [show endS to hto = hto from by simp [endS, n1]]; rfl)
  · by_cases n2 : hto = []
    · simp only [Z40, x40_34, base1, ↓reduceIte, Nat.reduceAdd, Nat.reduceSub, Nat.reduceMul, Nat.reduceEqDiff, Nat.reduceLeDiff, Nat.reduceLT, Int.reduceLT, Int.reduceLE, Int.reduceEq, Int.reduceNe, Int.reduceToNat, Int.reduceAdd, Int.reduceSub, reduceCtorEq, Nat.reduceBEq, Nat.reduceBNe, hH3, hc1, hX3, a6, n1, n2]
      exact rest _ rfl rfl rfl rfl (by rw [show endS to hto = to from by simp [endS, n1, n2]]; rfl)
    · cases n3 : lessBytes to hto with
      | true =>
        simp only [Z40, x40_34, base1, ↓reduceIte, Nat.reduceAdd, Nat.reduceSub, Nat.reduceMul, Nat.reduceEqDiff, Nat.reduceLeDiff, Nat.reduceLT, Int.reduceLT, Int.reduceLE, Int.reduceEq, Int.reduceNe, Int.reduceToNat, Int.reduceAdd, Int.reduceSub, reduceCtorEq, Nat.reduceBEq, Nat.reduceBNe, hH3, hc1, hX3, a6, n1, n2, n3]
        exact rest _ rfl rfl rfl rfl (by rw [show endS to hto = to from by simp [endS, n1, n2, n3]]; rfl)
      | false =>
        simp only [Z40, x40_34, base1, ↓reduceIte, Nat.reduceAdd, Nat.reduceSub, Nat.reduceMul, Nat.reduceEqDiff, Nat.reduceLeDiff, Nat.reduceLT, Int.reduceLT, Int.reduceLE, Int.reduceEq, Int.reduceNe, Int.reduceToNat, Int.reduceAdd, Int.reduceSub, reduceCtorEq, Nat.reduceBEq, Nat.reduceBNe, hH3, hc1, hX3, a6, n1, n2, n3]
        exact rest _ rfl rfl rfl rfl (by rw [show endS to hto = hto from by simp [endS, n1, n2, n3]]; rfl)
end Go.Proofs.Ytmjnmnhpmbbmgaa.tour
