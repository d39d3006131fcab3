/- The reference's answer which notes may be: where it says yes the program says so. No condition. -/
import Derived.Test.YtndlgmciplckjaaNSizes
import Derived.Test.YtndlgmciplckjaaK34
import Derived.Test.YtndlgmciplckjaaNWrit
import Derived.Test.YtndlgmciplckjaaNRefAt
set_option linter.unusedVariables false
set_option linter.unusedSimpArgs false
namespace Go.Proofs.Ytndlgmciplckjaa.note
open Go.ChangeShapes Go.WideShapes Go.ChangeAt Go.RowKit Go.Gz
abbrev r17_0 : List MOper := [⟨(some 1), .box (.t 0), none⟩,
  ⟨(some 2), .move (.c (.bool false)), none⟩]
def b17_0 : SCode := .region r17_0
abbrev r17_1 : List MOper := [⟨(some 16), .fieldAddr 0 (.t 1), none⟩,
  ⟨(some 17), .load1 (.t 16), none⟩,
  ⟨(some 18), .bin .lss .num (.t 17) (.c (.int .i64 1)), none⟩,
  ⟨(some 19), .move (.t 18), none⟩,
  ⟨(some 20), .fieldAddr 0 (.t 1), (some (19, false))⟩,
  ⟨(some 21), .load1 (.t 20), (some (19, false))⟩,
  ⟨(some 22), .bin .gtr .num (.t 21) (.c (.int .i64 12)), (some (19, false))⟩,
  ⟨(some 23), .pick (.t 19) (.c (.bool true)) (.t 22), none⟩,
  ⟨(some 24), .move (.t 23), none⟩,
  ⟨(some 25), .fieldAddr 1 (.t 1), (some (24, false))⟩,
  ⟨(some 26), .load1 (.t 25), (some (24, false))⟩,
  ⟨(some 27), .call 48 [(.t 26)], (some (24, false))⟩,
  ⟨(some 28), .un .not (.t 27), (some (24, false))⟩,
  ⟨(some 29), .pick (.t 24) (.c (.bool true)) (.t 28), none⟩,
  ⟨(some 30), .move (.t 29), none⟩,
  ⟨(some 31), .fieldAddr 2 (.t 1), (some (30, false))⟩,
  ⟨(some 32), .load1 (.t 31), (some (30, false))⟩,
  ⟨(some 33), .call 48 [(.t 32)], (some (30, false))⟩,
  ⟨(some 34), .un .not (.t 33), (some (30, false))⟩,
  ⟨(some 35), .pick (.t 30) (.c (.bool true)) (.t 34), none⟩,
  ⟨(some 36), .move (.t 35), none⟩,
  ⟨(some 37), .fieldAddr 1 (.t 1), (some (36, false))⟩,
  ⟨(some 38), .load1 (.t 37), (some (36, false))⟩,
  ⟨(some 39), .fieldAddr 2 (.t 1), (some (36, false))⟩,
  ⟨(some 40), .load1 (.t 39), (some (36, false))⟩,
  ⟨(some 41), .bin .eql .num (.t 38) (.t 40), (some (36, false))⟩,
  ⟨(some 42), .pick (.t 36) (.c (.bool true)) (.t 41), none⟩,
  ⟨(some 43), .move (.t 42), none⟩,
  ⟨(some 44), .fieldAddr 3 (.t 1), (some (43, false))⟩,
  ⟨(some 45), .load1 (.t 44), (some (43, false))⟩,
  ⟨(some 46), .bin .lss .num (.t 45) (.c (.int .i64 0)), (some (43, false))⟩,
  ⟨(some 47), .pick (.t 43) (.c (.bool true)) (.t 46), none⟩,
  ⟨(some 48), .move (.t 47), none⟩,
  ⟨(some 49), .fieldAddr 3 (.t 1), (some (48, false))⟩,
  ⟨(some 50), .load1 (.t 49), (some (48, false))⟩,
  ⟨(some 51), .bin .geq .num (.t 50) (.c (.int .i64 268435456)), (some (48, false))⟩,
  ⟨(some 52), .pick (.t 48) (.c (.bool true)) (.t 51), none⟩,
  ⟨(some 53), .move (.t 52), none⟩,
  ⟨(some 54), .fieldAddr 4 (.t 1), (some (53, false))⟩,
  ⟨(some 55), .load1 (.t 54), (some (53, false))⟩,
  ⟨(some 56), .bin .lss .num (.t 55) (.c (.int .i64 0)), (some (53, false))⟩,
  ⟨(some 57), .pick (.t 53) (.c (.bool true)) (.t 56), none⟩,
  ⟨(some 58), .move (.t 57), none⟩,
  ⟨(some 59), .fieldAddr 4 (.t 1), (some (58, false))⟩,
  ⟨(some 60), .load1 (.t 59), (some (58, false))⟩,
  ⟨(some 61), .bin .geq .num (.t 60) (.c (.int .i64 268435456)), (some (58, false))⟩,
  ⟨(some 62), .pick (.t 58) (.c (.bool true)) (.t 61), none⟩]
def b17_1 : SCode := .region r17_1
abbrev r17_2 : List MOper := [⟨(some 2), .move (.c (.bool false)), none⟩]
def b17_2 : SCode := .region r17_2
def b17_3 : SCode := .seq b17_2 .ret
def b17_4 : SCode := .cond (.t 62) b17_3 .skip
def b17_5 : SCode := .seq b17_1 b17_4
abbrev t17_6 : LTree := (.quiet ⟨(some 63), .fieldAddr 0 (.t 1), none⟩ 0
  (.quiet ⟨(some 64), .load1 (.t 63), none⟩ 1
  (.quiet ⟨(some 65), .bin .eql .num (.t 64) (.c (.int .i64 1)), none⟩ 2
  (.quiet ⟨(some 66), .fieldAddr 0 (.t 1), none⟩ 3
  (.quiet ⟨(some 67), .load1 (.t 66), none⟩ 4
  (.quiet ⟨(some 68), .bin .eql .num (.t 67) (.c (.int .i64 2)), none⟩ 5
  (.quiet ⟨(some 69), .fieldAddr 0 (.t 1), none⟩ 6
  (.quiet ⟨(some 70), .load1 (.t 69), none⟩ 7
  (.quiet ⟨(some 71), .bin .eql .num (.t 70) (.c (.int .i64 5)), none⟩ 8
  (.quiet ⟨(some 72), .move (.t 71), none⟩ 9
  (.quiet ⟨(some 73), .fieldAddr 0 (.t 1), (some (72, false))⟩ 10
  (.quiet ⟨(some 74), .load1 (.t 73), (some (72, false))⟩ 11
  (.quiet ⟨(some 75), .bin .eql .num (.t 74) (.c (.int .i64 6)), (some (72, false))⟩ 12
  (.quiet ⟨(some 76), .pick (.t 72) (.c (.bool true)) (.t 75), none⟩ 13
  (.quiet ⟨(some 77), .fieldAddr 0 (.t 1), none⟩ 14
  (.quiet ⟨(some 78), .load1 (.t 77), none⟩ 15
  (.quiet ⟨(some 79), .bin .geq .num (.t 78) (.c (.int .i64 7)), none⟩ 16
  (.quiet ⟨(some 80), .fieldAddr 0 (.t 1), none⟩ 17
  (.quiet ⟨(some 81), .load1 (.t 80), none⟩ 18
  (.quiet ⟨(some 82), .bin .eql .num (.t 81) (.c (.int .i64 8)), none⟩ 19
  (.quiet ⟨(some 83), .move (.t 82), none⟩ 20
  (.quiet ⟨(some 84), .fieldAddr 0 (.t 1), (some (83, false))⟩ 21
  (.quiet ⟨(some 85), .load1 (.t 84), (some (83, false))⟩ 22
  (.quiet ⟨(some 86), .bin .eql .num (.t 85) (.c (.int .i64 9)), (some (83, false))⟩ 23
  (.quiet ⟨(some 87), .pick (.t 83) (.c (.bool true)) (.t 86), none⟩ 24
  (.quiet ⟨(some 88), .fieldAddr 0 (.t 1), none⟩ 25
  (.quiet ⟨(some 89), .load1 (.t 88), none⟩ 26
  (.quiet ⟨(some 90), .bin .eql .num (.t 89) (.c (.int .i64 4)), none⟩ 27
  (.quiet ⟨(some 91), .move (.t 90), none⟩ 28
  (.quiet ⟨(some 92), .fieldAddr 0 (.t 1), (some (91, false))⟩ 29
  (.quiet ⟨(some 93), .load1 (.t 92), (some (91, false))⟩ 30
  (.quiet ⟨(some 94), .bin .eql .num (.t 93) (.c (.int .i64 6)), (some (91, false))⟩ 31
  (.quiet ⟨(some 95), .pick (.t 91) (.c (.bool true)) (.t 94), none⟩ 32
  (.quiet ⟨(some 3), .move (.t 65), none⟩ 33
  (.quiet ⟨(some 4), .move (.t 68), none⟩ 34
  (.quiet ⟨(some 5), .move (.t 76), none⟩ 35
  (.quiet ⟨(some 6), .move (.t 79), none⟩ 36
  (.quiet ⟨(some 7), .move (.t 87), none⟩ 37
  (.quiet ⟨(some 8), .move (.t 95), none⟩ 38
  .leaf)))))))))))))))))))))))))))))))))))))))
def b17_6 : SCode := .draw t17_6
abbrev r17_7 : List MOper := [⟨(some 96), .move (.t 3), none⟩,
  ⟨(some 97), .un .not (.t 96), none⟩,
  ⟨(some 98), .move (.t 97), none⟩,
  ⟨(some 99), .fieldAddr 5 (.t 1), (some (98, true))⟩,
  ⟨(some 100), .loadN 8 (.t 99), (some (98, true))⟩,
  ⟨(some 101), .build [.int .i64 0, .int .i64 0, .int .i64 0, .str [], .str [], .str [], .str [], .int .i64 0] [], (some (98, true))⟩,
  ⟨(some 102), .bin .neq (.flat [.i, .i, .i, .s, .s, .s, .s, .i]) (.t 100) (.t 101), (some (98, true))⟩,
  ⟨(some 103), .pick (.t 98) (.t 102) (.c (.bool false)), none⟩,
  ⟨(some 104), .move (.t 103), none⟩,
  ⟨(some 105), .move (.t 4), (some (104, false))⟩,
  ⟨(some 106), .un .not (.t 105), (some (104, false))⟩,
  ⟨(some 107), .move (.t 106), (some (104, false))⟩,
  ⟨(some 108), .fieldAddr 13 (.t 1), (some (107, true))⟩,
  ⟨(some 109), .loadN 8 (.t 108), (some (107, true))⟩,
  ⟨(some 110), .build [.int .i64 0, .int .i64 0, .int .i64 0, .bool false, .str [], .nilslice, .str [], .bool false] [], (some (107, true))⟩,
  ⟨(some 111), .call 43 [(.t 109), (.t 110)], (some (107, true))⟩,
  ⟨(some 112), .un .not (.t 111), (some (107, true))⟩,
  ⟨(some 113), .pick (.t 107) (.t 112) (.c (.bool false)), (some (104, false))⟩,
  ⟨(some 114), .pick (.t 104) (.c (.bool true)) (.t 113), none⟩,
  ⟨(some 115), .move (.t 114), none⟩,
  ⟨(some 116), .move (.t 5), (some (115, false))⟩,
  ⟨(some 117), .un .not (.t 116), (some (115, false))⟩,
  ⟨(some 118), .move (.t 117), (some (115, false))⟩,
  ⟨(some 119), .fieldAddr 4 (.t 1), (some (118, true))⟩,
  ⟨(some 120), .load1 (.t 119), (some (118, true))⟩,
  ⟨(some 121), .bin .neq .num (.t 120) (.c (.int .i64 0)), (some (118, true))⟩,
  ⟨(some 122), .pick (.t 118) (.t 121) (.c (.bool false)), (some (115, false))⟩,
  ⟨(some 123), .pick (.t 115) (.c (.bool true)) (.t 122), none⟩,
  ⟨(some 124), .move (.t 123), none⟩,
  ⟨(some 125), .move (.t 6), (some (124, false))⟩,
  ⟨(some 126), .un .not (.t 125), (some (124, false))⟩,
  ⟨(some 127), .move (.t 126), (some (124, false))⟩,
  ⟨(some 128), .fieldAddr 21 (.t 1), (some (127, true))⟩,
  ⟨(some 129), .loadN 2 (.t 128), (some (127, true))⟩,
  ⟨(some 130), .build [.str [], .str []] [], (some (127, true))⟩,
  ⟨(some 131), .bin .neq (.flat [.s, .s]) (.t 129) (.t 130), (some (127, true))⟩,
  ⟨(some 132), .move (.t 131), (some (127, true))⟩,
  ⟨(some 133), .fieldAddr 3 (.t 1), (some (132, false))⟩,
  ⟨(some 134), .load1 (.t 133), (some (132, false))⟩,
  ⟨(some 135), .bin .neq .num (.t 134) (.c (.int .i64 0)), (some (132, false))⟩,
  ⟨(some 136), .pick (.t 132) (.c (.bool true)) (.t 135), (some (127, true))⟩,
  ⟨(some 137), .pick (.t 127) (.t 136) (.c (.bool false)), (some (124, false))⟩,
  ⟨(some 138), .pick (.t 124) (.c (.bool true)) (.t 137), none⟩,
  ⟨(some 139), .move (.t 138), none⟩,
  ⟨(some 140), .move (.t 7), (some (139, false))⟩,
  ⟨(some 141), .un .not (.t 140), (some (139, false))⟩,
  ⟨(some 142), .move (.t 141), (some (139, false))⟩,
  ⟨(some 143), .fieldAddr 23 (.t 1), (some (142, true))⟩,
  ⟨(some 144), .load1 (.t 143), (some (142, true))⟩,
  ⟨(some 145), .lenSl (.t 144), (some (142, true))⟩,
  ⟨(some 146), .bin .gtr .num (.t 145) (.c (.int .i64 0)), (some (142, true))⟩,
  ⟨(some 147), .move (.t 146), (some (142, true))⟩,
  ⟨(some 148), .fieldAddr 24 (.t 1), (some (147, false))⟩,
  ⟨(some 149), .load1 (.t 148), (some (147, false))⟩,
  ⟨(some 150), .lenSl (.t 149), (some (147, false))⟩,
  ⟨(some 151), .bin .gtr .num (.t 150) (.c (.int .i64 0)), (some (147, false))⟩,
  ⟨(some 152), .pick (.t 147) (.c (.bool true)) (.t 151), (some (142, true))⟩,
  ⟨(some 153), .pick (.t 142) (.t 152) (.c (.bool false)), (some (139, false))⟩,
  ⟨(some 154), .pick (.t 139) (.c (.bool true)) (.t 153), none⟩,
  ⟨(some 155), .move (.t 154), none⟩,
  ⟨(some 156), .move (.t 8), (some (155, false))⟩,
  ⟨(some 157), .un .not (.t 156), (some (155, false))⟩,
  ⟨(some 158), .move (.t 157), (some (155, false))⟩,
  ⟨(some 159), .fieldAddr 25 (.t 1), (some (158, true))⟩,
  ⟨(some 160), .fieldAddr 0 (.t 159), (some (158, true))⟩,
  ⟨(some 161), .load1 (.t 160), (some (158, true))⟩,
  ⟨(some 162), .bin .neq .num (.t 161) (.c (.int .i64 0)), (some (158, true))⟩,
  ⟨(some 163), .move (.t 162), (some (158, true))⟩,
  ⟨(some 164), .fieldAddr 25 (.t 1), (some (163, false))⟩,
  ⟨(some 165), .fieldAddr 1 (.t 164), (some (163, false))⟩,
  ⟨(some 166), .load1 (.t 165), (some (163, false))⟩,
  ⟨(some 167), .lenSl (.t 166), (some (163, false))⟩,
  ⟨(some 168), .bin .gtr .num (.t 167) (.c (.int .i64 0)), (some (163, false))⟩,
  ⟨(some 169), .pick (.t 163) (.c (.bool true)) (.t 168), (some (158, true))⟩,
  ⟨(some 170), .pick (.t 158) (.t 169) (.c (.bool false)), (some (155, false))⟩,
  ⟨(some 171), .pick (.t 155) (.c (.bool true)) (.t 170), none⟩]
def b17_7 : SCode := .region r17_7
abbrev r17_8 : List MOper := [⟨(some 2), .move (.c (.bool false)), none⟩]
def b17_8 : SCode := .region r17_8
def b17_9 : SCode := .seq b17_8 .ret
def b17_10 : SCode := .cond (.t 171) b17_9 .skip
def b17_11 : SCode := .seq b17_7 b17_10
abbrev r17_12 : List MOper := [⟨(some 173), .fieldAddr 5 (.t 1), none⟩,
  ⟨(some 174), .loadN 8 (.t 173), none⟩,
  ⟨(some 175), .call 49 [(.t 174)], none⟩,
  ⟨(some 172), .move (.t 175), none⟩,
  ⟨(some 176), .extract (.t 172) 0, none⟩,
  ⟨(some 177), .extract (.t 172) 1, none⟩,
  ⟨(some 9), .move (.t 176), none⟩,
  ⟨(some 10), .move (.t 177), none⟩]
def b17_12 : SCode := .region r17_12
abbrev r17_13 : List MOper := [⟨(some 179), .fieldAddr 13 (.t 1), none⟩,
  ⟨(some 180), .loadN 8 (.t 179), none⟩,
  ⟨(some 181), .call 50 [(.t 180)], none⟩,
  ⟨(some 178), .move (.t 181), none⟩,
  ⟨(some 182), .extract (.t 178) 0, none⟩,
  ⟨(some 183), .extract (.t 178) 1, none⟩,
  ⟨(some 11), .move (.t 182), none⟩,
  ⟨(some 12), .move (.t 183), none⟩]
def b17_13 : SCode := .region r17_13
abbrev r17_14 : List MOper := [⟨(some 13), .move (.c (.int .i64 0)), none⟩]
def b17_14 : SCode := .region r17_14
abbrev r17_15 : List MOper := [⟨(some 184), .move (.t 13), none⟩,
  ⟨(some 185), .fieldAddr 24 (.t 1), none⟩,
  ⟨(some 186), .load1 (.t 185), none⟩,
  ⟨(some 187), .lenSl (.t 186), none⟩,
  ⟨(some 188), .bin .lss .num (.t 184) (.t 187), none⟩]
def b17_15 : SCode := .region r17_15
def b17_16 : SCode := .cond (.t 188) .skip (.exit 0)
def b17_17 : SCode := .seq b17_15 b17_16
abbrev r17_18 : List MOper := [⟨(some 192), .fieldAddr 24 (.t 1), none⟩,
  ⟨(some 193), .load1 (.t 192), none⟩,
  ⟨(some 194), .move (.t 13), none⟩,
  ⟨(some 195), .indexAddr 8 (.t 193) (.t 194), none⟩,
  ⟨(some 196), .loadN 8 (.t 195), none⟩,
  ⟨(some 197), .call 50 [(.t 196)], none⟩,
  ⟨(some 191), .move (.t 197), none⟩,
  ⟨(some 198), .extract (.t 191) 0, none⟩,
  ⟨(some 199), .extract (.t 191) 1, none⟩,
  ⟨(some 14), .move (.t 198), none⟩,
  ⟨(some 15), .move (.t 199), none⟩]
def b17_18 : SCode := .region r17_18
abbrev r17_19 : List MOper := [⟨(some 200), .move (.t 12), none⟩,
  ⟨(some 201), .move (.t 15), none⟩,
  ⟨(some 202), .bin .add .num (.t 200) (.t 201), none⟩,
  ⟨(some 12), .move (.t 202), none⟩]
def b17_19 : SCode := .region r17_19
def b17_20 : SCode := .seq b17_18 b17_19
def b17_21 : SCode := .block 1 b17_20
abbrev r17_22 : List MOper := [⟨(some 189), .move (.t 13), none⟩,
  ⟨(some 190), .bin .add .num (.t 189) (.c (.int .i64 1)), none⟩,
  ⟨(some 13), .move (.t 190), none⟩]
def b17_22 : SCode := .region r17_22
def b17_23 : SCode := .seq b17_21 b17_22
def b17_24 : SCode := .seq b17_17 b17_23
def b17_25 : SCode := .loop b17_24
def b17_26 : SCode := .block 0 b17_25
def b17_27 : SCode := .seq b17_14 b17_26
abbrev r17_28 : List MOper := [⟨(some 203), .move (.t 10), none⟩,
  ⟨(some 204), .bin .eql .num (.t 203) (.c (.int .i64 0)), none⟩,
  ⟨(some 205), .move (.t 204), none⟩,
  ⟨(some 206), .move (.t 12), (some (205, true))⟩,
  ⟨(some 207), .bin .eql .num (.t 206) (.c (.int .i64 0)), (some (205, true))⟩,
  ⟨(some 208), .pick (.t 205) (.t 207) (.c (.bool false)), none⟩,
  ⟨(some 209), .move (.t 208), none⟩,
  ⟨(some 210), .move (.t 8), (some (209, true))⟩,
  ⟨(some 211), .un .not (.t 210), (some (209, true))⟩,
  ⟨(some 212), .move (.t 211), (some (209, true))⟩,
  ⟨(some 213), .fieldAddr 25 (.t 1), (some (212, false))⟩,
  ⟨(some 214), .loadN 2 (.t 213), (some (212, false))⟩,
  ⟨(some 215), .call 51 [(.t 214), (.c (.int .i64 5))], (some (212, false))⟩,
  ⟨(some 216), .move (.t 215), (some (212, false))⟩,
  ⟨(some 217), .fieldAddr 25 (.t 1), (some (216, true))⟩,
  ⟨(some 218), .fieldAddr 0 (.t 217), (some (216, true))⟩,
  ⟨(some 219), .load1 (.t 218), (some (216, true))⟩,
  ⟨(some 220), .bin .lss .num (.t 219) (.c (.int .i64 268435456)), (some (216, true))⟩,
  ⟨(some 221), .pick (.t 216) (.t 220) (.c (.bool false)), (some (212, false))⟩,
  ⟨(some 222), .pick (.t 212) (.c (.bool true)) (.t 221), (some (209, true))⟩,
  ⟨(some 223), .pick (.t 209) (.t 222) (.c (.bool false)), none⟩,
  ⟨(some 2), .move (.t 223), none⟩]
def b17_28 : SCode := .region r17_28
def b17_29 : SCode := .seq b17_28 .ret
def b17_30 : SCode := .seq b17_27 b17_29
def b17_31 : SCode := .seq b17_13 b17_30
def b17_32 : SCode := .seq b17_12 b17_31
def b17_33 : SCode := .seq b17_11 b17_32
def b17_34 : SCode := .seq b17_6 b17_33
def b17_35 : SCode := .seq b17_5 b17_34
def b17_36 : SCode := .seq b17_0 b17_35
def s17 : SFunc := ⟨224, [.t 2], b17_36⟩
theorem c17 : sFn Try.prog 17 = some s17 := by kernel_rfl
theorem x17_32 : XS b17_32 b17_12 b17_31 := rfl
theorem x17_34 : XS b17_34 b17_6 b17_33 := rfl
theorem Z17 : XR b17_0 r17_0 ∧ XR b17_1 r17_1 ∧ XR b17_2 r17_2 ∧ XS b17_3 b17_2 .ret ∧ XC b17_4 (.t 62) b17_3 .skip ∧ XS b17_5 b17_1 b17_4 ∧ XT b17_6 t17_6 ∧ XR b17_7 r17_7 ∧ XR b17_8 r17_8 ∧ XS b17_9 b17_8 .ret ∧ XC b17_10 (.t 171) b17_9 .skip ∧ XS b17_11 b17_7 b17_10 ∧ XR b17_12 r17_12 ∧ XR b17_13 r17_13 ∧ XR b17_14 r17_14 ∧ XR b17_15 r17_15 ∧ XC b17_16 (.t 188) .skip (.exit 0) ∧ XS b17_17 b17_15 b17_16 ∧ XR b17_18 r17_18 ∧ XR b17_19 r17_19 ∧ XS b17_20 b17_18 b17_19 ∧ XB b17_21 1 b17_20 ∧ XR b17_22 r17_22 ∧ XS b17_23 b17_21 b17_22 ∧ XS b17_24 b17_17 b17_23 ∧ XB b17_26 0 b17_25 ∧ XS b17_27 b17_14 b17_26 ∧ XR b17_28 r17_28 ∧ XS b17_29 b17_28 .ret ∧ XS b17_30 b17_27 b17_29 ∧ XS b17_31 b17_13 b17_30 ∧ XS b17_33 b17_11 b17_32 ∧ XS b17_35 b17_5 b17_34 ∧ XS b17_36 b17_0 b17_35 ∧ XY s17 224 b17_36 [.t 2] := ⟨rfl, rfl, rfl, rfl, sC_cond, rfl, rfl, rfl, rfl, rfl, sC_cond, rfl, rfl, rfl, rfl, rfl, sC_cond, rfl, rfl, rfl, rfl, rfl, rfl, rfl, rfl, rfl, rfl, rfl, rfl, rfl, rfl, rfl, rfl, rfl, rfl⟩
abbrev r48_0 : List MOper := [⟨(some 2), .move (.c (.bool false)), none⟩]
def b48_0 : SCode := .region r48_0
abbrev r48_1 : List MOper := [⟨(some 3), .move (.t 0), none⟩,
  ⟨(some 4), .bin .geq .num (.t 3) (.c (.int .i64 0)), none⟩,
  ⟨(some 5), .move (.t 4), none⟩,
  ⟨(some 6), .move (.t 0), (some (5, true))⟩,
  ⟨(some 7), .bin .leq .num (.t 6) (.c (.int .i64 5)), (some (5, true))⟩,
  ⟨(some 8), .pick (.t 5) (.t 7) (.c (.bool false)), none⟩,
  ⟨(some 9), .move (.t 8), none⟩,
  ⟨(some 10), .move (.t 0), (some (9, false))⟩,
  ⟨(some 11), .bin .geq .num (.t 10) (.c (.int .i64 100)), (some (9, false))⟩,
  ⟨(some 12), .move (.t 11), (some (9, false))⟩,
  ⟨(some 13), .move (.t 0), (some (12, true))⟩,
  ⟨(some 14), .bin .lss .num (.t 13) (.c (.int .i64 104)), (some (12, true))⟩,
  ⟨(some 15), .pick (.t 12) (.t 14) (.c (.bool false)), (some (9, false))⟩,
  ⟨(some 16), .pick (.t 9) (.c (.bool true)) (.t 15), none⟩,
  ⟨(some 2), .move (.t 16), none⟩]
def b48_1 : SCode := .region r48_1
def b48_2 : SCode := .seq b48_1 .ret
def b48_3 : SCode := .seq b48_0 b48_2
def s48 : SFunc := ⟨17, [.t 2], b48_3⟩
theorem c48 : sFn Try.prog 48 = some s48 := by kernel_rfl
theorem Z48 : XR b48_0 r48_0 ∧ XR b48_1 r48_1 ∧ XS b48_2 b48_1 .ret ∧ XS b48_3 b48_0 b48_2 ∧ XY s48 17 b48_3 [.t 2] := ⟨rfl, rfl, rfl, rfl, rfl⟩

set_option maxHeartbeats 4000000
set_option maxRecDepth 10000
theorem rparty_ok (n : Int) : Tri Try.prog 48 [.int .i64 n] [] fun r _ => r.pure = true ∧ r = .bool (partyB n) := by
  refine Tri.of_s c48 (noCall_sound _) ?_
  cases h1 : decide (0 ≤ n) <;> cases h2 : decide (n ≤ 5) <;> cases h3 : decide (100 ≤ n) <;> cases h4 : decide (n < 104) <;>
    (simp only [Z48, base1, baseE, ↓reduceIte, Nat.reduceAdd, Nat.reduceSub, Nat.reduceMul, Nat.reduceEqDiff, Nat.reduceLeDiff, Nat.reduceLT, Int.reduceLT, Int.reduceLE, Int.reduceEq, Int.reduceNe, Int.reduceToNat, Int.reduceAdd, Int.reduceSub, reduceCtorEq, Nat.reduceBEq, Nat.reduceBNe, h1, h2, h3, h4]; exact ⟨rfl, by simp only [partyB, h1, h2, h3, h4]; rfl⟩)
theorem rpartyD_ok (args : List AV) (σ : AHeap) (K : AV → AHeap → Prop) (h : partyD args σ K) : Tri Try.prog 48 args σ K := by
  unfold partyD at h
  split at h
  · exact (Tri.pureD rfl (rparty_ok _) _).mono fun r σ' hr => by rw [hr.1, hr.2]; exact h
  · exact h.elim
theorem rask_ok (args : List AV) (σ : AHeap) (K : AV → AHeap → Prop) (h : askPD args σ K) : Tri Try.prog 49 args σ K := by
  unfold askPD at h
  split at h
  · rename_i a b c t v f o l
    have := Tri.pureD (σ := σ) (Q := fun r => r = packR (AskV.bad ⟨a, b, c, t, v, f, o, l⟩) (AskV.bytes ⟨a, b, c, t, v, f, o, l⟩)) rfl ((refAsk_ok ⟨a, b, c, t, v, f, o, l⟩ h.1).mono fun r _ hr => ⟨by rw [hr.2]; exact packR_pure _ _, hr.2⟩)
    exact this.mono fun r σ' hr => by rw [hr.1, hr.2]; exact h.2
  · exact h.elim
def rrepD (args : List AV) (σ : AHeap) (K : AV → AHeap → Prop) : Prop := ∃ a : RepV, args = [.agg a.cells] ∧ a.bytes.length ≤ 900000000 ∧ K (packR a.bad a.bytes) σ
theorem rrepD_ok (args : List AV) (σ : AHeap) (K : AV → AHeap → Prop) (h : rrepD args σ K) : Tri Try.prog 50 args σ K := by
  obtain ⟨a, rfl, h1, h2⟩ := h
  exact (Tri.pureD (by simp only [pureL, rep_pure, Bool.and_self]) ((refReply_ok a h1).mono fun r _ hr => ⟨by rw [hr.2]; exact packR_pure _ _, hr.2⟩) σ).mono fun r σ' hr => by rw [hr.1, hr.2]; exact h2
theorem nz2_ok {P : Program} {f : FuncId} {x : AV} {cs : List AV} {σ : AHeap} {Q : AV → AHeap → Prop} (h : Tri P f [x, .agg (cs.map nz1)] σ Q) : Tri P f [x, .agg cs] σ Q := by
  refine ⟨h.1, fun ρ w G args' hw hargs => h.2 ρ w G args' hw ⟨hargs.1, fun i y v hy hv => ?_⟩⟩
  match i with
  | 0 => exact hargs.2 0 y v hy hv
  | 1 => simp at hy; subst hy; exact nz_rel (hargs.2 1 _ v rfl hv)
  | n + 2 => simp at hy
def noRepZ (args : List AV) (σ : AHeap) (K : AV → AHeap → Prop) : Prop := ∃ a : RepV, args = [.agg a.cells, .agg [.int .i64 0, .int .i64 0, .int .i64 0, .bool false, .str [], .nilslice, .str [], .bool false]] ∧ a.l.length ≤ 1000000000000000 ∧ ∀ t, (t = true → a = RepV.zero) → K (.bool t) σ
theorem noRepZ_ok (args : List AV) (σ : AHeap) (K : AV → AHeap → Prop) (h : noRepZ args σ K) : Tri Try.prog 43 args σ K := by
  obtain ⟨a, rfl, hl, h⟩ := h
  exact nz2_ok (sameRepD_ok _ _ _ ⟨a, RepV.zero, rfl, hl, fun t ht => h t ht.1⟩)
def ratlasD (args : List AV) (σ : AHeap) (K : AV → AHeap → Prop) : Prop := ∃ (ep : Int) (sh : List ShV), args = [.agg [.int .i64 ep, .imm (sh.map ShV.cells) false false], .int .i64 5] ∧ sh.length ≤ 1000000 ∧ ∀ b, (b = true → atlasB ep sh = true) → K (.bool b) σ
theorem ratlasD_ok (args : List AV) (σ : AHeap) (K : AV → AHeap → Prop) (h : ratlasD args σ K) : Tri Try.prog 51 args σ K := by
  obtain ⟨ep, sh, rfl, hl, h⟩ := h
  exact (Tri.pureD (by simp only [pureL, AV.pure, rowsSh_pure, Bool.and_self]) (ratlas_ok ep sh hl) σ).mono fun r σ' ⟨⟨b, h1, h2⟩, h3⟩ => by rw [h1, h3]; exact h b h2
def TM : PCall := rowQ 48 partyD (rowQ 43 noRepZ (rowQ 49 askPD (rowQ 50 rrepD (rowQ 51 ratlasD noCall))))
theorem TM_app {f : FuncId} {args : List AV} {σ : AHeap} {K : AV → AHeap → Prop} : TM f args σ K = rowQ 48 partyD (rowQ 43 noRepZ (rowQ 49 askPD (rowQ 50 rrepD (rowQ 51 ratlasD noCall)))) f args σ K := _root_.id rfl
theorem TM_sound : Sound Try.prog TM := rowQ_sound rpartyD_ok (rowQ_sound noRepZ_ok (rowQ_sound rask_ok (rowQ_sound rrepD_ok (rowQ_sound ratlasD_ok (noCall_sound _)))))
def MyQ (r : RowV) (x : AV) (_ : AHeap) : Prop := x.pure = true ∧ ∃ b, x = .bool b ∧ (b = true → mayB (made r) = true)
theorem myNo {r : RowV} {σ : AHeap} : MyQ r (.bool false) σ := ⟨rfl, false, rfl, fun h => by cases h⟩
theorem guardK_case {C : PCall} {q : Bool} {w : Bool} {d : Option Nat} {m : MOp} {os : List MOper} {K : Env → AHeap → Prop} {e : Env} {σ : AHeap} (h1 : q = true → guardK C (.bool true) w d m os K e σ) (h0 : q = false → guardK C (.bool false) w d m os K e σ) : guardK C (.bool q) w d m os K e σ := by
  cases q
  · exact h0 rfl
  · exact h1 rfl
theorem condK_split {C : PCall} {n0 : Nat} {R : MExit → Env → AHeap → Prop} {q : Bool} {a b : SCode} {k : Cont} {e : Env} {σ : AHeap} (h1 : q = true → condK C n0 R (.bool true) a b k e σ) (h0 : q = false → condK C n0 R (.bool false) a b k e σ) : condK C n0 R (.bool q) a b k e σ := by
  cases q
  · exact h0 rfl
  · exact h1 rfl
/-! The last answers, the atlas. -/
def rlI (r : RowV) (ea : Int) (m : Bool) (n : Nat) (e : Env) (σ : AHeap) : Prop :=
  ∃ i c : Nat, i ≤ r.last.length ∧ n = r.last.length - i ∧ c ≤ i + 1 ∧ (c = 0 → r.rep.bad = false ∧ ∀ x ∈ r.last.take i, x.bad = false) ∧ hget σ 0 = some r.cells ∧ e 1 = .ptr 0 0 ∧ e 8 = .bool m ∧ e 10 = .int .i64 ea ∧ e 12 = .int .i64 (c : Int) ∧ e 13 = .int .i64 (i : Int)
theorem rl_step (r : RowV) (hp : r.smallP) (ea : Int) (hea : ea = 0 → r.ask.bad = false) (m : Bool) (hF : r.ask.bad = false → r.rep.bad = false → (∀ x ∈ r.last, x.bad = false) → (m = true → atlasB r.aep r.sh = true ∧ r.aep < 268435456) → mayB (made r) = true) (n : Nat) (e : Env) (σ : AHeap) (h : rlI r ea m n e σ) :
    sC TM 0 b17_24 (unw TM 0 (loopR TM 0 (RetQ [MRes.t 2] (MyQ r)) (.block 0 (.seq b17_29 .fin)) (rlI r ea m) n) .fin) e σ := by
  obtain ⟨i, c, hi, hn, hc, hc0, g0, e1, e8, e10, e12, e13⟩ := h
  have hml : (r.last.map RepV.cells).length = r.last.length := by simp
  have hll := hp.lal
  have hsl : r.sh.length ≤ 1000000 := by have := hp.shl; omega
  simp only [RowV.cells] at g0
  rcases Nat.lt_or_ge i r.last.length with hlt | hge
  · have hlt' : (i : Int) < (r.last.length : Int) := by omega
    have hge0 : (0 : Int) ≤ (i : Int) := by omega
    obtain ⟨x, hx⟩ : ∃ x, r.last[i]? = some x := ⟨_, List.getElem?_eq_getElem hlt⟩
    have hxx : (r.last.map RepV.cells)[i]? = some [.int .i64 x.client, .int .i64 x.seq, .int .i64 x.err, .bool x.found, .str x.val, .imm (recs x.l) false false, .str x.next, .bool x.more] := by simp [hx, RepV.cells]
    have hw : IntKind.wrap .i64 ((i : Int) + 1) = ((i + 1 : Nat) : Int) := by rw [Gz.wrap64 (by omega)]; omega
    have hw0 : IntKind.wrap .i64 ((c : Int) + 0) = (c : Int) := by rw [Gz.wrap64 (by omega)]; omega
    have hw1 : IntKind.wrap .i64 ((c : Int) + 1) = ((c + 1 : Nat) : Int) := by rw [Gz.wrap64 (by omega)]; omega
    have htk : r.last.take (i + 1) = r.last.take i ++ [x] := by rw [List.take_add_one, hx]; rfl
    have hsm := rep_small_len (hp.last x (List.mem_of_getElem? hx))
    simp only [TM_app, Z17, x17_32, x17_34, base1, baseE, ↓reduceIte, Nat.reduceAdd, Nat.reduceSub, Nat.reduceMul, Nat.reduceEqDiff, Nat.reduceLeDiff, Nat.reduceLT, Int.reduceLT, Int.reduceLE, Int.reduceEq, Int.reduceNe, Int.reduceToNat, Int.reduceAdd, Int.reduceSub, reduceCtorEq, Nat.reduceBEq, Nat.reduceBNe, loopR_exit, loopR_ret, e1, e8, e10, e12, e13, g0, hlt', hlt, hge0, hxx, hml, Int.toNat_natCast]
    refine ⟨x, rfl, by omega, ?_⟩
    cases hb : x.bad with
    | true =>
      simp only [packR_t, TM_app, Z17, x17_32, x17_34, base1, baseE, ↓reduceIte, Nat.reduceAdd, Nat.reduceSub, Nat.reduceMul, Nat.reduceEqDiff, Nat.reduceLeDiff, Nat.reduceLT, Int.reduceLT, Int.reduceLE, Int.reduceEq, Int.reduceNe, Int.reduceToNat, Int.reduceAdd, Int.reduceSub, reduceCtorEq, Nat.reduceBEq, Nat.reduceBNe, e1, e8, e10, e12, e13, hw, hw1]
      rw [loopR_normal]
      exact ⟨r.last.length - (i + 1), _, _, by omega, .refl _ _ _, i + 1, c + 1, hlt, rfl, by omega, fun h => by omega, by simp only [RowV.cells]; exact g0, e1, e8, e10, rfl, rfl⟩
    | false =>
      simp only [packR_f, TM_app, Z17, x17_32, x17_34, base1, baseE, ↓reduceIte, Nat.reduceAdd, Nat.reduceSub, Nat.reduceMul, Nat.reduceEqDiff, Nat.reduceLeDiff, Nat.reduceLT, Int.reduceLT, Int.reduceLE, Int.reduceEq, Int.reduceNe, Int.reduceToNat, Int.reduceAdd, Int.reduceSub, reduceCtorEq, Nat.reduceBEq, Nat.reduceBNe, e1, e8, e10, e12, e13, hw, hw0]
      rw [loopR_normal]
      refine ⟨r.last.length - (i + 1), _, _, by omega, .refl _ _ _, i + 1, c, hlt, rfl, by omega, fun h => ⟨(hc0 h).1, fun y hy => ?_⟩, by simp only [RowV.cells]; exact g0, e1, e8, e10, rfl, rfl⟩
      rw [htk, List.mem_append, List.mem_singleton] at hy
      rcases hy with hy | rfl
      · exact (hc0 h).2 y hy
      · exact hb
  · have hlt' : ¬ (i : Int) < (r.last.length : Int) := by omega
    have hie : i = r.last.length := by omega
    subst hie
    rw [List.take_length] at hc0
    by_cases h1 : ea = 0
    · by_cases h2 : c = 0
      · subst h1 h2
        obtain ⟨k1, k2⟩ := hc0 rfl
        have k0 := hea rfl
        cases m with
        | false =>
          simp only [TM_app, Z17, x17_32, x17_34, base1, baseE, ↓reduceIte, Nat.reduceAdd, Nat.reduceSub, Nat.reduceMul, Nat.reduceEqDiff, Nat.reduceLeDiff, Nat.reduceLT, Int.reduceLT, Int.reduceLE, Int.reduceEq, Int.reduceNe, Int.reduceToNat, Int.reduceAdd, Int.reduceSub, reduceCtorEq, Nat.reduceBEq, Nat.reduceBNe, loopR_exit, loopR_ret, e1, e8, e10, e12, e13, g0, hlt', hml]
          exact ⟨rfl, true, rfl, fun _ => hF k0 k1 k2 (fun h => by cases h)⟩
        | true =>
          simp only [TM_app, Z17, x17_32, x17_34, base1, baseE, ↓reduceIte, Nat.reduceAdd, Nat.reduceSub, Nat.reduceMul, Nat.reduceEqDiff, Nat.reduceLeDiff, Nat.reduceLT, Int.reduceLT, Int.reduceLE, Int.reduceEq, Int.reduceNe, Int.reduceToNat, Int.reduceAdd, Int.reduceSub, reduceCtorEq, Nat.reduceBEq, Nat.reduceBNe, loopR_exit, loopR_ret, e1, e8, e10, e12, e13, g0, hlt', hml]
          refine ⟨r.aep, r.sh, rfl, hsl, fun b hb => ?_⟩
          cases b with
          | false =>
            simp only [TM_app, Z17, x17_32, x17_34, base1, baseE, ↓reduceIte, Nat.reduceAdd, Nat.reduceSub, Nat.reduceMul, Nat.reduceEqDiff, Nat.reduceLeDiff, Nat.reduceLT, Int.reduceLT, Int.reduceLE, Int.reduceEq, Int.reduceNe, Int.reduceToNat, Int.reduceAdd, Int.reduceSub, reduceCtorEq, Nat.reduceBEq, Nat.reduceBNe, e1, e8, g0]
            exact myNo (σ := [])
          | true =>
            have ha := hb rfl
            simp only [TM_app, Z17, x17_32, x17_34, base1, baseE, ↓reduceIte, Nat.reduceAdd, Nat.reduceSub, Nat.reduceMul, Nat.reduceEqDiff, Nat.reduceLeDiff, Nat.reduceLT, Int.reduceLT, Int.reduceLE, Int.reduceEq, Int.reduceNe, Int.reduceToNat, Int.reduceAdd, Int.reduceSub, reduceCtorEq, Nat.reduceBEq, Nat.reduceBNe, e1, e8, g0]
            exact ⟨rfl, _, rfl, fun hd => hF k0 k1 k2 fun _ => ⟨ha, of_decide_eq_true hd⟩⟩
      · have h2' : ¬ (c : Int) = 0 := by omega
        subst h1
        simp only [TM_app, Z17, x17_32, x17_34, base1, baseE, ↓reduceIte, Nat.reduceAdd, Nat.reduceSub, Nat.reduceMul, Nat.reduceEqDiff, Nat.reduceLeDiff, Nat.reduceLT, Int.reduceLT, Int.reduceLE, Int.reduceEq, Int.reduceNe, Int.reduceToNat, Int.reduceAdd, Int.reduceSub, reduceCtorEq, Nat.reduceBEq, Nat.reduceBNe, loopR_exit, loopR_ret, e1, e8, e10, e12, e13, g0, hlt', hml, h2']
        exact myNo (σ := [])
    · simp only [TM_app, Z17, x17_32, x17_34, base1, baseE, ↓reduceIte, Nat.reduceAdd, Nat.reduceSub, Nat.reduceMul, Nat.reduceEqDiff, Nat.reduceLeDiff, Nat.reduceLT, Int.reduceLT, Int.reduceLE, Int.reduceEq, Int.reduceNe, Int.reduceToNat, Int.reduceAdd, Int.reduceSub, reduceCtorEq, Nat.reduceBEq, Nat.reduceBNe, loopR_exit, loopR_ret, e1, e8, e10, e12, e13, g0, hlt', hml, h1]
      exact myNo (σ := [])
theorem rest17 (r : RowV) (hp : r.smallP) (m : Bool) (hF : r.ask.bad = false → r.rep.bad = false → (∀ x ∈ r.last, x.bad = false) → (m = true → atlasB r.aep r.sh = true ∧ r.aep < 268435456) → mayB (made r) = true) (e : Env) (σ : AHeap) (g0 : hget σ 0 = some r.cells) (e1 : e 1 = .ptr 0 0) (e8 : e 8 = .bool m) :
    sC TM 0 b17_32 (unw TM 0 (RetQ [.t 2] (MyQ r)) .fin) e σ := by
  have hat : total r.ask.texts ≤ 900000000 := by
    have := hp.sum
    have h1 := sum_nonneg r.l
    simp only [RowV.base] at this
    simp only [total, AskV.texts, List.flatMap_cons, List.flatMap_nil, List.append_nil, List.length_append, txt_len]; omega
  have hrp := rep_small_len hp.rep
  have g0' := g0
  simp only [RowV.cells] at g0'
  simp only [TM_app, Z17, x17_32, x17_34, base1, baseE, ↓reduceIte, Nat.reduceAdd, Nat.reduceSub, Nat.reduceMul, Nat.reduceEqDiff, Nat.reduceLeDiff, Nat.reduceLT, Int.reduceLT, Int.reduceLE, Int.reduceEq, Int.reduceNe, Int.reduceToNat, Int.reduceAdd, Int.reduceSub, reduceCtorEq, Nat.reduceBEq, Nat.reduceBNe, e1, e8, g0', askPD_eq, hat, true_and]
  cases ha : r.ask.bad with
  | true =>
    simp only [packR_t, TM_app, Z17, x17_32, x17_34, base1, baseE, ↓reduceIte, Nat.reduceAdd, Nat.reduceSub, Nat.reduceMul, Nat.reduceEqDiff, Nat.reduceLeDiff, Nat.reduceLT, Int.reduceLT, Int.reduceLE, Int.reduceEq, Int.reduceNe, Int.reduceToNat, Int.reduceAdd, Int.reduceSub, reduceCtorEq, Nat.reduceBEq, Nat.reduceBNe, e1, e8, g0']
    refine ⟨r.rep, rfl, by omega, ?_⟩
    cases hb : r.rep.bad with
    | true =>
      simp only [packR_t, TM_app, Z17, x17_32, x17_34, base1, baseE, ↓reduceIte, Nat.reduceAdd, Nat.reduceSub, Nat.reduceMul, Nat.reduceEqDiff, Nat.reduceLeDiff, Nat.reduceLT, Int.reduceLT, Int.reduceLE, Int.reduceEq, Int.reduceNe, Int.reduceToNat, Int.reduceAdd, Int.reduceSub, reduceCtorEq, Nat.reduceBEq, Nat.reduceBNe, e1, e8, g0']
      exact sC_inv (a := b17_24) (rlI r 1 m) r.last.length _ _ (.refl _ _ _) ⟨0, 1, Nat.zero_le _, rfl, by omega, fun h => by omega, g0, e1, e8, rfl, rfl, rfl⟩ (rl_step r hp 1 (fun h => by cases h) m hF)
    | false =>
      simp only [packR_f, TM_app, Z17, x17_32, x17_34, base1, baseE, ↓reduceIte, Nat.reduceAdd, Nat.reduceSub, Nat.reduceMul, Nat.reduceEqDiff, Nat.reduceLeDiff, Nat.reduceLT, Int.reduceLT, Int.reduceLE, Int.reduceEq, Int.reduceNe, Int.reduceToNat, Int.reduceAdd, Int.reduceSub, reduceCtorEq, Nat.reduceBEq, Nat.reduceBNe, e1, e8, g0']
      exact sC_inv (a := b17_24) (rlI r 1 m) r.last.length _ _ (.refl _ _ _) ⟨0, 0, Nat.zero_le _, rfl, by omega, fun h => ⟨hb, by simp⟩, g0, e1, e8, rfl, rfl, rfl⟩ (rl_step r hp 1 (fun h => by cases h) m hF)
  | false =>
    simp only [packR_f, TM_app, Z17, x17_32, x17_34, base1, baseE, ↓reduceIte, Nat.reduceAdd, Nat.reduceSub, Nat.reduceMul, Nat.reduceEqDiff, Nat.reduceLeDiff, Nat.reduceLT, Int.reduceLT, Int.reduceLE, Int.reduceEq, Int.reduceNe, Int.reduceToNat, Int.reduceAdd, Int.reduceSub, reduceCtorEq, Nat.reduceBEq, Nat.reduceBNe, e1, e8, g0']
    refine ⟨r.rep, rfl, by omega, ?_⟩
    cases hb : r.rep.bad with
    | true =>
      simp only [packR_t, TM_app, Z17, x17_32, x17_34, base1, baseE, ↓reduceIte, Nat.reduceAdd, Nat.reduceSub, Nat.reduceMul, Nat.reduceEqDiff, Nat.reduceLeDiff, Nat.reduceLT, Int.reduceLT, Int.reduceLE, Int.reduceEq, Int.reduceNe, Int.reduceToNat, Int.reduceAdd, Int.reduceSub, reduceCtorEq, Nat.reduceBEq, Nat.reduceBNe, e1, e8, g0']
      exact sC_inv (a := b17_24) (rlI r 0 m) r.last.length _ _ (.refl _ _ _) ⟨0, 1, Nat.zero_le _, rfl, by omega, fun h => by omega, g0, e1, e8, rfl, rfl, rfl⟩ (rl_step r hp 0 (fun _ => ha) m hF)
    | false =>
      simp only [packR_f, TM_app, Z17, x17_32, x17_34, base1, baseE, ↓reduceIte, Nat.reduceAdd, Nat.reduceSub, Nat.reduceMul, Nat.reduceEqDiff, Nat.reduceLeDiff, Nat.reduceLT, Int.reduceLT, Int.reduceLE, Int.reduceEq, Int.reduceNe, Int.reduceToNat, Int.reduceAdd, Int.reduceSub, reduceCtorEq, Nat.reduceBEq, Nat.reduceBNe, e1, e8, g0']
      exact sC_inv (a := b17_24) (rlI r 0 m) r.last.length _ _ (.refl _ _ _) ⟨0, 0, Nat.zero_le _, rfl, by omega, fun h => ⟨hb, by simp⟩, g0, e1, e8, rfl, rfl, rfl⟩ (rl_step r hp 0 (fun _ => ha) m hF)
end Go.Proofs.Ytndlgmciplckjaa.note
