/- What the last deed of JournalKnown comes to: it is too long for a frame. No condition. -/
import Derived.Test.YtmjnmnhpmbbmgabJHead
import Derived.Test.YtmjnmnhpmbbmgabNRead
set_option linter.unusedVariables false
set_option linter.unusedSimpArgs false
namespace Go.Proofs.Ytmjnmnhpmbbmgab.journal
open Go.ChangeShapes Go.WideShapes Go.ChangeAt Go.RowKit Go.Gz Go.Proofs.Ytmjnmnhpmbbmgab.note
abbrev r5_0 : List MOper := [⟨(some 0), .move (.c (.bool false)), none⟩]
def b5_0 : SCode := .region r5_0
abbrev r5_1 : List MOper := [⟨(some 18), .call 17 [], none⟩,
  ⟨(some 19), .un .not (.t 18), none⟩]
def b5_1 : SCode := .region r5_1
abbrev r5_2 : List MOper := [⟨(some 0), .move (.c (.bool false)), none⟩]
def b5_2 : SCode := .region r5_2
def b5_3 : SCode := .seq b5_2 .ret
def b5_4 : SCode := .cond (.t 19) b5_3 .skip
def b5_5 : SCode := .seq b5_1 b5_4
abbrev r5_6 : List MOper := [⟨(some 20), .call 18 [], none⟩,
  ⟨(some 1), .move (.t 20), none⟩]
def b5_6 : SCode := .region r5_6
abbrev r5_7 : List MOper := [⟨(some 21), .move (.t 1), none⟩,
  ⟨(some 22), .bin .eql .nilp (.t 21) (.c (.nilptr)), none⟩]
def b5_7 : SCode := .region r5_7
abbrev r5_8 : List MOper := [⟨(some 0), .move (.c (.bool false)), none⟩]
def b5_8 : SCode := .region r5_8
def b5_9 : SCode := .seq b5_8 .ret
def b5_10 : SCode := .cond (.t 22) b5_9 .skip
def b5_11 : SCode := .seq b5_7 b5_10
abbrev r5_12 : List MOper := [⟨(some 23), .move (.t 1), none⟩,
  ⟨(some 24), .build [.str [], .str []] [(0, 1, (.c (.str [97]))), (1, 1, (.c (.str [98])))], none⟩,
  ⟨(some 25), .build [.str [], .str []] [(0, 1, (.c (.str [120]))), (1, 1, (.c (.str [121])))], none⟩,
  ⟨(some 26), .buildSlice [.str [], .str []] 2 1 [(0, 2, (.t 25))], none⟩,
  ⟨(some 27), .build [.int .i64 0, .int .i64 0, .int .i64 0, .int .i64 0, .str [], .str [], .str [], .str [], .int .i64 0, .int .i64 0, .str [], .str [], .int .i64 0, .nilslice] [(0, 1, (.c (.int .i64 1))), (10, 2, (.t 24)), (13, 1, (.t 26))], none⟩,
  ⟨(some 28), .call 19 [(.t 23), (.t 27)], none⟩,
  ⟨(some 2), .move (.t 28), none⟩]
def b5_12 : SCode := .region r5_12
abbrev r5_13 : List MOper := [⟨(some 30), .buildSlice [.int .u8 0] 1 5 [(0, 1, (.c (.int .u8 111))), (1, 1, (.c (.int .u8 116))), (2, 1, (.c (.int .u8 104))), (3, 1, (.c (.int .u8 101))), (4, 1, (.c (.int .u8 114)))], none⟩,
  ⟨(some 31), .resame (.t 30), none⟩,
  ⟨(some 32), .call 20 [(.c (.int .u8 8)), (.t 31)], none⟩,
  ⟨(some 29), .move (.t 32), none⟩,
  ⟨(some 33), .extract (.t 29) 0, none⟩,
  ⟨(some 34), .extract (.t 29) 1, none⟩,
  ⟨(some 3), .move (.t 33), none⟩,
  ⟨(some 4), .move (.t 34), none⟩]
def b5_13 : SCode := .region r5_13
abbrev r5_14 : List MOper := [⟨(some 35), .move (.t 1), none⟩,
  ⟨(some 36), .call 21 [(.t 35)], none⟩,
  ⟨(some 37), .lenSl (.t 36), none⟩,
  ⟨(some 5), .move (.t 37), none⟩]
def b5_14 : SCode := .region r5_14
abbrev r5_15 : List MOper := [⟨(some 38), .move (.t 1), none⟩,
  ⟨(some 39), .move (.t 3), none⟩,
  ⟨(some 40), .call 22 [(.t 38), (.t 39)], none⟩]
def b5_15 : SCode := .region r5_15
abbrev r5_16 : List MOper := [⟨(some 41), .move (.t 1), none⟩,
  ⟨(some 42), .build [.int .i64 0, .int .i64 0, .int .i64 0, .int .i64 0, .str [], .str [], .str [], .str [], .int .i64 0, .int .i64 0, .str [], .str [], .int .i64 0, .nilslice] [(0, 1, (.c (.int .i64 2)))], none⟩,
  ⟨(some 43), .call 19 [(.t 41), (.t 42)], none⟩,
  ⟨(some 6), .move (.t 43), none⟩]
def b5_16 : SCode := .region r5_16
abbrev r5_17 : List MOper := [⟨(some 44), .move (.t 1), none⟩,
  ⟨(some 45), .call 21 [(.t 44)], none⟩,
  ⟨(some 46), .lenSl (.t 45), none⟩,
  ⟨(some 7), .move (.t 46), none⟩]
def b5_17 : SCode := .region r5_17
abbrev r5_18 : List MOper := [⟨(some 48), .move (.t 1), none⟩,
  ⟨(some 49), .call 23 [(.t 48)], none⟩,
  ⟨(some 47), .move (.t 49), none⟩,
  ⟨(some 50), .extract (.t 47) 0, none⟩,
  ⟨(some 51), .extract (.t 47) 1, none⟩,
  ⟨(some 8), .move (.t 50), none⟩,
  ⟨(some 9), .move (.t 51), none⟩]
def b5_18 : SCode := .region r5_18
abbrev r5_19 : List MOper := [⟨(some 53), .build [.int .i64 0, .int .i64 0, .int .i64 0, .int .i64 0, .str [], .str [], .str [], .str [], .int .i64 0, .int .i64 0, .str [], .str [], .int .i64 0, .nilslice] [(0, 1, (.c (.int .i64 (-1))))], none⟩,
  ⟨(some 54), .call 24 [(.t 53)], none⟩,
  ⟨(some 52), .move (.t 54), none⟩,
  ⟨(some 55), .extract (.t 52) 0, none⟩,
  ⟨(some 56), .extract (.t 52) 1, none⟩,
  ⟨(some 10), .move (.t 55), none⟩,
  ⟨(some 11), .move (.t 56), none⟩]
def b5_19 : SCode := .region r5_19
abbrev r5_20 : List MOper := [⟨(some 58), .build [.int .i64 0, .int .i64 0, .int .i64 0, .int .i64 0, .str [], .str [], .str [], .str [], .int .i64 0, .int .i64 0, .str [], .str [], .int .i64 0, .nilslice] [(12, 1, (.c (.int .i64 268435456)))], none⟩,
  ⟨(some 59), .call 24 [(.t 58)], none⟩,
  ⟨(some 57), .move (.t 59), none⟩,
  ⟨(some 60), .extract (.t 57) 0, none⟩,
  ⟨(some 61), .extract (.t 57) 1, none⟩,
  ⟨(some 12), .move (.t 60), none⟩,
  ⟨(some 13), .move (.t 61), none⟩]
def b5_20 : SCode := .region r5_20
abbrev r5_21 : List MOper := [⟨(some 62), .move (.t 1), none⟩,
  ⟨(some 63), .build [.int .i64 0, .int .i64 0, .int .i64 0, .str [], .str [], .str [], .str [], .int .i64 0] [(2, 1, (.c (.int .i64 (-1))))], none⟩,
  ⟨(some 64), .build [.int .i64 0, .int .i64 0, .int .i64 0, .int .i64 0, .str [], .str [], .str [], .str [], .int .i64 0, .int .i64 0, .str [], .str [], .int .i64 0, .nilslice] [(1, 8, (.t 63))], none⟩,
  ⟨(some 65), .call 19 [(.t 62), (.t 64)], none⟩,
  ⟨(some 14), .move (.t 65), none⟩]
def b5_21 : SCode := .region r5_21
abbrev r5_22 : List MOper := [⟨(some 67), .call 25 [(.c (.nilslice))], none⟩,
  ⟨(some 66), .move (.t 67), none⟩,
  ⟨(some 68), .extract (.t 66) 0, none⟩,
  ⟨(some 69), .extract (.t 66) 1, none⟩,
  ⟨(some 15), .alloc [.int .i64 0, .int .i64 0, .int .i64 0, .int .i64 0, .str [], .str [], .str [], .str [], .int .i64 0, .int .i64 0, .str [], .str [], .int .i64 0, .nilslice], none⟩,
  ⟨none, .store 14 (.t 15) (.t 68), none⟩,
  ⟨(some 16), .move (.t 69), none⟩]
def b5_22 : SCode := .region r5_22
abbrev r5_23 : List MOper := [⟨(some 70), .move (.t 1), none⟩,
  ⟨(some 71), .makeSlice [.int .u8 0] 1 1 (.c (.int .i64 32768)) (.c (.int .i64 32768)), none⟩,
  ⟨(some 72), .ofBytes (.t 71), none⟩,
  ⟨(some 73), .build [.str [], .str []] [(0, 1, (.t 72))], none⟩,
  ⟨(some 74), .build [.int .i64 0, .int .i64 0, .int .i64 0, .int .i64 0, .str [], .str [], .str [], .str [], .int .i64 0, .int .i64 0, .str [], .str [], .int .i64 0, .nilslice] [(10, 2, (.t 73))], none⟩,
  ⟨(some 75), .call 19 [(.t 70), (.t 74)], none⟩,
  ⟨(some 17), .move (.t 75), none⟩]
def b5_23 : SCode := .region r5_23
abbrev r5_24 : List MOper := [⟨(some 76), .move (.t 2), none⟩,
  ⟨(some 77), .bin .eql .num (.t 76) (.c (.int .i64 0)), none⟩,
  ⟨(some 78), .move (.t 77), none⟩,
  ⟨(some 79), .move (.t 6), (some (78, true))⟩,
  ⟨(some 80), .bin .eql .num (.t 79) (.c (.int .i64 0)), (some (78, true))⟩,
  ⟨(some 81), .pick (.t 78) (.t 80) (.c (.bool false)), none⟩,
  ⟨(some 82), .move (.t 81), none⟩,
  ⟨(some 83), .move (.t 8), (some (82, true))⟩,
  ⟨(some 84), .lenSl (.t 83), (some (82, true))⟩,
  ⟨(some 85), .bin .eql .num (.t 84) (.c (.int .i64 1)), (some (82, true))⟩,
  ⟨(some 86), .pick (.t 82) (.t 85) (.c (.bool false)), none⟩,
  ⟨(some 87), .move (.t 86), none⟩,
  ⟨(some 88), .move (.t 8), (some (87, true))⟩,
  ⟨(some 89), .indexAddr 14 (.t 88) (.c (.int .i64 0)), (some (87, true))⟩,
  ⟨(some 90), .fieldAddr 0 (.t 89), (some (87, true))⟩,
  ⟨(some 91), .load1 (.t 90), (some (87, true))⟩,
  ⟨(some 92), .bin .eql .num (.t 91) (.c (.int .i64 1)), (some (87, true))⟩,
  ⟨(some 93), .pick (.t 87) (.t 92) (.c (.bool false)), none⟩,
  ⟨(some 94), .move (.t 93), none⟩,
  ⟨(some 95), .move (.t 8), (some (94, true))⟩,
  ⟨(some 96), .indexAddr 14 (.t 95) (.c (.int .i64 0)), (some (94, true))⟩,
  ⟨(some 97), .fieldAddr 13 (.t 96), (some (94, true))⟩,
  ⟨(some 98), .load1 (.t 97), (some (94, true))⟩,
  ⟨(some 99), .lenSl (.t 98), (some (94, true))⟩,
  ⟨(some 100), .bin .eql .num (.t 99) (.c (.int .i64 1)), (some (94, true))⟩,
  ⟨(some 101), .pick (.t 94) (.t 100) (.c (.bool false)), none⟩,
  ⟨(some 102), .move (.t 101), none⟩,
  ⟨(some 103), .move (.t 9), (some (102, true))⟩,
  ⟨(some 104), .move (.t 7), (some (102, true))⟩,
  ⟨(some 105), .move (.t 5), (some (102, true))⟩,
  ⟨(some 106), .bin .sub .num (.t 104) (.t 105), (some (102, true))⟩,
  ⟨(some 107), .bin .eql .num (.t 103) (.t 106), (some (102, true))⟩,
  ⟨(some 108), .pick (.t 102) (.t 107) (.c (.bool false)), none⟩,
  ⟨(some 109), .move (.t 108), none⟩,
  ⟨(some 110), .move (.t 1), (some (109, true))⟩,
  ⟨(some 111), .call 21 [(.t 110)], (some (109, true))⟩,
  ⟨(some 112), .lenSl (.t 111), (some (109, true))⟩,
  ⟨(some 113), .move (.t 5), (some (109, true))⟩,
  ⟨(some 114), .bin .eql .num (.t 112) (.t 113), (some (109, true))⟩,
  ⟨(some 115), .pick (.t 109) (.t 114) (.c (.bool false)), none⟩,
  ⟨(some 116), .move (.t 115), none⟩,
  ⟨(some 117), .move (.t 11), (some (116, true))⟩,
  ⟨(some 118), .bin .eql .num (.t 117) (.c (.int .i64 1)), (some (116, true))⟩,
  ⟨(some 119), .pick (.t 116) (.t 118) (.c (.bool false)), none⟩,
  ⟨(some 120), .move (.t 119), none⟩,
  ⟨(some 121), .move (.t 13), (some (120, true))⟩,
  ⟨(some 122), .bin .eql .num (.t 121) (.c (.int .i64 1)), (some (120, true))⟩,
  ⟨(some 123), .pick (.t 120) (.t 122) (.c (.bool false)), none⟩,
  ⟨(some 124), .move (.t 123), none⟩,
  ⟨(some 125), .move (.t 14), (some (124, true))⟩,
  ⟨(some 126), .bin .eql .num (.t 125) (.c (.int .i64 1)), (some (124, true))⟩,
  ⟨(some 127), .pick (.t 124) (.t 126) (.c (.bool false)), none⟩,
  ⟨(some 128), .move (.t 127), none⟩,
  ⟨(some 129), .move (.t 16), (some (128, true))⟩,
  ⟨(some 130), .bin .eql .num (.t 129) (.c (.int .i64 7)), (some (128, true))⟩,
  ⟨(some 131), .pick (.t 128) (.t 130) (.c (.bool false)), none⟩,
  ⟨(some 132), .move (.t 131), none⟩,
  ⟨(some 133), .move (.t 17), (some (132, true))⟩,
  ⟨(some 134), .bin .eql .num (.t 133) (.c (.int .i64 3)), (some (132, true))⟩,
  ⟨(some 135), .pick (.t 132) (.t 134) (.c (.bool false)), none⟩,
  ⟨(some 0), .move (.t 135), none⟩]
def b5_24 : SCode := .region r5_24
def b5_25 : SCode := .seq b5_24 .ret
def b5_26 : SCode := .seq b5_23 b5_25
def b5_27 : SCode := .seq b5_22 b5_26
def b5_28 : SCode := .seq b5_21 b5_27
def b5_29 : SCode := .seq b5_20 b5_28
def b5_30 : SCode := .seq b5_19 b5_29
def b5_31 : SCode := .seq b5_18 b5_30
def b5_32 : SCode := .seq b5_17 b5_31
def b5_33 : SCode := .seq b5_16 b5_32
def b5_34 : SCode := .seq b5_15 b5_33
def b5_35 : SCode := .seq b5_14 b5_34
def b5_36 : SCode := .seq b5_13 b5_35
def b5_37 : SCode := .seq b5_12 b5_36
def b5_38 : SCode := .seq b5_11 b5_37
def b5_39 : SCode := .seq b5_6 b5_38
def b5_40 : SCode := .seq b5_5 b5_39
def b5_41 : SCode := .seq b5_0 b5_40
def s5 : SFunc := ⟨136, [.t 0], b5_41⟩
theorem c5 : sFn Try.prog 5 = some s5 := by kernel_rfl
theorem x5_23 : XR b5_23 r5_23 := rfl
theorem Z5 : XR b5_0 r5_0 ∧ XR b5_1 r5_1 ∧ XR b5_2 r5_2 ∧ XS b5_3 b5_2 .ret ∧ XC b5_4 (.t 19) b5_3 .skip ∧ XS b5_5 b5_1 b5_4 ∧ XR b5_6 r5_6 ∧ XR b5_7 r5_7 ∧ XR b5_8 r5_8 ∧ XS b5_9 b5_8 .ret ∧ XC b5_10 (.t 22) b5_9 .skip ∧ XS b5_11 b5_7 b5_10 ∧ XR b5_12 r5_12 ∧ XR b5_13 r5_13 ∧ XR b5_14 r5_14 ∧ XR b5_15 r5_15 ∧ XR b5_16 r5_16 ∧ XR b5_17 r5_17 ∧ XR b5_18 r5_18 ∧ XR b5_19 r5_19 ∧ XR b5_20 r5_20 ∧ XR b5_21 r5_21 ∧ XR b5_22 r5_22 ∧ XR b5_24 r5_24 ∧ XS b5_25 b5_24 .ret ∧ XS b5_26 b5_23 b5_25 ∧ XS b5_27 b5_22 b5_26 ∧ XS b5_28 b5_21 b5_27 ∧ XS b5_29 b5_20 b5_28 ∧ XS b5_30 b5_19 b5_29 ∧ XS b5_31 b5_18 b5_30 ∧ XS b5_32 b5_17 b5_31 ∧ XS b5_33 b5_16 b5_32 ∧ XS b5_34 b5_15 b5_33 ∧ XS b5_35 b5_14 b5_34 ∧ XS b5_36 b5_13 b5_35 ∧ XS b5_37 b5_12 b5_36 ∧ XS b5_38 b5_11 b5_37 ∧ XS b5_39 b5_6 b5_38 ∧ XS b5_40 b5_5 b5_39 ∧ XS b5_41 b5_0 b5_40 ∧ XY s5 136 b5_41 [.t 0] := ⟨rfl, rfl, rfl, rfl, sC_cond, rfl, rfl, rfl, rfl, rfl, sC_cond, rfl, rfl, rfl, rfl, rfl, rfl, rfl, rfl, rfl, rfl, rfl, rfl, rfl, rfl, rfl, rfl, rfl, rfl, rfl, rfl, rfl, rfl, rfl, rfl, rfl, rfl, rfl, rfl, rfl, rfl, rfl⟩
abbrev r19_0 : List MOper := [⟨(some 3), .box (.t 1), none⟩,
  ⟨(some 4), .move (.c (.int .i64 0)), none⟩]
def b19_0 : SCode := .region r19_0
abbrev r19_1 : List MOper := [⟨(some 7), .move (.t 0), none⟩,
  ⟨(some 8), .bin .eql .nilp (.t 7) (.c (.nilptr)), none⟩]
def b19_1 : SCode := .region r19_1
abbrev r19_2 : List MOper := [⟨(some 4), .move (.c (.int .i64 1)), none⟩]
def b19_2 : SCode := .region r19_2
def b19_3 : SCode := .seq b19_2 .ret
def b19_4 : SCode := .cond (.t 8) b19_3 .skip
def b19_5 : SCode := .seq b19_1 b19_4
abbrev r19_6 : List MOper := [⟨(some 10), .loadN 14 (.t 3), none⟩,
  ⟨(some 11), .call 24 [(.t 10)], none⟩,
  ⟨(some 9), .move (.t 11), none⟩,
  ⟨(some 12), .extract (.t 9) 0, none⟩,
  ⟨(some 13), .extract (.t 9) 1, none⟩,
  ⟨(some 5), .move (.t 12), none⟩,
  ⟨(some 6), .move (.t 13), none⟩]
def b19_6 : SCode := .region r19_6
abbrev r19_7 : List MOper := [⟨(some 14), .move (.t 6), none⟩,
  ⟨(some 15), .bin .eql .num (.t 14) (.c (.int .i64 0)), none⟩]
def b19_7 : SCode := .region r19_7
abbrev r19_8 : List MOper := [⟨(some 17), .move (.t 5), none⟩,
  ⟨(some 18), .call 34 [(.c (.int .u8 7)), (.t 17)], none⟩,
  ⟨(some 16), .move (.t 18), none⟩,
  ⟨(some 19), .extract (.t 16) 0, none⟩,
  ⟨(some 20), .extract (.t 16) 1, none⟩,
  ⟨(some 5), .move (.t 19), none⟩,
  ⟨(some 6), .move (.t 20), none⟩]
def b19_8 : SCode := .region r19_8
def b19_9 : SCode := .cond (.t 15) b19_8 .skip
def b19_10 : SCode := .seq b19_7 b19_9
abbrev r19_11 : List MOper := [⟨(some 21), .move (.t 6), none⟩,
  ⟨(some 22), .bin .neq .num (.t 21) (.c (.int .i64 0)), none⟩]
def b19_11 : SCode := .region r19_11
abbrev r19_12 : List MOper := [⟨(some 23), .move (.t 6), none⟩,
  ⟨(some 4), .move (.t 23), none⟩]
def b19_12 : SCode := .region r19_12
def b19_13 : SCode := .seq b19_12 .ret
def b19_14 : SCode := .cond (.t 22) b19_13 .skip
def b19_15 : SCode := .seq b19_11 b19_14
abbrev r19_16 : List MOper := [⟨(some 24), .move (.t 0), none⟩,
  ⟨(some 25), .move (.t 5), none⟩,
  ⟨(some 26), .call 22 [(.t 24), (.t 25)], none⟩]
def b19_16 : SCode := .region r19_16
abbrev r19_17 : List MOper := [⟨(some 4), .move (.c (.int .i64 0)), none⟩]
def b19_17 : SCode := .region r19_17
def b19_18 : SCode := .seq b19_17 .ret
def b19_19 : SCode := .seq b19_16 b19_18
def b19_20 : SCode := .seq b19_15 b19_19
def b19_21 : SCode := .seq b19_10 b19_20
def b19_22 : SCode := .seq b19_6 b19_21
def b19_23 : SCode := .seq b19_5 b19_22
def b19_24 : SCode := .seq b19_0 b19_23
def s19 : SFunc := ⟨27, [.t 4], b19_24⟩
theorem c19 : sFn Try.prog 19 = some s19 := by kernel_rfl
theorem Z19 : XR b19_0 r19_0 ∧ XR b19_1 r19_1 ∧ XR b19_2 r19_2 ∧ XS b19_3 b19_2 .ret ∧ XC b19_4 (.t 8) b19_3 .skip ∧ XS b19_5 b19_1 b19_4 ∧ XR b19_6 r19_6 ∧ XR b19_7 r19_7 ∧ XR b19_8 r19_8 ∧ XC b19_9 (.t 15) b19_8 .skip ∧ XS b19_10 b19_7 b19_9 ∧ XR b19_11 r19_11 ∧ XR b19_12 r19_12 ∧ XS b19_13 b19_12 .ret ∧ XC b19_14 (.t 22) b19_13 .skip ∧ XS b19_15 b19_11 b19_14 ∧ XR b19_16 r19_16 ∧ XR b19_17 r19_17 ∧ XS b19_18 b19_17 .ret ∧ XS b19_19 b19_16 b19_18 ∧ XS b19_20 b19_15 b19_19 ∧ XS b19_21 b19_10 b19_20 ∧ XS b19_22 b19_6 b19_21 ∧ XS b19_23 b19_5 b19_22 ∧ XS b19_24 b19_0 b19_23 ∧ XY s19 27 b19_24 [.t 4] := ⟨rfl, rfl, rfl, rfl, sC_cond, rfl, rfl, rfl, rfl, sC_cond, rfl, rfl, rfl, rfl, sC_cond, rfl, rfl, rfl, rfl, rfl, rfl, rfl, rfl, rfl, rfl, rfl⟩
abbrev r24_0 : List MOper := [⟨(some 1), .box (.t 0), none⟩,
  ⟨(some 2), .move (.c (.nilslice)), none⟩,
  ⟨(some 3), .move (.c (.int .i64 0)), none⟩]
def b24_0 : SCode := .region r24_0
abbrev r24_1 : List MOper := [⟨(some 8), .fieldAddr 1 (.t 1), none⟩,
  ⟨(some 9), .loadN 8 (.t 8), none⟩,
  ⟨(some 10), .call 13 [(.t 9)], none⟩,
  ⟨(some 7), .move (.t 10), none⟩,
  ⟨(some 11), .extract (.t 7) 0, none⟩,
  ⟨(some 12), .extract (.t 7) 1, none⟩,
  ⟨(some 4), .move (.t 11), none⟩,
  ⟨(some 5), .move (.t 12), none⟩]
def b24_1 : SCode := .region r24_1
abbrev r24_2 : List MOper := [⟨(some 13), .move (.t 5), none⟩,
  ⟨(some 14), .bin .neq .num (.t 13) (.c (.int .i64 0)), none⟩]
def b24_2 : SCode := .region r24_2
abbrev r24_3 : List MOper := [⟨(some 15), .move (.t 5), none⟩,
  ⟨(some 2), .move (.c (.nilslice)), none⟩,
  ⟨(some 3), .move (.t 15), none⟩]
def b24_3 : SCode := .region r24_3
def b24_4 : SCode := .seq b24_3 .ret
def b24_5 : SCode := .cond (.t 14) b24_4 .skip
def b24_6 : SCode := .seq b24_2 b24_5
abbrev r24_7 : List MOper := [⟨(some 6), .alloc [.nilslice, .bool false], none⟩]
def b24_7 : SCode := .region r24_7
abbrev r24_8 : List MOper := [⟨(some 16), .fieldAddr 0 (.t 1), none⟩,
  ⟨(some 17), .load1 (.t 16), none⟩,
  ⟨(some 18), .fieldAddr 9 (.t 1), none⟩,
  ⟨(some 19), .load1 (.t 18), none⟩,
  ⟨(some 20), .fieldAddr 12 (.t 1), none⟩,
  ⟨(some 21), .load1 (.t 20), none⟩,
  ⟨(some 22), .buildSlice [.int .i64 0] 1 3 [(0, 1, (.t 17)), (1, 1, (.t 19)), (2, 1, (.t 21))], none⟩,
  ⟨(some 23), .call 26 [(.t 6), (.t 22)], none⟩]
def b24_8 : SCode := .region r24_8
abbrev t24_9 : LTree := (.quiet ⟨(some 24), .fieldAddr 10 (.t 1), none⟩ 0
  (.quiet ⟨(some 25), .fieldAddr 0 (.t 24), none⟩ 1
  (.quiet ⟨(some 26), .load1 (.t 25), none⟩ 2
  (.quiet ⟨(some 27), .fieldAddr 10 (.t 1), none⟩ 3
  (.quiet ⟨(some 28), .fieldAddr 1 (.t 27), none⟩ 4
  (.quiet ⟨(some 29), .load1 (.t 28), none⟩ 5
  (.quiet ⟨(some 30), .move (.t 4), none⟩ 6
  (.quiet ⟨(some 31), .ofBytes (.t 30), none⟩ 7
  (.quiet ⟨(some 32), .fieldAddr 13 (.t 1), none⟩ 8
  (.quiet ⟨(some 33), .load1 (.t 32), none⟩ 9
  (.loud ⟨(some 34), .call 39 [(.t 33), (.c (.func 40 []))], none⟩ [2, 5, 7]
  (.quiet ⟨(some 35), .ofBytes (.t 34), none⟩ 11
  (.loud ⟨(some 36), .buildSlice [.str []] 1 4 [(0, 1, (.t 26)), (1, 1, (.t 29)), (2, 1, (.t 31)), (3, 1, (.t 35))], none⟩ []
  (.loud ⟨(some 37), .call 27 [(.t 6), (.t 36)], none⟩ []
  .leaf .stop) .stop)) .stop)))))))))))
def b24_9 : SCode := .draw t24_9
abbrev r24_10 : List MOper := [⟨(some 38), .fieldAddr 1 (.t 6), none⟩,
  ⟨(some 39), .load1 (.t 38), none⟩]
def b24_10 : SCode := .region r24_10
abbrev r24_11 : List MOper := [⟨(some 2), .move (.c (.nilslice)), none⟩,
  ⟨(some 3), .move (.c (.int .i64 1)), none⟩]
def b24_11 : SCode := .region r24_11
def b24_12 : SCode := .seq b24_11 .ret
def b24_13 : SCode := .cond (.t 39) b24_12 .skip
def b24_14 : SCode := .seq b24_10 b24_13
abbrev r24_15 : List MOper := [⟨(some 40), .fieldAddr 0 (.t 6), none⟩,
  ⟨(some 41), .load1 (.t 40), none⟩,
  ⟨(some 2), .move (.t 41), none⟩,
  ⟨(some 3), .move (.c (.int .i64 0)), none⟩]
def b24_15 : SCode := .region r24_15
def b24_16 : SCode := .seq b24_15 .ret
def b24_17 : SCode := .seq b24_14 b24_16
def b24_18 : SCode := .seq b24_9 b24_17
def b24_19 : SCode := .seq b24_8 b24_18
def b24_20 : SCode := .seq b24_7 b24_19
def b24_21 : SCode := .seq b24_6 b24_20
def b24_22 : SCode := .seq b24_1 b24_21
def b24_23 : SCode := .seq b24_0 b24_22
def s24 : SFunc := ⟨42, [.t 2, .t 3], b24_23⟩
theorem c24 : sFn Try.prog 24 = some s24 := by kernel_rfl
theorem Z24 : XR b24_0 r24_0 ∧ XR b24_1 r24_1 ∧ XR b24_2 r24_2 ∧ XR b24_3 r24_3 ∧ XS b24_4 b24_3 .ret ∧ XC b24_5 (.t 14) b24_4 .skip ∧ XS b24_6 b24_2 b24_5 ∧ XR b24_7 r24_7 ∧ XR b24_8 r24_8 ∧ XT b24_9 t24_9 ∧ XR b24_10 r24_10 ∧ XR b24_11 r24_11 ∧ XS b24_12 b24_11 .ret ∧ XC b24_13 (.t 39) b24_12 .skip ∧ XS b24_14 b24_10 b24_13 ∧ XR b24_15 r24_15 ∧ XS b24_16 b24_15 .ret ∧ XS b24_17 b24_14 b24_16 ∧ XS b24_18 b24_9 b24_17 ∧ XS b24_19 b24_8 b24_18 ∧ XS b24_20 b24_7 b24_19 ∧ XS b24_21 b24_6 b24_20 ∧ XS b24_22 b24_1 b24_21 ∧ XS b24_23 b24_0 b24_22 ∧ XY s24 42 b24_23 [.t 2, .t 3] := ⟨rfl, rfl, rfl, rfl, rfl, sC_cond, rfl, rfl, rfl, rfl, rfl, rfl, rfl, sC_cond, rfl, rfl, rfl, rfl, rfl, rfl, rfl, rfl, rfl, rfl, rfl⟩
abbrev r34_0 : List MOper := [⟨(some 4), .move (.c (.nilslice)), none⟩,
  ⟨(some 5), .move (.c (.int .i64 0)), none⟩]
def b34_0 : SCode := .region r34_0
abbrev r34_1 : List MOper := [⟨(some 8), .move (.t 1), none⟩,
  ⟨(some 9), .lenSl (.t 8), none⟩,
  ⟨(some 10), .bin .gtr .num (.t 9) (.c (.int .i64 32768)), none⟩]
def b34_1 : SCode := .region r34_1
abbrev r34_2 : List MOper := [⟨(some 4), .move (.c (.nilslice)), none⟩,
  ⟨(some 5), .move (.c (.int .i64 3)), none⟩]
def b34_2 : SCode := .region r34_2
def b34_3 : SCode := .seq b34_2 .ret
def b34_4 : SCode := .cond (.t 10) b34_3 .skip
def b34_5 : SCode := .seq b34_1 b34_4
abbrev r34_6 : List MOper := [⟨(some 11), .move (.t 1), none⟩,
  ⟨(some 12), .lenSl (.t 11), none⟩,
  ⟨(some 13), .bin .shr .num (.t 12) (.c (.int .u64 8)), none⟩,
  ⟨(some 14), .convInt .u8 (.t 13), none⟩,
  ⟨(some 15), .move (.t 1), none⟩,
  ⟨(some 16), .lenSl (.t 15), none⟩,
  ⟨(some 17), .convInt .u8 (.t 16), none⟩,
  ⟨(some 18), .move (.t 0), none⟩,
  ⟨(some 19), .buildSlice [.int .u8 0] 1 3 [(0, 1, (.t 14)), (1, 1, (.t 17)), (2, 1, (.t 18))], none⟩,
  ⟨(some 6), .move (.t 19), none⟩]
def b34_6 : SCode := .region r34_6
abbrev r34_7 : List MOper := [⟨(some 20), .move (.t 6), none⟩,
  ⟨(some 21), .move (.t 1), none⟩,
  ⟨(some 22), .call 44 [(.t 20), (.t 21)], none⟩,
  ⟨(some 7), .move (.t 22), none⟩]
def b34_7 : SCode := .region r34_7
abbrev r34_8 : List MOper := [⟨(some 23), .move (.t 6), none⟩,
  ⟨(some 24), .move (.t 7), none⟩,
  ⟨(some 25), .bin .shr .num (.t 24) (.c (.int .u64 24)), none⟩,
  ⟨(some 26), .convInt .u8 (.t 25), none⟩,
  ⟨(some 27), .move (.t 7), none⟩,
  ⟨(some 28), .bin .shr .num (.t 27) (.c (.int .u64 16)), none⟩,
  ⟨(some 29), .convInt .u8 (.t 28), none⟩,
  ⟨(some 30), .move (.t 7), none⟩,
  ⟨(some 31), .bin .shr .num (.t 30) (.c (.int .u64 8)), none⟩,
  ⟨(some 32), .convInt .u8 (.t 31), none⟩,
  ⟨(some 33), .move (.t 7), none⟩,
  ⟨(some 34), .convInt .u8 (.t 33), none⟩,
  ⟨(some 35), .buildSlice [.int .u8 0] 1 4 [(0, 1, (.t 26)), (1, 1, (.t 29)), (2, 1, (.t 32)), (3, 1, (.t 34))], none⟩,
  ⟨(some 36), .append 1 1 (.t 23) (.t 35), none⟩,
  ⟨(some 6), .move (.t 36), none⟩]
def b34_8 : SCode := .region r34_8
abbrev r34_9 : List MOper := [⟨(some 37), .move (.t 6), none⟩,
  ⟨(some 38), .move (.t 1), none⟩,
  ⟨(some 39), .append 1 1 (.t 37) (.t 38), none⟩,
  ⟨(some 4), .move (.t 39), none⟩,
  ⟨(some 5), .move (.c (.int .i64 0)), none⟩]
def b34_9 : SCode := .region r34_9
def b34_10 : SCode := .seq b34_9 .ret
def b34_11 : SCode := .seq b34_8 b34_10
def b34_12 : SCode := .seq b34_7 b34_11
def b34_13 : SCode := .seq b34_6 b34_12
def b34_14 : SCode := .seq b34_5 b34_13
def b34_15 : SCode := .seq b34_0 b34_14
def s34 : SFunc := ⟨40, [.t 4, .t 5], b34_15⟩
theorem c34 : sFn Try.prog 34 = some s34 := by kernel_rfl
theorem Z34 : XR b34_0 r34_0 ∧ XR b34_1 r34_1 ∧ XR b34_2 r34_2 ∧ XS b34_3 b34_2 .ret ∧ XC b34_4 (.t 10) b34_3 .skip ∧ XS b34_5 b34_1 b34_4 ∧ XR b34_6 r34_6 ∧ XR b34_7 r34_7 ∧ XR b34_8 r34_8 ∧ XR b34_9 r34_9 ∧ XS b34_10 b34_9 .ret ∧ XS b34_11 b34_8 b34_10 ∧ XS b34_12 b34_7 b34_11 ∧ XS b34_13 b34_6 b34_12 ∧ XS b34_14 b34_5 b34_13 ∧ XS b34_15 b34_0 b34_14 ∧ XY s34 40 b34_15 [.t 4, .t 5] := ⟨rfl, rfl, rfl, rfl, sC_cond, rfl, rfl, rfl, rfl, rfl, rfl, rfl, rfl, rfl, rfl, rfl, rfl⟩
abbrev r39_0 : List MOper := [⟨(some 4), .move (.c (.nilslice)), none⟩]
def b39_0 : SCode := .region r39_0
abbrev r39_1 : List MOper := [⟨(some 8), .move (.t 1), none⟩,
  ⟨(some 9), .bin .eql .nilf (.t 8) (.c (.nilfunc)), none⟩,
  ⟨(some 10), .move (.t 9), none⟩,
  ⟨(some 11), .move (.t 0), (some (10, false))⟩,
  ⟨(some 12), .lenSl (.t 11), (some (10, false))⟩,
  ⟨(some 13), .bin .gtr .num (.t 12) (.c (.int .i64 1048576)), (some (10, false))⟩,
  ⟨(some 14), .pick (.t 10) (.c (.bool true)) (.t 13), none⟩]
def b39_1 : SCode := .region r39_1
abbrev r39_2 : List MOper := [⟨(some 4), .move (.c (.nilslice)), none⟩]
def b39_2 : SCode := .region r39_2
def b39_3 : SCode := .seq b39_2 .ret
def b39_4 : SCode := .cond (.t 14) b39_3 .skip
def b39_5 : SCode := .seq b39_1 b39_4
abbrev r39_6 : List MOper := [⟨(some 5), .alloc [.nilslice, .bool false], none⟩]
def b39_6 : SCode := .region r39_6
abbrev r39_7 : List MOper := [⟨(some 15), .move (.t 0), none⟩,
  ⟨(some 16), .lenSl (.t 15), none⟩,
  ⟨(some 17), .buildSlice [.int .i64 0] 1 1 [(0, 1, (.t 16))], none⟩,
  ⟨(some 18), .call 26 [(.t 5), (.t 17)], none⟩]
def b39_7 : SCode := .region r39_7
abbrev r39_8 : List MOper := [⟨(some 19), .move (.t 0), none⟩,
  ⟨(some 20), .lenSl (.t 19), none⟩,
  ⟨(some 21), .move (.c (.int .i64 0)), none⟩]
def b39_8 : SCode := .region r39_8
abbrev r39_9 : List MOper := [⟨(some 22), .bin .lss .num (.t 21) (.t 20), none⟩]
def b39_9 : SCode := .region r39_9
def b39_10 : SCode := .cond (.t 22) .skip (.exit 0)
abbrev r39_11 : List MOper := [⟨(some 23), .indexAddr 2 (.t 19) (.t 21), none⟩,
  ⟨(some 24), .loadN 2 (.t 23), none⟩,
  ⟨(some 7), .alloc [.str [], .str []], none⟩,
  ⟨none, .store 2 (.t 7) (.t 24), none⟩]
def b39_11 : SCode := .region r39_11
abbrev r39_12 : List MOper := [⟨(some 25), .move (.t 1), none⟩,
  ⟨(some 26), .loadN 2 (.t 7), none⟩,
  ⟨(some 27), .callv (.t 25) [(.t 26)], none⟩,
  ⟨(some 28), .ofBytes (.t 27), none⟩,
  ⟨(some 29), .buildSlice [.str []] 1 1 [(0, 1, (.t 28))], none⟩,
  ⟨(some 30), .call 27 [(.t 5), (.t 29)], none⟩]
def b39_12 : SCode := .region r39_12
def b39_13 : SCode := .seq b39_11 b39_12
def b39_14 : SCode := .block 1 b39_13
abbrev r39_15 : List MOper := [⟨(some 31), .bin .add .num (.t 21) (.c (.int .i64 1)), none⟩,
  ⟨(some 21), .move (.t 31), none⟩]
def b39_15 : SCode := .region r39_15
def b39_16 : SCode := .seq b39_14 b39_15
def b39_17 : SCode := .seq b39_10 b39_16
def b39_18 : SCode := .seq b39_9 b39_17
def b39_19 : SCode := .loop b39_18
def b39_20 : SCode := .block 0 b39_19
def b39_21 : SCode := .seq b39_8 b39_20
abbrev r39_22 : List MOper := [⟨(some 32), .fieldAddr 0 (.t 5), none⟩,
  ⟨(some 33), .load1 (.t 32), none⟩,
  ⟨(some 4), .move (.t 33), none⟩]
def b39_22 : SCode := .region r39_22
def b39_23 : SCode := .seq b39_22 .ret
def b39_24 : SCode := .seq b39_21 b39_23
def b39_25 : SCode := .seq b39_7 b39_24
def b39_26 : SCode := .seq b39_6 b39_25
def b39_27 : SCode := .seq b39_5 b39_26
def b39_28 : SCode := .seq b39_0 b39_27
def s39 : SFunc := ⟨34, [.t 4], b39_28⟩
theorem c39 : sFn Try.prog 39 = some s39 := by kernel_rfl
theorem Z39 : XR b39_0 r39_0 ∧ XR b39_1 r39_1 ∧ XR b39_2 r39_2 ∧ XS b39_3 b39_2 .ret ∧ XC b39_4 (.t 14) b39_3 .skip ∧ XS b39_5 b39_1 b39_4 ∧ XR b39_6 r39_6 ∧ XR b39_7 r39_7 ∧ XR b39_8 r39_8 ∧ XR b39_9 r39_9 ∧ XC b39_10 (.t 22) .skip (.exit 0) ∧ XR b39_11 r39_11 ∧ XR b39_12 r39_12 ∧ XS b39_13 b39_11 b39_12 ∧ XB b39_14 1 b39_13 ∧ XR b39_15 r39_15 ∧ XS b39_16 b39_14 b39_15 ∧ XS b39_17 b39_10 b39_16 ∧ XS b39_18 b39_9 b39_17 ∧ XB b39_20 0 b39_19 ∧ XS b39_21 b39_8 b39_20 ∧ XR b39_22 r39_22 ∧ XS b39_23 b39_22 .ret ∧ XS b39_24 b39_21 b39_23 ∧ XS b39_25 b39_7 b39_24 ∧ XS b39_26 b39_6 b39_25 ∧ XS b39_27 b39_5 b39_26 ∧ XS b39_28 b39_0 b39_27 ∧ XY s39 34 b39_28 [.t 4] := ⟨rfl, rfl, rfl, rfl, sC_cond, rfl, rfl, rfl, rfl, rfl, sC_cond, rfl, rfl, rfl, rfl, rfl, rfl, rfl, rfl, rfl, rfl, rfl, rfl, rfl, rfl, rfl, rfl, rfl, rfl⟩
abbrev r21_0 : List MOper := [⟨(some 2), .move (.c (.nilslice)), none⟩]
def b21_0 : SCode := .region r21_0
abbrev r21_1 : List MOper := [⟨(some 3), .move (.t 0), none⟩,
  ⟨(some 4), .bin .eql .nilp (.t 3) (.c (.nilptr)), none⟩]
def b21_1 : SCode := .region r21_1
abbrev r21_2 : List MOper := [⟨(some 2), .move (.c (.nilslice)), none⟩]
def b21_2 : SCode := .region r21_2
def b21_3 : SCode := .seq b21_2 .ret
def b21_4 : SCode := .cond (.t 4) b21_3 .skip
def b21_5 : SCode := .seq b21_1 b21_4
abbrev r21_6 : List MOper := [⟨(some 5), .move (.t 0), none⟩,
  ⟨(some 6), .nilCheck (.t 5), none⟩,
  ⟨(some 7), .fieldAddr 0 (.t 6), none⟩,
  ⟨(some 8), .load1 (.t 7), none⟩,
  ⟨(some 9), .call 36 [(.t 8)], none⟩,
  ⟨(some 2), .move (.t 9), none⟩]
def b21_6 : SCode := .region r21_6
def b21_7 : SCode := .seq b21_6 .ret
def b21_8 : SCode := .seq b21_5 b21_7
def b21_9 : SCode := .seq b21_0 b21_8
def s21 : SFunc := ⟨10, [.t 2], b21_9⟩
theorem c21 : sFn Try.prog 21 = some s21 := by kernel_rfl
theorem Z21 : XR b21_0 r21_0 ∧ XR b21_1 r21_1 ∧ XR b21_2 r21_2 ∧ XS b21_3 b21_2 .ret ∧ XC b21_4 (.t 4) b21_3 .skip ∧ XS b21_5 b21_1 b21_4 ∧ XR b21_6 r21_6 ∧ XS b21_7 b21_6 .ret ∧ XS b21_8 b21_5 b21_7 ∧ XS b21_9 b21_0 b21_8 ∧ XY s21 10 b21_9 [.t 2] := ⟨rfl, rfl, rfl, rfl, sC_cond, rfl, rfl, rfl, rfl, rfl, rfl⟩
abbrev r36_0 : List MOper := [⟨(some 2), .move (.c (.nilslice)), none⟩]
def b36_0 : SCode := .region r36_0
abbrev r36_1 : List MOper := [⟨(some 3), .move (.t 0), none⟩,
  ⟨(some 4), .bin .eql .nils (.t 3) (.c (.nilslice)), none⟩]
def b36_1 : SCode := .region r36_1
abbrev r36_2 : List MOper := [⟨(some 2), .move (.c (.nilslice)), none⟩]
def b36_2 : SCode := .region r36_2
def b36_3 : SCode := .seq b36_2 .ret
def b36_4 : SCode := .cond (.t 4) b36_3 .skip
def b36_5 : SCode := .seq b36_1 b36_4
abbrev r36_6 : List MOper := [⟨(some 5), .buildSlice [.int .u8 0] 1 0 [], none⟩,
  ⟨(some 6), .move (.t 0), none⟩,
  ⟨(some 7), .append 1 1 (.t 5) (.t 6), none⟩,
  ⟨(some 2), .move (.t 7), none⟩]
def b36_6 : SCode := .region r36_6
def b36_7 : SCode := .seq b36_6 .ret
def b36_8 : SCode := .seq b36_5 b36_7
def b36_9 : SCode := .seq b36_0 b36_8
def s36 : SFunc := ⟨8, [.t 2], b36_9⟩
theorem c36 : sFn Try.prog 36 = some s36 := by kernel_rfl
theorem Z36 : XR b36_0 r36_0 ∧ XR b36_1 r36_1 ∧ XR b36_2 r36_2 ∧ XS b36_3 b36_2 .ret ∧ XC b36_4 (.t 4) b36_3 .skip ∧ XS b36_5 b36_1 b36_4 ∧ XR b36_6 r36_6 ∧ XS b36_7 b36_6 .ret ∧ XS b36_8 b36_5 b36_7 ∧ XS b36_9 b36_0 b36_8 ∧ XY s36 8 b36_9 [.t 2] := ⟨rfl, rfl, rfl, rfl, sC_cond, rfl, rfl, rfl, rfl, rfl, rfl⟩

set_option maxHeartbeats 4000000
set_option maxRecDepth 10000
theorem rws_pure (bs : List UInt8) : pureLL (rws bs) = true := pureLL_of fun r hr => by
  obtain ⟨b, _, rfl⟩ := List.mem_map.1 hr
  rfl
theorem imm_pure (bs : List UInt8) (f nn : Bool) : (AV.imm (rws bs) f nn).pure = true := by simp only [AV.pure, rws_pure]
theorem rws_def (bs : List UInt8) : (bs.map fun b => [byteAV b]) = rws bs := _root_.id rfl
theorem packR_pure (bad : Bool) (bs : List UInt8) : (packR bad bs).pure = true := by
  unfold packR
  cases bad
  · simp only [Bool.false_eq_true, if_false, AV.pure, pureL, rws_def, rws_pure, Bool.and_self]
  · rfl
theorem bytes_frz {σ : AHeap} {d n : Nat} {bs : List UInt8} (h : hget σ d = some (bs.map byteAV)) (hn : n = bs.length) : Frz σ (.slice d 0 n none 1) (.imm (rws bs) false false) := by
  subst hn
  refine .slice h (by rw [Nat.mul_one]; exact sub_all (by simp)) (by simp [rws]) ?_ (fun i y z hy hz => ?_)
  · intro r hr
    obtain ⟨b, _, rfl⟩ := List.mem_map.1 hr
    rfl
  · unfold rws at hz
    rw [rows_flat, hy] at hz
    cases hz
    obtain ⟨b, _, rfl⟩ := List.mem_map.1 (List.mem_of_getElem? hy)
    exact .pure rfl
theorem pk_slice {σ : AHeap} {id d : Nat} {bs : List UInt8} {bad : Bool} (h : Pk σ id bs bad (some d)) : hget σ id = some [.slice d 0 bs.length none 1, .bool bad] ∧ hget σ d = some (bs.map byteAV) ∧ d ≠ id := by
  rcases h with ⟨h, _⟩ | ⟨d', h, h1, h2, h3⟩
  · cases h
  · cases h; exact ⟨h2, h3, h1⟩
theorem pk_lt {σ : AHeap} {id d : Nat} {bs : List UInt8} {bad : Bool} (h : Pk σ id bs bad (some d)) : id < σ.length ∧ d < σ.length := ⟨hget_lt (pk_slice h).1, hget_lt (pk_slice h).2.1⟩
theorem out_frz {bs : List UInt8} {r : AV} {σ : AHeap} (h : ∃ d, hget σ d = some (bs.map byteAV) ∧ r = .slice d 0 bs.length none 1) : ∃ r1, Frz σ r r1 ∧ r1.pure = true ∧ r1 = .imm (rws bs) false false := by
  obtain ⟨d, h1, rfl⟩ := h
  exact ⟨_, bytes_frz h1 rfl, imm_pure _ _ _, rfl⟩
theorem lenOf_nilS : lenOf .nilslice = some 0 := _root_.id rfl
theorem txt_len (s : List UInt8) : (txt s).length = 4 + s.length := by simp [txt, u32_len]
def J1 : PCall := rowQ 26 numD noCall
theorem J1_app {f : FuncId} {args : List AV} {σ : AHeap} {K : AV → AHeap → Prop} : J1 f args σ K = rowQ 26 numD noCall f args σ K := _root_.id rfl
theorem J1_sound : Sound Try.prog J1 := rowQ_sound numD_ok (noCall_sound _)
/-! No records. -/
theorem none_ok : Tri Try.prog 39 [.nilslice, .func 40 []] [] fun r _ => r.pure = true ∧ r = .imm (rws (u32 0)) false false := by
  refine Tri.frozen (Q := fun r σ => ∃ d, hget σ d = some ((u32 0).map byteAV) ∧ r = .slice d 0 (u32 0).length none 1) ?_ (fun r σ h => out_frz h)
  refine Tri.of_s c39 J1_sound ?_
  simp only [J1_app, Z39, base1, ↓reduceIte, Nat.reduceAdd, Nat.reduceSub, Nat.reduceMul, Nat.reduceEqDiff, Nat.reduceLeDiff, Nat.reduceLT, Int.reduceLT, Int.reduceLE, Int.reduceEq, Int.reduceNe, Int.reduceToNat, Int.reduceAdd, Int.reduceSub, reduceCtorEq, Nat.reduceBEq, Nat.reduceBNe, lenOf_nilS]
  refine ⟨0, 1, [0], some 1, [], false, none, rfl, rfl, by decide, by simp, by simp, .inl ⟨rfl, rfl, rfl⟩, fun σ1 D1 q1 f1 => ?_⟩
  obtain ⟨d, rfl, hd⟩ := pk_some q1 (by simp [u32])
  obtain ⟨g1, g2, g3⟩ := pk_slice q1
  simp only [J1_app, Z39, base1, ↓reduceIte, Nat.reduceAdd, Nat.reduceSub, Nat.reduceMul, Nat.reduceEqDiff, Nat.reduceLeDiff, Nat.reduceLT, Int.reduceLT, Int.reduceLE, Int.reduceEq, Int.reduceNe, Int.reduceToNat, Int.reduceAdd, Int.reduceSub, reduceCtorEq, Nat.reduceBEq, Nat.reduceBNe, lenOf_nilS]
  refine sC_inv (a := b39_18) (fun m e τ => τ = σ1 ∧ e 5 = .ptr 0 0 ∧ e 20 = .int .i64 0 ∧ e 21 = .int .i64 0) 0 _ _ (.refl _ _ _) ⟨rfl, rfl, rfl, rfl⟩ ?_
  rintro m e τ ⟨rfl, e5, e20, e21⟩
  simp only [J1_app, Z39, base1, ↓reduceIte, Nat.reduceAdd, Nat.reduceSub, Nat.reduceMul, Nat.reduceEqDiff, Nat.reduceLeDiff, Nat.reduceLT, Int.reduceLT, Int.reduceLE, Int.reduceEq, Int.reduceNe, Int.reduceToNat, Int.reduceAdd, Int.reduceSub, reduceCtorEq, Nat.reduceBEq, Nat.reduceBNe, loopR_exit, loopR_ret, e5, e20, e21, g1]
  exact ⟨d, hd, rfl⟩
def noneD (args : List AV) (σ : AHeap) (K : AV → AHeap → Prop) : Prop := args = [.nilslice, .func 40 []] ∧ K (.imm (rws (u32 0)) false false) σ
theorem noneD_ok (args : List AV) (σ : AHeap) (K : AV → AHeap → Prop) (h : noneD args σ K) : Tri Try.prog 39 args σ K := by
  obtain ⟨rfl, h⟩ := h
  exact (Tri.pureD rfl none_ok σ).mono fun r σ' hr => by rw [hr.1, hr.2]; exact h
/-! The deed, packed. -/
def zAsk : AskV := ⟨0, 0, 0, [], [], [], [], 0⟩
theorem zAsk_bad : zAsk.bad = false := by decide +kernel
def askD (args : List AV) (σ : AHeap) (K : AV → AHeap → Prop) : Prop := args = [.agg zAsk.cells] ∧ K (.tuple [.imm (rws zAsk.bytes) false false, .int .i64 0]) σ
theorem askD_ok (args : List AV) (σ : AHeap) (K : AV → AHeap → Prop) (h : askD args σ K) : Tri Try.prog 13 args σ K := by
  obtain ⟨rfl, h⟩ := h
  refine (Tri.pureD rfl ((ask_ok zAsk (by decide +kernel)).mono fun r _ hr => ⟨by rw [hr.2]; exact packR_pure _ _, hr.2⟩) σ).mono fun r σ' hr => ?_
  rw [hr.1, hr.2]
  have : packR zAsk.bad zAsk.bytes = .tuple [.imm (rws zAsk.bytes) false false, .int .i64 0] := by rw [zAsk_bad]; rfl
  rw [this]; exact h
def J2 : PCall := rowQ 13 askD (rowQ 26 numD (rowQ 27 textD (rowQ 39 noneD noCall)))
theorem J2_app {f : FuncId} {args : List AV} {σ : AHeap} {K : AV → AHeap → Prop} : J2 f args σ K = rowQ 13 askD (rowQ 26 numD (rowQ 27 textD (rowQ 39 noneD noCall))) f args σ K := _root_.id rfl
theorem J2_sound : Sound Try.prog J2 := rowQ_sound askD_ok (rowQ_sound numD_ok (rowQ_sound textD_ok (rowQ_sound noneD_ok (noCall_sound _))))
abbrev bigC (x : List UInt8) : List AV := [.int .i64 0, .int .i64 0, .int .i64 0, .int .i64 0, .str [], .str [], .str [], .str [], .int .i64 0, .int .i64 0, .str x, .str [], .int .i64 0, .nilslice]
theorem sub_ask (x : List UInt8) : sub ((bigC x).drop 1) 0 8 = some zAsk.cells := rfl
theorem big_ok (x : List UInt8) (hx : x.length = 32768) : Tri Try.prog 24 [.agg (bigC x)] [] fun r _ => r.pure = true ∧ ∃ bs : List UInt8, 32768 < bs.length ∧ r = .tuple [.imm (rws bs) false false, .int .i64 0] := by
  refine Tri.frozen (Q := fun r σ => ∃ d bs, 32768 < bs.length ∧ hget σ d = some (bs.map byteAV) ∧ r = .tuple [.slice d 0 bs.length none 1, .int .i64 0]) ?_ (fun r σ ⟨d, bs, h1, h2, h3⟩ => ⟨.tuple [.imm (rws bs) false false, .int .i64 0], ?_, by simp only [AV.pure, pureL, rws_pure, Bool.and_self], bs, h1, rfl⟩)
  · refine Tri.of_s c24 J2_sound ?_
    simp only [J2_app, Z24, base1, ↓reduceIte, Nat.reduceAdd, Nat.reduceSub, Nat.reduceMul, Nat.reduceEqDiff, Nat.reduceLeDiff, Nat.reduceLT, Int.reduceLT, Int.reduceLE, Int.reduceEq, Int.reduceNe, Int.reduceToNat, Int.reduceAdd, Int.reduceSub, reduceCtorEq, Nat.reduceBEq, Nat.reduceBNe, sub_ask]
    refine ⟨rfl, ?_⟩
    simp only [J2_app, Z24, base1, ↓reduceIte, Nat.reduceAdd, Nat.reduceSub, Nat.reduceMul, Nat.reduceEqDiff, Nat.reduceLeDiff, Nat.reduceLT, Int.reduceLT, Int.reduceLE, Int.reduceEq, Int.reduceNe, Int.reduceToNat, Int.reduceAdd, Int.reduceSub, reduceCtorEq, Nat.reduceBEq, Nat.reduceBNe]
    refine ⟨1, 2, [0, 0, 0], some 3, [], false, none, rfl, rfl, by decide, by simp, by simp, .inl ⟨rfl, rfl, rfl⟩, fun σ1 D1 q1 f1 => ?_⟩
    obtain ⟨d1, rfl, hd1⟩ := pk_some q1 (by simp [u32])
    obtain ⟨g0, g0'⟩ := f1 0 _ rfl (by decide) (by simp)
    have q1 : Pk σ1 1 ([0, 0, 0].flatMap u32) false (some d1) := q1
    simp only [J2_app, Z24, base1, ↓reduceIte, Nat.reduceAdd, Nat.reduceSub, Nat.reduceMul, Nat.reduceEqDiff, Nat.reduceLeDiff, Nat.reduceLT, Int.reduceLT, Int.reduceLE, Int.reduceEq, Int.reduceNe, Int.reduceToNat, Int.reduceAdd, Int.reduceSub, reduceCtorEq, Nat.reduceBEq, Nat.reduceBNe, g0, ofRws]
    refine ⟨rfl, ?_⟩
    simp only [J2_app, Z24, base1, ↓reduceIte, Nat.reduceAdd, Nat.reduceSub, Nat.reduceMul, Nat.reduceEqDiff, Nat.reduceLeDiff, Nat.reduceLT, Int.reduceLT, Int.reduceLE, Int.reduceEq, Int.reduceNe, Int.reduceToNat, Int.reduceAdd, Int.reduceSub, reduceCtorEq, Nat.reduceBEq, Nat.reduceBNe, g0, ofRws]
    have hlt := (pk_slice q1).1
    have d1lt := hget_lt hd1
    have idlt := hget_lt hlt
    obtain ⟨p1, r1⟩ := pk_push q1 [.str x, .str [], .str zAsk.bytes, .str (u32 0)]
    have htot : total [x, [], zAsk.bytes, u32 0] = 32768 + 52 := by
      have : zAsk.bytes.length = 32 := rfl
      simp only [total, List.flatMap_cons, List.flatMap_nil, List.length_append, List.length_nil, txt_len, hx, u32_len, this]
    have hbad : (false || [x, [], zAsk.bytes, u32 0].any badT) = false := by
      have h1 : badT x = false := by simp only [badT, badN, hx]; decide
      have h2 : badT ([] : List UInt8) = false := by decide +kernel
      have h3 : badT zAsk.bytes = false := by decide +kernel
      have h4 : badT (u32 0) = false := by decide +kernel
      simp only [List.any_cons, List.any_nil, h1, h2, h3, h4, Bool.or_false]
    have hlen : ([0, 0, 0].flatMap u32 ++ [x, [], zAsk.bytes, u32 0].flatMap txt).length = 32832 := by
      have : total [x, [], zAsk.bytes, u32 0] = ([x, [], zAsk.bytes, u32 0].flatMap txt).length := rfl
      rw [List.length_append, ← this, htot]; rfl
    refine ⟨1, σ1.length, [x, [], zAsk.bytes, u32 0], some 4, _, _, some d1, rfl, push_new rfl, by omega, by simp; omega, by rw [htot]; decide, by simp, p1, fun σ2 D2 q2 f2 => ?_⟩
    rw [hbad] at q2
    obtain ⟨d2, rfl, hd2⟩ := pk_some q2 (by intro h; have := congrArg List.length h; rw [hlen] at this; cases this)
    obtain ⟨g2, g3, _⟩ := pk_slice q2
    simp only [J2_app, Z24, base1, ↓reduceIte, Nat.reduceAdd, Nat.reduceSub, Nat.reduceMul, Nat.reduceEqDiff, Nat.reduceLeDiff, Nat.reduceLT, Int.reduceLT, Int.reduceLE, Int.reduceEq, Int.reduceNe, Int.reduceToNat, Int.reduceAdd, Int.reduceSub, reduceCtorEq, Nat.reduceBEq, Nat.reduceBNe, g2]
    rw [← List.length_append]
    exact ⟨d2, _, by rw [hlen]; decide, g3, rfl⟩
  · subst h3
    refine .tuple rfl (fun i y z hy hz => ?_)
    match i with
    | 0 => simp at hy hz; subst hy; subst hz; exact bytes_frz h2 rfl
    | 1 => simp at hy hz; subst hy; subst hz; exact .pure rfl
    | n + 2 => simp at hy
def bigD (args : List AV) (σ : AHeap) (K : AV → AHeap → Prop) : Prop := ∃ x : List UInt8, args = [.agg (bigC x)] ∧ x.length = 32768 ∧ ∀ bs : List UInt8, 32768 < bs.length → K (.tuple [.imm (rws bs) false false, .int .i64 0]) σ
theorem bigD_ok (args : List AV) (σ : AHeap) (K : AV → AHeap → Prop) (h : bigD args σ K) : Tri Try.prog 24 args σ K := by
  obtain ⟨x, rfl, hx, h⟩ := h
  exact (Tri.pureD rfl (big_ok x hx) σ).mono fun r σ' ⟨⟨bs, h1, h2⟩, h3⟩ => by rw [h2, h3]; exact h bs h1
/-! No frame of so many. -/
def longD (args : List AV) (σ : AHeap) (K : AV → AHeap → Prop) : Prop := ∃ (k : Int) (bs : List UInt8), args = [.int .u8 k, .imm (rws bs) false false] ∧ 32768 < bs.length ∧ K (.tuple [.nilslice, .int .i64 3]) σ
theorem longD_ok (args : List AV) (σ : AHeap) (K : AV → AHeap → Prop) (h : longD args σ K) : Tri Try.prog 34 args σ K := by
  obtain ⟨k, bs, rfl, hl, h⟩ := h
  refine Tri.of_s c34 (noCall_sound _) ?_
  have hl' : (32768 : Int) < (bs.length : Int) := by omega
  simp only [Z34, base1, ↓reduceIte, Nat.reduceAdd, Nat.reduceSub, Nat.reduceMul, Nat.reduceEqDiff, Nat.reduceLeDiff, Nat.reduceLT, Int.reduceLT, Int.reduceLE, Int.reduceEq, Int.reduceNe, Int.reduceToNat, Int.reduceAdd, Int.reduceSub, reduceCtorEq, Nat.reduceBEq, Nat.reduceBNe, lenOf_imm, rws_len, hl']
  exact h
def J3 : PCall := rowQ 24 bigD (rowQ 34 longD noCall)
theorem J3_app {f : FuncId} {args : List AV} {σ : AHeap} {K : AV → AHeap → Prop} : J3 f args σ K = rowQ 24 bigD (rowQ 34 longD noCall) f args σ K := _root_.id rfl
theorem J3_sound : Sound Try.prog J3 := rowQ_sound bigD_ok (rowQ_sound longD_ok (noCall_sound _))
def addBigD (args : List AV) (σ : AHeap) (K : AV → AHeap → Prop) : Prop := ∃ (M : Nat) (x : List UInt8), args = [.ptr M 0, .agg (bigC x)] ∧ x.length = 32768 ∧ ∀ c, K (.int .i64 3) (hpush σ c)
theorem addBigD_ok (args : List AV) (σ : AHeap) (K : AV → AHeap → Prop) (h : addBigD args σ K) : Tri Try.prog 19 args σ K := by
  obtain ⟨M, x, rfl, hx, h⟩ := h
  refine Tri.of_s c19 J3_sound ?_
  have pn : ∀ c : List AV, hget (hpush σ c) σ.length = some c := fun c => push_new rfl
  have sb : sub (bigC x) 0 14 = some (bigC x) := rfl
  simp only [J3_app, Z19, base1, ↓reduceIte, Nat.reduceAdd, Nat.reduceSub, Nat.reduceMul, Nat.reduceEqDiff, Nat.reduceLeDiff, Nat.reduceLT, Int.reduceLT, Int.reduceLE, Int.reduceEq, Int.reduceNe, Int.reduceToNat, Int.reduceAdd, Int.reduceSub, reduceCtorEq, Nat.reduceBEq, Nat.reduceBNe, pn, sb]
  refine ⟨x, rfl, hx, fun bs hb => ?_⟩
  simp only [J3_app, Z19, base1, ↓reduceIte, Nat.reduceAdd, Nat.reduceSub, Nat.reduceMul, Nat.reduceEqDiff, Nat.reduceLeDiff, Nat.reduceLT, Int.reduceLT, Int.reduceLE, Int.reduceEq, Int.reduceNe, Int.reduceToNat, Int.reduceAdd, Int.reduceSub, reduceCtorEq, Nat.reduceBEq, Nat.reduceBNe, pn, sb]
  refine ⟨7, bs, rfl, hb, ?_⟩
  simp only [J3_app, Z19, base1, ↓reduceIte, Nat.reduceAdd, Nat.reduceSub, Nat.reduceMul, Nat.reduceEqDiff, Nat.reduceLeDiff, Nat.reduceLT, Int.reduceLT, Int.reduceLE, Int.reduceEq, Int.reduceNe, Int.reduceToNat, Int.reduceAdd, Int.reduceSub, reduceCtorEq, Nat.reduceBEq, Nat.reduceBNe, pn, sb]
  exact h _
/-! All bytes. -/
def cloneD (args : List AV) (σ : AHeap) (K : AV → AHeap → Prop) : Prop := ∃ (d n : Nat) (cs : List AV), args = [.slice d 0 n none 1] ∧ hget σ d = some cs ∧ cs.length = n ∧ (cs.all fun x => x.isCell) = true ∧ n ≤ 100000 ∧ 0 < n ∧ ∀ j σ', K (.slice j 0 n none 1) σ'
theorem cloneD_ok (args : List AV) (σ : AHeap) (K : AV → AHeap → Prop) (h : cloneD args σ K) : Tri Try.prog 36 args σ K := by
  obtain ⟨d, n, cs, rfl, hd, hl, hc, hn, h0, h⟩ := h
  refine Tri.of_s c36 (noCall_sound _) ?_
  have bd : hget (hpush σ []) d = some cs := push_old hd
  have e1 : elemsOf (hpush σ []) 1 (.slice d 0 n none 1) = some cs := by
    simp only [elemsOf, if_true, bd, Option.bind_some, Nat.mul_one]; exact sub_all hl.symm
  have ha : evAppend 1 1 (.slice σ.length 0 0 (some 0) 1) (.slice d 0 n none 1) (hpush σ []) = some (.slice (σ.length + 1) 0 n none 1, hpush (hpush σ []) cs) := by
    have l1 : lenOf (.slice d 0 n none 1) = some n := rfl
    have l0 : lenOf (.slice σ.length 0 0 (some 0) 1) = some 0 := rfl
    have hg : mayGrow (0 + n) 1 = true := by simp only [mayGrow, decide_eq_true_eq]; omega
    simp only [evAppend, e1, l1, l0, hg, hc, Bool.and_self, if_true, grown, push_len]
  simp only [Z36, base1, ↓reduceIte, Nat.reduceAdd, Nat.reduceSub, Nat.reduceMul, Nat.reduceEqDiff, Nat.reduceLeDiff, Nat.reduceLT, Int.reduceLT, Int.reduceLE, Int.reduceEq, Int.reduceNe, Int.reduceToNat, Int.reduceAdd, Int.reduceSub, reduceCtorEq, Nat.reduceBEq, Nat.reduceBNe, h0, ha]
  exact h _ _
def J4 : PCall := rowQ 36 cloneD noCall
theorem J4_app {f : FuncId} {args : List AV} {σ : AHeap} {K : AV → AHeap → Prop} : J4 f args σ K = rowQ 36 cloneD noCall f args σ K := _root_.id rfl
theorem J4_sound : Sound Try.prog J4 := rowQ_sound cloneD_ok (noCall_sound _)
def bytesD (args : List AV) (σ : AHeap) (K : AV → AHeap → Prop) : Prop := ∃ (M d n : Nat) (z : AV) (cs : List AV), args = [.ptr M 0] ∧ hget σ M = some [.slice d 0 n none 1, z] ∧ hget σ d = some cs ∧ cs.length = n ∧ (cs.all fun x => x.isCell) = true ∧ n ≤ 100000 ∧ 0 < n ∧ ∀ j σ', K (.slice j 0 n none 1) σ'
theorem bytesD_ok (args : List AV) (σ : AHeap) (K : AV → AHeap → Prop) (h : bytesD args σ K) : Tri Try.prog 21 args σ K := by
  obtain ⟨M, d, n, z, cs, rfl, hM, hd, hl, hc, hn, h0, h⟩ := h
  refine Tri.of_s c21 J4_sound ?_
  simp only [J4_app, Z21, base1, ↓reduceIte, Nat.reduceAdd, Nat.reduceSub, Nat.reduceMul, Nat.reduceEqDiff, Nat.reduceLeDiff, Nat.reduceLT, Int.reduceLT, Int.reduceLE, Int.reduceEq, Int.reduceNe, Int.reduceToNat, Int.reduceAdd, Int.reduceSub, reduceCtorEq, Nat.reduceBEq, Nat.reduceBNe, hM]
  refine ⟨d, n, cs, rfl, hd, hl, hc, hn, h0, fun j σ' => ?_⟩
  simp only [J4_app, Z21, base1, ↓reduceIte, Nat.reduceAdd, Nat.reduceSub, Nat.reduceMul, Nat.reduceEqDiff, Nat.reduceLeDiff, Nat.reduceLT, Int.reduceLT, Int.reduceLE, Int.reduceEq, Int.reduceNe, Int.reduceToNat, Int.reduceAdd, Int.reduceSub, reduceCtorEq, Nat.reduceBEq, Nat.reduceBNe, hM]
  exact h _ _
/-! The law's end. -/
def J5 : PCall := rowQ 19 addBigD (rowQ 21 bytesD noCall)
theorem J5_app {f : FuncId} {args : List AV} {σ : AHeap} {K : AV → AHeap → Prop} : J5 f args σ K = rowQ 19 addBigD (rowQ 21 bytesD noCall) f args σ K := _root_.id rfl
theorem J5_sound : Sound Try.prog J5 := rowQ_sound addBigD_ok (rowQ_sound bytesD_ok (noCall_sound _))
def bigT : List UInt8 := List.replicate 32768 0
def bigZ : List AV := List.replicate 32768 (AV.int .u8 0)
theorem bigT_len : bigT.length = 32768 := by unfold bigT; exact List.length_replicate
theorem sOp_mk32 {C : PCall} {e : Env} {σ : AHeap} {K : AV → AHeap → Prop} : sOp C (.makeSlice [.int .u8 0] 1 1 (.c (.int .i64 32768)) (.c (.int .i64 32768))) e σ K = K (.slice σ.length 0 32768 (some 32768) 1) (hpush σ bigZ) := by
  have h1 : evOp (Opd.ev e) σ (.makeSlice [.int .u8 0] 1 1 (.c (.int .i64 32768)) (.c (.int .i64 32768))) = (if (0 : Int) ≤ 32768 ∧ (32768 : Int) ≤ 32768 ∧ (32768 : Int) ≤ 9223372036854775807 ∧ ((1 : Nat) : Int) * 32768 ≤ 281474976710656 then some (.slice σ.length 0 (Int.toNat 32768) (some (Int.toNat 32768)) 1, hpush σ ((List.replicate (Int.toNat 32768) [AV.int .u8 0]).flatten)) else none) := _root_.id rfl
  have h2 : sOp C (.makeSlice [.int .u8 0] 1 1 (.c (.int .i64 32768)) (.c (.int .i64 32768))) e σ K = goO (evOp (Opd.ev e) σ (.makeSlice [.int .u8 0] 1 1 (.c (.int .i64 32768)) (.c (.int .i64 32768)))) K := _root_.id rfl
  have h3 : Int.toNat 32768 = 32768 := _root_.id rfl
  have h4 : ∀ n : Nat, (List.replicate n [AV.int .u8 0]).flatten = List.replicate n (AV.int .u8 0) := fun n => List.flatten_replicate_singleton
  rw [h2, h1, if_pos (by decide), h3, h4]
  rfl
theorem ofZ (σ : AHeap) : Gz.ofBytes (hpush σ bigZ) (.slice σ.length 0 32768 (some 32768) 1) = some bigT := ofZeros (hpush σ bigZ) σ.length 32768 (some 32768) (push_new rfl)
theorem yes_true {σ : AHeap} : Yes (.bool true) σ := rfl
theorem rest26 (e : Env) (σ : AHeap) (h : endQ e σ = true) : sC J5 0 b5_26 (unw J5 0 (RetQ [.t 0] Yes) .fin) e σ := by
  simp only [endQ, Bool.and_eq_true] at h
  obtain ⟨h1, h2, h3, h4⟩ := h
  have h1 := AV.sames_eq h1
  simp only [seen, List.cons.injEq, and_true] at h1
  obtain ⟨e1, e2, e5, e6, e7, e8, e9, e11, e13, e14, e16⟩ := h1
  have g82 : hget σ 82 = some atM := by
    unfold heapIs at h2
    split at h2
    · rename_i c hc; rw [hc, AV.sames_eq h2]
    · cases h2
  have g262 : hget σ 262 = some atL := by
    unfold heapIs at h3
    split at h3
    · rename_i c hc; rw [hc, AV.sames_eq h3]
    · cases h3
  obtain ⟨cs, g265, hl, hc⟩ : ∃ cs, hget σ 265 = some cs ∧ cs.length = 87 ∧ (cs.all fun x => x.isCell) = true := by
    unfold heapLen at h4
    split at h4
    · rename_i c hc
      rw [Bool.and_eq_true] at h4
      exact ⟨c, hc, Nat.eq_of_beq_eq_true h4.1, h4.2⟩
    · cases h4
  have o82 : ∀ c : List AV, hget (hpush σ c) 82 = some atM := fun c => push_old g82
  have o262 : ∀ c : List AV, hget (hpush σ c) 262 = some atL := fun c => push_old g262
  simp only [J5_app, Z5, base1, ↓reduceIte, Nat.reduceAdd, Nat.reduceSub, Nat.reduceMul, Nat.reduceEqDiff, Nat.reduceLeDiff, Nat.reduceLT, Int.reduceLT, Int.reduceLE, Int.reduceEq, Int.reduceNe, Int.reduceToNat, Int.reduceAdd, Int.reduceSub, reduceCtorEq, Nat.reduceBEq, Nat.reduceBNe]
  simp only [x5_23, sOps_cons, sOp_move, evOp, goO_some, nxt_app, Opd.ev, Option.map_some, putD_some, e1]
  rw [sOp_mk32]
  have oz := ofZ σ
  simp only [J5_app, Z5, x5_23, base1, ↓reduceIte, Nat.reduceAdd, Nat.reduceSub, Nat.reduceMul, Nat.reduceEqDiff, Nat.reduceLeDiff, Nat.reduceLT, Int.reduceLT, Int.reduceLE, Int.reduceEq, Int.reduceNe, Int.reduceToNat, Int.reduceAdd, Int.reduceSub, reduceCtorEq, Nat.reduceBEq, Nat.reduceBNe, e1, oz]
  refine ⟨82, bigT, rfl, bigT_len, fun c => ?_⟩
  have g1 : hget (hpush (hpush σ bigZ) c) 82 = some atM := push_old (o82 _)
  have g2 : hget (hpush (hpush σ bigZ) c) 262 = some atL := push_old (o262 _)
  have g3 : hget (hpush (hpush σ bigZ) c) 265 = some cs := push_old (push_old g265)
  have a0 : atL[0]? = some (.int .i64 1) := rfl
  have a13 : atL[13]? = some (.slice 259 0 1 none 2) := rfl
  have l1 : ∀ i n w, lenOf (.slice i 0 n none w) = some n := fun _ _ _ => rfl
  have i0 : inRange (.int .i64 0) 1 = some 0 := rfl
  have w83 : IntKind.wrap .i64 83 = 83 := Gz.wrap64 (by omega)
  simp only [J5_app, Z5, x5_23, base1, ↓reduceIte, Nat.reduceAdd, Nat.reduceSub, Nat.reduceMul, Nat.reduceEqDiff, Nat.reduceLeDiff, Nat.reduceLT, Int.reduceLT, Int.reduceLE, Int.reduceEq, Int.reduceNe, Int.reduceToNat, Int.reduceAdd, Int.reduceSub, reduceCtorEq, Nat.reduceBEq, Nat.reduceBNe, e1, e2, e5, e6, e7, e8, e9, e11, e13, e14, e16, g2, a0, a13, l1, i0, w83]
  refine ⟨82, 265, 87, .int .i64 87, cs, rfl, g1, g3, hl, hc, by decide, by decide, fun j σ' => ?_⟩
  simp only [J5_app, Z5, x5_23, base1, ↓reduceIte, Nat.reduceAdd, Nat.reduceSub, Nat.reduceMul, Nat.reduceEqDiff, Nat.reduceLeDiff, Nat.reduceLT, Int.reduceLT, Int.reduceLE, Int.reduceEq, Int.reduceNe, Int.reduceToNat, Int.reduceAdd, Int.reduceSub, reduceCtorEq, Nat.reduceBEq, Nat.reduceBNe, e1, e2, e5, e6, e7, e8, e9, e11, e13, e14, e16, l1]
  exact yes_true
end Go.Proofs.Ytmjnmnhpmbbmgab.journal
