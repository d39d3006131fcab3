/- The law gazetteerlaw16.NoteKinds returns true for every input: what a kind does not have makes a note of it that may not be. No condition. -/
import Derived.Test.YtndlgmciplckjaaNRd
import Derived.Test.YtndlgmciplckjaaNAwake
import Derived.Test.YtndlgmciplckjaaNKinds
set_option linter.unusedVariables false
set_option linter.unusedSimpArgs false
namespace Go.Proofs.Ytndlgmciplckjaa.noteKinds
open Go.ChangeShapes Go.WideShapes Go.ChangeAt Go.RowKit Go.Gz Go.Proofs.Ytndlgmciplckjaa.note
abbrev r6_0 : List MOper := [⟨(some 2), .box (.t 0), none⟩,
  ⟨(some 4), .move (.c (.bool false)), none⟩]
def b6_0 : SCode := .region r6_0
abbrev r6_1 : List MOper := [⟨(some 14), .call 9 [], none⟩,
  ⟨(some 15), .un .not (.t 14), none⟩]
def b6_1 : SCode := .region r6_1
abbrev r6_2 : List MOper := [⟨(some 4), .move (.c (.bool false)), none⟩]
def b6_2 : SCode := .region r6_2
def b6_3 : SCode := .seq b6_2 .ret
def b6_4 : SCode := .cond (.t 15) b6_3 .skip
def b6_5 : SCode := .seq b6_1 b6_4
abbrev r6_6 : List MOper := [⟨(some 16), .loadN 27 (.t 2), none⟩,
  ⟨(some 17), .call 10 [(.t 16)], none⟩,
  ⟨(some 18), .un .not (.t 17), none⟩,
  ⟨(some 19), .move (.t 18), none⟩,
  ⟨(some 20), .loadN 27 (.t 2), (some (19, false))⟩,
  ⟨(some 21), .call 17 [(.t 20)], (some (19, false))⟩,
  ⟨(some 22), .un .not (.t 21), (some (19, false))⟩,
  ⟨(some 23), .pick (.t 19) (.c (.bool true)) (.t 22), none⟩]
def b6_6 : SCode := .region r6_6
abbrev r6_7 : List MOper := [⟨(some 4), .move (.c (.bool true)), none⟩]
def b6_7 : SCode := .region r6_7
def b6_8 : SCode := .seq b6_7 .ret
def b6_9 : SCode := .cond (.t 23) b6_8 .skip
def b6_10 : SCode := .seq b6_6 b6_9
abbrev r6_11 : List MOper := [⟨(some 24), .loadN 27 (.t 2), none⟩,
  ⟨(some 25), .call 14 [(.t 24)], none⟩,
  ⟨(some 5), .alloc [.int .i64 0, .int .i64 0, .int .i64 0, .int .i64 0, .int .i64 0, .int .i64 0, .int .i64 0, .int .i64 0, .str [], .str [], .str [], .str [], .int .i64 0, .int .i64 0, .int .i64 0, .int .i64 0, .bool false, .str [], .nilslice, .str [], .bool false, .str [], .str [], .nilslice, .nilslice, .int .i64 0, .nilslice], none⟩,
  ⟨none, .store 27 (.t 5) (.t 25), none⟩]
def b6_11 : SCode := .region r6_11
abbrev r6_12 : List MOper := [⟨(some 26), .loadN 27 (.t 5), none⟩,
  ⟨(some 27), .call 13 [(.t 26)], none⟩,
  ⟨(some 28), .un .not (.t 27), none⟩]
def b6_12 : SCode := .region r6_12
abbrev r6_13 : List MOper := [⟨(some 4), .move (.c (.bool false)), none⟩]
def b6_13 : SCode := .region r6_13
def b6_14 : SCode := .seq b6_13 .ret
def b6_15 : SCode := .cond (.t 28) b6_14 .skip
def b6_16 : SCode := .seq b6_12 b6_15
abbrev r6_17 : List MOper := [⟨(some 29), .loadN 27 (.t 5), none⟩,
  ⟨(some 6), .alloc [.int .i64 0, .int .i64 0, .int .i64 0, .int .i64 0, .int .i64 0, .int .i64 0, .int .i64 0, .int .i64 0, .str [], .str [], .str [], .str [], .int .i64 0, .int .i64 0, .int .i64 0, .int .i64 0, .bool false, .str [], .nilslice, .str [], .bool false, .str [], .str [], .nilslice, .nilslice, .int .i64 0, .nilslice], none⟩,
  ⟨none, .store 27 (.t 6) (.t 29), none⟩]
def b6_17 : SCode := .region r6_17
abbrev r6_18 : List MOper := [⟨(some 30), .fieldAddr 4 (.t 6), none⟩,
  ⟨none, .store 1 (.t 30) (.c (.int .i64 5)), none⟩]
def b6_18 : SCode := .region r6_18
abbrev t6_19 : LTree := (.quiet ⟨(some 31), .loadN 27 (.t 6), none⟩ 0
  (.quiet ⟨(some 33), .fieldAddr 0 (.t 5), none⟩ 2
  (.quiet ⟨(some 34), .load1 (.t 33), none⟩ 3
  (.quiet ⟨(some 35), .bin .eql .num (.t 34) (.c (.int .i64 5)), none⟩ 4
  (.loud ⟨(some 32), .call 13 [(.t 31)], none⟩ [3]
  (.quiet ⟨(some 36), .move (.t 35), none⟩ 5
  (.quiet ⟨(some 37), .fieldAddr 0 (.t 5), (some (36, false))⟩ 6
  (.quiet ⟨(some 38), .load1 (.t 37), (some (36, false))⟩ 7
  (.quiet ⟨(some 39), .bin .eql .num (.t 38) (.c (.int .i64 6)), (some (36, false))⟩ 8
  (.quiet ⟨(some 40), .pick (.t 36) (.c (.bool true)) (.t 39), none⟩ 9
  (.quiet ⟨(some 41), .bin .eql .bool (.t 32) (.t 40), none⟩ 10
  (.quiet ⟨(some 7), .move (.t 41), none⟩ 11
  .leaf))))))) .stop)))))
def b6_19 : SCode := .draw t6_19
abbrev r6_20 : List MOper := [⟨(some 42), .loadN 27 (.t 5), none⟩,
  ⟨none, .store 27 (.t 6) (.t 42), none⟩]
def b6_20 : SCode := .region r6_20
abbrev r6_21 : List MOper := [⟨(some 43), .fieldAddr 3 (.t 6), none⟩,
  ⟨none, .store 1 (.t 43) (.c (.int .i64 7)), none⟩]
def b6_21 : SCode := .region r6_21
abbrev t6_22 : LTree := (.quiet ⟨(some 44), .loadN 27 (.t 6), none⟩ 0
  (.quiet ⟨(some 46), .fieldAddr 0 (.t 5), none⟩ 2
  (.quiet ⟨(some 47), .load1 (.t 46), none⟩ 3
  (.quiet ⟨(some 48), .bin .geq .num (.t 47) (.c (.int .i64 7)), none⟩ 4
  (.loud ⟨(some 45), .call 13 [(.t 44)], none⟩ [3]
  (.quiet ⟨(some 49), .bin .eql .bool (.t 45) (.t 48), none⟩ 5
  (.quiet ⟨(some 8), .move (.t 49), none⟩ 6
  .leaf)) .stop)))))
def b6_22 : SCode := .draw t6_22
abbrev r6_23 : List MOper := [⟨(some 50), .loadN 27 (.t 5), none⟩,
  ⟨none, .store 27 (.t 6) (.t 50), none⟩]
def b6_23 : SCode := .region r6_23
abbrev r6_24 : List MOper := [⟨(some 51), .build [.int .i64 0, .int .i64 0, .int .i64 0, .str [], .str [], .str [], .str [], .int .i64 0] [(0, 1, (.c (.int .i64 1)))], none⟩,
  ⟨(some 52), .fieldAddr 5 (.t 6), none⟩,
  ⟨none, .store 8 (.t 52) (.t 51), none⟩]
def b6_24 : SCode := .region r6_24
abbrev t6_25 : LTree := (.quiet ⟨(some 53), .loadN 27 (.t 6), none⟩ 0
  (.quiet ⟨(some 55), .fieldAddr 0 (.t 5), none⟩ 2
  (.quiet ⟨(some 56), .load1 (.t 55), none⟩ 3
  (.quiet ⟨(some 57), .bin .eql .num (.t 56) (.c (.int .i64 1)), none⟩ 4
  (.loud ⟨(some 54), .call 13 [(.t 53)], none⟩ [3]
  (.quiet ⟨(some 58), .bin .eql .bool (.t 54) (.t 57), none⟩ 5
  (.quiet ⟨(some 9), .move (.t 58), none⟩ 6
  .leaf)) .stop)))))
def b6_25 : SCode := .draw t6_25
abbrev r6_26 : List MOper := [⟨(some 59), .loadN 27 (.t 5), none⟩,
  ⟨none, .store 27 (.t 6) (.t 59), none⟩]
def b6_26 : SCode := .region r6_26
abbrev r6_27 : List MOper := [⟨(some 60), .build [.int .i64 0, .int .i64 0, .int .i64 0, .bool false, .str [], .nilslice, .str [], .bool false] [(3, 1, (.c (.bool true)))], none⟩,
  ⟨(some 61), .fieldAddr 13 (.t 6), none⟩,
  ⟨none, .store 8 (.t 61) (.t 60), none⟩]
def b6_27 : SCode := .region r6_27
abbrev t6_28 : LTree := (.quiet ⟨(some 62), .loadN 27 (.t 6), none⟩ 0
  (.quiet ⟨(some 64), .fieldAddr 0 (.t 5), none⟩ 2
  (.quiet ⟨(some 65), .load1 (.t 64), none⟩ 3
  (.quiet ⟨(some 66), .bin .eql .num (.t 65) (.c (.int .i64 2)), none⟩ 4
  (.loud ⟨(some 63), .call 13 [(.t 62)], none⟩ [3]
  (.quiet ⟨(some 67), .bin .eql .bool (.t 63) (.t 66), none⟩ 5
  (.quiet ⟨(some 10), .move (.t 67), none⟩ 6
  .leaf)) .stop)))))
def b6_28 : SCode := .draw t6_28
abbrev r6_29 : List MOper := [⟨(some 68), .loadN 27 (.t 5), none⟩,
  ⟨none, .store 27 (.t 6) (.t 68), none⟩]
def b6_29 : SCode := .region r6_29
abbrev r6_30 : List MOper := [⟨(some 69), .build [.str [], .str []] [(0, 1, (.c (.str [97])))], none⟩,
  ⟨(some 70), .buildSlice [.str [], .str []] 2 1 [(0, 2, (.t 69))], none⟩,
  ⟨(some 71), .fieldAddr 23 (.t 6), none⟩,
  ⟨none, .store 1 (.t 71) (.t 70), none⟩]
def b6_30 : SCode := .region r6_30
abbrev t6_31 : LTree := (.quiet ⟨(some 72), .loadN 27 (.t 6), none⟩ 0
  (.quiet ⟨(some 74), .fieldAddr 0 (.t 5), none⟩ 2
  (.quiet ⟨(some 75), .load1 (.t 74), none⟩ 3
  (.quiet ⟨(some 76), .bin .eql .num (.t 75) (.c (.int .i64 8)), none⟩ 4
  (.loud ⟨(some 73), .call 13 [(.t 72)], none⟩ [3]
  (.quiet ⟨(some 77), .move (.t 76), none⟩ 5
  (.quiet ⟨(some 78), .fieldAddr 0 (.t 5), (some (77, false))⟩ 6
  (.quiet ⟨(some 79), .load1 (.t 78), (some (77, false))⟩ 7
  (.quiet ⟨(some 80), .bin .eql .num (.t 79) (.c (.int .i64 9)), (some (77, false))⟩ 8
  (.quiet ⟨(some 81), .pick (.t 77) (.c (.bool true)) (.t 80), none⟩ 9
  (.quiet ⟨(some 82), .bin .eql .bool (.t 73) (.t 81), none⟩ 10
  (.quiet ⟨(some 11), .move (.t 82), none⟩ 11
  .leaf))))))) .stop)))))
def b6_31 : SCode := .draw t6_31
abbrev r6_32 : List MOper := [⟨(some 83), .loadN 27 (.t 5), none⟩,
  ⟨none, .store 27 (.t 6) (.t 83), none⟩]
def b6_32 : SCode := .region r6_32
abbrev r6_33 : List MOper := [⟨(some 84), .call 15 [(.c (.int .i64 1))], none⟩,
  ⟨(some 85), .fieldAddr 25 (.t 6), none⟩,
  ⟨none, .store 2 (.t 85) (.t 84), none⟩]
def b6_33 : SCode := .region r6_33
abbrev t6_34 : LTree := (.quiet ⟨(some 86), .loadN 27 (.t 6), none⟩ 0
  (.quiet ⟨(some 88), .fieldAddr 0 (.t 5), none⟩ 2
  (.quiet ⟨(some 89), .load1 (.t 88), none⟩ 3
  (.quiet ⟨(some 90), .bin .eql .num (.t 89) (.c (.int .i64 4)), none⟩ 4
  (.loud ⟨(some 87), .call 13 [(.t 86)], none⟩ [3]
  (.quiet ⟨(some 91), .move (.t 90), none⟩ 5
  (.quiet ⟨(some 92), .fieldAddr 0 (.t 5), (some (91, false))⟩ 6
  (.quiet ⟨(some 93), .load1 (.t 92), (some (91, false))⟩ 7
  (.quiet ⟨(some 94), .bin .eql .num (.t 93) (.c (.int .i64 6)), (some (91, false))⟩ 8
  (.quiet ⟨(some 95), .pick (.t 91) (.c (.bool true)) (.t 94), none⟩ 9
  (.quiet ⟨(some 96), .bin .eql .bool (.t 87) (.t 95), none⟩ 10
  (.quiet ⟨(some 12), .move (.t 96), none⟩ 11
  .leaf))))))) .stop)))))
def b6_34 : SCode := .draw t6_34
abbrev r6_35 : List MOper := [⟨(some 97), .loadN 27 (.t 5), none⟩,
  ⟨none, .store 27 (.t 6) (.t 97), none⟩]
def b6_35 : SCode := .region r6_35
abbrev r6_36 : List MOper := [⟨(some 98), .move (.t 1), none⟩,
  ⟨(some 99), .fieldAddr 0 (.t 6), none⟩,
  ⟨none, .store 1 (.t 99) (.t 98), none⟩]
def b6_36 : SCode := .region r6_36
abbrev r6_37 : List MOper := [⟨(some 100), .move (.t 1), none⟩,
  ⟨(some 101), .bin .geq .num (.t 100) (.c (.int .i64 1)), none⟩,
  ⟨(some 102), .move (.t 101), none⟩,
  ⟨(some 103), .move (.t 1), (some (102, true))⟩,
  ⟨(some 104), .bin .leq .num (.t 103) (.c (.int .i64 12)), (some (102, true))⟩,
  ⟨(some 105), .pick (.t 102) (.t 104) (.c (.bool false)), none⟩,
  ⟨(some 106), .move (.t 105), none⟩,
  ⟨(some 107), .loadN 27 (.t 6), (some (106, false))⟩,
  ⟨(some 108), .call 13 [(.t 107)], (some (106, false))⟩,
  ⟨(some 109), .un .not (.t 108), (some (106, false))⟩,
  ⟨(some 110), .pick (.t 106) (.c (.bool true)) (.t 109), none⟩,
  ⟨(some 13), .move (.t 110), none⟩]
def b6_37 : SCode := .region r6_37
abbrev r6_38 : List MOper := [⟨(some 111), .move (.t 7), none⟩,
  ⟨(some 112), .move (.t 111), none⟩,
  ⟨(some 113), .move (.t 8), (some (112, true))⟩,
  ⟨(some 114), .pick (.t 112) (.t 113) (.c (.bool false)), none⟩,
  ⟨(some 115), .move (.t 114), none⟩,
  ⟨(some 116), .move (.t 9), (some (115, true))⟩,
  ⟨(some 117), .pick (.t 115) (.t 116) (.c (.bool false)), none⟩,
  ⟨(some 118), .move (.t 117), none⟩,
  ⟨(some 119), .move (.t 10), (some (118, true))⟩,
  ⟨(some 120), .pick (.t 118) (.t 119) (.c (.bool false)), none⟩,
  ⟨(some 121), .move (.t 120), none⟩,
  ⟨(some 122), .move (.t 11), (some (121, true))⟩,
  ⟨(some 123), .pick (.t 121) (.t 122) (.c (.bool false)), none⟩,
  ⟨(some 124), .move (.t 123), none⟩,
  ⟨(some 125), .move (.t 12), (some (124, true))⟩,
  ⟨(some 126), .pick (.t 124) (.t 125) (.c (.bool false)), none⟩,
  ⟨(some 127), .move (.t 126), none⟩,
  ⟨(some 128), .move (.t 13), (some (127, true))⟩,
  ⟨(some 129), .pick (.t 127) (.t 128) (.c (.bool false)), none⟩,
  ⟨(some 4), .move (.t 129), none⟩]
def b6_38 : SCode := .region r6_38
def b6_39 : SCode := .seq b6_38 .ret
def b6_40 : SCode := .seq b6_37 b6_39
def b6_41 : SCode := .seq b6_36 b6_40
def b6_42 : SCode := .seq b6_35 b6_41
def b6_43 : SCode := .seq b6_34 b6_42
def b6_44 : SCode := .seq b6_33 b6_43
def b6_45 : SCode := .seq b6_32 b6_44
def b6_46 : SCode := .seq b6_31 b6_45
def b6_47 : SCode := .seq b6_30 b6_46
def b6_48 : SCode := .seq b6_29 b6_47
def b6_49 : SCode := .seq b6_28 b6_48
def b6_50 : SCode := .seq b6_27 b6_49
def b6_51 : SCode := .seq b6_26 b6_50
def b6_52 : SCode := .seq b6_25 b6_51
def b6_53 : SCode := .seq b6_24 b6_52
def b6_54 : SCode := .seq b6_23 b6_53
def b6_55 : SCode := .seq b6_22 b6_54
def b6_56 : SCode := .seq b6_21 b6_55
def b6_57 : SCode := .seq b6_20 b6_56
def b6_58 : SCode := .seq b6_19 b6_57
def b6_59 : SCode := .seq b6_18 b6_58
def b6_60 : SCode := .seq b6_17 b6_59
def b6_61 : SCode := .seq b6_16 b6_60
def b6_62 : SCode := .seq b6_11 b6_61
def b6_63 : SCode := .seq b6_10 b6_62
def b6_64 : SCode := .seq b6_5 b6_63
def b6_65 : SCode := .seq b6_0 b6_64
def s6 : SFunc := ⟨130, [.t 4], b6_65⟩
theorem c6 : sFn Try.prog 6 = some s6 := by kernel_rfl
theorem x6_42 : XS b6_42 b6_35 b6_41 := rfl
theorem x6_45 : XS b6_45 b6_32 b6_44 := rfl
theorem x6_48 : XS b6_48 b6_29 b6_47 := rfl
theorem x6_51 : XS b6_51 b6_26 b6_50 := rfl
theorem x6_54 : XS b6_54 b6_23 b6_53 := rfl
theorem x6_57 : XS b6_57 b6_20 b6_56 := rfl
theorem x6_60 : XS b6_60 b6_17 b6_59 := rfl
theorem Z6 : XR b6_0 r6_0 ∧ XR b6_1 r6_1 ∧ XR b6_2 r6_2 ∧ XS b6_3 b6_2 .ret ∧ XC b6_4 (.t 15) b6_3 .skip ∧ XS b6_5 b6_1 b6_4 ∧ XR b6_6 r6_6 ∧ XR b6_7 r6_7 ∧ XS b6_8 b6_7 .ret ∧ XC b6_9 (.t 23) b6_8 .skip ∧ XS b6_10 b6_6 b6_9 ∧ XR b6_11 r6_11 ∧ XR b6_12 r6_12 ∧ XR b6_13 r6_13 ∧ XS b6_14 b6_13 .ret ∧ XC b6_15 (.t 28) b6_14 .skip ∧ XS b6_16 b6_12 b6_15 ∧ XR b6_17 r6_17 ∧ XR b6_18 r6_18 ∧ XT b6_19 t6_19 ∧ XR b6_20 r6_20 ∧ XR b6_21 r6_21 ∧ XT b6_22 t6_22 ∧ XR b6_23 r6_23 ∧ XR b6_24 r6_24 ∧ XT b6_25 t6_25 ∧ XR b6_26 r6_26 ∧ XR b6_27 r6_27 ∧ XT b6_28 t6_28 ∧ XR b6_29 r6_29 ∧ XR b6_30 r6_30 ∧ XT b6_31 t6_31 ∧ XR b6_32 r6_32 ∧ XR b6_33 r6_33 ∧ XT b6_34 t6_34 ∧ XR b6_35 r6_35 ∧ XR b6_36 r6_36 ∧ XR b6_37 r6_37 ∧ XR b6_38 r6_38 ∧ XS b6_39 b6_38 .ret ∧ XS b6_40 b6_37 b6_39 ∧ XS b6_41 b6_36 b6_40 ∧ XS b6_43 b6_34 b6_42 ∧ XS b6_44 b6_33 b6_43 ∧ XS b6_46 b6_31 b6_45 ∧ XS b6_47 b6_30 b6_46 ∧ XS b6_49 b6_28 b6_48 ∧ XS b6_50 b6_27 b6_49 ∧ XS b6_52 b6_25 b6_51 ∧ XS b6_53 b6_24 b6_52 ∧ XS b6_55 b6_22 b6_54 ∧ XS b6_56 b6_21 b6_55 ∧ XS b6_58 b6_19 b6_57 ∧ XS b6_59 b6_18 b6_58 ∧ XS b6_61 b6_16 b6_60 ∧ XS b6_62 b6_11 b6_61 ∧ XS b6_63 b6_10 b6_62 ∧ XS b6_64 b6_5 b6_63 ∧ XS b6_65 b6_0 b6_64 ∧ XY s6 130 b6_65 [.t 4] := ⟨rfl, rfl, rfl, rfl, sC_cond, rfl, rfl, rfl, rfl, sC_cond, rfl, rfl, rfl, rfl, rfl, sC_cond, rfl, rfl, rfl, rfl, rfl, rfl, rfl, rfl, rfl, rfl, rfl, rfl, rfl, rfl, rfl, rfl, rfl, rfl, rfl, rfl, rfl, rfl, rfl, rfl, rfl, rfl, rfl, rfl, rfl, rfl, rfl, rfl, rfl, rfl, rfl, rfl, rfl, rfl, rfl, rfl, rfl, rfl, rfl, rfl⟩
abbrev r15_0 : List MOper := [⟨(some 2), .alloc [.int .i64 0, .nilslice], none⟩]
def b15_0 : SCode := .region r15_0
abbrev r15_1 : List MOper := [⟨(some 3), .build [.str [], .str []] [], none⟩,
  ⟨(some 4), .move (.t 0), none⟩,
  ⟨(some 5), .build [.str [], .str [], .int .i64 0, .int .i64 0] [(0, 2, (.t 3)), (2, 1, (.t 4)), (3, 1, (.c (.int .i64 1)))], none⟩,
  ⟨(some 6), .buildSlice [.str [], .str [], .int .i64 0, .int .i64 0] 4 1 [(0, 4, (.t 5))], none⟩,
  ⟨(some 7), .build [.int .i64 0, .nilslice] [(0, 1, (.c (.int .i64 1))), (1, 1, (.t 6))], none⟩,
  ⟨none, .store 2 (.t 2) (.t 7), none⟩]
def b15_1 : SCode := .region r15_1
def b15_2 : SCode := .seq b15_1 .ret
def b15_3 : SCode := .seq b15_0 b15_2
def s15 : SFunc := ⟨8, [.cN 2 2], b15_3⟩
theorem c15 : sFn Try.prog 15 = some s15 := by kernel_rfl
theorem Z15 : XR b15_0 r15_0 ∧ XR b15_1 r15_1 ∧ XS b15_2 b15_1 .ret ∧ XS b15_3 b15_0 b15_2 ∧ XY s15 8 b15_3 [.cN 2 2] := ⟨rfl, rfl, rfl, rfl, rfl⟩

set_option maxHeartbeats 4000000
set_option maxRecDepth 10000
abbrev first1 : AV := .agg [.int .i64 1, .imm [[.str [], .str [], .int .i64 1, .int .i64 1]] false false]
theorem first_ok : Tri Try.prog 15 [.int .i64 1] [] fun r _ => r.pure = true ∧ r = first1 := by
  refine Tri.frozen (Q := fun r σ => ∃ d, hget σ d = some [.str [], .str [], .int .i64 1, .int .i64 1] ∧ r = .agg [.int .i64 1, .slice d 0 1 (some 1) 4]) (Tri.of_s c15 (noCall_sound _) ?_) (fun r σ ⟨d, hd, hr⟩ => ⟨first1, ?_, rfl, rfl⟩)
  · simp only [Z15, base1, baseE, ↓reduceIte, Nat.reduceAdd, Nat.reduceSub, Nat.reduceMul, Nat.reduceEqDiff, Nat.reduceLeDiff, Nat.reduceLT, Int.reduceLT, Int.reduceLE, Int.reduceEq, Int.reduceNe, Int.reduceToNat, Int.reduceAdd, Int.reduceSub, reduceCtorEq, Nat.reduceBEq, Nat.reduceBNe]
    exact ⟨1, rfl, rfl⟩
  · rw [hr]
    refine .agg rfl (fun i x y hx hy => ?_)
    match i with
    | 0 => simp at hx hy; subst hx; subst hy; exact .pure rfl
    | 1 =>
      simp at hx hy; subst hx; subst hy
      refine .slice hd (ys := [.str [], .str [], .int .i64 1, .int .i64 1]) rfl rfl (by intro r hr; simp at hr; subst hr; rfl) (fun i y z hy hz => ?_)
      have : y = z := by
        have e : ([[AV.str [], AV.str [], AV.int .i64 1, AV.int .i64 1]] : List (List AV)).flatten = [AV.str [], AV.str [], AV.int .i64 1, AV.int .i64 1] := rfl
        rw [e, hy] at hz; cases hz; rfl
      subst this
      refine .pure ?_
      match i with
      | 0 | 1 | 2 | 3 => simp at hy; subst hy; rfl
      | n + 4 => simp at hy
    | n + 2 => simp at hx
def firstD (args : List AV) (σ : AHeap) (K : AV → AHeap → Prop) : Prop := args = [.int .i64 1] ∧ K first1 σ
theorem firstD_ok (args : List AV) (σ : AHeap) (K : AV → AHeap → Prop) (h : firstD args σ K) : Tri Try.prog 15 args σ K := by
  obtain ⟨rfl, h⟩ := h
  exact (Tri.pureD rfl first_ok σ).mono fun r σ' hr => by rw [hr.1, hr.2]; exact h
theorem firstD_eq {args : List AV} {σ : AHeap} {K : AV → AHeap → Prop} : firstD args σ K = (args = [.int .i64 1] ∧ K first1 σ) := _root_.id rfl
def T6 : PCall := rowQ 9 awakeD (rowQ 10 smallD (rowQ 13 mayKD (rowQ 14 madeD (rowQ 15 firstD (rowQ 17 lmayD noCall)))))
theorem T6_app {f : FuncId} {args : List AV} {σ : AHeap} {K : AV → AHeap → Prop} : T6 f args σ K = rowQ 9 awakeD (rowQ 10 smallD (rowQ 13 mayKD (rowQ 14 madeD (rowQ 15 firstD (rowQ 17 lmayD noCall))))) f args σ K := _root_.id rfl
theorem T6_sound : Sound Try.prog T6 := rowQ_sound awakeD_ok (rowQ_sound smallD_ok (rowQ_sound mayKD_ok (rowQ_sound madeD_ok (rowQ_sound firstD_ok (rowQ_sound lmayD_ok (noCall_sound _))))))
theorem yes_true {σ : AHeap} : Yes (.bool true) σ := rfl
theorem nk (N : NoteV) : N.cells[0]? = some (.int .i64 N.kind) := rfl
theorem put_all {z cs : List AV} (h : z.length = cs.length) : put z 0 cs = some cs := by
  unfold put
  rw [if_pos (by omega)]
  simp [h]
theorem put_W {N : NoteV} {W : List AV} (h : W.length = 27) : put W 0 N.cells = some N.cells := put_all (by rw [h]; rfl)
/-- Where the law is between two turns. -/
structure At (N : NoteV) (kd : Int) (W : List AV) (e : Env) (σ : AHeap) : Prop where
  e1 : e 1 = .int .i64 kd
  e5 : e 5 = .ptr 1 0
  e6 : e 6 = .ptr 2 0
  g1 : hget σ 1 = some N.cells
  g2 : hget σ 2 = some W
  w : W.length = 27
theorem turn7 (N : NoteV) (hm : mayB N = true) (hs : N.sz) (kd : Int) (W : List AV) (e : Env) (σ : AHeap) (h : At N kd W e σ) (e7 : e 7 = .bool true) (e8 : e 8 = .bool true) (e9 : e 9 = .bool true) (e10 : e 10 = .bool true) (e11 : e 11 = .bool true) (e12 : e 12 = .bool true) : sC T6 0 b6_42 (unw T6 0 (RetQ [.t 4] Yes) .fin) e σ := by
  obtain ⟨e1, e5, e6, g1, g2, hw⟩ := h
  have hW := put_W (N := N) hw
  have l2 := hget_lt g2
  have s2 : ∀ c : List AV, hget (hset σ 2 c) 2 = some c := fun c => set_same g2
  have s1 : ∀ c : List AV, hget (hset σ 2 c) 1 = some N.cells := fun c => (set_other (by decide)).trans g1
  have d2 : ∀ c d : List AV, hget (hset (hset σ 2 c) 2 d) 2 = some d := fun c d => set_same (s2 c)
  have d1 : ∀ c d : List AV, hget (hset (hset σ 2 c) 2 d) 1 = some N.cells := fun c d => (set_other (by decide)).trans (s1 c)
  have pk : put N.cells 0 [.int .i64 kd] = some [.int .i64 kd, .int .i64 N.from_, .int .i64 N.to, .int .i64 N.epoch, .int .i64 N.tick, .int .i64 N.ask.do_, .int .i64 N.ask.client, .int .i64 N.ask.seq, .str N.ask.text, .str N.ask.val, .str N.ask.from_, .str N.ask.to, .int .i64 N.ask.limit, .int .i64 N.rep.client, .int .i64 N.rep.seq, .int .i64 N.rep.err, .bool N.rep.found, .str N.rep.val, .imm (recs N.rep.l) false false, .str N.rep.next, .bool N.rep.more, .str N.sf, .str N.st, .imm (N.l.map recC) false false, .imm (N.last.map LaV.cells) false false, .int .i64 N.aep, .imm (N.sh.map ShV.cells) false false] := rfl
  cases h1 : decide (1 ≤ kd) with
  | false =>
    have hf := m_kind (n := N) (k := kd) (.inl h1)
    simp only [T6_app, firstD_eq, Z6, x6_42, x6_45, x6_48, x6_51, x6_54, x6_57, x6_60, base1, baseE, ↓reduceIte, Nat.reduceAdd, Nat.reduceSub, Nat.reduceMul, Nat.reduceEqDiff, Nat.reduceLeDiff, Nat.reduceLT, Int.reduceLT, Int.reduceLE, Int.reduceEq, Int.reduceNe, Int.reduceToNat, Int.reduceAdd, Int.reduceSub, reduceCtorEq, Nat.reduceBEq, Nat.reduceBNe, e1, e5, e6, e7, e8, e9, e10, e11, e12, g1, g2, hW, s1, s2, d1, d2, nc_len, nc_cell, sub_note, nk, pk, h1]
    refine .inl ⟨_, { N with kind := kd }, rfl, rfl, sz_kind hs kd, ?_⟩
    simp only [T6_app, firstD_eq, Z6, x6_42, x6_45, x6_48, x6_51, x6_54, x6_57, x6_60, base1, baseE, ↓reduceIte, Nat.reduceAdd, Nat.reduceSub, Nat.reduceMul, Nat.reduceEqDiff, Nat.reduceLeDiff, Nat.reduceLT, Int.reduceLT, Int.reduceLE, Int.reduceEq, Int.reduceNe, Int.reduceToNat, Int.reduceAdd, Int.reduceSub, reduceCtorEq, Nat.reduceBEq, Nat.reduceBNe, e1, e5, e6, e7, e8, e9, e10, e11, e12, g1, g2, hW, s1, s2, d1, d2, nc_len, nc_cell, sub_note, nk, pk, h1, hf]
    exact yes_true
  | true =>
    cases h2 : decide (kd ≤ 12) with
    | true =>
      simp only [T6_app, firstD_eq, Z6, x6_42, x6_45, x6_48, x6_51, x6_54, x6_57, x6_60, base1, baseE, ↓reduceIte, Nat.reduceAdd, Nat.reduceSub, Nat.reduceMul, Nat.reduceEqDiff, Nat.reduceLeDiff, Nat.reduceLT, Int.reduceLT, Int.reduceLE, Int.reduceEq, Int.reduceNe, Int.reduceToNat, Int.reduceAdd, Int.reduceSub, reduceCtorEq, Nat.reduceBEq, Nat.reduceBNe, e1, e5, e6, e7, e8, e9, e10, e11, e12, g1, g2, hW, s1, s2, d1, d2, nc_len, nc_cell, sub_note, nk, pk, h1, h2]
      exact yes_true
    | false =>
      have hf := m_kind (n := N) (k := kd) (.inr h2)
      simp only [T6_app, firstD_eq, Z6, x6_42, x6_45, x6_48, x6_51, x6_54, x6_57, x6_60, base1, baseE, ↓reduceIte, Nat.reduceAdd, Nat.reduceSub, Nat.reduceMul, Nat.reduceEqDiff, Nat.reduceLeDiff, Nat.reduceLT, Int.reduceLT, Int.reduceLE, Int.reduceEq, Int.reduceNe, Int.reduceToNat, Int.reduceAdd, Int.reduceSub, reduceCtorEq, Nat.reduceBEq, Nat.reduceBNe, e1, e5, e6, e7, e8, e9, e10, e11, e12, g1, g2, hW, s1, s2, d1, d2, nc_len, nc_cell, sub_note, nk, pk, h1, h2]
      refine .inl ⟨_, { N with kind := kd }, rfl, rfl, sz_kind hs kd, ?_⟩
      simp only [T6_app, firstD_eq, Z6, x6_42, x6_45, x6_48, x6_51, x6_54, x6_57, x6_60, base1, baseE, ↓reduceIte, Nat.reduceAdd, Nat.reduceSub, Nat.reduceMul, Nat.reduceEqDiff, Nat.reduceLeDiff, Nat.reduceLT, Int.reduceLT, Int.reduceLE, Int.reduceEq, Int.reduceNe, Int.reduceToNat, Int.reduceAdd, Int.reduceSub, reduceCtorEq, Nat.reduceBEq, Nat.reduceBNe, e1, e5, e6, e7, e8, e9, e10, e11, e12, g1, g2, hW, s1, s2, d1, d2, nc_len, nc_cell, sub_note, nk, pk, h1, h2, hf]
      exact yes_true
theorem turn6 (N : NoteV) (hm : mayB N = true) (hs : N.sz) (kd : Int) (W : List AV) (e : Env) (σ : AHeap) (h : At N kd W e σ) (e7 : e 7 = .bool true) (e8 : e 8 = .bool true) (e9 : e 9 = .bool true) (e10 : e 10 = .bool true) (e11 : e 11 = .bool true) : sC T6 0 b6_45 (unw T6 0 (RetQ [.t 4] Yes) .fin) e σ := by
  obtain ⟨e1, e5, e6, g1, g2, hw⟩ := h
  have hW := put_W (N := N) hw
  have l2 := hget_lt g2
  have s2 : ∀ c : List AV, hget (hset σ 2 c) 2 = some c := fun c => set_same g2
  have s1 : ∀ c : List AV, hget (hset σ 2 c) 1 = some N.cells := fun c => (set_other (by decide)).trans g1
  have d2 : ∀ c d : List AV, hget (hset (hset σ 2 c) 2 d) 2 = some d := fun c d => set_same (s2 c)
  have d1 : ∀ c d : List AV, hget (hset (hset σ 2 c) 2 d) 1 = some N.cells := fun c d => (set_other (by decide)).trans (s1 c)
  have pm : put N.cells 25 [.int .i64 1, .imm [[.str [], .str [], .int .i64 1, .int .i64 1]] false false] = some [.int .i64 N.kind, .int .i64 N.from_, .int .i64 N.to, .int .i64 N.epoch, .int .i64 N.tick, .int .i64 N.ask.do_, .int .i64 N.ask.client, .int .i64 N.ask.seq, .str N.ask.text, .str N.ask.val, .str N.ask.from_, .str N.ask.to, .int .i64 N.ask.limit, .int .i64 N.rep.client, .int .i64 N.rep.seq, .int .i64 N.rep.err, .bool N.rep.found, .str N.rep.val, .imm (recs N.rep.l) false false, .str N.rep.next, .bool N.rep.more, .str N.sf, .str N.st, .imm (N.l.map recC) false false, .imm (N.last.map LaV.cells) false false, .int .i64 1, .imm [[.str [], .str [], .int .i64 1, .int .i64 1]] false false] := rfl
  have hf := m_map hm
  simp only [T6_app, firstD_eq, Z6, x6_45, base1, baseE, ↓reduceIte, Nat.reduceAdd, Nat.reduceSub, Nat.reduceMul, Nat.reduceEqDiff, Nat.reduceLeDiff, Nat.reduceLT, Int.reduceLT, Int.reduceLE, Int.reduceEq, Int.reduceNe, Int.reduceToNat, Int.reduceAdd, Int.reduceSub, reduceCtorEq, Nat.reduceBEq, Nat.reduceBNe, e1, e5, e6, e7, e8, e9, e10, e11, g1, g2, hW, s1, s2, d1, d2, nc_len, nc_cell, sub_note, nk, pm]
  refine .inl ⟨_, { N with aep := 1, sh := [⟨[], [], 1, 1⟩] }, rfl, rfl, sz_map hs, ?_⟩
  cases hk : decide (N.kind = 4) with
  | true =>
    rw [hk] at hf
    simp only [T6_app, firstD_eq, Z6, x6_45, base1, baseE, ↓reduceIte, Nat.reduceAdd, Nat.reduceSub, Nat.reduceMul, Nat.reduceEqDiff, Nat.reduceLeDiff, Nat.reduceLT, Int.reduceLT, Int.reduceLE, Int.reduceEq, Int.reduceNe, Int.reduceToNat, Int.reduceAdd, Int.reduceSub, reduceCtorEq, Nat.reduceBEq, Nat.reduceBNe, e1, e5, e6, e7, e8, e9, e10, e11, g1, g2, hW, s1, s2, d1, d2, nc_len, nc_cell, sub_note, nk, pm, hf, hk, Bool.true_or, Bool.false_or]
    exact turn7 N hm hs kd _ _ _ ⟨e1, e5, e6, d1 _ _, d2 _ _, rfl⟩ e7 e8 e9 e10 e11 rfl
  | false =>
    rw [hk] at hf
    simp only [T6_app, firstD_eq, Z6, x6_45, base1, baseE, ↓reduceIte, Nat.reduceAdd, Nat.reduceSub, Nat.reduceMul, Nat.reduceEqDiff, Nat.reduceLeDiff, Nat.reduceLT, Int.reduceLT, Int.reduceLE, Int.reduceEq, Int.reduceNe, Int.reduceToNat, Int.reduceAdd, Int.reduceSub, reduceCtorEq, Nat.reduceBEq, Nat.reduceBNe, e1, e5, e6, e7, e8, e9, e10, e11, g1, g2, hW, s1, s2, d1, d2, nc_len, nc_cell, sub_note, nk, pm, hf, hk, Bool.true_or, Bool.false_or]
    exact turn7 N hm hs kd _ _ _ ⟨e1, e5, e6, d1 _ _, d2 _ _, rfl⟩ e7 e8 e9 e10 e11 rfl
theorem turn5 (N : NoteV) (hm : mayB N = true) (hs : N.sz) (kd : Int) (W : List AV) (e : Env) (σ : AHeap) (h : At N kd W e σ) (e7 : e 7 = .bool true) (e8 : e 8 = .bool true) (e9 : e 9 = .bool true) (e10 : e 10 = .bool true) : sC T6 0 b6_48 (unw T6 0 (RetQ [.t 4] Yes) .fin) e σ := by
  obtain ⟨e1, e5, e6, g1, g2, hw⟩ := h
  have hW := put_W (N := N) hw
  have l2 := hget_lt g2
  have s2 : ∀ c : List AV, hget (hset σ 2 c) 2 = some c := fun c => set_same g2
  have s1 : ∀ c : List AV, hget (hset σ 2 c) 1 = some N.cells := fun c => (set_other (by decide)).trans g1
  have d2 : ∀ c d : List AV, hget (hset (hset σ 2 c) 2 d) 2 = some d := fun c d => set_same (s2 c)
  have d1 : ∀ c d : List AV, hget (hset (hset σ 2 c) 2 d) 1 = some N.cells := fun c d => (set_other (by decide)).trans (s1 c)
  have pm : put N.cells 23 [.slice σ.length 0 1 (some 1) 2] = some [.int .i64 N.kind, .int .i64 N.from_, .int .i64 N.to, .int .i64 N.epoch, .int .i64 N.tick, .int .i64 N.ask.do_, .int .i64 N.ask.client, .int .i64 N.ask.seq, .str N.ask.text, .str N.ask.val, .str N.ask.from_, .str N.ask.to, .int .i64 N.ask.limit, .int .i64 N.rep.client, .int .i64 N.rep.seq, .int .i64 N.rep.err, .bool N.rep.found, .str N.rep.val, .imm (recs N.rep.l) false false, .str N.rep.next, .bool N.rep.more, .str N.sf, .str N.st, .slice σ.length 0 1 (some 1) 2, .imm (N.last.map LaV.cells) false false, .int .i64 N.aep, .imm (N.sh.map ShV.cells) false false] := rfl
  have hf := m_list hm
  have q2 : ∀ c z d : List AV, hget (hset (hpush (hset σ 2 c) z) 2 d) 2 = some d := fun c z d => set_same (push_old (s2 c))
  have q1 : ∀ c z d : List AV, hget (hset (hpush (hset σ 2 c) z) 2 d) 1 = some N.cells := fun c z d => (set_other (by decide)).trans (push_old (s1 c))
  have p2 : ∀ c z : List AV, hget (hpush (hset σ 2 c) z) 2 = some c := fun c z => push_old (s2 c)
  have k2 : ∀ c z d : List AV, hget (hkill (hset (hpush (hset σ 2 c) z) 2 d) σ.length) 2 = some d := fun c z d => (kill_other (by omega)).trans (q2 c z d)
  have k1 : ∀ c z d : List AV, hget (hkill (hset (hpush (hset σ 2 c) z) 2 d) σ.length) 1 = some N.cells := fun c z d => (kill_other (by omega)).trans (q1 c z d)
  simp only [T6_app, firstD_eq, Z6, x6_48, base1, baseE, ↓reduceIte, Nat.reduceAdd, Nat.reduceSub, Nat.reduceMul, Nat.reduceEqDiff, Nat.reduceLeDiff, Nat.reduceLT, Int.reduceLT, Int.reduceLE, Int.reduceEq, Int.reduceNe, Int.reduceToNat, Int.reduceAdd, Int.reduceSub, reduceCtorEq, Nat.reduceBEq, Nat.reduceBNe, e1, e5, e6, e7, e8, e9, e10, g1, g2, hW, s1, s2, d1, d2, nc_len, nc_cell, sub_note, nk, pm, q1, q2, p2, set_len]
  refine .inr ⟨σ.length, _, { N with l := [([97], [])] }, rfl, rfl, fun i x y hx hy => ?_, sz_list hs, ?_⟩
  · have gd : hget (hset (hpush (hset σ 2 N.cells) [AV.str [97], AV.str []]) 2 [.int .i64 N.kind, .int .i64 N.from_, .int .i64 N.to, .int .i64 N.epoch, .int .i64 N.tick, .int .i64 N.ask.do_, .int .i64 N.ask.client, .int .i64 N.ask.seq, .str N.ask.text, .str N.ask.val, .str N.ask.from_, .str N.ask.to, .int .i64 N.ask.limit, .int .i64 N.rep.client, .int .i64 N.rep.seq, .int .i64 N.rep.err, .bool N.rep.found, .str N.rep.val, .imm (recs N.rep.l) false false, .str N.rep.next, .bool N.rep.more, .str N.sf, .str N.st, .slice σ.length 0 1 (some 1) 2, .imm (N.last.map LaV.cells) false false, .int .i64 N.aep, .imm (N.sh.map ShV.cells) false false]) σ.length = some [.str [97], .str []] := (set_other (by omega)).trans (push_new (by rw [set_len]))
    by_cases h23 : i = 23
    · subst h23
      simp only [List.getElem?_cons_succ, List.getElem?_cons_zero, Option.some.injEq] at hx
      have hy : some (AV.imm [[.str [97], .str []]] false false) = some y := hy
      cases hy
      subst hx
      exact .inr (.inr ⟨0, 1, some 1, 2, _, [[.str [97], .str []]], rfl, rfl, gd, rfl, rfl, by intro r hr; simp at hr; subst hr; rfl, rfl⟩)
    · have hxy : x = y ∧ x.pure = true := by
        have hp : pureL N.cells = true := by have := note_pure N; simpa [AV.pure] using this
        have e1 : N.cells[i]? = some x := by
          rw [← hx]; rcases Nat.lt_or_ge i 27 with hl | hl
          · have : i = 0 ∨ i = 1 ∨ i = 2 ∨ i = 3 ∨ i = 4 ∨ i = 5 ∨ i = 6 ∨ i = 7 ∨ i = 8 ∨ i = 9 ∨ i = 10 ∨ i = 11 ∨ i = 12 ∨ i = 13 ∨ i = 14 ∨ i = 15 ∨ i = 16 ∨ i = 17 ∨ i = 18 ∨ i = 19 ∨ i = 20 ∨ i = 21 ∨ i = 22 ∨ i = 24 ∨ i = 25 ∨ i = 26 := by omega
            rcases this with h | h | h | h | h | h | h | h | h | h | h | h | h | h | h | h | h | h | h | h | h | h | h | h | h | h <;> subst h <;> rfl
          · rw [List.getElem?_eq_none (show N.cells.length ≤ i from hl), List.getElem?_eq_none (by exact hl)]
        have e2 : N.cells[i]? = some y := by
          rw [← hy]; rcases Nat.lt_or_ge i 27 with hl | hl
          · have : i = 0 ∨ i = 1 ∨ i = 2 ∨ i = 3 ∨ i = 4 ∨ i = 5 ∨ i = 6 ∨ i = 7 ∨ i = 8 ∨ i = 9 ∨ i = 10 ∨ i = 11 ∨ i = 12 ∨ i = 13 ∨ i = 14 ∨ i = 15 ∨ i = 16 ∨ i = 17 ∨ i = 18 ∨ i = 19 ∨ i = 20 ∨ i = 21 ∨ i = 22 ∨ i = 24 ∨ i = 25 ∨ i = 26 := by omega
            rcases this with h | h | h | h | h | h | h | h | h | h | h | h | h | h | h | h | h | h | h | h | h | h | h | h | h | h <;> subst h <;> rfl
          · rw [List.getElem?_eq_none (show N.cells.length ≤ i from hl), List.getElem?_eq_none (by exact hl)]
        rw [e1] at e2; cases e2
        exact ⟨rfl, pureL_all hp x (List.mem_of_getElem? e1)⟩
      exact .inl hxy
  cases hk : decide (N.kind = 8) with
  | true =>
    rw [hk] at hf
    simp only [T6_app, firstD_eq, Z6, x6_48, base1, baseE, ↓reduceIte, Nat.reduceAdd, Nat.reduceSub, Nat.reduceMul, Nat.reduceEqDiff, Nat.reduceLeDiff, Nat.reduceLT, Int.reduceLT, Int.reduceLE, Int.reduceEq, Int.reduceNe, Int.reduceToNat, Int.reduceAdd, Int.reduceSub, reduceCtorEq, Nat.reduceBEq, Nat.reduceBNe, e1, e5, e6, e7, e8, e9, e10, g1, g2, hW, s1, s2, d1, d2, nc_len, nc_cell, sub_note, nk, pm, q1, q2, k1, k2, set_len, hf, hk, Bool.true_or, Bool.false_or]
    exact turn6 N hm hs kd _ _ _ ⟨e1, e5, e6, k1 _ _ _, k2 _ _ _, rfl⟩ e7 e8 e9 e10 rfl
  | false =>
    rw [hk] at hf
    simp only [T6_app, firstD_eq, Z6, x6_48, base1, baseE, ↓reduceIte, Nat.reduceAdd, Nat.reduceSub, Nat.reduceMul, Nat.reduceEqDiff, Nat.reduceLeDiff, Nat.reduceLT, Int.reduceLT, Int.reduceLE, Int.reduceEq, Int.reduceNe, Int.reduceToNat, Int.reduceAdd, Int.reduceSub, reduceCtorEq, Nat.reduceBEq, Nat.reduceBNe, e1, e5, e6, e7, e8, e9, e10, g1, g2, hW, s1, s2, d1, d2, nc_len, nc_cell, sub_note, nk, pm, q1, q2, k1, k2, set_len, hf, hk, Bool.true_or, Bool.false_or]
    exact turn6 N hm hs kd _ _ _ ⟨e1, e5, e6, k1 _ _ _, k2 _ _ _, rfl⟩ e7 e8 e9 e10 rfl
theorem turn4 (N : NoteV) (hm : mayB N = true) (hs : N.sz) (kd : Int) (W : List AV) (e : Env) (σ : AHeap) (h : At N kd W e σ) (e7 : e 7 = .bool true) (e8 : e 8 = .bool true) (e9 : e 9 = .bool true) : sC T6 0 b6_51 (unw T6 0 (RetQ [.t 4] Yes) .fin) e σ := by
  obtain ⟨e1, e5, e6, g1, g2, hw⟩ := h
  have hW := put_W (N := N) hw
  have l2 := hget_lt g2
  have s2 : ∀ c : List AV, hget (hset σ 2 c) 2 = some c := fun c => set_same g2
  have s1 : ∀ c : List AV, hget (hset σ 2 c) 1 = some N.cells := fun c => (set_other (by decide)).trans g1
  have d2 : ∀ c d : List AV, hget (hset (hset σ 2 c) 2 d) 2 = some d := fun c d => set_same (s2 c)
  have d1 : ∀ c d : List AV, hget (hset (hset σ 2 c) 2 d) 1 = some N.cells := fun c d => (set_other (by decide)).trans (s1 c)
  have pm : put N.cells 13 [.int .i64 0, .int .i64 0, .int .i64 0, .bool true, .str [], .nilslice, .str [], .bool false] = some [.int .i64 N.kind, .int .i64 N.from_, .int .i64 N.to, .int .i64 N.epoch, .int .i64 N.tick, .int .i64 N.ask.do_, .int .i64 N.ask.client, .int .i64 N.ask.seq, .str N.ask.text, .str N.ask.val, .str N.ask.from_, .str N.ask.to, .int .i64 N.ask.limit, .int .i64 0, .int .i64 0, .int .i64 0, .bool true, .str [], .nilslice, .str [], .bool false, .str N.sf, .str N.st, .imm (N.l.map recC) false false, .imm (N.last.map LaV.cells) false false, .int .i64 N.aep, .imm (N.sh.map ShV.cells) false false] := rfl
  have hf := m_rep hm
  simp only [T6_app, firstD_eq, Z6, x6_51, base1, baseE, ↓reduceIte, Nat.reduceAdd, Nat.reduceSub, Nat.reduceMul, Nat.reduceEqDiff, Nat.reduceLeDiff, Nat.reduceLT, Int.reduceLT, Int.reduceLE, Int.reduceEq, Int.reduceNe, Int.reduceToNat, Int.reduceAdd, Int.reduceSub, reduceCtorEq, Nat.reduceBEq, Nat.reduceBNe, e1, e5, e6, e7, e8, e9, g1, g2, hW, s1, s2, d1, d2, nc_len, nc_cell, sub_note, nk, pm]
  refine .inl ⟨_, { N with rep := ⟨0, 0, 0, true, [], [], [], false⟩ }, rfl, rfl, sz_rep hs, ?_⟩
  simp only [T6_app, firstD_eq, Z6, x6_51, base1, baseE, ↓reduceIte, Nat.reduceAdd, Nat.reduceSub, Nat.reduceMul, Nat.reduceEqDiff, Nat.reduceLeDiff, Nat.reduceLT, Int.reduceLT, Int.reduceLE, Int.reduceEq, Int.reduceNe, Int.reduceToNat, Int.reduceAdd, Int.reduceSub, reduceCtorEq, Nat.reduceBEq, Nat.reduceBNe, e1, e5, e6, e7, e8, e9, g1, g2, hW, s1, s2, d1, d2, nc_len, nc_cell, sub_note, nk, pm, hf]
  exact turn5 N hm hs kd _ _ _ ⟨e1, e5, e6, d1 _ _, d2 _ _, rfl⟩ e7 e8 e9 rfl
theorem turn3 (N : NoteV) (hm : mayB N = true) (hs : N.sz) (kd : Int) (W : List AV) (e : Env) (σ : AHeap) (h : At N kd W e σ) (e7 : e 7 = .bool true) (e8 : e 8 = .bool true) : sC T6 0 b6_54 (unw T6 0 (RetQ [.t 4] Yes) .fin) e σ := by
  obtain ⟨e1, e5, e6, g1, g2, hw⟩ := h
  have hW := put_W (N := N) hw
  have l2 := hget_lt g2
  have s2 : ∀ c : List AV, hget (hset σ 2 c) 2 = some c := fun c => set_same g2
  have s1 : ∀ c : List AV, hget (hset σ 2 c) 1 = some N.cells := fun c => (set_other (by decide)).trans g1
  have d2 : ∀ c d : List AV, hget (hset (hset σ 2 c) 2 d) 2 = some d := fun c d => set_same (s2 c)
  have d1 : ∀ c d : List AV, hget (hset (hset σ 2 c) 2 d) 1 = some N.cells := fun c d => (set_other (by decide)).trans (s1 c)
  have pm : put N.cells 5 [.int .i64 1, .int .i64 0, .int .i64 0, .str [], .str [], .str [], .str [], .int .i64 0] = some [.int .i64 N.kind, .int .i64 N.from_, .int .i64 N.to, .int .i64 N.epoch, .int .i64 N.tick, .int .i64 1, .int .i64 0, .int .i64 0, .str [], .str [], .str [], .str [], .int .i64 0, .int .i64 N.rep.client, .int .i64 N.rep.seq, .int .i64 N.rep.err, .bool N.rep.found, .str N.rep.val, .imm (recs N.rep.l) false false, .str N.rep.next, .bool N.rep.more, .str N.sf, .str N.st, .imm (N.l.map recC) false false, .imm (N.last.map LaV.cells) false false, .int .i64 N.aep, .imm (N.sh.map ShV.cells) false false] := rfl
  have hf := m_ask hm
  simp only [T6_app, firstD_eq, Z6, x6_54, base1, baseE, ↓reduceIte, Nat.reduceAdd, Nat.reduceSub, Nat.reduceMul, Nat.reduceEqDiff, Nat.reduceLeDiff, Nat.reduceLT, Int.reduceLT, Int.reduceLE, Int.reduceEq, Int.reduceNe, Int.reduceToNat, Int.reduceAdd, Int.reduceSub, reduceCtorEq, Nat.reduceBEq, Nat.reduceBNe, e1, e5, e6, e7, e8, g1, g2, hW, s1, s2, d1, d2, nc_len, nc_cell, sub_note, nk, pm]
  refine .inl ⟨_, { N with ask := ⟨1, 0, 0, [], [], [], [], 0⟩ }, rfl, rfl, sz_ask hs, ?_⟩
  simp only [T6_app, firstD_eq, Z6, x6_54, base1, baseE, ↓reduceIte, Nat.reduceAdd, Nat.reduceSub, Nat.reduceMul, Nat.reduceEqDiff, Nat.reduceLeDiff, Nat.reduceLT, Int.reduceLT, Int.reduceLE, Int.reduceEq, Int.reduceNe, Int.reduceToNat, Int.reduceAdd, Int.reduceSub, reduceCtorEq, Nat.reduceBEq, Nat.reduceBNe, e1, e5, e6, e7, e8, g1, g2, hW, s1, s2, d1, d2, nc_len, nc_cell, sub_note, nk, pm, hf]
  exact turn4 N hm hs kd _ _ _ ⟨e1, e5, e6, d1 _ _, d2 _ _, rfl⟩ e7 e8 rfl
theorem turn2 (N : NoteV) (hm : mayB N = true) (hs : N.sz) (kd : Int) (W : List AV) (e : Env) (σ : AHeap) (h : At N kd W e σ) (e7 : e 7 = .bool true) : sC T6 0 b6_57 (unw T6 0 (RetQ [.t 4] Yes) .fin) e σ := by
  obtain ⟨e1, e5, e6, g1, g2, hw⟩ := h
  have hW := put_W (N := N) hw
  have l2 := hget_lt g2
  have s2 : ∀ c : List AV, hget (hset σ 2 c) 2 = some c := fun c => set_same g2
  have s1 : ∀ c : List AV, hget (hset σ 2 c) 1 = some N.cells := fun c => (set_other (by decide)).trans g1
  have d2 : ∀ c d : List AV, hget (hset (hset σ 2 c) 2 d) 2 = some d := fun c d => set_same (s2 c)
  have d1 : ∀ c d : List AV, hget (hset (hset σ 2 c) 2 d) 1 = some N.cells := fun c d => (set_other (by decide)).trans (s1 c)
  have pm : put N.cells 3 [.int .i64 7] = some [.int .i64 N.kind, .int .i64 N.from_, .int .i64 N.to, .int .i64 7, .int .i64 N.tick, .int .i64 N.ask.do_, .int .i64 N.ask.client, .int .i64 N.ask.seq, .str N.ask.text, .str N.ask.val, .str N.ask.from_, .str N.ask.to, .int .i64 N.ask.limit, .int .i64 N.rep.client, .int .i64 N.rep.seq, .int .i64 N.rep.err, .bool N.rep.found, .str N.rep.val, .imm (recs N.rep.l) false false, .str N.rep.next, .bool N.rep.more, .str N.sf, .str N.st, .imm (N.l.map recC) false false, .imm (N.last.map LaV.cells) false false, .int .i64 N.aep, .imm (N.sh.map ShV.cells) false false] := rfl
  have hf := m_epoch hm
  simp only [T6_app, firstD_eq, Z6, x6_57, base1, baseE, ↓reduceIte, Nat.reduceAdd, Nat.reduceSub, Nat.reduceMul, Nat.reduceEqDiff, Nat.reduceLeDiff, Nat.reduceLT, Int.reduceLT, Int.reduceLE, Int.reduceEq, Int.reduceNe, Int.reduceToNat, Int.reduceAdd, Int.reduceSub, reduceCtorEq, Nat.reduceBEq, Nat.reduceBNe, e1, e5, e6, e7, g1, g2, hW, s1, s2, d1, d2, nc_len, nc_cell, sub_note, nk, pm]
  refine .inl ⟨_, { N with epoch := 7 }, rfl, rfl, sz_epoch hs 7, ?_⟩
  simp only [T6_app, firstD_eq, Z6, x6_57, base1, baseE, ↓reduceIte, Nat.reduceAdd, Nat.reduceSub, Nat.reduceMul, Nat.reduceEqDiff, Nat.reduceLeDiff, Nat.reduceLT, Int.reduceLT, Int.reduceLE, Int.reduceEq, Int.reduceNe, Int.reduceToNat, Int.reduceAdd, Int.reduceSub, reduceCtorEq, Nat.reduceBEq, Nat.reduceBNe, e1, e5, e6, e7, g1, g2, hW, s1, s2, d1, d2, nc_len, nc_cell, sub_note, nk, pm, hf]
  exact turn3 N hm hs kd _ _ _ ⟨e1, e5, e6, d1 _ _, d2 _ _, rfl⟩ e7 rfl
theorem turn1 (N : NoteV) (hm : mayB N = true) (hs : N.sz) (kd : Int) (R : List AV) (e : Env) (e1 : e 1 = .int .i64 kd) (e5 : e 5 = .ptr 1 0) : sC T6 0 b6_60 (unw T6 0 (RetQ [.t 4] Yes) .fin) e [some R, some N.cells] := by
  have pm : put N.cells 4 [.int .i64 5] = some [.int .i64 N.kind, .int .i64 N.from_, .int .i64 N.to, .int .i64 N.epoch, .int .i64 5, .int .i64 N.ask.do_, .int .i64 N.ask.client, .int .i64 N.ask.seq, .str N.ask.text, .str N.ask.val, .str N.ask.from_, .str N.ask.to, .int .i64 N.ask.limit, .int .i64 N.rep.client, .int .i64 N.rep.seq, .int .i64 N.rep.err, .bool N.rep.found, .str N.rep.val, .imm (recs N.rep.l) false false, .str N.rep.next, .bool N.rep.more, .str N.sf, .str N.st, .imm (N.l.map recC) false false, .imm (N.last.map LaV.cells) false false, .int .i64 N.aep, .imm (N.sh.map ShV.cells) false false] := rfl
  have hf := m_tick hm
  simp only [T6_app, firstD_eq, Z6, x6_60, base1, baseE, ↓reduceIte, Nat.reduceAdd, Nat.reduceSub, Nat.reduceMul, Nat.reduceEqDiff, Nat.reduceLeDiff, Nat.reduceLT, Int.reduceLT, Int.reduceLE, Int.reduceEq, Int.reduceNe, Int.reduceToNat, Int.reduceAdd, Int.reduceSub, reduceCtorEq, Nat.reduceBEq, Nat.reduceBNe, e1, e5, nc_len, nc_cell, sub_note, nk, put_note, pm]
  refine .inl ⟨_, { N with tick := 5 }, rfl, rfl, sz_tick hs 5, ?_⟩
  cases hk : decide (N.kind = 5) with
  | true =>
    rw [hk] at hf
    simp only [T6_app, firstD_eq, Z6, x6_60, base1, baseE, ↓reduceIte, Nat.reduceAdd, Nat.reduceSub, Nat.reduceMul, Nat.reduceEqDiff, Nat.reduceLeDiff, Nat.reduceLT, Int.reduceLT, Int.reduceLE, Int.reduceEq, Int.reduceNe, Int.reduceToNat, Int.reduceAdd, Int.reduceSub, reduceCtorEq, Nat.reduceBEq, Nat.reduceBNe, e1, e5, nc_len, nc_cell, sub_note, nk, put_note, pm, hf, hk, Bool.true_or, Bool.false_or]
    exact turn2 N hm hs kd _ _ _ ⟨e1, e5, rfl, rfl, rfl, rfl⟩ rfl
  | false =>
    rw [hk] at hf
    simp only [T6_app, firstD_eq, Z6, x6_60, base1, baseE, ↓reduceIte, Nat.reduceAdd, Nat.reduceSub, Nat.reduceMul, Nat.reduceEqDiff, Nat.reduceLeDiff, Nat.reduceLT, Int.reduceLT, Int.reduceLE, Int.reduceEq, Int.reduceNe, Int.reduceToNat, Int.reduceAdd, Int.reduceSub, reduceCtorEq, Nat.reduceBEq, Nat.reduceBNe, e1, e5, nc_len, nc_cell, sub_note, nk, put_note, pm, hf, hk, Bool.true_or, Bool.false_or]
    exact turn2 N hm hs kd _ _ _ ⟨e1, e5, rfl, rfl, rfl, rfl⟩ rfl
theorem law (r : RowV) (hr : r.okS) (kd : Int) : sF T6 s6 [.agg r.cells, .int .i64 kd] [] Yes := by
  simp only [T6_app, awakeD_eq, Z6, base1, baseE, ↓reduceIte, Nat.reduceAdd, Nat.reduceSub, Nat.reduceMul, Nat.reduceEqDiff, Nat.reduceLeDiff, Nat.reduceLT, Int.reduceLT, Int.reduceLE, Int.reduceEq, Int.reduceNe, Int.reduceToNat, Int.reduceAdd, Int.reduceSub, reduceCtorEq, Nat.reduceBEq, Nat.reduceBNe, sub_row]
  refine ⟨r, rfl, hr, fun p hp => ?_⟩
  cases p with
  | false =>
    simp only [T6_app, awakeD_eq, Z6, base1, baseE, ↓reduceIte, Nat.reduceAdd, Nat.reduceSub, Nat.reduceMul, Nat.reduceEqDiff, Nat.reduceLeDiff, Nat.reduceLT, Int.reduceLT, Int.reduceLE, Int.reduceEq, Int.reduceNe, Int.reduceToNat, Int.reduceAdd, Int.reduceSub, reduceCtorEq, Nat.reduceBEq, Nat.reduceBNe, sub_row]
    exact yes_true
  | true =>
    have pr := hp rfl
    simp only [T6_app, awakeD_eq, Z6, base1, baseE, ↓reduceIte, Nat.reduceAdd, Nat.reduceSub, Nat.reduceMul, Nat.reduceEqDiff, Nat.reduceLeDiff, Nat.reduceLT, Int.reduceLT, Int.reduceLE, Int.reduceEq, Int.reduceNe, Int.reduceToNat, Int.reduceAdd, Int.reduceSub, reduceCtorEq, Nat.reduceBEq, Nat.reduceBNe, sub_row]
    refine ⟨r, rfl, pr, fun b hb => ?_⟩
    cases b with
    | false =>
      simp only [T6_app, awakeD_eq, Z6, base1, baseE, ↓reduceIte, Nat.reduceAdd, Nat.reduceSub, Nat.reduceMul, Nat.reduceEqDiff, Nat.reduceLeDiff, Nat.reduceLT, Int.reduceLT, Int.reduceLE, Int.reduceEq, Int.reduceNe, Int.reduceToNat, Int.reduceAdd, Int.reduceSub, reduceCtorEq, Nat.reduceBEq, Nat.reduceBNe, sub_row]
      exact yes_true
    | true =>
      have hm := hb rfl
      have la : r.last.length ≤ 1000000 := by have := pr.lal; omega
      have sa : r.sh.length ≤ 1000000 := by have := pr.shl; omega
      simp only [T6_app, awakeD_eq, Z6, base1, baseE, ↓reduceIte, Nat.reduceAdd, Nat.reduceSub, Nat.reduceMul, Nat.reduceEqDiff, Nat.reduceLeDiff, Nat.reduceLT, Int.reduceLT, Int.reduceLE, Int.reduceEq, Int.reduceNe, Int.reduceToNat, Int.reduceAdd, Int.reduceSub, reduceCtorEq, Nat.reduceBEq, Nat.reduceBNe, sub_row, madeD_eq, la, sa, true_and, nc_len, nc_cell, put_note, sub_note]
      refine .inl ⟨_, made r, rfl, rfl, made_sz pr, ?_⟩
      simp only [T6_app, awakeD_eq, Z6, base1, baseE, ↓reduceIte, Nat.reduceAdd, Nat.reduceSub, Nat.reduceMul, Nat.reduceEqDiff, Nat.reduceLeDiff, Nat.reduceLT, Int.reduceLT, Int.reduceLE, Int.reduceEq, Int.reduceNe, Int.reduceToNat, Int.reduceAdd, Int.reduceSub, reduceCtorEq, Nat.reduceBEq, Nat.reduceBNe, hm]
      exact turn1 (made r) hm (made_sz pr) kd _ _ rfl rfl
abbrev Inp := RowV × (Int × Unit)
def avs (p : Inp) : List AV := [.agg p.1.cells, .int .i64 p.2.1]
def oks (p : Inp) : Prop := p.1.okS ∧ ((IntKind.min .i64 ≤ p.2.1 ∧ p.2.1 ≤ IntKind.max .i64) ∧ True)
theorem args : Args Try.prog Try.f6.params.toList avs oks := by
  have hp : Try.f6.params.toList = [36, 3] := by kernel_rfl
  rw [hp]
  have hu : Try.prog.underlying 36 = some (.struct (Try.prog.fieldsOf 36)) := by kernel_rfl
  exact .cons (arg_agg rdRow (.inl ⟨_, hu⟩)) (.cons (arg_int (by kernel_rfl)) .nil)
theorem comes (y : Inp) (hy : oks y) : Tri Try.prog 6 (avs y) [] Yes := by
  obtain ⟨a, b, u⟩ := y
  obtain ⟨ha, hb, _⟩ := hy
  exact Tri.of_s c6 T6_sound (law a ha b)
theorem own : ownKnob Try.prog.godebug = none := by kernel_rfl
theorem laidOut : laidOutB Try.prog = true := by kernel_rfl
theorem lifted (os : Os) (started : os.Started) (H : Type) (enc : TypeId × Value → H) :
    ReturnsInHanded {} Try.checked os 6 .any (Rows.noteKindsSpec.pre6 enc Try.prog Try.f6 Rows.noteKindsRow.domain false) (Rows.noteKindsSpec.post enc Try.prog Try.f6 false true false false) := by
  refine returnsInHanded_of_change_sized (C := Try.checked) own started (by kernel_rfl) Try.func6
    (ChangeSpec.witness6 (enc := enc) (C := Try.checked) false ⟨#[], #[.agg #[.int .i64 0, .int .i64 0, .int .i64 0, .int .i64 0, .int .i64 0, .int .i64 0, .int .i64 0, .int .i64 0, .string ⟨#[]⟩, .string ⟨#[]⟩, .string ⟨#[]⟩, .string ⟨#[]⟩, .int .i64 0, .int .i64 0, .int .i64 0, .int .i64 0, .bool false, .string ⟨#[]⟩, .slice none 0 0, .string ⟨#[]⟩, .bool false, .string ⟨#[]⟩, .string ⟨#[]⟩, .slice none 0 0, .slice none 0 0, .int .i64 0, .slice none 0 0], .int .i64 0], []⟩ 8 (by kernel_rfl) (by kernel_rfl) (by kernel_rfl) (by kernel_rfl)) ?_
  intro W base args0 ds gs before hval hW _ hz _
  have hp : Try.f6.params.toList = [36, 3] := by kernel_rfl
  refine calls_post (avs := avs) (oks := oks) laidOut ?_ (by kernel_rfl) (tb := 4) (by kernel_rfl) rfl ?_ args comes hval hW hz
  · rw [hp]; intro t ht
    have h3 : ([36, 3].all fun t => Try.prog.readableRec t && Nat.blt t Try.prog.types.size) = true := by kernel_rfl
    have := List.all_eq_true.1 h3 t ht
    rw [Bool.and_eq_true, Nat.blt_eq] at this
    exact this
  · intro ds h
    rw [hp] at h
    match ds, h with
    | [_, _], _ => rfl
end Go.Proofs.Ytndlgmciplckjaa.noteKinds
namespace Go.Proofs.Ytndlgmciplckjaa
open Go.ChangeShapes Go.WideShapes Go.ChangeAt Go.RowKit
theorem noteKinds_holds : Rows.NoteKindsSaid :=
  OpenClaim.holds_of_wide 6 Try.f6 rfl rfl rfl rfl rfl rfl rfl ⟨rfl, rfl, rfl, rfl, rfl⟩ rfl rfl rfl rfl rfl (by kernel_rfl) Try.func6 (by kernel_rfl)
    (of_decide_eq_true (by kernel_rfl)) (by unfold Func.isWrapper; first | (rw [if_pos (by decide +kernel)]; kernel_rfl) | (rw [if_neg (by decide +kernel)]; exact ⟨rfl, rfl⟩))
    (fun os started H enc _ => noteKinds.lifted os started H enc)
end Go.Proofs.Ytndlgmciplckjaa
