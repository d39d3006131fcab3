/- The law gazetteerlaw23.TourTakes returns true for every input: by stepping through the law and the functions that it calls (each branch once), and by the order of texts being total. No condition. -/
import Derived.Test.YtmjnmnhpmbbmgaaRows
import Derived.Test.YtmjnmnhpmbbmgaaK22
import Derived.Test.YtmjnmnhpmbbmgaaK26
import Derived.Sort.Walk0
set_option linter.unusedVariables false
set_option linter.unusedSimpArgs false
namespace Go.Proofs.Ytmjnmnhpmbbmgaa.tourTakes
open Go.ChangeShapes Go.WideShapes Go.ChangeAt Go.RowKit Go.Gz
section
variable {C : PCall} {n0 : Nat} {R : MExit → Env → AHeap → Prop} {k : Cont} {e : Env} {σ : AHeap}
def r4_0 : List MOper := [⟨(some 3), .box (.t 0), none⟩,
  ⟨(some 6), .move (.c (.bool false)), none⟩]
def b4_0 : SCode := .region r4_0
theorem x4_0 : sC C n0 b4_0 (unw C n0 R k) e σ = sOps C r4_0 (unw C n0 R k .normal) e σ := _root_.id rfl
def r4_1 : List MOper := [⟨(some 20), .call 9 [], none⟩,
  ⟨(some 21), .un .not (.t 20), none⟩]
def b4_1 : SCode := .region r4_1
theorem x4_1 : sC C n0 b4_1 (unw C n0 R k) e σ = sOps C r4_1 (unw C n0 R k .normal) e σ := _root_.id rfl
def r4_2 : List MOper := [⟨(some 6), .move (.c (.bool false)), none⟩]
def b4_2 : SCode := .region r4_2
theorem x4_2 : sC C n0 b4_2 (unw C n0 R k) e σ = sOps C r4_2 (unw C n0 R k .normal) e σ := _root_.id rfl
def b4_3 : SCode := .seq b4_2 .ret
theorem x4_3 : sC C n0 b4_3 (unw C n0 R k) e σ = sC C n0 b4_2 (unw C n0 R (.seq .ret k)) e σ := _root_.id rfl
def b4_4 : SCode := .cond (.t 21) b4_3 .skip
theorem x4_4 : sC C n0 b4_4 (unw C n0 R k) e σ = condK C n0 R (Opd.ev e (.t 21)) b4_3 .skip k e σ := sC_cond
def b4_5 : SCode := .seq b4_1 b4_4
theorem x4_5 : sC C n0 b4_5 (unw C n0 R k) e σ = sC C n0 b4_1 (unw C n0 R (.seq b4_4 k)) e σ := _root_.id rfl
def r4_6 : List MOper := [⟨(some 22), .indexArrAddr 2 1 (.t 3) (.c (.int .i64 0)), none⟩,
  ⟨(some 23), .load1 (.t 22), none⟩,
  ⟨(some 24), .lenStr (.t 23), none⟩,
  ⟨(some 25), .bin .gtr .num (.t 24) (.c (.int .i64 300)), none⟩,
  ⟨(some 26), .move (.t 25), none⟩,
  ⟨(some 27), .indexArrAddr 2 1 (.t 3) (.c (.int .i64 1)), (some (26, false))⟩,
  ⟨(some 28), .load1 (.t 27), (some (26, false))⟩,
  ⟨(some 29), .lenStr (.t 28), (some (26, false))⟩,
  ⟨(some 30), .bin .gtr .num (.t 29) (.c (.int .i64 300)), (some (26, false))⟩,
  ⟨(some 31), .pick (.t 26) (.c (.bool true)) (.t 30), none⟩,
  ⟨(some 32), .move (.t 31), none⟩,
  ⟨(some 33), .move (.t 1), (some (32, false))⟩,
  ⟨(some 34), .lenStr (.t 33), (some (32, false))⟩,
  ⟨(some 35), .bin .gtr .num (.t 34) (.c (.int .i64 300)), (some (32, false))⟩,
  ⟨(some 36), .pick (.t 32) (.c (.bool true)) (.t 35), none⟩]
def b4_6 : SCode := .region r4_6
theorem x4_6 : sC C n0 b4_6 (unw C n0 R k) e σ = sOps C r4_6 (unw C n0 R k .normal) e σ := _root_.id rfl
def r4_7 : List MOper := [⟨(some 6), .move (.c (.bool true)), none⟩]
def b4_7 : SCode := .region r4_7
theorem x4_7 : sC C n0 b4_7 (unw C n0 R k) e σ = sOps C r4_7 (unw C n0 R k .normal) e σ := _root_.id rfl
def b4_8 : SCode := .seq b4_7 .ret
theorem x4_8 : sC C n0 b4_8 (unw C n0 R k) e σ = sC C n0 b4_7 (unw C n0 R (.seq .ret k)) e σ := _root_.id rfl
def b4_9 : SCode := .cond (.t 36) b4_8 .skip
theorem x4_9 : sC C n0 b4_9 (unw C n0 R k) e σ = condK C n0 R (Opd.ev e (.t 36)) b4_8 .skip k e σ := sC_cond
def b4_10 : SCode := .seq b4_6 b4_9
theorem x4_10 : sC C n0 b4_10 (unw C n0 R k) e σ = sC C n0 b4_6 (unw C n0 R (.seq b4_9 k)) e σ := _root_.id rfl
def r4_11 : List MOper := [⟨(some 38), .indexArrAddr 2 1 (.t 3) (.c (.int .i64 0)), none⟩,
  ⟨(some 39), .load1 (.t 38), none⟩,
  ⟨(some 40), .indexArrAddr 2 1 (.t 3) (.c (.int .i64 1)), none⟩,
  ⟨(some 41), .load1 (.t 40), none⟩,
  ⟨(some 42), .move (.t 2), none⟩,
  ⟨(some 43), .call 11 [(.t 39), (.t 41), (.t 42)], none⟩,
  ⟨(some 37), .move (.t 43), none⟩,
  ⟨(some 44), .extract (.t 37) 0, none⟩,
  ⟨(some 45), .extract (.t 37) 1, none⟩,
  ⟨(some 7), .move (.t 44), none⟩,
  ⟨(some 8), .move (.t 45), none⟩]
def b4_11 : SCode := .region r4_11
theorem x4_11 : sC C n0 b4_11 (unw C n0 R k) e σ = sOps C r4_11 (unw C n0 R k .normal) e σ := _root_.id rfl
def r4_12 : List MOper := [⟨(some 46), .move (.t 2), none⟩,
  ⟨(some 47), .bin .lss .num (.t 46) (.c (.int .i64 1)), none⟩,
  ⟨(some 48), .move (.t 47), none⟩,
  ⟨(some 49), .move (.t 2), (some (48, false))⟩,
  ⟨(some 50), .bin .gtr .num (.t 49) (.c (.int .i64 16)), (some (48, false))⟩,
  ⟨(some 51), .pick (.t 48) (.c (.bool true)) (.t 50), none⟩]
def b4_12 : SCode := .region r4_12
theorem x4_12 : sC C n0 b4_12 (unw C n0 R k) e σ = sOps C r4_12 (unw C n0 R k .normal) e σ := _root_.id rfl
def r4_13 : List MOper := [⟨(some 52), .move (.t 8), none⟩,
  ⟨(some 53), .bin .eql .num (.t 52) (.c (.int .i64 1)), none⟩,
  ⟨(some 54), .move (.t 53), none⟩,
  ⟨(some 55), .move (.t 7), (some (54, true))⟩,
  ⟨(some 56), .bin .eql .nilp (.t 55) (.c (.nilptr)), (some (54, true))⟩,
  ⟨(some 57), .pick (.t 54) (.t 56) (.c (.bool false)), none⟩,
  ⟨(some 6), .move (.t 57), none⟩]
def b4_13 : SCode := .region r4_13
theorem x4_13 : sC C n0 b4_13 (unw C n0 R k) e σ = sOps C r4_13 (unw C n0 R k .normal) e σ := _root_.id rfl
def b4_14 : SCode := .seq b4_13 .ret
theorem x4_14 : sC C n0 b4_14 (unw C n0 R k) e σ = sC C n0 b4_13 (unw C n0 R (.seq .ret k)) e σ := _root_.id rfl
def b4_15 : SCode := .cond (.t 51) b4_14 .skip
theorem x4_15 : sC C n0 b4_15 (unw C n0 R k) e σ = condK C n0 R (Opd.ev e (.t 51)) b4_14 .skip k e σ := sC_cond
def b4_16 : SCode := .seq b4_12 b4_15
theorem x4_16 : sC C n0 b4_16 (unw C n0 R k) e σ = sC C n0 b4_12 (unw C n0 R (.seq b4_15 k)) e σ := _root_.id rfl
def r4_17 : List MOper := [⟨(some 58), .move (.t 8), none⟩,
  ⟨(some 59), .bin .neq .num (.t 58) (.c (.int .i64 0)), none⟩,
  ⟨(some 60), .move (.t 59), none⟩,
  ⟨(some 61), .move (.t 7), (some (60, false))⟩,
  ⟨(some 62), .bin .eql .nilp (.t 61) (.c (.nilptr)), (some (60, false))⟩,
  ⟨(some 63), .pick (.t 60) (.c (.bool true)) (.t 62), none⟩]
def b4_17 : SCode := .region r4_17
theorem x4_17 : sC C n0 b4_17 (unw C n0 R k) e σ = sOps C r4_17 (unw C n0 R k .normal) e σ := _root_.id rfl
def r4_18 : List MOper := [⟨(some 6), .move (.c (.bool false)), none⟩]
def b4_18 : SCode := .region r4_18
theorem x4_18 : sC C n0 b4_18 (unw C n0 R k) e σ = sOps C r4_18 (unw C n0 R k .normal) e σ := _root_.id rfl
def b4_19 : SCode := .seq b4_18 .ret
theorem x4_19 : sC C n0 b4_19 (unw C n0 R k) e σ = sC C n0 b4_18 (unw C n0 R (.seq .ret k)) e σ := _root_.id rfl
def b4_20 : SCode := .cond (.t 63) b4_19 .skip
theorem x4_20 : sC C n0 b4_20 (unw C n0 R k) e σ = condK C n0 R (Opd.ev e (.t 63)) b4_19 .skip k e σ := sC_cond
def b4_21 : SCode := .seq b4_17 b4_20
theorem x4_21 : sC C n0 b4_21 (unw C n0 R k) e σ = sC C n0 b4_17 (unw C n0 R (.seq b4_20 k)) e σ := _root_.id rfl
def r4_22 : List MOper := [⟨(some 64), .indexArrAddr 2 1 (.t 3) (.c (.int .i64 1)), none⟩,
  ⟨(some 65), .load1 (.t 64), none⟩,
  ⟨(some 66), .bin .neq .num (.t 65) (.c (.str [])), none⟩,
  ⟨(some 67), .move (.t 66), none⟩,
  ⟨(some 68), .indexArrAddr 2 1 (.t 3) (.c (.int .i64 0)), (some (67, true))⟩,
  ⟨(some 69), .load1 (.t 68), (some (67, true))⟩,
  ⟨(some 70), .indexArrAddr 2 1 (.t 3) (.c (.int .i64 1)), (some (67, true))⟩,
  ⟨(some 71), .load1 (.t 70), (some (67, true))⟩,
  ⟨(some 72), .bin .geq .num (.t 69) (.t 71), (some (67, true))⟩,
  ⟨(some 73), .pick (.t 67) (.t 72) (.c (.bool false)), none⟩]
def b4_22 : SCode := .region r4_22
theorem x4_22 : sC C n0 b4_22 (unw C n0 R k) e σ = sOps C r4_22 (unw C n0 R k .normal) e σ := _root_.id rfl
def r4_23 : List MOper := [⟨(some 75), .move (.t 7), none⟩,
  ⟨(some 76), .call 12 [(.t 75)], none⟩,
  ⟨(some 74), .move (.t 76), none⟩,
  ⟨(some 77), .extract (.t 74) 0, none⟩,
  ⟨(some 78), .extract (.t 74) 1, none⟩,
  ⟨(some 79), .extract (.t 74) 2, none⟩,
  ⟨(some 80), .extract (.t 74) 3, none⟩,
  ⟨(some 9), .move (.t 77), none⟩,
  ⟨(some 10), .move (.t 78), none⟩,
  ⟨(some 11), .move (.t 79), none⟩,
  ⟨(some 12), .move (.t 80), none⟩]
def b4_23 : SCode := .region r4_23
theorem x4_23 : sC C n0 b4_23 (unw C n0 R k) e σ = sOps C r4_23 (unw C n0 R k .normal) e σ := _root_.id rfl
def r4_24 : List MOper := [⟨(some 81), .move (.t 7), none⟩,
  ⟨(some 82), .call 13 [(.t 81)], none⟩,
  ⟨(some 83), .move (.t 82), none⟩,
  ⟨(some 84), .move (.t 12), (some (83, true))⟩,
  ⟨(some 85), .un .not (.t 84), (some (83, true))⟩,
  ⟨(some 86), .pick (.t 83) (.t 85) (.c (.bool false)), none⟩,
  ⟨(some 87), .move (.t 86), none⟩,
  ⟨(some 88), .move (.t 7), (some (87, true))⟩,
  ⟨(some 89), .build [.int .i64 0, .int .i64 0, .int .i64 0, .bool false, .str [], .nilslice, .str [], .bool false] [], (some (87, true))⟩,
  ⟨(some 90), .call 14 [(.t 88), (.t 89)], (some (87, true))⟩,
  ⟨(some 91), .bin .eql .num (.t 90) (.c (.int .i64 10)), (some (87, true))⟩,
  ⟨(some 92), .pick (.t 87) (.t 91) (.c (.bool false)), none⟩,
  ⟨(some 6), .move (.t 92), none⟩]
def b4_24 : SCode := .region r4_24
theorem x4_24 : sC C n0 b4_24 (unw C n0 R k) e σ = sOps C r4_24 (unw C n0 R k .normal) e σ := _root_.id rfl
def b4_25 : SCode := .seq b4_24 .ret
theorem x4_25 : sC C n0 b4_25 (unw C n0 R k) e σ = sC C n0 b4_24 (unw C n0 R (.seq .ret k)) e σ := _root_.id rfl
def b4_26 : SCode := .seq b4_23 b4_25
theorem x4_26 : sC C n0 b4_26 (unw C n0 R k) e σ = sC C n0 b4_23 (unw C n0 R (.seq b4_25 k)) e σ := _root_.id rfl
def b4_27 : SCode := .cond (.t 73) b4_26 .skip
theorem x4_27 : sC C n0 b4_27 (unw C n0 R k) e σ = condK C n0 R (Opd.ev e (.t 73)) b4_26 .skip k e σ := sC_cond
def b4_28 : SCode := .seq b4_22 b4_27
theorem x4_28 : sC C n0 b4_28 (unw C n0 R k) e σ = sC C n0 b4_22 (unw C n0 R (.seq b4_27 k)) e σ := _root_.id rfl
def r4_29 : List MOper := [⟨(some 93), .move (.t 7), none⟩,
  ⟨(some 94), .build [.int .i64 0, .int .i64 0, .int .i64 0, .bool false, .str [], .nilslice, .str [], .bool false] [(2, 1, (.c (.int .i64 11)))], none⟩,
  ⟨(some 95), .call 14 [(.t 93), (.t 94)], none⟩,
  ⟨(some 13), .move (.t 95), none⟩]
def b4_29 : SCode := .region r4_29
theorem x4_29 : sC C n0 b4_29 (unw C n0 R k) e σ = sOps C r4_29 (unw C n0 R k .normal) e σ := _root_.id rfl
def r4_30 : List MOper := [⟨(some 96), .move (.t 7), none⟩,
  ⟨(some 97), .move (.t 1), none⟩,
  ⟨(some 98), .build [.int .i64 0, .int .i64 0, .int .i64 0, .bool false, .str [], .nilslice, .str [], .bool false] [(6, 1, (.t 97)), (7, 1, (.c (.bool true)))], none⟩,
  ⟨(some 99), .call 14 [(.t 96), (.t 98)], none⟩,
  ⟨(some 14), .move (.t 99), none⟩]
def b4_30 : SCode := .region r4_30
theorem x4_30 : sC C n0 b4_30 (unw C n0 R k) e σ = sOps C r4_30 (unw C n0 R k .normal) e σ := _root_.id rfl
def r4_31 : List MOper := [⟨(some 100), .move (.t 1), none⟩,
  ⟨(some 101), .indexArrAddr 2 1 (.t 3) (.c (.int .i64 0)), none⟩,
  ⟨(some 102), .load1 (.t 101), none⟩,
  ⟨(some 103), .bin .leq .num (.t 100) (.t 102), none⟩,
  ⟨(some 104), .move (.t 103), none⟩,
  ⟨(some 105), .indexArrAddr 2 1 (.t 3) (.c (.int .i64 1)), (some (104, false))⟩,
  ⟨(some 106), .load1 (.t 105), (some (104, false))⟩,
  ⟨(some 107), .bin .neq .num (.t 106) (.c (.str [])), (some (104, false))⟩,
  ⟨(some 108), .move (.t 107), (some (104, false))⟩,
  ⟨(some 109), .move (.t 1), (some (108, true))⟩,
  ⟨(some 110), .indexArrAddr 2 1 (.t 3) (.c (.int .i64 1)), (some (108, true))⟩,
  ⟨(some 111), .load1 (.t 110), (some (108, true))⟩,
  ⟨(some 112), .bin .gtr .num (.t 109) (.t 111), (some (108, true))⟩,
  ⟨(some 113), .pick (.t 108) (.t 112) (.c (.bool false)), (some (104, false))⟩,
  ⟨(some 114), .pick (.t 104) (.c (.bool true)) (.t 113), none⟩,
  ⟨(some 15), .move (.t 114), none⟩]
def b4_31 : SCode := .region r4_31
theorem x4_31 : sC C n0 b4_31 (unw C n0 R k) e σ = sOps C r4_31 (unw C n0 R k .normal) e σ := _root_.id rfl
def r4_32 : List MOper := [⟨(some 116), .move (.t 7), none⟩,
  ⟨(some 117), .call 12 [(.t 116)], none⟩,
  ⟨(some 115), .move (.t 117), none⟩,
  ⟨(some 118), .extract (.t 115) 0, none⟩,
  ⟨(some 119), .extract (.t 115) 1, none⟩,
  ⟨(some 120), .extract (.t 115) 2, none⟩,
  ⟨(some 121), .extract (.t 115) 3, none⟩,
  ⟨(some 16), .move (.t 118), none⟩,
  ⟨(some 17), .move (.t 119), none⟩,
  ⟨(some 18), .move (.t 120), none⟩,
  ⟨(some 19), .move (.t 121), none⟩]
def b4_32 : SCode := .region r4_32
theorem x4_32 : sC C n0 b4_32 (unw C n0 R k) e σ = sOps C r4_32 (unw C n0 R k .normal) e σ := _root_.id rfl
def r4_33 : List MOper := [⟨(some 122), .move (.t 13), none⟩,
  ⟨(some 123), .bin .neq .num (.t 122) (.c (.int .i64 11)), none⟩,
  ⟨(some 124), .move (.t 123), none⟩,
  ⟨(some 125), .move (.t 15), (some (124, false))⟩,
  ⟨(some 126), .move (.t 14), (some (124, false))⟩,
  ⟨(some 127), .bin .eql .num (.t 126) (.c (.int .i64 5)), (some (124, false))⟩,
  ⟨(some 128), .bin .neq .bool (.t 125) (.t 127), (some (124, false))⟩,
  ⟨(some 129), .pick (.t 124) (.c (.bool true)) (.t 128), none⟩]
def b4_33 : SCode := .region r4_33
theorem x4_33 : sC C n0 b4_33 (unw C n0 R k) e σ = sOps C r4_33 (unw C n0 R k .normal) e σ := _root_.id rfl
def r4_34 : List MOper := [⟨(some 6), .move (.c (.bool false)), none⟩]
def b4_34 : SCode := .region r4_34
theorem x4_34 : sC C n0 b4_34 (unw C n0 R k) e σ = sOps C r4_34 (unw C n0 R k .normal) e σ := _root_.id rfl
def b4_35 : SCode := .seq b4_34 .ret
theorem x4_35 : sC C n0 b4_35 (unw C n0 R k) e σ = sC C n0 b4_34 (unw C n0 R (.seq .ret k)) e σ := _root_.id rfl
def b4_36 : SCode := .cond (.t 129) b4_35 .skip
theorem x4_36 : sC C n0 b4_36 (unw C n0 R k) e σ = condK C n0 R (Opd.ev e (.t 129)) b4_35 .skip k e σ := sC_cond
def b4_37 : SCode := .seq b4_33 b4_36
theorem x4_37 : sC C n0 b4_37 (unw C n0 R k) e σ = sC C n0 b4_33 (unw C n0 R (.seq b4_36 k)) e σ := _root_.id rfl
def r4_38 : List MOper := [⟨(some 130), .move (.t 15), none⟩]
def b4_38 : SCode := .region r4_38
theorem x4_38 : sC C n0 b4_38 (unw C n0 R k) e σ = sOps C r4_38 (unw C n0 R k .normal) e σ := _root_.id rfl
def r4_39 : List MOper := [⟨(some 131), .move (.t 19), none⟩,
  ⟨(some 132), .move (.t 131), none⟩,
  ⟨(some 133), .move (.t 16), (some (132, true))⟩,
  ⟨(some 134), .indexArrAddr 2 1 (.t 3) (.c (.int .i64 0)), (some (132, true))⟩,
  ⟨(some 135), .load1 (.t 134), (some (132, true))⟩,
  ⟨(some 136), .bin .eql .num (.t 133) (.t 135), (some (132, true))⟩,
  ⟨(some 137), .pick (.t 132) (.t 136) (.c (.bool false)), none⟩,
  ⟨(some 138), .move (.t 137), none⟩,
  ⟨(some 139), .move (.t 7), (some (138, true))⟩,
  ⟨(some 140), .call 15 [(.t 139)], (some (138, true))⟩,
  ⟨(some 141), .lenSl (.t 140), (some (138, true))⟩,
  ⟨(some 142), .bin .eql .num (.t 141) (.c (.int .i64 0)), (some (138, true))⟩,
  ⟨(some 143), .pick (.t 138) (.t 142) (.c (.bool false)), none⟩,
  ⟨(some 6), .move (.t 143), none⟩]
def b4_39 : SCode := .region r4_39
theorem x4_39 : sC C n0 b4_39 (unw C n0 R k) e σ = sOps C r4_39 (unw C n0 R k .normal) e σ := _root_.id rfl
def b4_40 : SCode := .seq b4_39 .ret
theorem x4_40 : sC C n0 b4_40 (unw C n0 R k) e σ = sC C n0 b4_39 (unw C n0 R (.seq .ret k)) e σ := _root_.id rfl
def b4_41 : SCode := .cond (.t 130) b4_40 .skip
theorem x4_41 : sC C n0 b4_41 (unw C n0 R k) e σ = condK C n0 R (Opd.ev e (.t 130)) b4_40 .skip k e σ := sC_cond
def b4_42 : SCode := .seq b4_38 b4_41
theorem x4_42 : sC C n0 b4_42 (unw C n0 R k) e σ = sC C n0 b4_38 (unw C n0 R (.seq b4_41 k)) e σ := _root_.id rfl
def r4_43 : List MOper := [⟨(some 144), .move (.t 14), none⟩,
  ⟨(some 145), .bin .eql .num (.t 144) (.c (.int .i64 0)), none⟩,
  ⟨(some 146), .move (.t 145), none⟩,
  ⟨(some 147), .move (.t 7), (some (146, true))⟩,
  ⟨(some 148), .call 16 [(.t 147)], (some (146, true))⟩,
  ⟨(some 149), .lenSl (.t 148), (some (146, true))⟩,
  ⟨(some 150), .bin .eql .num (.t 149) (.c (.int .i64 1)), (some (146, true))⟩,
  ⟨(some 151), .pick (.t 146) (.t 150) (.c (.bool false)), none⟩,
  ⟨(some 152), .move (.t 151), none⟩,
  ⟨(some 153), .move (.t 19), (some (152, true))⟩,
  ⟨(some 154), .un .not (.t 153), (some (152, true))⟩,
  ⟨(some 155), .move (.t 154), (some (152, true))⟩,
  ⟨(some 156), .move (.t 16), (some (155, false))⟩,
  ⟨(some 157), .move (.t 1), (some (155, false))⟩,
  ⟨(some 158), .bin .eql .num (.t 156) (.t 157), (some (155, false))⟩,
  ⟨(some 159), .pick (.t 155) (.c (.bool true)) (.t 158), (some (152, true))⟩,
  ⟨(some 160), .pick (.t 152) (.t 159) (.c (.bool false)), none⟩,
  ⟨(some 6), .move (.t 160), none⟩]
def b4_43 : SCode := .region r4_43
theorem x4_43 : sC C n0 b4_43 (unw C n0 R k) e σ = sOps C r4_43 (unw C n0 R k .normal) e σ := _root_.id rfl
def b4_44 : SCode := .seq b4_43 .ret
theorem x4_44 : sC C n0 b4_44 (unw C n0 R k) e σ = sC C n0 b4_43 (unw C n0 R (.seq .ret k)) e σ := _root_.id rfl
def b4_45 : SCode := .seq b4_42 b4_44
theorem x4_45 : sC C n0 b4_45 (unw C n0 R k) e σ = sC C n0 b4_42 (unw C n0 R (.seq b4_44 k)) e σ := _root_.id rfl
def b4_46 : SCode := .seq b4_37 b4_45
theorem x4_46 : sC C n0 b4_46 (unw C n0 R k) e σ = sC C n0 b4_37 (unw C n0 R (.seq b4_45 k)) e σ := _root_.id rfl
def b4_47 : SCode := .seq b4_32 b4_46
theorem x4_47 : sC C n0 b4_47 (unw C n0 R k) e σ = sC C n0 b4_32 (unw C n0 R (.seq b4_46 k)) e σ := _root_.id rfl
def b4_48 : SCode := .seq b4_31 b4_47
theorem x4_48 : sC C n0 b4_48 (unw C n0 R k) e σ = sC C n0 b4_31 (unw C n0 R (.seq b4_47 k)) e σ := _root_.id rfl
def b4_49 : SCode := .seq b4_30 b4_48
theorem x4_49 : sC C n0 b4_49 (unw C n0 R k) e σ = sC C n0 b4_30 (unw C n0 R (.seq b4_48 k)) e σ := _root_.id rfl
def b4_50 : SCode := .seq b4_29 b4_49
theorem x4_50 : sC C n0 b4_50 (unw C n0 R k) e σ = sC C n0 b4_29 (unw C n0 R (.seq b4_49 k)) e σ := _root_.id rfl
def b4_51 : SCode := .seq b4_28 b4_50
theorem x4_51 : sC C n0 b4_51 (unw C n0 R k) e σ = sC C n0 b4_28 (unw C n0 R (.seq b4_50 k)) e σ := _root_.id rfl
def b4_52 : SCode := .seq b4_21 b4_51
theorem x4_52 : sC C n0 b4_52 (unw C n0 R k) e σ = sC C n0 b4_21 (unw C n0 R (.seq b4_51 k)) e σ := _root_.id rfl
def b4_53 : SCode := .seq b4_16 b4_52
theorem x4_53 : sC C n0 b4_53 (unw C n0 R k) e σ = sC C n0 b4_16 (unw C n0 R (.seq b4_52 k)) e σ := _root_.id rfl
def b4_54 : SCode := .seq b4_11 b4_53
theorem x4_54 : sC C n0 b4_54 (unw C n0 R k) e σ = sC C n0 b4_11 (unw C n0 R (.seq b4_53 k)) e σ := _root_.id rfl
def b4_55 : SCode := .seq b4_10 b4_54
theorem x4_55 : sC C n0 b4_55 (unw C n0 R k) e σ = sC C n0 b4_10 (unw C n0 R (.seq b4_54 k)) e σ := _root_.id rfl
def b4_56 : SCode := .seq b4_5 b4_55
theorem x4_56 : sC C n0 b4_56 (unw C n0 R k) e σ = sC C n0 b4_5 (unw C n0 R (.seq b4_55 k)) e σ := _root_.id rfl
def b4_57 : SCode := .seq b4_0 b4_56
theorem x4_57 : sC C n0 b4_57 (unw C n0 R k) e σ = sC C n0 b4_0 (unw C n0 R (.seq b4_56 k)) e σ := _root_.id rfl
def s4 : SFunc := ⟨161, [.t 6], b4_57⟩
theorem c4 : sFn Try.prog 4 = some s4 := by kernel_rfl
theorem y4 {args : List AV} {Q : AV → AHeap → Prop} : sF C s4 args σ Q = (args.length ≤ 161 ∧ sC C σ.length b4_57 (unw C σ.length (RetQ [.t 6] Q) .fin) (argEnv args) σ) := _root_.id rfl
def r11_0 : List MOper := [⟨(some 6), .move (.c (.nilptr)), none⟩,
  ⟨(some 7), .move (.c (.int .i64 0)), none⟩]
def b11_0 : SCode := .region r11_0
theorem x11_0 : sC C n0 b11_0 (unw C n0 R k) e σ = sOps C r11_0 (unw C n0 R k .normal) e σ := _root_.id rfl
def r11_1 : List MOper := [⟨(some 10), .move (.t 2), none⟩,
  ⟨(some 11), .bin .lss .num (.t 10) (.c (.int .i64 1)), none⟩,
  ⟨(some 12), .move (.t 11), none⟩,
  ⟨(some 13), .move (.t 2), (some (12, false))⟩,
  ⟨(some 14), .bin .gtr .num (.t 13) (.c (.int .i64 16)), (some (12, false))⟩,
  ⟨(some 15), .pick (.t 12) (.c (.bool true)) (.t 14), none⟩,
  ⟨(some 9), .move (.t 15), none⟩]
def b11_1 : SCode := .region r11_1
theorem x11_1 : sC C n0 b11_1 (unw C n0 R k) e σ = sOps C r11_1 (unw C n0 R k .normal) e σ := _root_.id rfl
def r11_2 : List MOper := [⟨(some 6), .move (.c (.nilptr)), none⟩,
  ⟨(some 7), .move (.c (.int .i64 1)), none⟩]
def b11_2 : SCode := .region r11_2
theorem x11_2 : sC C n0 b11_2 (unw C n0 R k) e σ = sOps C r11_2 (unw C n0 R k .normal) e σ := _root_.id rfl
def b11_3 : SCode := .seq b11_2 .ret
theorem x11_3 : sC C n0 b11_3 (unw C n0 R k) e σ = sC C n0 b11_2 (unw C n0 R (.seq .ret k)) e σ := _root_.id rfl
def r11_4 : List MOper := [⟨(some 17), .move (.t 0), none⟩,
  ⟨(some 18), .lenStr (.t 17), none⟩,
  ⟨(some 19), .bin .gtr .num (.t 18) (.c (.int .i64 640)), none⟩,
  ⟨(some 20), .move (.t 19), none⟩,
  ⟨(some 21), .move (.t 1), (some (20, false))⟩,
  ⟨(some 22), .lenStr (.t 21), (some (20, false))⟩,
  ⟨(some 23), .bin .gtr .num (.t 22) (.c (.int .i64 640)), (some (20, false))⟩,
  ⟨(some 24), .pick (.t 20) (.c (.bool true)) (.t 23), none⟩,
  ⟨(some 16), .move (.t 24), none⟩]
def b11_4 : SCode := .region r11_4
theorem x11_4 : sC C n0 b11_4 (unw C n0 R k) e σ = sOps C r11_4 (unw C n0 R k .normal) e σ := _root_.id rfl
def r11_5 : List MOper := [⟨(some 6), .move (.c (.nilptr)), none⟩,
  ⟨(some 7), .move (.c (.int .i64 3)), none⟩]
def b11_5 : SCode := .region r11_5
theorem x11_5 : sC C n0 b11_5 (unw C n0 R k) e σ = sOps C r11_5 (unw C n0 R k .normal) e σ := _root_.id rfl
def b11_6 : SCode := .seq b11_5 .ret
theorem x11_6 : sC C n0 b11_6 (unw C n0 R k) e σ = sC C n0 b11_5 (unw C n0 R (.seq .ret k)) e σ := _root_.id rfl
def b11_7 : SCode := .cond (.t 16) b11_6 .skip
theorem x11_7 : sC C n0 b11_7 (unw C n0 R k) e σ = condK C n0 R (Opd.ev e (.t 16)) b11_6 .skip k e σ := sC_cond
def b11_8 : SCode := .seq b11_4 b11_7
theorem x11_8 : sC C n0 b11_8 (unw C n0 R k) e σ = sC C n0 b11_4 (unw C n0 R (.seq b11_7 k)) e σ := _root_.id rfl
def b11_9 : SCode := .cond (.t 9) b11_3 b11_8
theorem x11_9 : sC C n0 b11_9 (unw C n0 R k) e σ = condK C n0 R (Opd.ev e (.t 9)) b11_3 b11_8 k e σ := sC_cond
def b11_10 : SCode := .seq b11_1 b11_9
theorem x11_10 : sC C n0 b11_10 (unw C n0 R k) e σ = sC C n0 b11_1 (unw C n0 R (.seq b11_9 k)) e σ := _root_.id rfl
def b11_11 : SCode := .block 0 b11_10
theorem x11_11 : sC C n0 b11_11 (unw C n0 R k) e σ = sC C n0 b11_10 (unw C n0 R (.block 0 k)) e σ := _root_.id rfl
def r11_12 : List MOper := [⟨(some 25), .move (.t 0), none⟩,
  ⟨(some 26), .move (.t 1), none⟩,
  ⟨(some 27), .build [.str [], .str []] [(0, 1, (.t 25)), (1, 1, (.t 26))], none⟩,
  ⟨(some 28), .move (.t 2), none⟩,
  ⟨(some 29), .build [.str [], .str [], .int .i64 0, .bool false, .nilslice, .nilslice] [(0, 2, (.t 27)), (2, 1, (.t 28))], none⟩,
  ⟨(some 30), .box (.t 29), none⟩,
  ⟨(some 8), .move (.t 30), none⟩]
def b11_12 : SCode := .region r11_12
theorem x11_12 : sC C n0 b11_12 (unw C n0 R k) e σ = sOps C r11_12 (unw C n0 R k .normal) e σ := _root_.id rfl
def r11_13 : List MOper := [⟨(some 31), .move (.t 8), none⟩,
  ⟨(some 32), .move (.t 8), none⟩,
  ⟨(some 33), .nilCheck (.t 32), none⟩,
  ⟨(some 34), .fieldAddr 0 (.t 33), none⟩,
  ⟨(some 35), .loadN 2 (.t 34), none⟩,
  ⟨(some 36), .call 30 [(.t 35)], none⟩,
  ⟨(some 37), .nilCheck (.t 31), none⟩,
  ⟨(some 38), .fieldAddr 3 (.t 37), none⟩,
  ⟨none, .store 1 (.t 38) (.t 36), none⟩]
def b11_13 : SCode := .region r11_13
theorem x11_13 : sC C n0 b11_13 (unw C n0 R k) e σ = sOps C r11_13 (unw C n0 R k .normal) e σ := _root_.id rfl
def r11_14 : List MOper := [⟨(some 39), .move (.t 8), none⟩,
  ⟨(some 6), .move (.t 39), none⟩,
  ⟨(some 7), .move (.c (.int .i64 0)), none⟩]
def b11_14 : SCode := .region r11_14
theorem x11_14 : sC C n0 b11_14 (unw C n0 R k) e σ = sOps C r11_14 (unw C n0 R k .normal) e σ := _root_.id rfl
def b11_15 : SCode := .seq b11_14 .ret
theorem x11_15 : sC C n0 b11_15 (unw C n0 R k) e σ = sC C n0 b11_14 (unw C n0 R (.seq .ret k)) e σ := _root_.id rfl
def b11_16 : SCode := .seq b11_13 b11_15
theorem x11_16 : sC C n0 b11_16 (unw C n0 R k) e σ = sC C n0 b11_13 (unw C n0 R (.seq b11_15 k)) e σ := _root_.id rfl
def b11_17 : SCode := .seq b11_12 b11_16
theorem x11_17 : sC C n0 b11_17 (unw C n0 R k) e σ = sC C n0 b11_12 (unw C n0 R (.seq b11_16 k)) e σ := _root_.id rfl
def b11_18 : SCode := .seq b11_11 b11_17
theorem x11_18 : sC C n0 b11_18 (unw C n0 R k) e σ = sC C n0 b11_11 (unw C n0 R (.seq b11_17 k)) e σ := _root_.id rfl
def b11_19 : SCode := .seq b11_0 b11_18
theorem x11_19 : sC C n0 b11_19 (unw C n0 R k) e σ = sC C n0 b11_0 (unw C n0 R (.seq b11_18 k)) e σ := _root_.id rfl
def s11 : SFunc := ⟨40, [.t 6, .t 7], b11_19⟩
theorem c11 : sFn Try.prog 11 = some s11 := by kernel_rfl
theorem y11 {args : List AV} {Q : AV → AHeap → Prop} : sF C s11 args σ Q = (args.length ≤ 40 ∧ sC C σ.length b11_19 (unw C σ.length (RetQ [.t 6, .t 7] Q) .fin) (argEnv args) σ) := _root_.id rfl
def r12_0 : List MOper := [⟨(some 2), .move (.c (.str [])), none⟩,
  ⟨(some 3), .move (.c (.str [])), none⟩,
  ⟨(some 4), .move (.c (.int .i64 0)), none⟩,
  ⟨(some 5), .move (.c (.bool false)), none⟩]
def b12_0 : SCode := .region r12_0
theorem x12_0 : sC C n0 b12_0 (unw C n0 R k) e σ = sOps C r12_0 (unw C n0 R k .normal) e σ := _root_.id rfl
def r12_1 : List MOper := [⟨(some 6), .move (.t 0), none⟩,
  ⟨(some 7), .bin .eql .nilp (.t 6) (.c (.nilptr)), none⟩,
  ⟨(some 8), .move (.t 7), none⟩,
  ⟨(some 9), .move (.t 0), (some (8, false))⟩,
  ⟨(some 10), .nilCheck (.t 9), (some (8, false))⟩,
  ⟨(some 11), .fieldAddr 3 (.t 10), (some (8, false))⟩,
  ⟨(some 12), .load1 (.t 11), (some (8, false))⟩,
  ⟨(some 13), .pick (.t 8) (.c (.bool true)) (.t 12), none⟩]
def b12_1 : SCode := .region r12_1
theorem x12_1 : sC C n0 b12_1 (unw C n0 R k) e σ = sOps C r12_1 (unw C n0 R k .normal) e σ := _root_.id rfl
def r12_2 : List MOper := [⟨(some 2), .move (.c (.str [])), none⟩,
  ⟨(some 3), .move (.c (.str [])), none⟩,
  ⟨(some 4), .move (.c (.int .i64 0)), none⟩,
  ⟨(some 5), .move (.c (.bool false)), none⟩]
def b12_2 : SCode := .region r12_2
theorem x12_2 : sC C n0 b12_2 (unw C n0 R k) e σ = sOps C r12_2 (unw C n0 R k .normal) e σ := _root_.id rfl
def b12_3 : SCode := .seq b12_2 .ret
theorem x12_3 : sC C n0 b12_3 (unw C n0 R k) e σ = sC C n0 b12_2 (unw C n0 R (.seq .ret k)) e σ := _root_.id rfl
def b12_4 : SCode := .cond (.t 13) b12_3 .skip
theorem x12_4 : sC C n0 b12_4 (unw C n0 R k) e σ = condK C n0 R (Opd.ev e (.t 13)) b12_3 .skip k e σ := sC_cond
def b12_5 : SCode := .seq b12_1 b12_4
theorem x12_5 : sC C n0 b12_5 (unw C n0 R k) e σ = sC C n0 b12_1 (unw C n0 R (.seq b12_4 k)) e σ := _root_.id rfl
def t12_6 : LTree := (.quiet ⟨(some 14), .move (.t 0), none⟩ 0
  (.quiet ⟨(some 15), .nilCheck (.t 14), none⟩ 1
  (.quiet ⟨(some 16), .fieldAddr 0 (.t 15), none⟩ 2
  (.quiet ⟨(some 17), .fieldAddr 0 (.t 16), none⟩ 3
  (.quiet ⟨(some 18), .load1 (.t 17), none⟩ 4
  (.quiet ⟨(some 19), .move (.t 0), none⟩ 5
  (.quiet ⟨(some 20), .nilCheck (.t 19), none⟩ 6
  (.quiet ⟨(some 21), .fieldAddr 0 (.t 20), none⟩ 7
  (.quiet ⟨(some 22), .fieldAddr 1 (.t 21), none⟩ 8
  (.quiet ⟨(some 23), .load1 (.t 22), none⟩ 9
  (.quiet ⟨(some 24), .move (.t 0), none⟩ 10
  (.quiet ⟨(some 25), .nilCheck (.t 24), none⟩ 11
  (.quiet ⟨(some 26), .fieldAddr 2 (.t 25), none⟩ 12
  (.quiet ⟨(some 27), .load1 (.t 26), none⟩ 13
  (.quiet ⟨(some 2), .move (.t 18), none⟩ 14
  (.quiet ⟨(some 3), .move (.t 23), none⟩ 15
  (.quiet ⟨(some 4), .move (.t 27), none⟩ 16
  (.quiet ⟨(some 5), .move (.c (.bool true)), none⟩ 17
  .leaf))))))))))))))))))
def b12_6 : SCode := .draw t12_6
theorem x12_6 : sC C n0 b12_6 (unw C n0 R k) e σ = sTree C (unw C n0 R k .normal) t12_6 [] e σ := _root_.id rfl
def b12_7 : SCode := .seq b12_6 .ret
theorem x12_7 : sC C n0 b12_7 (unw C n0 R k) e σ = sC C n0 b12_6 (unw C n0 R (.seq .ret k)) e σ := _root_.id rfl
def b12_8 : SCode := .seq b12_5 b12_7
theorem x12_8 : sC C n0 b12_8 (unw C n0 R k) e σ = sC C n0 b12_5 (unw C n0 R (.seq b12_7 k)) e σ := _root_.id rfl
def b12_9 : SCode := .seq b12_0 b12_8
theorem x12_9 : sC C n0 b12_9 (unw C n0 R k) e σ = sC C n0 b12_0 (unw C n0 R (.seq b12_8 k)) e σ := _root_.id rfl
def s12 : SFunc := ⟨28, [.t 2, .t 3, .t 4, .t 5], b12_9⟩
theorem c12 : sFn Try.prog 12 = some s12 := by kernel_rfl
theorem y12 {args : List AV} {Q : AV → AHeap → Prop} : sF C s12 args σ Q = (args.length ≤ 28 ∧ sC C σ.length b12_9 (unw C σ.length (RetQ [.t 2, .t 3, .t 4, .t 5] Q) .fin) (argEnv args) σ) := _root_.id rfl
def r13_0 : List MOper := [⟨(some 2), .move (.c (.bool false)), none⟩]
def b13_0 : SCode := .region r13_0
theorem x13_0 : sC C n0 b13_0 (unw C n0 R k) e σ = sOps C r13_0 (unw C n0 R k .normal) e σ := _root_.id rfl
def r13_1 : List MOper := [⟨(some 3), .move (.t 0), none⟩,
  ⟨(some 4), .bin .neq .nilp (.t 3) (.c (.nilptr)), none⟩,
  ⟨(some 5), .move (.t 4), none⟩,
  ⟨(some 6), .move (.t 0), (some (5, true))⟩,
  ⟨(some 7), .nilCheck (.t 6), (some (5, true))⟩,
  ⟨(some 8), .fieldAddr 3 (.t 7), (some (5, true))⟩,
  ⟨(some 9), .load1 (.t 8), (some (5, true))⟩,
  ⟨(some 10), .pick (.t 5) (.t 9) (.c (.bool false)), none⟩,
  ⟨(some 2), .move (.t 10), none⟩]
def b13_1 : SCode := .region r13_1
theorem x13_1 : sC C n0 b13_1 (unw C n0 R k) e σ = sOps C r13_1 (unw C n0 R k .normal) e σ := _root_.id rfl
def b13_2 : SCode := .seq b13_1 .ret
theorem x13_2 : sC C n0 b13_2 (unw C n0 R k) e σ = sC C n0 b13_1 (unw C n0 R (.seq .ret k)) e σ := _root_.id rfl
def b13_3 : SCode := .seq b13_0 b13_2
theorem x13_3 : sC C n0 b13_3 (unw C n0 R k) e σ = sC C n0 b13_0 (unw C n0 R (.seq b13_2 k)) e σ := _root_.id rfl
def s13 : SFunc := ⟨11, [.t 2], b13_3⟩
theorem c13 : sFn Try.prog 13 = some s13 := by kernel_rfl
theorem y13 {args : List AV} {Q : AV → AHeap → Prop} : sF C s13 args σ Q = (args.length ≤ 11 ∧ sC C σ.length b13_3 (unw C σ.length (RetQ [.t 2] Q) .fin) (argEnv args) σ) := _root_.id rfl
def r14_0 : List MOper := [⟨(some 3), .box (.t 1), none⟩,
  ⟨(some 4), .move (.c (.int .i64 0)), none⟩]
def b14_0 : SCode := .region r14_0
theorem x14_0 : sC C n0 b14_0 (unw C n0 R k) e σ = sOps C r14_0 (unw C n0 R k .normal) e σ := _root_.id rfl
def r14_1 : List MOper := [⟨(some 6), .move (.t 0), none⟩,
  ⟨(some 7), .bin .eql .nilp (.t 6) (.c (.nilptr)), none⟩,
  ⟨(some 5), .move (.t 7), none⟩]
def b14_1 : SCode := .region r14_1
theorem x14_1 : sC C n0 b14_1 (unw C n0 R k) e σ = sOps C r14_1 (unw C n0 R k .normal) e σ := _root_.id rfl
def r14_2 : List MOper := [⟨(some 4), .move (.c (.int .i64 1)), none⟩]
def b14_2 : SCode := .region r14_2
theorem x14_2 : sC C n0 b14_2 (unw C n0 R k) e σ = sOps C r14_2 (unw C n0 R k .normal) e σ := _root_.id rfl
def b14_3 : SCode := .seq b14_2 .ret
theorem x14_3 : sC C n0 b14_3 (unw C n0 R k) e σ = sC C n0 b14_2 (unw C n0 R (.seq .ret k)) e σ := _root_.id rfl
def r14_4 : List MOper := [⟨(some 9), .move (.t 0), none⟩,
  ⟨(some 10), .nilCheck (.t 9), none⟩,
  ⟨(some 11), .fieldAddr 3 (.t 10), none⟩,
  ⟨(some 12), .load1 (.t 11), none⟩,
  ⟨(some 8), .move (.t 12), none⟩]
def b14_4 : SCode := .region r14_4
theorem x14_4 : sC C n0 b14_4 (unw C n0 R k) e σ = sOps C r14_4 (unw C n0 R k .normal) e σ := _root_.id rfl
def r14_5 : List MOper := [⟨(some 4), .move (.c (.int .i64 10)), none⟩]
def b14_5 : SCode := .region r14_5
theorem x14_5 : sC C n0 b14_5 (unw C n0 R k) e σ = sOps C r14_5 (unw C n0 R k .normal) e σ := _root_.id rfl
def b14_6 : SCode := .seq b14_5 .ret
theorem x14_6 : sC C n0 b14_6 (unw C n0 R k) e σ = sC C n0 b14_5 (unw C n0 R (.seq .ret k)) e σ := _root_.id rfl
def r14_7 : List MOper := [⟨(some 14), .fieldAddr 2 (.t 3), none⟩,
  ⟨(some 15), .load1 (.t 14), none⟩,
  ⟨(some 16), .bin .neq .num (.t 15) (.c (.int .i64 0)), none⟩,
  ⟨(some 13), .move (.t 16), none⟩]
def b14_7 : SCode := .region r14_7
theorem x14_7 : sC C n0 b14_7 (unw C n0 R k) e σ = sOps C r14_7 (unw C n0 R k .normal) e σ := _root_.id rfl
def r14_8 : List MOper := [⟨(some 17), .fieldAddr 2 (.t 3), none⟩,
  ⟨(some 18), .load1 (.t 17), none⟩,
  ⟨(some 4), .move (.t 18), none⟩]
def b14_8 : SCode := .region r14_8
theorem x14_8 : sC C n0 b14_8 (unw C n0 R k) e σ = sOps C r14_8 (unw C n0 R k .normal) e σ := _root_.id rfl
def b14_9 : SCode := .seq b14_8 .ret
theorem x14_9 : sC C n0 b14_9 (unw C n0 R k) e σ = sC C n0 b14_8 (unw C n0 R (.seq .ret k)) e σ := _root_.id rfl
def t14_10 : LTree := (.quiet ⟨(some 20), .fieldAddr 7 (.t 3), none⟩ 0
  (.quiet ⟨(some 21), .load1 (.t 20), none⟩ 1
  (.quiet ⟨(some 22), .move (.t 21), none⟩ 2
  (.quiet ⟨(some 23), .fieldAddr 6 (.t 3), (some (22, true))⟩ 3
  (.quiet ⟨(some 24), .load1 (.t 23), (some (22, true))⟩ 4
  (.quiet ⟨(some 25), .move (.t 0), (some (22, true))⟩ 5
  (.quiet ⟨(some 26), .nilCheck (.t 25), (some (22, true))⟩ 6
  (.quiet ⟨(some 27), .fieldAddr 0 (.t 26), (some (22, true))⟩ 7
  (.quiet ⟨(some 28), .fieldAddr 0 (.t 27), (some (22, true))⟩ 8
  (.quiet ⟨(some 29), .load1 (.t 28), (some (22, true))⟩ 9
  (.quiet ⟨(some 30), .bin .leq .num (.t 24) (.t 29), (some (22, true))⟩ 10
  (.quiet ⟨(some 31), .pick (.t 22) (.t 30) (.c (.bool false)), none⟩ 11
  (.quiet ⟨(some 19), .move (.t 31), none⟩ 12
  .leaf)))))))))))))
def b14_10 : SCode := .draw t14_10
theorem x14_10 : sC C n0 b14_10 (unw C n0 R k) e σ = sTree C (unw C n0 R k .normal) t14_10 [] e σ := _root_.id rfl
def t14_11 : LTree := (.quiet ⟨(some 32), .move (.t 0), none⟩ 0
  (.quiet ⟨(some 33), .nilCheck (.t 32), none⟩ 1
  (.quiet ⟨(some 34), .fieldAddr 0 (.t 33), none⟩ 2
  (.quiet ⟨(some 35), .fieldAddr 1 (.t 34), none⟩ 3
  (.quiet ⟨(some 36), .load1 (.t 35), none⟩ 4
  (.quiet ⟨(some 37), .bin .neq .num (.t 36) (.c (.str [])), none⟩ 5
  (.quiet ⟨(some 38), .move (.t 37), none⟩ 6
  (.quiet ⟨(some 39), .fieldAddr 6 (.t 3), (some (38, true))⟩ 7
  (.quiet ⟨(some 40), .load1 (.t 39), (some (38, true))⟩ 8
  (.quiet ⟨(some 41), .move (.t 0), (some (38, true))⟩ 9
  (.quiet ⟨(some 42), .nilCheck (.t 41), (some (38, true))⟩ 10
  (.quiet ⟨(some 43), .fieldAddr 0 (.t 42), (some (38, true))⟩ 11
  (.quiet ⟨(some 44), .fieldAddr 1 (.t 43), (some (38, true))⟩ 12
  (.quiet ⟨(some 45), .load1 (.t 44), (some (38, true))⟩ 13
  (.quiet ⟨(some 46), .bin .gtr .num (.t 40) (.t 45), (some (38, true))⟩ 14
  (.quiet ⟨(some 47), .pick (.t 38) (.t 46) (.c (.bool false)), none⟩ 15
  (.quiet ⟨(some 19), .move (.t 47), none⟩ 16
  .leaf)))))))))))))))))
def b14_11 : SCode := .draw t14_11
theorem x14_11 : sC C n0 b14_11 (unw C n0 R k) e σ = sTree C (unw C n0 R k .normal) t14_11 [] e σ := _root_.id rfl
def b14_12 : SCode := .cond (.t 19) .skip b14_11
theorem x14_12 : sC C n0 b14_12 (unw C n0 R k) e σ = condK C n0 R (Opd.ev e (.t 19)) .skip b14_11 k e σ := sC_cond
def b14_13 : SCode := .seq b14_10 b14_12
theorem x14_13 : sC C n0 b14_13 (unw C n0 R k) e σ = sC C n0 b14_10 (unw C n0 R (.seq b14_12 k)) e σ := _root_.id rfl
def r14_14 : List MOper := [⟨(some 4), .move (.c (.int .i64 5)), none⟩]
def b14_14 : SCode := .region r14_14
theorem x14_14 : sC C n0 b14_14 (unw C n0 R k) e σ = sOps C r14_14 (unw C n0 R k .normal) e σ := _root_.id rfl
def b14_15 : SCode := .seq b14_14 .ret
theorem x14_15 : sC C n0 b14_15 (unw C n0 R k) e σ = sC C n0 b14_14 (unw C n0 R (.seq .ret k)) e σ := _root_.id rfl
def b14_16 : SCode := .cond (.t 19) b14_15 .skip
theorem x14_16 : sC C n0 b14_16 (unw C n0 R k) e σ = condK C n0 R (Opd.ev e (.t 19)) b14_15 .skip k e σ := sC_cond
def b14_17 : SCode := .seq b14_13 b14_16
theorem x14_17 : sC C n0 b14_17 (unw C n0 R k) e σ = sC C n0 b14_13 (unw C n0 R (.seq b14_16 k)) e σ := _root_.id rfl
def b14_18 : SCode := .cond (.t 13) b14_9 b14_17
theorem x14_18 : sC C n0 b14_18 (unw C n0 R k) e σ = condK C n0 R (Opd.ev e (.t 13)) b14_9 b14_17 k e σ := sC_cond
def b14_19 : SCode := .seq b14_7 b14_18
theorem x14_19 : sC C n0 b14_19 (unw C n0 R k) e σ = sC C n0 b14_7 (unw C n0 R (.seq b14_18 k)) e σ := _root_.id rfl
def b14_20 : SCode := .cond (.t 8) b14_6 b14_19
theorem x14_20 : sC C n0 b14_20 (unw C n0 R k) e σ = condK C n0 R (Opd.ev e (.t 8)) b14_6 b14_19 k e σ := sC_cond
def b14_21 : SCode := .seq b14_4 b14_20
theorem x14_21 : sC C n0 b14_21 (unw C n0 R k) e σ = sC C n0 b14_4 (unw C n0 R (.seq b14_20 k)) e σ := _root_.id rfl
def b14_22 : SCode := .cond (.t 5) b14_3 b14_21
theorem x14_22 : sC C n0 b14_22 (unw C n0 R k) e σ = condK C n0 R (Opd.ev e (.t 5)) b14_3 b14_21 k e σ := sC_cond
def b14_23 : SCode := .seq b14_1 b14_22
theorem x14_23 : sC C n0 b14_23 (unw C n0 R k) e σ = sC C n0 b14_1 (unw C n0 R (.seq b14_22 k)) e σ := _root_.id rfl
def b14_24 : SCode := .block 0 b14_23
theorem x14_24 : sC C n0 b14_24 (unw C n0 R k) e σ = sC C n0 b14_23 (unw C n0 R (.block 0 k)) e σ := _root_.id rfl
def t14_25 : LTree := (.quiet ⟨(some 48), .move (.t 0), none⟩ 0
  (.quiet ⟨(some 49), .move (.t 0), none⟩ 1
  (.quiet ⟨(some 50), .nilCheck (.t 49), none⟩ 2
  (.quiet ⟨(some 51), .fieldAddr 4 (.t 50), none⟩ 3
  (.quiet ⟨(some 52), .load1 (.t 51), none⟩ 4
  (.quiet ⟨(some 53), .fieldAddr 5 (.t 3), none⟩ 5
  (.quiet ⟨(some 54), .load1 (.t 53), none⟩ 6
  (.loud ⟨(some 55), .append 2 32 (.t 52) (.t 54), none⟩ []
  (.quiet ⟨(some 56), .nilCheck (.t 48), none⟩ 8
  (.quiet ⟨(some 57), .fieldAddr 4 (.t 56), none⟩ 9
  (.loud ⟨none, .store 1 (.t 57) (.t 55), none⟩ []
  .leaf .stop))) .stop))))))))
def b14_25 : SCode := .draw t14_25
theorem x14_25 : sC C n0 b14_25 (unw C n0 R k) e σ = sTree C (unw C n0 R k .normal) t14_25 [] e σ := _root_.id rfl
def t14_26 : LTree := (.quiet ⟨(some 58), .move (.t 0), none⟩ 0
  (.quiet ⟨(some 59), .move (.t 0), none⟩ 1
  (.quiet ⟨(some 60), .nilCheck (.t 59), none⟩ 2
  (.quiet ⟨(some 61), .fieldAddr 5 (.t 60), none⟩ 3
  (.quiet ⟨(some 62), .load1 (.t 61), none⟩ 4
  (.quiet ⟨(some 63), .move (.t 0), none⟩ 5
  (.quiet ⟨(some 64), .nilCheck (.t 63), none⟩ 6
  (.quiet ⟨(some 65), .fieldAddr 0 (.t 64), none⟩ 7
  (.quiet ⟨(some 66), .fieldAddr 0 (.t 65), none⟩ 8
  (.quiet ⟨(some 67), .load1 (.t 66), none⟩ 9
  (.quiet ⟨(some 68), .fieldAddr 6 (.t 3), none⟩ 10
  (.quiet ⟨(some 69), .load1 (.t 68), none⟩ 11
  (.quiet ⟨(some 70), .build [.str [], .str []] [(0, 1, (.t 67)), (1, 1, (.t 69))], none⟩ 12
  (.loud ⟨(some 71), .buildSlice [.str [], .str []] 2 1 [(0, 2, (.t 70))], none⟩ [4]
  (.loud ⟨(some 72), .append 2 32 (.t 62) (.t 71), none⟩ []
  (.quiet ⟨(some 73), .nilCheck (.t 58), none⟩ 15
  (.quiet ⟨(some 74), .fieldAddr 5 (.t 73), none⟩ 16
  (.loud ⟨none, .store 1 (.t 74) (.t 72), none⟩ []
  .leaf .stop))) .stop) .stop))))))))))))))
def b14_26 : SCode := .draw t14_26
theorem x14_26 : sC C n0 b14_26 (unw C n0 R k) e σ = sTree C (unw C n0 R k .normal) t14_26 [] e σ := _root_.id rfl
def t14_27 : LTree := (.quiet ⟨(some 75), .move (.t 0), none⟩ 0
  (.quiet ⟨(some 76), .move (.t 0), none⟩ 1
  (.quiet ⟨(some 77), .fieldAddr 6 (.t 3), none⟩ 2
  (.quiet ⟨(some 78), .load1 (.t 77), none⟩ 3
  (.quiet ⟨(some 79), .fieldAddr 7 (.t 3), none⟩ 4
  (.quiet ⟨(some 80), .load1 (.t 79), none⟩ 5
  (.quiet ⟨(some 81), .un .not (.t 80), none⟩ 6
  (.quiet ⟨(some 82), .nilCheck (.t 75), none⟩ 7
  (.quiet ⟨(some 83), .fieldAddr 0 (.t 82), none⟩ 8
  (.quiet ⟨(some 84), .fieldAddr 0 (.t 83), none⟩ 9
  (.loud ⟨none, .store 1 (.t 84) (.t 78), none⟩ [5]
  (.quiet ⟨(some 85), .nilCheck (.t 76), none⟩ 11
  (.quiet ⟨(some 86), .fieldAddr 3 (.t 85), none⟩ 12
  (.loud ⟨none, .store 1 (.t 86) (.t 81), none⟩ []
  .leaf .stop))) .stop)))))))))))
def b14_27 : SCode := .draw t14_27
theorem x14_27 : sC C n0 b14_27 (unw C n0 R k) e σ = sTree C (unw C n0 R k .normal) t14_27 [] e σ := _root_.id rfl
def r14_28 : List MOper := [⟨(some 4), .move (.c (.int .i64 0)), none⟩]
def b14_28 : SCode := .region r14_28
theorem x14_28 : sC C n0 b14_28 (unw C n0 R k) e σ = sOps C r14_28 (unw C n0 R k .normal) e σ := _root_.id rfl
def b14_29 : SCode := .seq b14_28 .ret
theorem x14_29 : sC C n0 b14_29 (unw C n0 R k) e σ = sC C n0 b14_28 (unw C n0 R (.seq .ret k)) e σ := _root_.id rfl
def b14_30 : SCode := .seq b14_27 b14_29
theorem x14_30 : sC C n0 b14_30 (unw C n0 R k) e σ = sC C n0 b14_27 (unw C n0 R (.seq b14_29 k)) e σ := _root_.id rfl
def b14_31 : SCode := .seq b14_26 b14_30
theorem x14_31 : sC C n0 b14_31 (unw C n0 R k) e σ = sC C n0 b14_26 (unw C n0 R (.seq b14_30 k)) e σ := _root_.id rfl
def b14_32 : SCode := .seq b14_25 b14_31
theorem x14_32 : sC C n0 b14_32 (unw C n0 R k) e σ = sC C n0 b14_25 (unw C n0 R (.seq b14_31 k)) e σ := _root_.id rfl
def b14_33 : SCode := .seq b14_24 b14_32
theorem x14_33 : sC C n0 b14_33 (unw C n0 R k) e σ = sC C n0 b14_24 (unw C n0 R (.seq b14_32 k)) e σ := _root_.id rfl
def b14_34 : SCode := .seq b14_0 b14_33
theorem x14_34 : sC C n0 b14_34 (unw C n0 R k) e σ = sC C n0 b14_0 (unw C n0 R (.seq b14_33 k)) e σ := _root_.id rfl
def s14 : SFunc := ⟨87, [.t 4], b14_34⟩
theorem c14 : sFn Try.prog 14 = some s14 := by kernel_rfl
theorem y14 {args : List AV} {Q : AV → AHeap → Prop} : sF C s14 args σ Q = (args.length ≤ 87 ∧ sC C σ.length b14_34 (unw C σ.length (RetQ [.t 4] Q) .fin) (argEnv args) σ) := _root_.id rfl
def r15_0 : List MOper := [⟨(some 2), .move (.c (.nilslice)), none⟩]
def b15_0 : SCode := .region r15_0
theorem x15_0 : sC C n0 b15_0 (unw C n0 R k) e σ = sOps C r15_0 (unw C n0 R k .normal) e σ := _root_.id rfl
def r15_1 : List MOper := [⟨(some 3), .move (.t 0), none⟩,
  ⟨(some 4), .bin .eql .nilp (.t 3) (.c (.nilptr)), none⟩]
def b15_1 : SCode := .region r15_1
theorem x15_1 : sC C n0 b15_1 (unw C n0 R k) e σ = sOps C r15_1 (unw C n0 R k .normal) e σ := _root_.id rfl
def r15_2 : List MOper := [⟨(some 2), .move (.c (.nilslice)), none⟩]
def b15_2 : SCode := .region r15_2
theorem x15_2 : sC C n0 b15_2 (unw C n0 R k) e σ = sOps C r15_2 (unw C n0 R k .normal) e σ := _root_.id rfl
def b15_3 : SCode := .seq b15_2 .ret
theorem x15_3 : sC C n0 b15_3 (unw C n0 R k) e σ = sC C n0 b15_2 (unw C n0 R (.seq .ret k)) e σ := _root_.id rfl
def b15_4 : SCode := .cond (.t 4) b15_3 .skip
theorem x15_4 : sC C n0 b15_4 (unw C n0 R k) e σ = condK C n0 R (Opd.ev e (.t 4)) b15_3 .skip k e σ := sC_cond
def b15_5 : SCode := .seq b15_1 b15_4
theorem x15_5 : sC C n0 b15_5 (unw C n0 R k) e σ = sC C n0 b15_1 (unw C n0 R (.seq b15_4 k)) e σ := _root_.id rfl
def r15_6 : List MOper := [⟨(some 5), .move (.t 0), none⟩,
  ⟨(some 6), .nilCheck (.t 5), none⟩,
  ⟨(some 7), .fieldAddr 4 (.t 6), none⟩,
  ⟨(some 8), .load1 (.t 7), none⟩,
  ⟨(some 9), .call 31 [(.t 8)], none⟩,
  ⟨(some 2), .move (.t 9), none⟩]
def b15_6 : SCode := .region r15_6
theorem x15_6 : sC C n0 b15_6 (unw C n0 R k) e σ = sOps C r15_6 (unw C n0 R k .normal) e σ := _root_.id rfl
def b15_7 : SCode := .seq b15_6 .ret
theorem x15_7 : sC C n0 b15_7 (unw C n0 R k) e σ = sC C n0 b15_6 (unw C n0 R (.seq .ret k)) e σ := _root_.id rfl
def b15_8 : SCode := .seq b15_5 b15_7
theorem x15_8 : sC C n0 b15_8 (unw C n0 R k) e σ = sC C n0 b15_5 (unw C n0 R (.seq b15_7 k)) e σ := _root_.id rfl
def b15_9 : SCode := .seq b15_0 b15_8
theorem x15_9 : sC C n0 b15_9 (unw C n0 R k) e σ = sC C n0 b15_0 (unw C n0 R (.seq b15_8 k)) e σ := _root_.id rfl
def s15 : SFunc := ⟨10, [.t 2], b15_9⟩
theorem c15 : sFn Try.prog 15 = some s15 := by kernel_rfl
theorem y15 {args : List AV} {Q : AV → AHeap → Prop} : sF C s15 args σ Q = (args.length ≤ 10 ∧ sC C σ.length b15_9 (unw C σ.length (RetQ [.t 2] Q) .fin) (argEnv args) σ) := _root_.id rfl
def r16_0 : List MOper := [⟨(some 2), .move (.c (.nilslice)), none⟩]
def b16_0 : SCode := .region r16_0
theorem x16_0 : sC C n0 b16_0 (unw C n0 R k) e σ = sOps C r16_0 (unw C n0 R k .normal) e σ := _root_.id rfl
def r16_1 : List MOper := [⟨(some 3), .move (.t 0), none⟩,
  ⟨(some 4), .bin .eql .nilp (.t 3) (.c (.nilptr)), none⟩]
def b16_1 : SCode := .region r16_1
theorem x16_1 : sC C n0 b16_1 (unw C n0 R k) e σ = sOps C r16_1 (unw C n0 R k .normal) e σ := _root_.id rfl
def r16_2 : List MOper := [⟨(some 2), .move (.c (.nilslice)), none⟩]
def b16_2 : SCode := .region r16_2
theorem x16_2 : sC C n0 b16_2 (unw C n0 R k) e σ = sOps C r16_2 (unw C n0 R k .normal) e σ := _root_.id rfl
def b16_3 : SCode := .seq b16_2 .ret
theorem x16_3 : sC C n0 b16_3 (unw C n0 R k) e σ = sC C n0 b16_2 (unw C n0 R (.seq .ret k)) e σ := _root_.id rfl
def b16_4 : SCode := .cond (.t 4) b16_3 .skip
theorem x16_4 : sC C n0 b16_4 (unw C n0 R k) e σ = condK C n0 R (Opd.ev e (.t 4)) b16_3 .skip k e σ := sC_cond
def b16_5 : SCode := .seq b16_1 b16_4
theorem x16_5 : sC C n0 b16_5 (unw C n0 R k) e σ = sC C n0 b16_1 (unw C n0 R (.seq b16_4 k)) e σ := _root_.id rfl
def r16_6 : List MOper := [⟨(some 5), .move (.t 0), none⟩,
  ⟨(some 6), .nilCheck (.t 5), none⟩,
  ⟨(some 7), .fieldAddr 5 (.t 6), none⟩,
  ⟨(some 8), .load1 (.t 7), none⟩,
  ⟨(some 9), .call 32 [(.t 8)], none⟩,
  ⟨(some 2), .move (.t 9), none⟩]
def b16_6 : SCode := .region r16_6
theorem x16_6 : sC C n0 b16_6 (unw C n0 R k) e σ = sOps C r16_6 (unw C n0 R k .normal) e σ := _root_.id rfl
def b16_7 : SCode := .seq b16_6 .ret
theorem x16_7 : sC C n0 b16_7 (unw C n0 R k) e σ = sC C n0 b16_6 (unw C n0 R (.seq .ret k)) e σ := _root_.id rfl
def b16_8 : SCode := .seq b16_5 b16_7
theorem x16_8 : sC C n0 b16_8 (unw C n0 R k) e σ = sC C n0 b16_5 (unw C n0 R (.seq b16_7 k)) e σ := _root_.id rfl
def b16_9 : SCode := .seq b16_0 b16_8
theorem x16_9 : sC C n0 b16_9 (unw C n0 R k) e σ = sC C n0 b16_0 (unw C n0 R (.seq b16_8 k)) e σ := _root_.id rfl
def s16 : SFunc := ⟨10, [.t 2], b16_9⟩
theorem c16 : sFn Try.prog 16 = some s16 := by kernel_rfl
theorem y16 {args : List AV} {Q : AV → AHeap → Prop} : sF C s16 args σ Q = (args.length ≤ 10 ∧ sC C σ.length b16_9 (unw C σ.length (RetQ [.t 2] Q) .fin) (argEnv args) σ) := _root_.id rfl
def r30_0 : List MOper := [⟨(some 1), .box (.t 0), none⟩,
  ⟨(some 2), .move (.c (.bool false)), none⟩]
def b30_0 : SCode := .region r30_0
theorem x30_0 : sC C n0 b30_0 (unw C n0 R k) e σ = sOps C r30_0 (unw C n0 R k .normal) e σ := _root_.id rfl
def r30_1 : List MOper := [⟨(some 3), .fieldAddr 1 (.t 1), none⟩,
  ⟨(some 4), .load1 (.t 3), none⟩,
  ⟨(some 5), .bin .neq .num (.t 4) (.c (.str [])), none⟩,
  ⟨(some 6), .move (.t 5), none⟩,
  ⟨(some 7), .fieldAddr 1 (.t 1), (some (6, true))⟩,
  ⟨(some 8), .load1 (.t 7), (some (6, true))⟩,
  ⟨(some 9), .fieldAddr 0 (.t 1), (some (6, true))⟩,
  ⟨(some 10), .load1 (.t 9), (some (6, true))⟩,
  ⟨(some 11), .bin .leq .num (.t 8) (.t 10), (some (6, true))⟩,
  ⟨(some 12), .pick (.t 6) (.t 11) (.c (.bool false)), none⟩,
  ⟨(some 2), .move (.t 12), none⟩]
def b30_1 : SCode := .region r30_1
theorem x30_1 : sC C n0 b30_1 (unw C n0 R k) e σ = sOps C r30_1 (unw C n0 R k .normal) e σ := _root_.id rfl
def b30_2 : SCode := .seq b30_1 .ret
theorem x30_2 : sC C n0 b30_2 (unw C n0 R k) e σ = sC C n0 b30_1 (unw C n0 R (.seq .ret k)) e σ := _root_.id rfl
def b30_3 : SCode := .seq b30_0 b30_2
theorem x30_3 : sC C n0 b30_3 (unw C n0 R k) e σ = sC C n0 b30_0 (unw C n0 R (.seq b30_2 k)) e σ := _root_.id rfl
def s30 : SFunc := ⟨13, [.t 2], b30_3⟩
theorem c30 : sFn Try.prog 30 = some s30 := by kernel_rfl
theorem y30 {args : List AV} {Q : AV → AHeap → Prop} : sF C s30 args σ Q = (args.length ≤ 13 ∧ sC C σ.length b30_3 (unw C σ.length (RetQ [.t 2] Q) .fin) (argEnv args) σ) := _root_.id rfl
def r31_0 : List MOper := [⟨(some 2), .move (.c (.nilslice)), none⟩]
def b31_0 : SCode := .region r31_0
theorem x31_0 : sC C n0 b31_0 (unw C n0 R k) e σ = sOps C r31_0 (unw C n0 R k .normal) e σ := _root_.id rfl
def r31_1 : List MOper := [⟨(some 3), .move (.t 0), none⟩,
  ⟨(some 4), .bin .eql .nils (.t 3) (.c (.nilslice)), none⟩]
def b31_1 : SCode := .region r31_1
theorem x31_1 : sC C n0 b31_1 (unw C n0 R k) e σ = sOps C r31_1 (unw C n0 R k .normal) e σ := _root_.id rfl
def r31_2 : List MOper := [⟨(some 2), .move (.c (.nilslice)), none⟩]
def b31_2 : SCode := .region r31_2
theorem x31_2 : sC C n0 b31_2 (unw C n0 R k) e σ = sOps C r31_2 (unw C n0 R k .normal) e σ := _root_.id rfl
def b31_3 : SCode := .seq b31_2 .ret
theorem x31_3 : sC C n0 b31_3 (unw C n0 R k) e σ = sC C n0 b31_2 (unw C n0 R (.seq .ret k)) e σ := _root_.id rfl
def b31_4 : SCode := .cond (.t 4) b31_3 .skip
theorem x31_4 : sC C n0 b31_4 (unw C n0 R k) e σ = condK C n0 R (Opd.ev e (.t 4)) b31_3 .skip k e σ := sC_cond
def b31_5 : SCode := .seq b31_1 b31_4
theorem x31_5 : sC C n0 b31_5 (unw C n0 R k) e σ = sC C n0 b31_1 (unw C n0 R (.seq b31_4 k)) e σ := _root_.id rfl
def r31_6 : List MOper := [⟨(some 5), .buildSlice [.str [], .str []] 2 0 [], none⟩,
  ⟨(some 6), .move (.t 0), none⟩,
  ⟨(some 7), .append 2 32 (.t 5) (.t 6), none⟩,
  ⟨(some 2), .move (.t 7), none⟩]
def b31_6 : SCode := .region r31_6
theorem x31_6 : sC C n0 b31_6 (unw C n0 R k) e σ = sOps C r31_6 (unw C n0 R k .normal) e σ := _root_.id rfl
def b31_7 : SCode := .seq b31_6 .ret
theorem x31_7 : sC C n0 b31_7 (unw C n0 R k) e σ = sC C n0 b31_6 (unw C n0 R (.seq .ret k)) e σ := _root_.id rfl
def b31_8 : SCode := .seq b31_5 b31_7
theorem x31_8 : sC C n0 b31_8 (unw C n0 R k) e σ = sC C n0 b31_5 (unw C n0 R (.seq b31_7 k)) e σ := _root_.id rfl
def b31_9 : SCode := .seq b31_0 b31_8
theorem x31_9 : sC C n0 b31_9 (unw C n0 R k) e σ = sC C n0 b31_0 (unw C n0 R (.seq b31_8 k)) e σ := _root_.id rfl
def s31 : SFunc := ⟨8, [.t 2], b31_9⟩
theorem c31 : sFn Try.prog 31 = some s31 := by kernel_rfl
theorem y31 {args : List AV} {Q : AV → AHeap → Prop} : sF C s31 args σ Q = (args.length ≤ 8 ∧ sC C σ.length b31_9 (unw C σ.length (RetQ [.t 2] Q) .fin) (argEnv args) σ) := _root_.id rfl
def r32_0 : List MOper := [⟨(some 2), .move (.c (.nilslice)), none⟩]
def b32_0 : SCode := .region r32_0
theorem x32_0 : sC C n0 b32_0 (unw C n0 R k) e σ = sOps C r32_0 (unw C n0 R k .normal) e σ := _root_.id rfl
def r32_1 : List MOper := [⟨(some 3), .move (.t 0), none⟩,
  ⟨(some 4), .bin .eql .nils (.t 3) (.c (.nilslice)), none⟩]
def b32_1 : SCode := .region r32_1
theorem x32_1 : sC C n0 b32_1 (unw C n0 R k) e σ = sOps C r32_1 (unw C n0 R k .normal) e σ := _root_.id rfl
def r32_2 : List MOper := [⟨(some 2), .move (.c (.nilslice)), none⟩]
def b32_2 : SCode := .region r32_2
theorem x32_2 : sC C n0 b32_2 (unw C n0 R k) e σ = sOps C r32_2 (unw C n0 R k .normal) e σ := _root_.id rfl
def b32_3 : SCode := .seq b32_2 .ret
theorem x32_3 : sC C n0 b32_3 (unw C n0 R k) e σ = sC C n0 b32_2 (unw C n0 R (.seq .ret k)) e σ := _root_.id rfl
def b32_4 : SCode := .cond (.t 4) b32_3 .skip
theorem x32_4 : sC C n0 b32_4 (unw C n0 R k) e σ = condK C n0 R (Opd.ev e (.t 4)) b32_3 .skip k e σ := sC_cond
def b32_5 : SCode := .seq b32_1 b32_4
theorem x32_5 : sC C n0 b32_5 (unw C n0 R k) e σ = sC C n0 b32_1 (unw C n0 R (.seq b32_4 k)) e σ := _root_.id rfl
def r32_6 : List MOper := [⟨(some 5), .buildSlice [.str [], .str []] 2 0 [], none⟩,
  ⟨(some 6), .move (.t 0), none⟩,
  ⟨(some 7), .append 2 32 (.t 5) (.t 6), none⟩,
  ⟨(some 2), .move (.t 7), none⟩]
def b32_6 : SCode := .region r32_6
theorem x32_6 : sC C n0 b32_6 (unw C n0 R k) e σ = sOps C r32_6 (unw C n0 R k .normal) e σ := _root_.id rfl
def b32_7 : SCode := .seq b32_6 .ret
theorem x32_7 : sC C n0 b32_7 (unw C n0 R k) e σ = sC C n0 b32_6 (unw C n0 R (.seq .ret k)) e σ := _root_.id rfl
def b32_8 : SCode := .seq b32_5 b32_7
theorem x32_8 : sC C n0 b32_8 (unw C n0 R k) e σ = sC C n0 b32_5 (unw C n0 R (.seq b32_7 k)) e σ := _root_.id rfl
def b32_9 : SCode := .seq b32_0 b32_8
theorem x32_9 : sC C n0 b32_9 (unw C n0 R k) e σ = sC C n0 b32_0 (unw C n0 R (.seq b32_8 k)) e σ := _root_.id rfl
def s32 : SFunc := ⟨8, [.t 2], b32_9⟩
theorem c32 : sFn Try.prog 32 = some s32 := by kernel_rfl
theorem y32 {args : List AV} {Q : AV → AHeap → Prop} : sF C s32 args σ Q = (args.length ≤ 8 ∧ sC C σ.length b32_9 (unw C σ.length (RetQ [.t 2] Q) .fin) (argEnv args) σ) := _root_.id rfl

end
theorem awakeRun : bF (cFn Try.prog) 100 50 9 [] [] isYes = true := by kernel_rfl
theorem awakeOk (σ : AHeap) : Tri Try.prog 9 [] σ fun r σ' => r = .bool true ∧ σ' = σ :=
  Tri.frame (f := 9) (Q := fun r => r = .bool true) (by intro x hx; cases hx) ((Tri.run 100 50 isYes awakeRun).mono fun r σ' h => by
    have h1 : r = .bool true := isYes_ok h
    subst h1; exact ⟨rfl, rfl⟩) σ
def awakeD (args : List AV) (σ : AHeap) (K : AV → AHeap → Prop) : Prop := args = [] ∧ K (.bool true) σ
theorem awakeD_ok (args : List AV) (σ : AHeap) (K : AV → AHeap → Prop) (h : awakeD args σ K) : Tri Try.prog 9 args σ K := by
  obtain ⟨rfl, h⟩ := h
  exact (awakeOk σ).mono fun r σ' hr => by rw [hr.1, hr.2]; exact h
theorem awakeD_eq {args : List AV} {σ : AHeap} {K : AV → AHeap → Prop} : awakeD args σ K = (args = [] ∧ K (.bool true) σ) := _root_.id rfl
def C0 : PCall := rowF 30 noCall s30 noCall
def C1 : PCall := rowF 31 noCall s31 (rowF 32 noCall s32 noCall)
def C2 : PCall := rowQ 9 awakeD (rowF 11 C0 s11 (rowF 12 noCall s12 (rowF 13 noCall s13 (rowF 14 noCall s14 (rowF 15 C1 s15 (rowF 16 C1 s16 noCall))))))
theorem C0_app {f : FuncId} {args : List AV} {σ : AHeap} {K : AV → AHeap → Prop} : C0 f args σ K = rowF 30 noCall s30 noCall f args σ K := _root_.id rfl
theorem C1_app {f : FuncId} {args : List AV} {σ : AHeap} {K : AV → AHeap → Prop} : C1 f args σ K = rowF 31 noCall s31 (rowF 32 noCall s32 noCall) f args σ K := _root_.id rfl
theorem C2_app {f : FuncId} {args : List AV} {σ : AHeap} {K : AV → AHeap → Prop} : C2 f args σ K = rowQ 9 awakeD (rowF 11 C0 s11 (rowF 12 noCall s12 (rowF 13 noCall s13 (rowF 14 noCall s14 (rowF 15 C1 s15 (rowF 16 C1 s16 noCall)))))) f args σ K := _root_.id rfl
theorem sound0 : Sound Try.prog C0 := rowF_sound c30 (noCall_sound _) (noCall_sound _)
theorem sound1 : Sound Try.prog C1 := rowF_sound c31 (noCall_sound _) (rowF_sound c32 (noCall_sound _) (noCall_sound _))
theorem sound2 : Sound Try.prog C2 :=
  rowQ_sound awakeD_ok (rowF_sound c11 sound0 (rowF_sound c12 (noCall_sound _) (rowF_sound c13 (noCall_sound _) (rowF_sound c14 (noCall_sound _) (rowF_sound c15 sound1 (rowF_sound c16 sound1 (noCall_sound _)))))))
theorem less_total (a b : List UInt8) : (!(lessBytes a b)) = (lessBytes b a || b == a) := by
  have h1 : lessBytes a b = decide (a < b) := bytesLess_eq a b
  have h2 : lessBytes b a = decide (b < a) := bytesLess_eq b a
  rw [h1, h2]
  by_cases h : a < b
  · have h3 : ¬ b < a := List.lt_asymm h
    have h4 : ¬ b = a := by rintro rfl; exact List.lt_irrefl _ h
    simp [h, h3, h4]
  · by_cases h' : b < a
    · simp [h, h']
    · have : b = a := List.le_antisymm h h'
      simp [h, h', this]
set_option maxHeartbeats 4000000
set_option maxRecDepth 10000
theorem short1 (a b x : List UInt8) (n : Int) (h : (300 : Int) < a.length) : sF C2 s4 [.agg [.str a, .str b], .str x, .int .i64 n] [] Yes := by
  simp only [C2_app, C1_app, C0_app, awakeD_eq, y4, x4_0, r4_0, x4_1, r4_1, x4_2, r4_2, x4_3, x4_4, x4_5, x4_6, r4_6, x4_7, r4_7, x4_8, x4_9, x4_10, x4_11, r4_11, x4_12, r4_12, x4_13, r4_13, x4_14, x4_15, x4_16, x4_17, r4_17, x4_18, r4_18, x4_19, x4_20, x4_21, x4_22, r4_22, x4_23, r4_23, x4_24, r4_24, x4_25, x4_26, x4_27, x4_28, x4_29, r4_29, x4_30, r4_30, x4_31, r4_31, x4_32, r4_32, x4_33, r4_33, x4_34, r4_34, x4_35, x4_36, x4_37, x4_38, r4_38, x4_39, r4_39, x4_40, x4_41, x4_42, x4_43, r4_43, x4_44, x4_45, x4_46, x4_47, x4_48, x4_49, x4_50, x4_51, x4_52, x4_53, x4_54, x4_55, x4_56, x4_57, y11, x11_0, r11_0, x11_1, r11_1, x11_2, r11_2, x11_3, x11_4, r11_4, x11_5, r11_5, x11_6, x11_7, x11_8, x11_9, x11_10, x11_11, x11_12, r11_12, x11_13, r11_13, x11_14, r11_14, x11_15, x11_16, x11_17, x11_18, x11_19, y12, x12_0, r12_0, x12_1, r12_1, x12_2, r12_2, x12_3, x12_4, x12_5, x12_6, t12_6, x12_7, x12_8, x12_9, y13, x13_0, r13_0, x13_1, r13_1, x13_2, x13_3, y14, x14_0, r14_0, x14_1, r14_1, x14_2, r14_2, x14_3, x14_4, r14_4, x14_5, r14_5, x14_6, x14_7, r14_7, x14_8, r14_8, x14_9, x14_10, t14_10, x14_11, t14_11, x14_12, x14_13, x14_14, r14_14, x14_15, x14_16, x14_17, x14_18, x14_19, x14_20, x14_21, x14_22, x14_23, x14_24, x14_25, t14_25, x14_26, t14_26, x14_27, t14_27, x14_28, r14_28, x14_29, x14_30, x14_31, x14_32, x14_33, x14_34, y15, x15_0, r15_0, x15_1, r15_1, x15_2, r15_2, x15_3, x15_4, x15_5, x15_6, r15_6, x15_7, x15_8, x15_9, y16, x16_0, r16_0, x16_1, r16_1, x16_2, r16_2, x16_3, x16_4, x16_5, x16_6, r16_6, x16_7, x16_8, x16_9, y30, x30_0, r30_0, x30_1, r30_1, x30_2, x30_3, y31, x31_0, r31_0, x31_1, r31_1, x31_2, r31_2, x31_3, x31_4, x31_5, x31_6, r31_6, x31_7, x31_8, x31_9, y32, x32_0, r32_0, x32_1, r32_1, x32_2, r32_2, x32_3, x32_4, x32_5, x32_6, r32_6, x32_7, x32_8, x32_9, sC_skip, sC_exit, sC_ret, condK_true, condK_false, unw_seq_normal, unw_seq_exit, unw_seq_ret, unw_block_normal, unw_block_exit, unw_block_ret, unw_lp_exit, unw_lp_ret, unw_fin, retQ_ret, retQ_normal, retQ_exit, nxt_app, nxtQ_app, nxtL_app, guardK_tt, guardK_ff, guardK_tf, guardK_ft, guardK_u, guardQ_tt, guardQ_ff, guardQ_tf, guardQ_ft, guardQ_u, guardL_tt, guardL_ff, guardL_tf, guardL_ft, guardL_u, sOps_nil, sOps_cons, sOps_guard, sTree_leaf, sTree_stop, sTree_quiet, sTree_loud, sTree_quietG, sTree_loudG, goO_some, goO_none, sOp_call, callvP_func, sOp_callv, putD_some, putD_none, still_nil, still_none, still_cons, sOp_move, sOp_nilCheck, sOp_pick, sOp_alloc, sOp_box, sOp_build, sOp_buildSlice, sOp_load1, sOp_loadN, sOp_store, sOp_bin, sOp_un, sOp_convInt, sOp_convSame, sOp_resame, sOp_toBytes, sOp_ofBytes, sOp_mkfunc, sOp_makeSlice, sOp_sliceStr, sOp_slice, sOp_sliceArr, sOp_fieldAddr, sOp_field1, sOp_fieldN, sOp_indexAddr, sOp_indexArrAddr, sOp_indexStr, sOp_indexArr1, sOp_indexArrN, sOp_extract, sOp_lenStr, sOp_lenSl, sOp_lenArr, sOp_append, sOp_copy, sOp_minmax, sOp_capOf, ev_t, ev_c, argEnv_nil, argEnv_cons, envL_nil, envL_cons, abin_add, abin_sub, abin_mul, abin_quo, abin_rem, abin_eql, abin_neq, abin_lss, abin_leq, abin_gtr, abin_geq, abin_shl, abin_shr, abin_sadd, abin_seql, abin_sneq, abin_slss, abin_sleq, abin_sgtr, abin_sgeq, abin_beql, abin_bneq, abin_p1, abin_p2, abin_p3, abin_p4, abin_p5, abin_p6, abin_s3, abin_s4, abin_s5, abin_s6, abin_f1, abin_f2, abin_f3, abin_f4, abin_feq, abin_fne, cellsEq_nil, cellsEq_s, cellsEq_i, cellsEq_b, aun_not, aun_neg, hget_nil, hget_cons, hset_cons, hkill_cons, hpush_nil, hpush_cons, idx_nil, idx_cons, sub_cons, take_cons, take_nil', put_cons, drop_cons, cells_agg, cells_str, cells_int, cells_bool, cells_ptr, cells_nilptr, cells_nilslice, cells_slice, cells_imm, cells_func, resVals_nil, resVals_t, retOf_one, retOf_two, retOf_nil, evOp, isRead, fixOp, ldCell, ldCells, fAddr, iAddr_slice, iAddr_imm, aAddr_ptr, aAddr_iptr, inRange_int, bound_none, bound_int, mayGrow, fillParts, lenOf, lenSl, evSlice, topOf, evAppend, elemsOf, grown, rowF_eq, rowQ_eq, Option.map_some, Option.map_none, Option.bind_some, Option.bind_none, Option.isSome_some, Option.isSome_none, List.map_cons, List.map_nil, List.length_cons, List.length_nil, List.append_nil, List.nil_append, List.cons_append, List.all_cons, List.all_nil, AV.isCell, Bool.and_true, Bool.true_and, Bool.and_false, Bool.false_and, Bool.or_true, Bool.true_or, Bool.or_false, Bool.false_or, Bool.not_true, Bool.not_false, Bool.false_eq_true, Bool.true_eq_false, and_true, true_and, and_false, false_and, or_true, true_or, or_false, false_or, not_true_eq_false, not_false_eq_true, decide_true, decide_false, decide_eq_true_eq, if_true, if_false, ite_true, ite_false, ↓reduceIte, Nat.reduceAdd, Nat.reduceSub, Nat.reduceMul, Nat.reduceEqDiff, Nat.reduceLeDiff, Nat.reduceLT, Nat.succ_ne_zero, Nat.zero_add, Nat.add_zero, Nat.zero_mul, Nat.mul_one, Nat.one_mul, Nat.le_refl, Nat.sub_zero, Int.reduceLT, Int.reduceLE, Int.reduceEq, Int.reduceNe, Int.reduceToNat, Int.reduceAdd, Int.reduceSub, Int.toNat_zero, reduceCtorEq, eq_self, ne_eq, beq_self_eq_true, Nat.reduceBEq, Nat.reduceBNe, List.mem_cons, List.not_mem_nil, false_implies, true_implies, implies_true, forall_const, List.drop_zero, List.drop_nil, List.take_zero, List.drop_length, List.length_append, cast_zero, cast_one, Int.cast_ofNat_Int, List.replicate_zero, List.replicate_succ, List.flatten_cons, List.flatten_nil, h]
  trivial
theorem short2 (a b x : List UInt8) (n : Int) (h0 : ¬ (300 : Int) < a.length) (h : (300 : Int) < b.length) : sF C2 s4 [.agg [.str a, .str b], .str x, .int .i64 n] [] Yes := by
  simp only [C2_app, C1_app, C0_app, awakeD_eq, y4, x4_0, r4_0, x4_1, r4_1, x4_2, r4_2, x4_3, x4_4, x4_5, x4_6, r4_6, x4_7, r4_7, x4_8, x4_9, x4_10, x4_11, r4_11, x4_12, r4_12, x4_13, r4_13, x4_14, x4_15, x4_16, x4_17, r4_17, x4_18, r4_18, x4_19, x4_20, x4_21, x4_22, r4_22, x4_23, r4_23, x4_24, r4_24, x4_25, x4_26, x4_27, x4_28, x4_29, r4_29, x4_30, r4_30, x4_31, r4_31, x4_32, r4_32, x4_33, r4_33, x4_34, r4_34, x4_35, x4_36, x4_37, x4_38, r4_38, x4_39, r4_39, x4_40, x4_41, x4_42, x4_43, r4_43, x4_44, x4_45, x4_46, x4_47, x4_48, x4_49, x4_50, x4_51, x4_52, x4_53, x4_54, x4_55, x4_56, x4_57, y11, x11_0, r11_0, x11_1, r11_1, x11_2, r11_2, x11_3, x11_4, r11_4, x11_5, r11_5, x11_6, x11_7, x11_8, x11_9, x11_10, x11_11, x11_12, r11_12, x11_13, r11_13, x11_14, r11_14, x11_15, x11_16, x11_17, x11_18, x11_19, y12, x12_0, r12_0, x12_1, r12_1, x12_2, r12_2, x12_3, x12_4, x12_5, x12_6, t12_6, x12_7, x12_8, x12_9, y13, x13_0, r13_0, x13_1, r13_1, x13_2, x13_3, y14, x14_0, r14_0, x14_1, r14_1, x14_2, r14_2, x14_3, x14_4, r14_4, x14_5, r14_5, x14_6, x14_7, r14_7, x14_8, r14_8, x14_9, x14_10, t14_10, x14_11, t14_11, x14_12, x14_13, x14_14, r14_14, x14_15, x14_16, x14_17, x14_18, x14_19, x14_20, x14_21, x14_22, x14_23, x14_24, x14_25, t14_25, x14_26, t14_26, x14_27, t14_27, x14_28, r14_28, x14_29, x14_30, x14_31, x14_32, x14_33, x14_34, y15, x15_0, r15_0, x15_1, r15_1, x15_2, r15_2, x15_3, x15_4, x15_5, x15_6, r15_6, x15_7, x15_8, x15_9, y16, x16_0, r16_0, x16_1, r16_1, x16_2, r16_2, x16_3, x16_4, x16_5, x16_6, r16_6, x16_7, x16_8, x16_9, y30, x30_0, r30_0, x30_1, r30_1, x30_2, x30_3, y31, x31_0, r31_0, x31_1, r31_1, x31_2, r31_2, x31_3, x31_4, x31_5, x31_6, r31_6, x31_7, x31_8, x31_9, y32, x32_0, r32_0, x32_1, r32_1, x32_2, r32_2, x32_3, x32_4, x32_5, x32_6, r32_6, x32_7, x32_8, x32_9, sC_skip, sC_exit, sC_ret, condK_true, condK_false, unw_seq_normal, unw_seq_exit, unw_seq_ret, unw_block_normal, unw_block_exit, unw_block_ret, unw_lp_exit, unw_lp_ret, unw_fin, retQ_ret, retQ_normal, retQ_exit, nxt_app, nxtQ_app, nxtL_app, guardK_tt, guardK_ff, guardK_tf, guardK_ft, guardK_u, guardQ_tt, guardQ_ff, guardQ_tf, guardQ_ft, guardQ_u, guardL_tt, guardL_ff, guardL_tf, guardL_ft, guardL_u, sOps_nil, sOps_cons, sOps_guard, sTree_leaf, sTree_stop, sTree_quiet, sTree_loud, sTree_quietG, sTree_loudG, goO_some, goO_none, sOp_call, callvP_func, sOp_callv, putD_some, putD_none, still_nil, still_none, still_cons, sOp_move, sOp_nilCheck, sOp_pick, sOp_alloc, sOp_box, sOp_build, sOp_buildSlice, sOp_load1, sOp_loadN, sOp_store, sOp_bin, sOp_un, sOp_convInt, sOp_convSame, sOp_resame, sOp_toBytes, sOp_ofBytes, sOp_mkfunc, sOp_makeSlice, sOp_sliceStr, sOp_slice, sOp_sliceArr, sOp_fieldAddr, sOp_field1, sOp_fieldN, sOp_indexAddr, sOp_indexArrAddr, sOp_indexStr, sOp_indexArr1, sOp_indexArrN, sOp_extract, sOp_lenStr, sOp_lenSl, sOp_lenArr, sOp_append, sOp_copy, sOp_minmax, sOp_capOf, ev_t, ev_c, argEnv_nil, argEnv_cons, envL_nil, envL_cons, abin_add, abin_sub, abin_mul, abin_quo, abin_rem, abin_eql, abin_neq, abin_lss, abin_leq, abin_gtr, abin_geq, abin_shl, abin_shr, abin_sadd, abin_seql, abin_sneq, abin_slss, abin_sleq, abin_sgtr, abin_sgeq, abin_beql, abin_bneq, abin_p1, abin_p2, abin_p3, abin_p4, abin_p5, abin_p6, abin_s3, abin_s4, abin_s5, abin_s6, abin_f1, abin_f2, abin_f3, abin_f4, abin_feq, abin_fne, cellsEq_nil, cellsEq_s, cellsEq_i, cellsEq_b, aun_not, aun_neg, hget_nil, hget_cons, hset_cons, hkill_cons, hpush_nil, hpush_cons, idx_nil, idx_cons, sub_cons, take_cons, take_nil', put_cons, drop_cons, cells_agg, cells_str, cells_int, cells_bool, cells_ptr, cells_nilptr, cells_nilslice, cells_slice, cells_imm, cells_func, resVals_nil, resVals_t, retOf_one, retOf_two, retOf_nil, evOp, isRead, fixOp, ldCell, ldCells, fAddr, iAddr_slice, iAddr_imm, aAddr_ptr, aAddr_iptr, inRange_int, bound_none, bound_int, mayGrow, fillParts, lenOf, lenSl, evSlice, topOf, evAppend, elemsOf, grown, rowF_eq, rowQ_eq, Option.map_some, Option.map_none, Option.bind_some, Option.bind_none, Option.isSome_some, Option.isSome_none, List.map_cons, List.map_nil, List.length_cons, List.length_nil, List.append_nil, List.nil_append, List.cons_append, List.all_cons, List.all_nil, AV.isCell, Bool.and_true, Bool.true_and, Bool.and_false, Bool.false_and, Bool.or_true, Bool.true_or, Bool.or_false, Bool.false_or, Bool.not_true, Bool.not_false, Bool.false_eq_true, Bool.true_eq_false, and_true, true_and, and_false, false_and, or_true, true_or, or_false, false_or, not_true_eq_false, not_false_eq_true, decide_true, decide_false, decide_eq_true_eq, if_true, if_false, ite_true, ite_false, ↓reduceIte, Nat.reduceAdd, Nat.reduceSub, Nat.reduceMul, Nat.reduceEqDiff, Nat.reduceLeDiff, Nat.reduceLT, Nat.succ_ne_zero, Nat.zero_add, Nat.add_zero, Nat.zero_mul, Nat.mul_one, Nat.one_mul, Nat.le_refl, Nat.sub_zero, Int.reduceLT, Int.reduceLE, Int.reduceEq, Int.reduceNe, Int.reduceToNat, Int.reduceAdd, Int.reduceSub, Int.toNat_zero, reduceCtorEq, eq_self, ne_eq, beq_self_eq_true, Nat.reduceBEq, Nat.reduceBNe, List.mem_cons, List.not_mem_nil, false_implies, true_implies, implies_true, forall_const, List.drop_zero, List.drop_nil, List.take_zero, List.drop_length, List.length_append, cast_zero, cast_one, Int.cast_ofNat_Int, List.replicate_zero, List.replicate_succ, List.flatten_cons, List.flatten_nil, h0, h]
  trivial
theorem short3 (a b x : List UInt8) (n : Int) (h0 : ¬ (300 : Int) < a.length) (h1 : ¬ (300 : Int) < b.length) (h : (300 : Int) < x.length) : sF C2 s4 [.agg [.str a, .str b], .str x, .int .i64 n] [] Yes := by
  simp only [C2_app, C1_app, C0_app, awakeD_eq, y4, x4_0, r4_0, x4_1, r4_1, x4_2, r4_2, x4_3, x4_4, x4_5, x4_6, r4_6, x4_7, r4_7, x4_8, x4_9, x4_10, x4_11, r4_11, x4_12, r4_12, x4_13, r4_13, x4_14, x4_15, x4_16, x4_17, r4_17, x4_18, r4_18, x4_19, x4_20, x4_21, x4_22, r4_22, x4_23, r4_23, x4_24, r4_24, x4_25, x4_26, x4_27, x4_28, x4_29, r4_29, x4_30, r4_30, x4_31, r4_31, x4_32, r4_32, x4_33, r4_33, x4_34, r4_34, x4_35, x4_36, x4_37, x4_38, r4_38, x4_39, r4_39, x4_40, x4_41, x4_42, x4_43, r4_43, x4_44, x4_45, x4_46, x4_47, x4_48, x4_49, x4_50, x4_51, x4_52, x4_53, x4_54, x4_55, x4_56, x4_57, y11, x11_0, r11_0, x11_1, r11_1, x11_2, r11_2, x11_3, x11_4, r11_4, x11_5, r11_5, x11_6, x11_7, x11_8, x11_9, x11_10, x11_11, x11_12, r11_12, x11_13, r11_13, x11_14, r11_14, x11_15, x11_16, x11_17, x11_18, x11_19, y12, x12_0, r12_0, x12_1, r12_1, x12_2, r12_2, x12_3, x12_4, x12_5, x12_6, t12_6, x12_7, x12_8, x12_9, y13, x13_0, r13_0, x13_1, r13_1, x13_2, x13_3, y14, x14_0, r14_0, x14_1, r14_1, x14_2, r14_2, x14_3, x14_4, r14_4, x14_5, r14_5, x14_6, x14_7, r14_7, x14_8, r14_8, x14_9, x14_10, t14_10, x14_11, t14_11, x14_12, x14_13, x14_14, r14_14, x14_15, x14_16, x14_17, x14_18, x14_19, x14_20, x14_21, x14_22, x14_23, x14_24, x14_25, t14_25, x14_26, t14_26, x14_27, t14_27, x14_28, r14_28, x14_29, x14_30, x14_31, x14_32, x14_33, x14_34, y15, x15_0, r15_0, x15_1, r15_1, x15_2, r15_2, x15_3, x15_4, x15_5, x15_6, r15_6, x15_7, x15_8, x15_9, y16, x16_0, r16_0, x16_1, r16_1, x16_2, r16_2, x16_3, x16_4, x16_5, x16_6, r16_6, x16_7, x16_8, x16_9, y30, x30_0, r30_0, x30_1, r30_1, x30_2, x30_3, y31, x31_0, r31_0, x31_1, r31_1, x31_2, r31_2, x31_3, x31_4, x31_5, x31_6, r31_6, x31_7, x31_8, x31_9, y32, x32_0, r32_0, x32_1, r32_1, x32_2, r32_2, x32_3, x32_4, x32_5, x32_6, r32_6, x32_7, x32_8, x32_9, sC_skip, sC_exit, sC_ret, condK_true, condK_false, unw_seq_normal, unw_seq_exit, unw_seq_ret, unw_block_normal, unw_block_exit, unw_block_ret, unw_lp_exit, unw_lp_ret, unw_fin, retQ_ret, retQ_normal, retQ_exit, nxt_app, nxtQ_app, nxtL_app, guardK_tt, guardK_ff, guardK_tf, guardK_ft, guardK_u, guardQ_tt, guardQ_ff, guardQ_tf, guardQ_ft, guardQ_u, guardL_tt, guardL_ff, guardL_tf, guardL_ft, guardL_u, sOps_nil, sOps_cons, sOps_guard, sTree_leaf, sTree_stop, sTree_quiet, sTree_loud, sTree_quietG, sTree_loudG, goO_some, goO_none, sOp_call, callvP_func, sOp_callv, putD_some, putD_none, still_nil, still_none, still_cons, sOp_move, sOp_nilCheck, sOp_pick, sOp_alloc, sOp_box, sOp_build, sOp_buildSlice, sOp_load1, sOp_loadN, sOp_store, sOp_bin, sOp_un, sOp_convInt, sOp_convSame, sOp_resame, sOp_toBytes, sOp_ofBytes, sOp_mkfunc, sOp_makeSlice, sOp_sliceStr, sOp_slice, sOp_sliceArr, sOp_fieldAddr, sOp_field1, sOp_fieldN, sOp_indexAddr, sOp_indexArrAddr, sOp_indexStr, sOp_indexArr1, sOp_indexArrN, sOp_extract, sOp_lenStr, sOp_lenSl, sOp_lenArr, sOp_append, sOp_copy, sOp_minmax, sOp_capOf, ev_t, ev_c, argEnv_nil, argEnv_cons, envL_nil, envL_cons, abin_add, abin_sub, abin_mul, abin_quo, abin_rem, abin_eql, abin_neq, abin_lss, abin_leq, abin_gtr, abin_geq, abin_shl, abin_shr, abin_sadd, abin_seql, abin_sneq, abin_slss, abin_sleq, abin_sgtr, abin_sgeq, abin_beql, abin_bneq, abin_p1, abin_p2, abin_p3, abin_p4, abin_p5, abin_p6, abin_s3, abin_s4, abin_s5, abin_s6, abin_f1, abin_f2, abin_f3, abin_f4, abin_feq, abin_fne, cellsEq_nil, cellsEq_s, cellsEq_i, cellsEq_b, aun_not, aun_neg, hget_nil, hget_cons, hset_cons, hkill_cons, hpush_nil, hpush_cons, idx_nil, idx_cons, sub_cons, take_cons, take_nil', put_cons, drop_cons, cells_agg, cells_str, cells_int, cells_bool, cells_ptr, cells_nilptr, cells_nilslice, cells_slice, cells_imm, cells_func, resVals_nil, resVals_t, retOf_one, retOf_two, retOf_nil, evOp, isRead, fixOp, ldCell, ldCells, fAddr, iAddr_slice, iAddr_imm, aAddr_ptr, aAddr_iptr, inRange_int, bound_none, bound_int, mayGrow, fillParts, lenOf, lenSl, evSlice, topOf, evAppend, elemsOf, grown, rowF_eq, rowQ_eq, Option.map_some, Option.map_none, Option.bind_some, Option.bind_none, Option.isSome_some, Option.isSome_none, List.map_cons, List.map_nil, List.length_cons, List.length_nil, List.append_nil, List.nil_append, List.cons_append, List.all_cons, List.all_nil, AV.isCell, Bool.and_true, Bool.true_and, Bool.and_false, Bool.false_and, Bool.or_true, Bool.true_or, Bool.or_false, Bool.false_or, Bool.not_true, Bool.not_false, Bool.false_eq_true, Bool.true_eq_false, and_true, true_and, and_false, false_and, or_true, true_or, or_false, false_or, not_true_eq_false, not_false_eq_true, decide_true, decide_false, decide_eq_true_eq, if_true, if_false, ite_true, ite_false, ↓reduceIte, Nat.reduceAdd, Nat.reduceSub, Nat.reduceMul, Nat.reduceEqDiff, Nat.reduceLeDiff, Nat.reduceLT, Nat.succ_ne_zero, Nat.zero_add, Nat.add_zero, Nat.zero_mul, Nat.mul_one, Nat.one_mul, Nat.le_refl, Nat.sub_zero, Int.reduceLT, Int.reduceLE, Int.reduceEq, Int.reduceNe, Int.reduceToNat, Int.reduceAdd, Int.reduceSub, Int.toNat_zero, reduceCtorEq, eq_self, ne_eq, beq_self_eq_true, Nat.reduceBEq, Nat.reduceBNe, List.mem_cons, List.not_mem_nil, false_implies, true_implies, implies_true, forall_const, List.drop_zero, List.drop_nil, List.take_zero, List.drop_length, List.length_append, cast_zero, cast_one, Int.cast_ofNat_Int, List.replicate_zero, List.replicate_succ, List.flatten_cons, List.flatten_nil, h0, h1, h]
  trivial
theorem low (a b x : List UInt8) (n : Int) (h0 : ¬ (300 : Int) < a.length) (h1 : ¬ (300 : Int) < b.length) (h2 : ¬ (300 : Int) < x.length) (h : n < 1) : sF C2 s4 [.agg [.str a, .str b], .str x, .int .i64 n] [] Yes := by
  simp only [C2_app, C1_app, C0_app, awakeD_eq, y4, x4_0, r4_0, x4_1, r4_1, x4_2, r4_2, x4_3, x4_4, x4_5, x4_6, r4_6, x4_7, r4_7, x4_8, x4_9, x4_10, x4_11, r4_11, x4_12, r4_12, x4_13, r4_13, x4_14, x4_15, x4_16, x4_17, r4_17, x4_18, r4_18, x4_19, x4_20, x4_21, x4_22, r4_22, x4_23, r4_23, x4_24, r4_24, x4_25, x4_26, x4_27, x4_28, x4_29, r4_29, x4_30, r4_30, x4_31, r4_31, x4_32, r4_32, x4_33, r4_33, x4_34, r4_34, x4_35, x4_36, x4_37, x4_38, r4_38, x4_39, r4_39, x4_40, x4_41, x4_42, x4_43, r4_43, x4_44, x4_45, x4_46, x4_47, x4_48, x4_49, x4_50, x4_51, x4_52, x4_53, x4_54, x4_55, x4_56, x4_57, y11, x11_0, r11_0, x11_1, r11_1, x11_2, r11_2, x11_3, x11_4, r11_4, x11_5, r11_5, x11_6, x11_7, x11_8, x11_9, x11_10, x11_11, x11_12, r11_12, x11_13, r11_13, x11_14, r11_14, x11_15, x11_16, x11_17, x11_18, x11_19, y12, x12_0, r12_0, x12_1, r12_1, x12_2, r12_2, x12_3, x12_4, x12_5, x12_6, t12_6, x12_7, x12_8, x12_9, y13, x13_0, r13_0, x13_1, r13_1, x13_2, x13_3, y14, x14_0, r14_0, x14_1, r14_1, x14_2, r14_2, x14_3, x14_4, r14_4, x14_5, r14_5, x14_6, x14_7, r14_7, x14_8, r14_8, x14_9, x14_10, t14_10, x14_11, t14_11, x14_12, x14_13, x14_14, r14_14, x14_15, x14_16, x14_17, x14_18, x14_19, x14_20, x14_21, x14_22, x14_23, x14_24, x14_25, t14_25, x14_26, t14_26, x14_27, t14_27, x14_28, r14_28, x14_29, x14_30, x14_31, x14_32, x14_33, x14_34, y15, x15_0, r15_0, x15_1, r15_1, x15_2, r15_2, x15_3, x15_4, x15_5, x15_6, r15_6, x15_7, x15_8, x15_9, y16, x16_0, r16_0, x16_1, r16_1, x16_2, r16_2, x16_3, x16_4, x16_5, x16_6, r16_6, x16_7, x16_8, x16_9, y30, x30_0, r30_0, x30_1, r30_1, x30_2, x30_3, y31, x31_0, r31_0, x31_1, r31_1, x31_2, r31_2, x31_3, x31_4, x31_5, x31_6, r31_6, x31_7, x31_8, x31_9, y32, x32_0, r32_0, x32_1, r32_1, x32_2, r32_2, x32_3, x32_4, x32_5, x32_6, r32_6, x32_7, x32_8, x32_9, sC_skip, sC_exit, sC_ret, condK_true, condK_false, unw_seq_normal, unw_seq_exit, unw_seq_ret, unw_block_normal, unw_block_exit, unw_block_ret, unw_lp_exit, unw_lp_ret, unw_fin, retQ_ret, retQ_normal, retQ_exit, nxt_app, nxtQ_app, nxtL_app, guardK_tt, guardK_ff, guardK_tf, guardK_ft, guardK_u, guardQ_tt, guardQ_ff, guardQ_tf, guardQ_ft, guardQ_u, guardL_tt, guardL_ff, guardL_tf, guardL_ft, guardL_u, sOps_nil, sOps_cons, sOps_guard, sTree_leaf, sTree_stop, sTree_quiet, sTree_loud, sTree_quietG, sTree_loudG, goO_some, goO_none, sOp_call, callvP_func, sOp_callv, putD_some, putD_none, still_nil, still_none, still_cons, sOp_move, sOp_nilCheck, sOp_pick, sOp_alloc, sOp_box, sOp_build, sOp_buildSlice, sOp_load1, sOp_loadN, sOp_store, sOp_bin, sOp_un, sOp_convInt, sOp_convSame, sOp_resame, sOp_toBytes, sOp_ofBytes, sOp_mkfunc, sOp_makeSlice, sOp_sliceStr, sOp_slice, sOp_sliceArr, sOp_fieldAddr, sOp_field1, sOp_fieldN, sOp_indexAddr, sOp_indexArrAddr, sOp_indexStr, sOp_indexArr1, sOp_indexArrN, sOp_extract, sOp_lenStr, sOp_lenSl, sOp_lenArr, sOp_append, sOp_copy, sOp_minmax, sOp_capOf, ev_t, ev_c, argEnv_nil, argEnv_cons, envL_nil, envL_cons, abin_add, abin_sub, abin_mul, abin_quo, abin_rem, abin_eql, abin_neq, abin_lss, abin_leq, abin_gtr, abin_geq, abin_shl, abin_shr, abin_sadd, abin_seql, abin_sneq, abin_slss, abin_sleq, abin_sgtr, abin_sgeq, abin_beql, abin_bneq, abin_p1, abin_p2, abin_p3, abin_p4, abin_p5, abin_p6, abin_s3, abin_s4, abin_s5, abin_s6, abin_f1, abin_f2, abin_f3, abin_f4, abin_feq, abin_fne, cellsEq_nil, cellsEq_s, cellsEq_i, cellsEq_b, aun_not, aun_neg, hget_nil, hget_cons, hset_cons, hkill_cons, hpush_nil, hpush_cons, idx_nil, idx_cons, sub_cons, take_cons, take_nil', put_cons, drop_cons, cells_agg, cells_str, cells_int, cells_bool, cells_ptr, cells_nilptr, cells_nilslice, cells_slice, cells_imm, cells_func, resVals_nil, resVals_t, retOf_one, retOf_two, retOf_nil, evOp, isRead, fixOp, ldCell, ldCells, fAddr, iAddr_slice, iAddr_imm, aAddr_ptr, aAddr_iptr, inRange_int, bound_none, bound_int, mayGrow, fillParts, lenOf, lenSl, evSlice, topOf, evAppend, elemsOf, grown, rowF_eq, rowQ_eq, Option.map_some, Option.map_none, Option.bind_some, Option.bind_none, Option.isSome_some, Option.isSome_none, List.map_cons, List.map_nil, List.length_cons, List.length_nil, List.append_nil, List.nil_append, List.cons_append, List.all_cons, List.all_nil, AV.isCell, Bool.and_true, Bool.true_and, Bool.and_false, Bool.false_and, Bool.or_true, Bool.true_or, Bool.or_false, Bool.false_or, Bool.not_true, Bool.not_false, Bool.false_eq_true, Bool.true_eq_false, and_true, true_and, and_false, false_and, or_true, true_or, or_false, false_or, not_true_eq_false, not_false_eq_true, decide_true, decide_false, decide_eq_true_eq, if_true, if_false, ite_true, ite_false, ↓reduceIte, Nat.reduceAdd, Nat.reduceSub, Nat.reduceMul, Nat.reduceEqDiff, Nat.reduceLeDiff, Nat.reduceLT, Nat.succ_ne_zero, Nat.zero_add, Nat.add_zero, Nat.zero_mul, Nat.mul_one, Nat.one_mul, Nat.le_refl, Nat.sub_zero, Int.reduceLT, Int.reduceLE, Int.reduceEq, Int.reduceNe, Int.reduceToNat, Int.reduceAdd, Int.reduceSub, Int.toNat_zero, reduceCtorEq, eq_self, ne_eq, beq_self_eq_true, Nat.reduceBEq, Nat.reduceBNe, List.mem_cons, List.not_mem_nil, false_implies, true_implies, implies_true, forall_const, List.drop_zero, List.drop_nil, List.take_zero, List.drop_length, List.length_append, cast_zero, cast_one, Int.cast_ofNat_Int, List.replicate_zero, List.replicate_succ, List.flatten_cons, List.flatten_nil, h0, h1, h2, h]
  trivial
theorem high (a b x : List UInt8) (n : Int) (h0 : ¬ (300 : Int) < a.length) (h1 : ¬ (300 : Int) < b.length) (h2 : ¬ (300 : Int) < x.length) (h3 : ¬ n < 1) (h : 16 < n) : sF C2 s4 [.agg [.str a, .str b], .str x, .int .i64 n] [] Yes := by
  simp only [C2_app, C1_app, C0_app, awakeD_eq, y4, x4_0, r4_0, x4_1, r4_1, x4_2, r4_2, x4_3, x4_4, x4_5, x4_6, r4_6, x4_7, r4_7, x4_8, x4_9, x4_10, x4_11, r4_11, x4_12, r4_12, x4_13, r4_13, x4_14, x4_15, x4_16, x4_17, r4_17, x4_18, r4_18, x4_19, x4_20, x4_21, x4_22, r4_22, x4_23, r4_23, x4_24, r4_24, x4_25, x4_26, x4_27, x4_28, x4_29, r4_29, x4_30, r4_30, x4_31, r4_31, x4_32, r4_32, x4_33, r4_33, x4_34, r4_34, x4_35, x4_36, x4_37, x4_38, r4_38, x4_39, r4_39, x4_40, x4_41, x4_42, x4_43, r4_43, x4_44, x4_45, x4_46, x4_47, x4_48, x4_49, x4_50, x4_51, x4_52, x4_53, x4_54, x4_55, x4_56, x4_57, y11, x11_0, r11_0, x11_1, r11_1, x11_2, r11_2, x11_3, x11_4, r11_4, x11_5, r11_5, x11_6, x11_7, x11_8, x11_9, x11_10, x11_11, x11_12, r11_12, x11_13, r11_13, x11_14, r11_14, x11_15, x11_16, x11_17, x11_18, x11_19, y12, x12_0, r12_0, x12_1, r12_1, x12_2, r12_2, x12_3, x12_4, x12_5, x12_6, t12_6, x12_7, x12_8, x12_9, y13, x13_0, r13_0, x13_1, r13_1, x13_2, x13_3, y14, x14_0, r14_0, x14_1, r14_1, x14_2, r14_2, x14_3, x14_4, r14_4, x14_5, r14_5, x14_6, x14_7, r14_7, x14_8, r14_8, x14_9, x14_10, t14_10, x14_11, t14_11, x14_12, x14_13, x14_14, r14_14, x14_15, x14_16, x14_17, x14_18, x14_19, x14_20, x14_21, x14_22, x14_23, x14_24, x14_25, t14_25, x14_26, t14_26, x14_27, t14_27, x14_28, r14_28, x14_29, x14_30, x14_31, x14_32, x14_33, x14_34, y15, x15_0, r15_0, x15_1, r15_1, x15_2, r15_2, x15_3, x15_4, x15_5, x15_6, r15_6, x15_7, x15_8, x15_9, y16, x16_0, r16_0, x16_1, r16_1, x16_2, r16_2, x16_3, x16_4, x16_5, x16_6, r16_6, x16_7, x16_8, x16_9, y30, x30_0, r30_0, x30_1, r30_1, x30_2, x30_3, y31, x31_0, r31_0, x31_1, r31_1, x31_2, r31_2, x31_3, x31_4, x31_5, x31_6, r31_6, x31_7, x31_8, x31_9, y32, x32_0, r32_0, x32_1, r32_1, x32_2, r32_2, x32_3, x32_4, x32_5, x32_6, r32_6, x32_7, x32_8, x32_9, sC_skip, sC_exit, sC_ret, condK_true, condK_false, unw_seq_normal, unw_seq_exit, unw_seq_ret, unw_block_normal, unw_block_exit, unw_block_ret, unw_lp_exit, unw_lp_ret, unw_fin, retQ_ret, retQ_normal, retQ_exit, nxt_app, nxtQ_app, nxtL_app, guardK_tt, guardK_ff, guardK_tf, guardK_ft, guardK_u, guardQ_tt, guardQ_ff, guardQ_tf, guardQ_ft, guardQ_u, guardL_tt, guardL_ff, guardL_tf, guardL_ft, guardL_u, sOps_nil, sOps_cons, sOps_guard, sTree_leaf, sTree_stop, sTree_quiet, sTree_loud, sTree_quietG, sTree_loudG, goO_some, goO_none, sOp_call, callvP_func, sOp_callv, putD_some, putD_none, still_nil, still_none, still_cons, sOp_move, sOp_nilCheck, sOp_pick, sOp_alloc, sOp_box, sOp_build, sOp_buildSlice, sOp_load1, sOp_loadN, sOp_store, sOp_bin, sOp_un, sOp_convInt, sOp_convSame, sOp_resame, sOp_toBytes, sOp_ofBytes, sOp_mkfunc, sOp_makeSlice, sOp_sliceStr, sOp_slice, sOp_sliceArr, sOp_fieldAddr, sOp_field1, sOp_fieldN, sOp_indexAddr, sOp_indexArrAddr, sOp_indexStr, sOp_indexArr1, sOp_indexArrN, sOp_extract, sOp_lenStr, sOp_lenSl, sOp_lenArr, sOp_append, sOp_copy, sOp_minmax, sOp_capOf, ev_t, ev_c, argEnv_nil, argEnv_cons, envL_nil, envL_cons, abin_add, abin_sub, abin_mul, abin_quo, abin_rem, abin_eql, abin_neq, abin_lss, abin_leq, abin_gtr, abin_geq, abin_shl, abin_shr, abin_sadd, abin_seql, abin_sneq, abin_slss, abin_sleq, abin_sgtr, abin_sgeq, abin_beql, abin_bneq, abin_p1, abin_p2, abin_p3, abin_p4, abin_p5, abin_p6, abin_s3, abin_s4, abin_s5, abin_s6, abin_f1, abin_f2, abin_f3, abin_f4, abin_feq, abin_fne, cellsEq_nil, cellsEq_s, cellsEq_i, cellsEq_b, aun_not, aun_neg, hget_nil, hget_cons, hset_cons, hkill_cons, hpush_nil, hpush_cons, idx_nil, idx_cons, sub_cons, take_cons, take_nil', put_cons, drop_cons, cells_agg, cells_str, cells_int, cells_bool, cells_ptr, cells_nilptr, cells_nilslice, cells_slice, cells_imm, cells_func, resVals_nil, resVals_t, retOf_one, retOf_two, retOf_nil, evOp, isRead, fixOp, ldCell, ldCells, fAddr, iAddr_slice, iAddr_imm, aAddr_ptr, aAddr_iptr, inRange_int, bound_none, bound_int, mayGrow, fillParts, lenOf, lenSl, evSlice, topOf, evAppend, elemsOf, grown, rowF_eq, rowQ_eq, Option.map_some, Option.map_none, Option.bind_some, Option.bind_none, Option.isSome_some, Option.isSome_none, List.map_cons, List.map_nil, List.length_cons, List.length_nil, List.append_nil, List.nil_append, List.cons_append, List.all_cons, List.all_nil, AV.isCell, Bool.and_true, Bool.true_and, Bool.and_false, Bool.false_and, Bool.or_true, Bool.true_or, Bool.or_false, Bool.false_or, Bool.not_true, Bool.not_false, Bool.false_eq_true, Bool.true_eq_false, and_true, true_and, and_false, false_and, or_true, true_or, or_false, false_or, not_true_eq_false, not_false_eq_true, decide_true, decide_false, decide_eq_true_eq, if_true, if_false, ite_true, ite_false, ↓reduceIte, Nat.reduceAdd, Nat.reduceSub, Nat.reduceMul, Nat.reduceEqDiff, Nat.reduceLeDiff, Nat.reduceLT, Nat.succ_ne_zero, Nat.zero_add, Nat.add_zero, Nat.zero_mul, Nat.mul_one, Nat.one_mul, Nat.le_refl, Nat.sub_zero, Int.reduceLT, Int.reduceLE, Int.reduceEq, Int.reduceNe, Int.reduceToNat, Int.reduceAdd, Int.reduceSub, Int.toNat_zero, reduceCtorEq, eq_self, ne_eq, beq_self_eq_true, Nat.reduceBEq, Nat.reduceBNe, List.mem_cons, List.not_mem_nil, false_implies, true_implies, implies_true, forall_const, List.drop_zero, List.drop_nil, List.take_zero, List.drop_length, List.length_append, cast_zero, cast_one, Int.cast_ofNat_Int, List.replicate_zero, List.replicate_succ, List.flatten_cons, List.flatten_nil, h0, h1, h2, h3, h]
  trivial
theorem voidT (a b x : List UInt8) (n : Int) (h0 : ¬ (300 : Int) < a.length) (h1 : ¬ (300 : Int) < b.length) (h2 : ¬ (300 : Int) < x.length) (h3 : ¬ n < 1) (h4 : ¬ 16 < n) (g0 : ¬ (640 : Int) < a.length) (g1 : ¬ (640 : Int) < b.length)
    (hb : ¬ b = []) (h : (lessBytes b a || b == a) = true) : sF C2 s4 [.agg [.str a, .str b], .str x, .int .i64 n] [] Yes := by
  simp only [C2_app, C1_app, C0_app, awakeD_eq, y4, x4_0, r4_0, x4_1, r4_1, x4_2, r4_2, x4_3, x4_4, x4_5, x4_6, r4_6, x4_7, r4_7, x4_8, x4_9, x4_10, x4_11, r4_11, x4_12, r4_12, x4_13, r4_13, x4_14, x4_15, x4_16, x4_17, r4_17, x4_18, r4_18, x4_19, x4_20, x4_21, x4_22, r4_22, x4_23, r4_23, x4_24, r4_24, x4_25, x4_26, x4_27, x4_28, x4_29, r4_29, x4_30, r4_30, x4_31, r4_31, x4_32, r4_32, x4_33, r4_33, x4_34, r4_34, x4_35, x4_36, x4_37, x4_38, r4_38, x4_39, r4_39, x4_40, x4_41, x4_42, x4_43, r4_43, x4_44, x4_45, x4_46, x4_47, x4_48, x4_49, x4_50, x4_51, x4_52, x4_53, x4_54, x4_55, x4_56, x4_57, y11, x11_0, r11_0, x11_1, r11_1, x11_2, r11_2, x11_3, x11_4, r11_4, x11_5, r11_5, x11_6, x11_7, x11_8, x11_9, x11_10, x11_11, x11_12, r11_12, x11_13, r11_13, x11_14, r11_14, x11_15, x11_16, x11_17, x11_18, x11_19, y12, x12_0, r12_0, x12_1, r12_1, x12_2, r12_2, x12_3, x12_4, x12_5, x12_6, t12_6, x12_7, x12_8, x12_9, y13, x13_0, r13_0, x13_1, r13_1, x13_2, x13_3, y14, x14_0, r14_0, x14_1, r14_1, x14_2, r14_2, x14_3, x14_4, r14_4, x14_5, r14_5, x14_6, x14_7, r14_7, x14_8, r14_8, x14_9, x14_10, t14_10, x14_11, t14_11, x14_12, x14_13, x14_14, r14_14, x14_15, x14_16, x14_17, x14_18, x14_19, x14_20, x14_21, x14_22, x14_23, x14_24, x14_25, t14_25, x14_26, t14_26, x14_27, t14_27, x14_28, r14_28, x14_29, x14_30, x14_31, x14_32, x14_33, x14_34, y15, x15_0, r15_0, x15_1, r15_1, x15_2, r15_2, x15_3, x15_4, x15_5, x15_6, r15_6, x15_7, x15_8, x15_9, y16, x16_0, r16_0, x16_1, r16_1, x16_2, r16_2, x16_3, x16_4, x16_5, x16_6, r16_6, x16_7, x16_8, x16_9, y30, x30_0, r30_0, x30_1, r30_1, x30_2, x30_3, y31, x31_0, r31_0, x31_1, r31_1, x31_2, r31_2, x31_3, x31_4, x31_5, x31_6, r31_6, x31_7, x31_8, x31_9, y32, x32_0, r32_0, x32_1, r32_1, x32_2, r32_2, x32_3, x32_4, x32_5, x32_6, r32_6, x32_7, x32_8, x32_9, sC_skip, sC_exit, sC_ret, condK_true, condK_false, unw_seq_normal, unw_seq_exit, unw_seq_ret, unw_block_normal, unw_block_exit, unw_block_ret, unw_lp_exit, unw_lp_ret, unw_fin, retQ_ret, retQ_normal, retQ_exit, nxt_app, nxtQ_app, nxtL_app, guardK_tt, guardK_ff, guardK_tf, guardK_ft, guardK_u, guardQ_tt, guardQ_ff, guardQ_tf, guardQ_ft, guardQ_u, guardL_tt, guardL_ff, guardL_tf, guardL_ft, guardL_u, sOps_nil, sOps_cons, sOps_guard, sTree_leaf, sTree_stop, sTree_quiet, sTree_loud, sTree_quietG, sTree_loudG, goO_some, goO_none, sOp_call, callvP_func, sOp_callv, putD_some, putD_none, still_nil, still_none, still_cons, sOp_move, sOp_nilCheck, sOp_pick, sOp_alloc, sOp_box, sOp_build, sOp_buildSlice, sOp_load1, sOp_loadN, sOp_store, sOp_bin, sOp_un, sOp_convInt, sOp_convSame, sOp_resame, sOp_toBytes, sOp_ofBytes, sOp_mkfunc, sOp_makeSlice, sOp_sliceStr, sOp_slice, sOp_sliceArr, sOp_fieldAddr, sOp_field1, sOp_fieldN, sOp_indexAddr, sOp_indexArrAddr, sOp_indexStr, sOp_indexArr1, sOp_indexArrN, sOp_extract, sOp_lenStr, sOp_lenSl, sOp_lenArr, sOp_append, sOp_copy, sOp_minmax, sOp_capOf, ev_t, ev_c, argEnv_nil, argEnv_cons, envL_nil, envL_cons, abin_add, abin_sub, abin_mul, abin_quo, abin_rem, abin_eql, abin_neq, abin_lss, abin_leq, abin_gtr, abin_geq, abin_shl, abin_shr, abin_sadd, abin_seql, abin_sneq, abin_slss, abin_sleq, abin_sgtr, abin_sgeq, abin_beql, abin_bneq, abin_p1, abin_p2, abin_p3, abin_p4, abin_p5, abin_p6, abin_s3, abin_s4, abin_s5, abin_s6, abin_f1, abin_f2, abin_f3, abin_f4, abin_feq, abin_fne, cellsEq_nil, cellsEq_s, cellsEq_i, cellsEq_b, aun_not, aun_neg, hget_nil, hget_cons, hset_cons, hkill_cons, hpush_nil, hpush_cons, idx_nil, idx_cons, sub_cons, take_cons, take_nil', put_cons, drop_cons, cells_agg, cells_str, cells_int, cells_bool, cells_ptr, cells_nilptr, cells_nilslice, cells_slice, cells_imm, cells_func, resVals_nil, resVals_t, retOf_one, retOf_two, retOf_nil, evOp, isRead, fixOp, ldCell, ldCells, fAddr, iAddr_slice, iAddr_imm, aAddr_ptr, aAddr_iptr, inRange_int, bound_none, bound_int, mayGrow, fillParts, lenOf, lenSl, evSlice, topOf, evAppend, elemsOf, grown, rowF_eq, rowQ_eq, Option.map_some, Option.map_none, Option.bind_some, Option.bind_none, Option.isSome_some, Option.isSome_none, List.map_cons, List.map_nil, List.length_cons, List.length_nil, List.append_nil, List.nil_append, List.cons_append, List.all_cons, List.all_nil, AV.isCell, Bool.and_true, Bool.true_and, Bool.and_false, Bool.false_and, Bool.or_true, Bool.true_or, Bool.or_false, Bool.false_or, Bool.not_true, Bool.not_false, Bool.false_eq_true, Bool.true_eq_false, and_true, true_and, and_false, false_and, or_true, true_or, or_false, false_or, not_true_eq_false, not_false_eq_true, decide_true, decide_false, decide_eq_true_eq, if_true, if_false, ite_true, ite_false, ↓reduceIte, Nat.reduceAdd, Nat.reduceSub, Nat.reduceMul, Nat.reduceEqDiff, Nat.reduceLeDiff, Nat.reduceLT, Nat.succ_ne_zero, Nat.zero_add, Nat.add_zero, Nat.zero_mul, Nat.mul_one, Nat.one_mul, Nat.le_refl, Nat.sub_zero, Int.reduceLT, Int.reduceLE, Int.reduceEq, Int.reduceNe, Int.reduceToNat, Int.reduceAdd, Int.reduceSub, Int.toNat_zero, reduceCtorEq, eq_self, ne_eq, beq_self_eq_true, Nat.reduceBEq, Nat.reduceBNe, List.mem_cons, List.not_mem_nil, false_implies, true_implies, implies_true, forall_const, List.drop_zero, List.drop_nil, List.take_zero, List.drop_length, List.length_append, cast_zero, cast_one, Int.cast_ofNat_Int, List.replicate_zero, List.replicate_succ, List.flatten_cons, List.flatten_nil, h0, h1, h2, h3, h4, g0, g1, hb, less_total a b, h]
  trivial
theorem bad1 (a b x : List UInt8) (n : Int) (h0 : ¬ (300 : Int) < a.length) (h1 : ¬ (300 : Int) < b.length) (h2 : ¬ (300 : Int) < x.length) (h3 : ¬ n < 1) (h4 : ¬ 16 < n) (g0 : ¬ (640 : Int) < a.length) (g1 : ¬ (640 : Int) < b.length)
    (hb : b = []) (h : (lessBytes x a || x == a) = true) : sF C2 s4 [.agg [.str a, .str b], .str x, .int .i64 n] [] Yes := by
  subst hb
  simp only [C2_app, C1_app, C0_app, awakeD_eq, y4, x4_0, r4_0, x4_1, r4_1, x4_2, r4_2, x4_3, x4_4, x4_5, x4_6, r4_6, x4_7, r4_7, x4_8, x4_9, x4_10, x4_11, r4_11, x4_12, r4_12, x4_13, r4_13, x4_14, x4_15, x4_16, x4_17, r4_17, x4_18, r4_18, x4_19, x4_20, x4_21, x4_22, r4_22, x4_23, r4_23, x4_24, r4_24, x4_25, x4_26, x4_27, x4_28, x4_29, r4_29, x4_30, r4_30, x4_31, r4_31, x4_32, r4_32, x4_33, r4_33, x4_34, r4_34, x4_35, x4_36, x4_37, x4_38, r4_38, x4_39, r4_39, x4_40, x4_41, x4_42, x4_43, r4_43, x4_44, x4_45, x4_46, x4_47, x4_48, x4_49, x4_50, x4_51, x4_52, x4_53, x4_54, x4_55, x4_56, x4_57, y11, x11_0, r11_0, x11_1, r11_1, x11_2, r11_2, x11_3, x11_4, r11_4, x11_5, r11_5, x11_6, x11_7, x11_8, x11_9, x11_10, x11_11, x11_12, r11_12, x11_13, r11_13, x11_14, r11_14, x11_15, x11_16, x11_17, x11_18, x11_19, y12, x12_0, r12_0, x12_1, r12_1, x12_2, r12_2, x12_3, x12_4, x12_5, x12_6, t12_6, x12_7, x12_8, x12_9, y13, x13_0, r13_0, x13_1, r13_1, x13_2, x13_3, y14, x14_0, r14_0, x14_1, r14_1, x14_2, r14_2, x14_3, x14_4, r14_4, x14_5, r14_5, x14_6, x14_7, r14_7, x14_8, r14_8, x14_9, x14_10, t14_10, x14_11, t14_11, x14_12, x14_13, x14_14, r14_14, x14_15, x14_16, x14_17, x14_18, x14_19, x14_20, x14_21, x14_22, x14_23, x14_24, x14_25, t14_25, x14_26, t14_26, x14_27, t14_27, x14_28, r14_28, x14_29, x14_30, x14_31, x14_32, x14_33, x14_34, y15, x15_0, r15_0, x15_1, r15_1, x15_2, r15_2, x15_3, x15_4, x15_5, x15_6, r15_6, x15_7, x15_8, x15_9, y16, x16_0, r16_0, x16_1, r16_1, x16_2, r16_2, x16_3, x16_4, x16_5, x16_6, r16_6, x16_7, x16_8, x16_9, y30, x30_0, r30_0, x30_1, r30_1, x30_2, x30_3, y31, x31_0, r31_0, x31_1, r31_1, x31_2, r31_2, x31_3, x31_4, x31_5, x31_6, r31_6, x31_7, x31_8, x31_9, y32, x32_0, r32_0, x32_1, r32_1, x32_2, r32_2, x32_3, x32_4, x32_5, x32_6, r32_6, x32_7, x32_8, x32_9, sC_skip, sC_exit, sC_ret, condK_true, condK_false, unw_seq_normal, unw_seq_exit, unw_seq_ret, unw_block_normal, unw_block_exit, unw_block_ret, unw_lp_exit, unw_lp_ret, unw_fin, retQ_ret, retQ_normal, retQ_exit, nxt_app, nxtQ_app, nxtL_app, guardK_tt, guardK_ff, guardK_tf, guardK_ft, guardK_u, guardQ_tt, guardQ_ff, guardQ_tf, guardQ_ft, guardQ_u, guardL_tt, guardL_ff, guardL_tf, guardL_ft, guardL_u, sOps_nil, sOps_cons, sOps_guard, sTree_leaf, sTree_stop, sTree_quiet, sTree_loud, sTree_quietG, sTree_loudG, goO_some, goO_none, sOp_call, callvP_func, sOp_callv, putD_some, putD_none, still_nil, still_none, still_cons, sOp_move, sOp_nilCheck, sOp_pick, sOp_alloc, sOp_box, sOp_build, sOp_buildSlice, sOp_load1, sOp_loadN, sOp_store, sOp_bin, sOp_un, sOp_convInt, sOp_convSame, sOp_resame, sOp_toBytes, sOp_ofBytes, sOp_mkfunc, sOp_makeSlice, sOp_sliceStr, sOp_slice, sOp_sliceArr, sOp_fieldAddr, sOp_field1, sOp_fieldN, sOp_indexAddr, sOp_indexArrAddr, sOp_indexStr, sOp_indexArr1, sOp_indexArrN, sOp_extract, sOp_lenStr, sOp_lenSl, sOp_lenArr, sOp_append, sOp_copy, sOp_minmax, sOp_capOf, ev_t, ev_c, argEnv_nil, argEnv_cons, envL_nil, envL_cons, abin_add, abin_sub, abin_mul, abin_quo, abin_rem, abin_eql, abin_neq, abin_lss, abin_leq, abin_gtr, abin_geq, abin_shl, abin_shr, abin_sadd, abin_seql, abin_sneq, abin_slss, abin_sleq, abin_sgtr, abin_sgeq, abin_beql, abin_bneq, abin_p1, abin_p2, abin_p3, abin_p4, abin_p5, abin_p6, abin_s3, abin_s4, abin_s5, abin_s6, abin_f1, abin_f2, abin_f3, abin_f4, abin_feq, abin_fne, cellsEq_nil, cellsEq_s, cellsEq_i, cellsEq_b, aun_not, aun_neg, hget_nil, hget_cons, hset_cons, hkill_cons, hpush_nil, hpush_cons, idx_nil, idx_cons, sub_cons, take_cons, take_nil', put_cons, drop_cons, cells_agg, cells_str, cells_int, cells_bool, cells_ptr, cells_nilptr, cells_nilslice, cells_slice, cells_imm, cells_func, resVals_nil, resVals_t, retOf_one, retOf_two, retOf_nil, evOp, isRead, fixOp, ldCell, ldCells, fAddr, iAddr_slice, iAddr_imm, aAddr_ptr, aAddr_iptr, inRange_int, bound_none, bound_int, mayGrow, fillParts, lenOf, lenSl, evSlice, topOf, evAppend, elemsOf, grown, rowF_eq, rowQ_eq, Option.map_some, Option.map_none, Option.bind_some, Option.bind_none, Option.isSome_some, Option.isSome_none, List.map_cons, List.map_nil, List.length_cons, List.length_nil, List.append_nil, List.nil_append, List.cons_append, List.all_cons, List.all_nil, AV.isCell, Bool.and_true, Bool.true_and, Bool.and_false, Bool.false_and, Bool.or_true, Bool.true_or, Bool.or_false, Bool.false_or, Bool.not_true, Bool.not_false, Bool.false_eq_true, Bool.true_eq_false, and_true, true_and, and_false, false_and, or_true, true_or, or_false, false_or, not_true_eq_false, not_false_eq_true, decide_true, decide_false, decide_eq_true_eq, if_true, if_false, ite_true, ite_false, ↓reduceIte, Nat.reduceAdd, Nat.reduceSub, Nat.reduceMul, Nat.reduceEqDiff, Nat.reduceLeDiff, Nat.reduceLT, Nat.succ_ne_zero, Nat.zero_add, Nat.add_zero, Nat.zero_mul, Nat.mul_one, Nat.one_mul, Nat.le_refl, Nat.sub_zero, Int.reduceLT, Int.reduceLE, Int.reduceEq, Int.reduceNe, Int.reduceToNat, Int.reduceAdd, Int.reduceSub, Int.toNat_zero, reduceCtorEq, eq_self, ne_eq, beq_self_eq_true, Nat.reduceBEq, Nat.reduceBNe, List.mem_cons, List.not_mem_nil, false_implies, true_implies, implies_true, forall_const, List.drop_zero, List.drop_nil, List.take_zero, List.drop_length, List.length_append, cast_zero, cast_one, Int.cast_ofNat_Int, List.replicate_zero, List.replicate_succ, List.flatten_cons, List.flatten_nil, h0, h1, h2, h3, h4, g0, g1, h]
  trivial
theorem good1 (a b x : List UInt8) (n : Int) (h0 : ¬ (300 : Int) < a.length) (h1 : ¬ (300 : Int) < b.length) (h2 : ¬ (300 : Int) < x.length) (h3 : ¬ n < 1) (h4 : ¬ 16 < n) (g0 : ¬ (640 : Int) < a.length) (g1 : ¬ (640 : Int) < b.length)
    (hb : b = []) (h : (lessBytes x a || x == a) = false) : sF C2 s4 [.agg [.str a, .str b], .str x, .int .i64 n] [] Yes := by
  subst hb
  simp only [C2_app, C1_app, C0_app, awakeD_eq, y4, x4_0, r4_0, x4_1, r4_1, x4_2, r4_2, x4_3, x4_4, x4_5, x4_6, r4_6, x4_7, r4_7, x4_8, x4_9, x4_10, x4_11, r4_11, x4_12, r4_12, x4_13, r4_13, x4_14, x4_15, x4_16, x4_17, r4_17, x4_18, r4_18, x4_19, x4_20, x4_21, x4_22, r4_22, x4_23, r4_23, x4_24, r4_24, x4_25, x4_26, x4_27, x4_28, x4_29, r4_29, x4_30, r4_30, x4_31, r4_31, x4_32, r4_32, x4_33, r4_33, x4_34, r4_34, x4_35, x4_36, x4_37, x4_38, r4_38, x4_39, r4_39, x4_40, x4_41, x4_42, x4_43, r4_43, x4_44, x4_45, x4_46, x4_47, x4_48, x4_49, x4_50, x4_51, x4_52, x4_53, x4_54, x4_55, x4_56, x4_57, y11, x11_0, r11_0, x11_1, r11_1, x11_2, r11_2, x11_3, x11_4, r11_4, x11_5, r11_5, x11_6, x11_7, x11_8, x11_9, x11_10, x11_11, x11_12, r11_12, x11_13, r11_13, x11_14, r11_14, x11_15, x11_16, x11_17, x11_18, x11_19, y12, x12_0, r12_0, x12_1, r12_1, x12_2, r12_2, x12_3, x12_4, x12_5, x12_6, t12_6, x12_7, x12_8, x12_9, y13, x13_0, r13_0, x13_1, r13_1, x13_2, x13_3, y14, x14_0, r14_0, x14_1, r14_1, x14_2, r14_2, x14_3, x14_4, r14_4, x14_5, r14_5, x14_6, x14_7, r14_7, x14_8, r14_8, x14_9, x14_10, t14_10, x14_11, t14_11, x14_12, x14_13, x14_14, r14_14, x14_15, x14_16, x14_17, x14_18, x14_19, x14_20, x14_21, x14_22, x14_23, x14_24, x14_25, t14_25, x14_26, t14_26, x14_27, t14_27, x14_28, r14_28, x14_29, x14_30, x14_31, x14_32, x14_33, x14_34, y15, x15_0, r15_0, x15_1, r15_1, x15_2, r15_2, x15_3, x15_4, x15_5, x15_6, r15_6, x15_7, x15_8, x15_9, y16, x16_0, r16_0, x16_1, r16_1, x16_2, r16_2, x16_3, x16_4, x16_5, x16_6, r16_6, x16_7, x16_8, x16_9, y30, x30_0, r30_0, x30_1, r30_1, x30_2, x30_3, y31, x31_0, r31_0, x31_1, r31_1, x31_2, r31_2, x31_3, x31_4, x31_5, x31_6, r31_6, x31_7, x31_8, x31_9, y32, x32_0, r32_0, x32_1, r32_1, x32_2, r32_2, x32_3, x32_4, x32_5, x32_6, r32_6, x32_7, x32_8, x32_9, sC_skip, sC_exit, sC_ret, condK_true, condK_false, unw_seq_normal, unw_seq_exit, unw_seq_ret, unw_block_normal, unw_block_exit, unw_block_ret, unw_lp_exit, unw_lp_ret, unw_fin, retQ_ret, retQ_normal, retQ_exit, nxt_app, nxtQ_app, nxtL_app, guardK_tt, guardK_ff, guardK_tf, guardK_ft, guardK_u, guardQ_tt, guardQ_ff, guardQ_tf, guardQ_ft, guardQ_u, guardL_tt, guardL_ff, guardL_tf, guardL_ft, guardL_u, sOps_nil, sOps_cons, sOps_guard, sTree_leaf, sTree_stop, sTree_quiet, sTree_loud, sTree_quietG, sTree_loudG, goO_some, goO_none, sOp_call, callvP_func, sOp_callv, putD_some, putD_none, still_nil, still_none, still_cons, sOp_move, sOp_nilCheck, sOp_pick, sOp_alloc, sOp_box, sOp_build, sOp_buildSlice, sOp_load1, sOp_loadN, sOp_store, sOp_bin, sOp_un, sOp_convInt, sOp_convSame, sOp_resame, sOp_toBytes, sOp_ofBytes, sOp_mkfunc, sOp_makeSlice, sOp_sliceStr, sOp_slice, sOp_sliceArr, sOp_fieldAddr, sOp_field1, sOp_fieldN, sOp_indexAddr, sOp_indexArrAddr, sOp_indexStr, sOp_indexArr1, sOp_indexArrN, sOp_extract, sOp_lenStr, sOp_lenSl, sOp_lenArr, sOp_append, sOp_copy, sOp_minmax, sOp_capOf, ev_t, ev_c, argEnv_nil, argEnv_cons, envL_nil, envL_cons, abin_add, abin_sub, abin_mul, abin_quo, abin_rem, abin_eql, abin_neq, abin_lss, abin_leq, abin_gtr, abin_geq, abin_shl, abin_shr, abin_sadd, abin_seql, abin_sneq, abin_slss, abin_sleq, abin_sgtr, abin_sgeq, abin_beql, abin_bneq, abin_p1, abin_p2, abin_p3, abin_p4, abin_p5, abin_p6, abin_s3, abin_s4, abin_s5, abin_s6, abin_f1, abin_f2, abin_f3, abin_f4, abin_feq, abin_fne, cellsEq_nil, cellsEq_s, cellsEq_i, cellsEq_b, aun_not, aun_neg, hget_nil, hget_cons, hset_cons, hkill_cons, hpush_nil, hpush_cons, idx_nil, idx_cons, sub_cons, take_cons, take_nil', put_cons, drop_cons, cells_agg, cells_str, cells_int, cells_bool, cells_ptr, cells_nilptr, cells_nilslice, cells_slice, cells_imm, cells_func, resVals_nil, resVals_t, retOf_one, retOf_two, retOf_nil, evOp, isRead, fixOp, ldCell, ldCells, fAddr, iAddr_slice, iAddr_imm, aAddr_ptr, aAddr_iptr, inRange_int, bound_none, bound_int, mayGrow, fillParts, lenOf, lenSl, evSlice, topOf, evAppend, elemsOf, grown, rowF_eq, rowQ_eq, Option.map_some, Option.map_none, Option.bind_some, Option.bind_none, Option.isSome_some, Option.isSome_none, List.map_cons, List.map_nil, List.length_cons, List.length_nil, List.append_nil, List.nil_append, List.cons_append, List.all_cons, List.all_nil, AV.isCell, Bool.and_true, Bool.true_and, Bool.and_false, Bool.false_and, Bool.or_true, Bool.true_or, Bool.or_false, Bool.false_or, Bool.not_true, Bool.not_false, Bool.false_eq_true, Bool.true_eq_false, and_true, true_and, and_false, false_and, or_true, true_or, or_false, false_or, not_true_eq_false, not_false_eq_true, decide_true, decide_false, decide_eq_true_eq, if_true, if_false, ite_true, ite_false, ↓reduceIte, Nat.reduceAdd, Nat.reduceSub, Nat.reduceMul, Nat.reduceEqDiff, Nat.reduceLeDiff, Nat.reduceLT, Nat.succ_ne_zero, Nat.zero_add, Nat.add_zero, Nat.zero_mul, Nat.mul_one, Nat.one_mul, Nat.le_refl, Nat.sub_zero, Int.reduceLT, Int.reduceLE, Int.reduceEq, Int.reduceNe, Int.reduceToNat, Int.reduceAdd, Int.reduceSub, Int.toNat_zero, reduceCtorEq, eq_self, ne_eq, beq_self_eq_true, Nat.reduceBEq, Nat.reduceBNe, List.mem_cons, List.not_mem_nil, false_implies, true_implies, implies_true, forall_const, List.drop_zero, List.drop_nil, List.take_zero, List.drop_length, List.length_append, cast_zero, cast_one, Int.cast_ofNat_Int, List.replicate_zero, List.replicate_succ, List.flatten_cons, List.flatten_nil, h0, h1, h2, h3, h4, g0, g1, h]
  trivial
theorem bad2 (a b x : List UInt8) (n : Int) (h0 : ¬ (300 : Int) < a.length) (h1 : ¬ (300 : Int) < b.length) (h2 : ¬ (300 : Int) < x.length) (h3 : ¬ n < 1) (h4 : ¬ 16 < n) (g0 : ¬ (640 : Int) < a.length) (g1 : ¬ (640 : Int) < b.length)
    (hb : ¬ b = []) (ht : (lessBytes b a || b == a) = false) (h : (lessBytes x a || x == a) = true) : sF C2 s4 [.agg [.str a, .str b], .str x, .int .i64 n] [] Yes := by
  simp only [C2_app, C1_app, C0_app, awakeD_eq, y4, x4_0, r4_0, x4_1, r4_1, x4_2, r4_2, x4_3, x4_4, x4_5, x4_6, r4_6, x4_7, r4_7, x4_8, x4_9, x4_10, x4_11, r4_11, x4_12, r4_12, x4_13, r4_13, x4_14, x4_15, x4_16, x4_17, r4_17, x4_18, r4_18, x4_19, x4_20, x4_21, x4_22, r4_22, x4_23, r4_23, x4_24, r4_24, x4_25, x4_26, x4_27, x4_28, x4_29, r4_29, x4_30, r4_30, x4_31, r4_31, x4_32, r4_32, x4_33, r4_33, x4_34, r4_34, x4_35, x4_36, x4_37, x4_38, r4_38, x4_39, r4_39, x4_40, x4_41, x4_42, x4_43, r4_43, x4_44, x4_45, x4_46, x4_47, x4_48, x4_49, x4_50, x4_51, x4_52, x4_53, x4_54, x4_55, x4_56, x4_57, y11, x11_0, r11_0, x11_1, r11_1, x11_2, r11_2, x11_3, x11_4, r11_4, x11_5, r11_5, x11_6, x11_7, x11_8, x11_9, x11_10, x11_11, x11_12, r11_12, x11_13, r11_13, x11_14, r11_14, x11_15, x11_16, x11_17, x11_18, x11_19, y12, x12_0, r12_0, x12_1, r12_1, x12_2, r12_2, x12_3, x12_4, x12_5, x12_6, t12_6, x12_7, x12_8, x12_9, y13, x13_0, r13_0, x13_1, r13_1, x13_2, x13_3, y14, x14_0, r14_0, x14_1, r14_1, x14_2, r14_2, x14_3, x14_4, r14_4, x14_5, r14_5, x14_6, x14_7, r14_7, x14_8, r14_8, x14_9, x14_10, t14_10, x14_11, t14_11, x14_12, x14_13, x14_14, r14_14, x14_15, x14_16, x14_17, x14_18, x14_19, x14_20, x14_21, x14_22, x14_23, x14_24, x14_25, t14_25, x14_26, t14_26, x14_27, t14_27, x14_28, r14_28, x14_29, x14_30, x14_31, x14_32, x14_33, x14_34, y15, x15_0, r15_0, x15_1, r15_1, x15_2, r15_2, x15_3, x15_4, x15_5, x15_6, r15_6, x15_7, x15_8, x15_9, y16, x16_0, r16_0, x16_1, r16_1, x16_2, r16_2, x16_3, x16_4, x16_5, x16_6, r16_6, x16_7, x16_8, x16_9, y30, x30_0, r30_0, x30_1, r30_1, x30_2, x30_3, y31, x31_0, r31_0, x31_1, r31_1, x31_2, r31_2, x31_3, x31_4, x31_5, x31_6, r31_6, x31_7, x31_8, x31_9, y32, x32_0, r32_0, x32_1, r32_1, x32_2, r32_2, x32_3, x32_4, x32_5, x32_6, r32_6, x32_7, x32_8, x32_9, sC_skip, sC_exit, sC_ret, condK_true, condK_false, unw_seq_normal, unw_seq_exit, unw_seq_ret, unw_block_normal, unw_block_exit, unw_block_ret, unw_lp_exit, unw_lp_ret, unw_fin, retQ_ret, retQ_normal, retQ_exit, nxt_app, nxtQ_app, nxtL_app, guardK_tt, guardK_ff, guardK_tf, guardK_ft, guardK_u, guardQ_tt, guardQ_ff, guardQ_tf, guardQ_ft, guardQ_u, guardL_tt, guardL_ff, guardL_tf, guardL_ft, guardL_u, sOps_nil, sOps_cons, sOps_guard, sTree_leaf, sTree_stop, sTree_quiet, sTree_loud, sTree_quietG, sTree_loudG, goO_some, goO_none, sOp_call, callvP_func, sOp_callv, putD_some, putD_none, still_nil, still_none, still_cons, sOp_move, sOp_nilCheck, sOp_pick, sOp_alloc, sOp_box, sOp_build, sOp_buildSlice, sOp_load1, sOp_loadN, sOp_store, sOp_bin, sOp_un, sOp_convInt, sOp_convSame, sOp_resame, sOp_toBytes, sOp_ofBytes, sOp_mkfunc, sOp_makeSlice, sOp_sliceStr, sOp_slice, sOp_sliceArr, sOp_fieldAddr, sOp_field1, sOp_fieldN, sOp_indexAddr, sOp_indexArrAddr, sOp_indexStr, sOp_indexArr1, sOp_indexArrN, sOp_extract, sOp_lenStr, sOp_lenSl, sOp_lenArr, sOp_append, sOp_copy, sOp_minmax, sOp_capOf, ev_t, ev_c, argEnv_nil, argEnv_cons, envL_nil, envL_cons, abin_add, abin_sub, abin_mul, abin_quo, abin_rem, abin_eql, abin_neq, abin_lss, abin_leq, abin_gtr, abin_geq, abin_shl, abin_shr, abin_sadd, abin_seql, abin_sneq, abin_slss, abin_sleq, abin_sgtr, abin_sgeq, abin_beql, abin_bneq, abin_p1, abin_p2, abin_p3, abin_p4, abin_p5, abin_p6, abin_s3, abin_s4, abin_s5, abin_s6, abin_f1, abin_f2, abin_f3, abin_f4, abin_feq, abin_fne, cellsEq_nil, cellsEq_s, cellsEq_i, cellsEq_b, aun_not, aun_neg, hget_nil, hget_cons, hset_cons, hkill_cons, hpush_nil, hpush_cons, idx_nil, idx_cons, sub_cons, take_cons, take_nil', put_cons, drop_cons, cells_agg, cells_str, cells_int, cells_bool, cells_ptr, cells_nilptr, cells_nilslice, cells_slice, cells_imm, cells_func, resVals_nil, resVals_t, retOf_one, retOf_two, retOf_nil, evOp, isRead, fixOp, ldCell, ldCells, fAddr, iAddr_slice, iAddr_imm, aAddr_ptr, aAddr_iptr, inRange_int, bound_none, bound_int, mayGrow, fillParts, lenOf, lenSl, evSlice, topOf, evAppend, elemsOf, grown, rowF_eq, rowQ_eq, Option.map_some, Option.map_none, Option.bind_some, Option.bind_none, Option.isSome_some, Option.isSome_none, List.map_cons, List.map_nil, List.length_cons, List.length_nil, List.append_nil, List.nil_append, List.cons_append, List.all_cons, List.all_nil, AV.isCell, Bool.and_true, Bool.true_and, Bool.and_false, Bool.false_and, Bool.or_true, Bool.true_or, Bool.or_false, Bool.false_or, Bool.not_true, Bool.not_false, Bool.false_eq_true, Bool.true_eq_false, and_true, true_and, and_false, false_and, or_true, true_or, or_false, false_or, not_true_eq_false, not_false_eq_true, decide_true, decide_false, decide_eq_true_eq, if_true, if_false, ite_true, ite_false, ↓reduceIte, Nat.reduceAdd, Nat.reduceSub, Nat.reduceMul, Nat.reduceEqDiff, Nat.reduceLeDiff, Nat.reduceLT, Nat.succ_ne_zero, Nat.zero_add, Nat.add_zero, Nat.zero_mul, Nat.mul_one, Nat.one_mul, Nat.le_refl, Nat.sub_zero, Int.reduceLT, Int.reduceLE, Int.reduceEq, Int.reduceNe, Int.reduceToNat, Int.reduceAdd, Int.reduceSub, Int.toNat_zero, reduceCtorEq, eq_self, ne_eq, beq_self_eq_true, Nat.reduceBEq, Nat.reduceBNe, List.mem_cons, List.not_mem_nil, false_implies, true_implies, implies_true, forall_const, List.drop_zero, List.drop_nil, List.take_zero, List.drop_length, List.length_append, cast_zero, cast_one, Int.cast_ofNat_Int, List.replicate_zero, List.replicate_succ, List.flatten_cons, List.flatten_nil, h0, h1, h2, h3, h4, g0, g1, less_total a b, hb, ht, h]
  trivial
theorem bad3 (a b x : List UInt8) (n : Int) (h0 : ¬ (300 : Int) < a.length) (h1 : ¬ (300 : Int) < b.length) (h2 : ¬ (300 : Int) < x.length) (h3 : ¬ n < 1) (h4 : ¬ 16 < n) (g0 : ¬ (640 : Int) < a.length) (g1 : ¬ (640 : Int) < b.length)
    (hb : ¬ b = []) (ht : (lessBytes b a || b == a) = false) (h : (lessBytes x a || x == a) = false) (hm : (lessBytes x b || x == b) = false) : sF C2 s4 [.agg [.str a, .str b], .str x, .int .i64 n] [] Yes := by
  simp only [C2_app, C1_app, C0_app, awakeD_eq, y4, x4_0, r4_0, x4_1, r4_1, x4_2, r4_2, x4_3, x4_4, x4_5, x4_6, r4_6, x4_7, r4_7, x4_8, x4_9, x4_10, x4_11, r4_11, x4_12, r4_12, x4_13, r4_13, x4_14, x4_15, x4_16, x4_17, r4_17, x4_18, r4_18, x4_19, x4_20, x4_21, x4_22, r4_22, x4_23, r4_23, x4_24, r4_24, x4_25, x4_26, x4_27, x4_28, x4_29, r4_29, x4_30, r4_30, x4_31, r4_31, x4_32, r4_32, x4_33, r4_33, x4_34, r4_34, x4_35, x4_36, x4_37, x4_38, r4_38, x4_39, r4_39, x4_40, x4_41, x4_42, x4_43, r4_43, x4_44, x4_45, x4_46, x4_47, x4_48, x4_49, x4_50, x4_51, x4_52, x4_53, x4_54, x4_55, x4_56, x4_57, y11, x11_0, r11_0, x11_1, r11_1, x11_2, r11_2, x11_3, x11_4, r11_4, x11_5, r11_5, x11_6, x11_7, x11_8, x11_9, x11_10, x11_11, x11_12, r11_12, x11_13, r11_13, x11_14, r11_14, x11_15, x11_16, x11_17, x11_18, x11_19, y12, x12_0, r12_0, x12_1, r12_1, x12_2, r12_2, x12_3, x12_4, x12_5, x12_6, t12_6, x12_7, x12_8, x12_9, y13, x13_0, r13_0, x13_1, r13_1, x13_2, x13_3, y14, x14_0, r14_0, x14_1, r14_1, x14_2, r14_2, x14_3, x14_4, r14_4, x14_5, r14_5, x14_6, x14_7, r14_7, x14_8, r14_8, x14_9, x14_10, t14_10, x14_11, t14_11, x14_12, x14_13, x14_14, r14_14, x14_15, x14_16, x14_17, x14_18, x14_19, x14_20, x14_21, x14_22, x14_23, x14_24, x14_25, t14_25, x14_26, t14_26, x14_27, t14_27, x14_28, r14_28, x14_29, x14_30, x14_31, x14_32, x14_33, x14_34, y15, x15_0, r15_0, x15_1, r15_1, x15_2, r15_2, x15_3, x15_4, x15_5, x15_6, r15_6, x15_7, x15_8, x15_9, y16, x16_0, r16_0, x16_1, r16_1, x16_2, r16_2, x16_3, x16_4, x16_5, x16_6, r16_6, x16_7, x16_8, x16_9, y30, x30_0, r30_0, x30_1, r30_1, x30_2, x30_3, y31, x31_0, r31_0, x31_1, r31_1, x31_2, r31_2, x31_3, x31_4, x31_5, x31_6, r31_6, x31_7, x31_8, x31_9, y32, x32_0, r32_0, x32_1, r32_1, x32_2, r32_2, x32_3, x32_4, x32_5, x32_6, r32_6, x32_7, x32_8, x32_9, sC_skip, sC_exit, sC_ret, condK_true, condK_false, unw_seq_normal, unw_seq_exit, unw_seq_ret, unw_block_normal, unw_block_exit, unw_block_ret, unw_lp_exit, unw_lp_ret, unw_fin, retQ_ret, retQ_normal, retQ_exit, nxt_app, nxtQ_app, nxtL_app, guardK_tt, guardK_ff, guardK_tf, guardK_ft, guardK_u, guardQ_tt, guardQ_ff, guardQ_tf, guardQ_ft, guardQ_u, guardL_tt, guardL_ff, guardL_tf, guardL_ft, guardL_u, sOps_nil, sOps_cons, sOps_guard, sTree_leaf, sTree_stop, sTree_quiet, sTree_loud, sTree_quietG, sTree_loudG, goO_some, goO_none, sOp_call, callvP_func, sOp_callv, putD_some, putD_none, still_nil, still_none, still_cons, sOp_move, sOp_nilCheck, sOp_pick, sOp_alloc, sOp_box, sOp_build, sOp_buildSlice, sOp_load1, sOp_loadN, sOp_store, sOp_bin, sOp_un, sOp_convInt, sOp_convSame, sOp_resame, sOp_toBytes, sOp_ofBytes, sOp_mkfunc, sOp_makeSlice, sOp_sliceStr, sOp_slice, sOp_sliceArr, sOp_fieldAddr, sOp_field1, sOp_fieldN, sOp_indexAddr, sOp_indexArrAddr, sOp_indexStr, sOp_indexArr1, sOp_indexArrN, sOp_extract, sOp_lenStr, sOp_lenSl, sOp_lenArr, sOp_append, sOp_copy, sOp_minmax, sOp_capOf, ev_t, ev_c, argEnv_nil, argEnv_cons, envL_nil, envL_cons, abin_add, abin_sub, abin_mul, abin_quo, abin_rem, abin_eql, abin_neq, abin_lss, abin_leq, abin_gtr, abin_geq, abin_shl, abin_shr, abin_sadd, abin_seql, abin_sneq, abin_slss, abin_sleq, abin_sgtr, abin_sgeq, abin_beql, abin_bneq, abin_p1, abin_p2, abin_p3, abin_p4, abin_p5, abin_p6, abin_s3, abin_s4, abin_s5, abin_s6, abin_f1, abin_f2, abin_f3, abin_f4, abin_feq, abin_fne, cellsEq_nil, cellsEq_s, cellsEq_i, cellsEq_b, aun_not, aun_neg, hget_nil, hget_cons, hset_cons, hkill_cons, hpush_nil, hpush_cons, idx_nil, idx_cons, sub_cons, take_cons, take_nil', put_cons, drop_cons, cells_agg, cells_str, cells_int, cells_bool, cells_ptr, cells_nilptr, cells_nilslice, cells_slice, cells_imm, cells_func, resVals_nil, resVals_t, retOf_one, retOf_two, retOf_nil, evOp, isRead, fixOp, ldCell, ldCells, fAddr, iAddr_slice, iAddr_imm, aAddr_ptr, aAddr_iptr, inRange_int, bound_none, bound_int, mayGrow, fillParts, lenOf, lenSl, evSlice, topOf, evAppend, elemsOf, grown, rowF_eq, rowQ_eq, Option.map_some, Option.map_none, Option.bind_some, Option.bind_none, Option.isSome_some, Option.isSome_none, List.map_cons, List.map_nil, List.length_cons, List.length_nil, List.append_nil, List.nil_append, List.cons_append, List.all_cons, List.all_nil, AV.isCell, Bool.and_true, Bool.true_and, Bool.and_false, Bool.false_and, Bool.or_true, Bool.true_or, Bool.or_false, Bool.false_or, Bool.not_true, Bool.not_false, Bool.false_eq_true, Bool.true_eq_false, and_true, true_and, and_false, false_and, or_true, true_or, or_false, false_or, not_true_eq_false, not_false_eq_true, decide_true, decide_false, decide_eq_true_eq, if_true, if_false, ite_true, ite_false, ↓reduceIte, Nat.reduceAdd, Nat.reduceSub, Nat.reduceMul, Nat.reduceEqDiff, Nat.reduceLeDiff, Nat.reduceLT, Nat.succ_ne_zero, Nat.zero_add, Nat.add_zero, Nat.zero_mul, Nat.mul_one, Nat.one_mul, Nat.le_refl, Nat.sub_zero, Int.reduceLT, Int.reduceLE, Int.reduceEq, Int.reduceNe, Int.reduceToNat, Int.reduceAdd, Int.reduceSub, Int.toNat_zero, reduceCtorEq, eq_self, ne_eq, beq_self_eq_true, Nat.reduceBEq, Nat.reduceBNe, List.mem_cons, List.not_mem_nil, false_implies, true_implies, implies_true, forall_const, List.drop_zero, List.drop_nil, List.take_zero, List.drop_length, List.length_append, cast_zero, cast_one, Int.cast_ofNat_Int, List.replicate_zero, List.replicate_succ, List.flatten_cons, List.flatten_nil, h0, h1, h2, h3, h4, g0, g1, less_total a b, hb, ht, h, hm]
  trivial
theorem good2 (a b x : List UInt8) (n : Int) (h0 : ¬ (300 : Int) < a.length) (h1 : ¬ (300 : Int) < b.length) (h2 : ¬ (300 : Int) < x.length) (h3 : ¬ n < 1) (h4 : ¬ 16 < n) (g0 : ¬ (640 : Int) < a.length) (g1 : ¬ (640 : Int) < b.length)
    (hb : ¬ b = []) (ht : (lessBytes b a || b == a) = false) (h : (lessBytes x a || x == a) = false) (hm : (lessBytes x b || x == b) = true) : sF C2 s4 [.agg [.str a, .str b], .str x, .int .i64 n] [] Yes := by
  simp only [C2_app, C1_app, C0_app, awakeD_eq, y4, x4_0, r4_0, x4_1, r4_1, x4_2, r4_2, x4_3, x4_4, x4_5, x4_6, r4_6, x4_7, r4_7, x4_8, x4_9, x4_10, x4_11, r4_11, x4_12, r4_12, x4_13, r4_13, x4_14, x4_15, x4_16, x4_17, r4_17, x4_18, r4_18, x4_19, x4_20, x4_21, x4_22, r4_22, x4_23, r4_23, x4_24, r4_24, x4_25, x4_26, x4_27, x4_28, x4_29, r4_29, x4_30, r4_30, x4_31, r4_31, x4_32, r4_32, x4_33, r4_33, x4_34, r4_34, x4_35, x4_36, x4_37, x4_38, r4_38, x4_39, r4_39, x4_40, x4_41, x4_42, x4_43, r4_43, x4_44, x4_45, x4_46, x4_47, x4_48, x4_49, x4_50, x4_51, x4_52, x4_53, x4_54, x4_55, x4_56, x4_57, y11, x11_0, r11_0, x11_1, r11_1, x11_2, r11_2, x11_3, x11_4, r11_4, x11_5, r11_5, x11_6, x11_7, x11_8, x11_9, x11_10, x11_11, x11_12, r11_12, x11_13, r11_13, x11_14, r11_14, x11_15, x11_16, x11_17, x11_18, x11_19, y12, x12_0, r12_0, x12_1, r12_1, x12_2, r12_2, x12_3, x12_4, x12_5, x12_6, t12_6, x12_7, x12_8, x12_9, y13, x13_0, r13_0, x13_1, r13_1, x13_2, x13_3, y14, x14_0, r14_0, x14_1, r14_1, x14_2, r14_2, x14_3, x14_4, r14_4, x14_5, r14_5, x14_6, x14_7, r14_7, x14_8, r14_8, x14_9, x14_10, t14_10, x14_11, t14_11, x14_12, x14_13, x14_14, r14_14, x14_15, x14_16, x14_17, x14_18, x14_19, x14_20, x14_21, x14_22, x14_23, x14_24, x14_25, t14_25, x14_26, t14_26, x14_27, t14_27, x14_28, r14_28, x14_29, x14_30, x14_31, x14_32, x14_33, x14_34, y15, x15_0, r15_0, x15_1, r15_1, x15_2, r15_2, x15_3, x15_4, x15_5, x15_6, r15_6, x15_7, x15_8, x15_9, y16, x16_0, r16_0, x16_1, r16_1, x16_2, r16_2, x16_3, x16_4, x16_5, x16_6, r16_6, x16_7, x16_8, x16_9, y30, x30_0, r30_0, x30_1, r30_1, x30_2, x30_3, y31, x31_0, r31_0, x31_1, r31_1, x31_2, r31_2, x31_3, x31_4, x31_5, x31_6, r31_6, x31_7, x31_8, x31_9, y32, x32_0, r32_0, x32_1, r32_1, x32_2, r32_2, x32_3, x32_4, x32_5, x32_6, r32_6, x32_7, x32_8, x32_9, sC_skip, sC_exit, sC_ret, condK_true, condK_false, unw_seq_normal, unw_seq_exit, unw_seq_ret, unw_block_normal, unw_block_exit, unw_block_ret, unw_lp_exit, unw_lp_ret, unw_fin, retQ_ret, retQ_normal, retQ_exit, nxt_app, nxtQ_app, nxtL_app, guardK_tt, guardK_ff, guardK_tf, guardK_ft, guardK_u, guardQ_tt, guardQ_ff, guardQ_tf, guardQ_ft, guardQ_u, guardL_tt, guardL_ff, guardL_tf, guardL_ft, guardL_u, sOps_nil, sOps_cons, sOps_guard, sTree_leaf, sTree_stop, sTree_quiet, sTree_loud, sTree_quietG, sTree_loudG, goO_some, goO_none, sOp_call, callvP_func, sOp_callv, putD_some, putD_none, still_nil, still_none, still_cons, sOp_move, sOp_nilCheck, sOp_pick, sOp_alloc, sOp_box, sOp_build, sOp_buildSlice, sOp_load1, sOp_loadN, sOp_store, sOp_bin, sOp_un, sOp_convInt, sOp_convSame, sOp_resame, sOp_toBytes, sOp_ofBytes, sOp_mkfunc, sOp_makeSlice, sOp_sliceStr, sOp_slice, sOp_sliceArr, sOp_fieldAddr, sOp_field1, sOp_fieldN, sOp_indexAddr, sOp_indexArrAddr, sOp_indexStr, sOp_indexArr1, sOp_indexArrN, sOp_extract, sOp_lenStr, sOp_lenSl, sOp_lenArr, sOp_append, sOp_copy, sOp_minmax, sOp_capOf, ev_t, ev_c, argEnv_nil, argEnv_cons, envL_nil, envL_cons, abin_add, abin_sub, abin_mul, abin_quo, abin_rem, abin_eql, abin_neq, abin_lss, abin_leq, abin_gtr, abin_geq, abin_shl, abin_shr, abin_sadd, abin_seql, abin_sneq, abin_slss, abin_sleq, abin_sgtr, abin_sgeq, abin_beql, abin_bneq, abin_p1, abin_p2, abin_p3, abin_p4, abin_p5, abin_p6, abin_s3, abin_s4, abin_s5, abin_s6, abin_f1, abin_f2, abin_f3, abin_f4, abin_feq, abin_fne, cellsEq_nil, cellsEq_s, cellsEq_i, cellsEq_b, aun_not, aun_neg, hget_nil, hget_cons, hset_cons, hkill_cons, hpush_nil, hpush_cons, idx_nil, idx_cons, sub_cons, take_cons, take_nil', put_cons, drop_cons, cells_agg, cells_str, cells_int, cells_bool, cells_ptr, cells_nilptr, cells_nilslice, cells_slice, cells_imm, cells_func, resVals_nil, resVals_t, retOf_one, retOf_two, retOf_nil, evOp, isRead, fixOp, ldCell, ldCells, fAddr, iAddr_slice, iAddr_imm, aAddr_ptr, aAddr_iptr, inRange_int, bound_none, bound_int, mayGrow, fillParts, lenOf, lenSl, evSlice, topOf, evAppend, elemsOf, grown, rowF_eq, rowQ_eq, Option.map_some, Option.map_none, Option.bind_some, Option.bind_none, Option.isSome_some, Option.isSome_none, List.map_cons, List.map_nil, List.length_cons, List.length_nil, List.append_nil, List.nil_append, List.cons_append, List.all_cons, List.all_nil, AV.isCell, Bool.and_true, Bool.true_and, Bool.and_false, Bool.false_and, Bool.or_true, Bool.true_or, Bool.or_false, Bool.false_or, Bool.not_true, Bool.not_false, Bool.false_eq_true, Bool.true_eq_false, and_true, true_and, and_false, false_and, or_true, true_or, or_false, false_or, not_true_eq_false, not_false_eq_true, decide_true, decide_false, decide_eq_true_eq, if_true, if_false, ite_true, ite_false, ↓reduceIte, Nat.reduceAdd, Nat.reduceSub, Nat.reduceMul, Nat.reduceEqDiff, Nat.reduceLeDiff, Nat.reduceLT, Nat.succ_ne_zero, Nat.zero_add, Nat.add_zero, Nat.zero_mul, Nat.mul_one, Nat.one_mul, Nat.le_refl, Nat.sub_zero, Int.reduceLT, Int.reduceLE, Int.reduceEq, Int.reduceNe, Int.reduceToNat, Int.reduceAdd, Int.reduceSub, Int.toNat_zero, reduceCtorEq, eq_self, ne_eq, beq_self_eq_true, Nat.reduceBEq, Nat.reduceBNe, List.mem_cons, List.not_mem_nil, false_implies, true_implies, implies_true, forall_const, List.drop_zero, List.drop_nil, List.take_zero, List.drop_length, List.length_append, cast_zero, cast_one, Int.cast_ofNat_Int, List.replicate_zero, List.replicate_succ, List.flatten_cons, List.flatten_nil, h0, h1, h2, h3, h4, g0, g1, less_total a b, hb, ht, h, hm]
  trivial
theorem law (a b x : List UInt8) (n : Int) : sF C2 s4 [.agg [.str a, .str b], .str x, .int .i64 n] [] Yes := by
  by_cases h0 : (300 : Int) < a.length
  · exact short1 a b x n h0
  by_cases h1 : (300 : Int) < b.length
  · exact short2 a b x n h0 h1
  by_cases h2 : (300 : Int) < x.length
  · exact short3 a b x n h0 h1 h2
  by_cases h3 : n < 1
  · exact low a b x n h0 h1 h2 h3
  by_cases h4 : 16 < n
  · exact high a b x n h0 h1 h2 h3 h4
  have g0 : ¬ (640 : Int) < a.length := by omega
  have g1 : ¬ (640 : Int) < b.length := by omega
  by_cases hb : b = []
  · cases h : (lessBytes x a || x == a)
    · exact good1 a b x n h0 h1 h2 h3 h4 g0 g1 hb h
    · exact bad1 a b x n h0 h1 h2 h3 h4 g0 g1 hb h
  cases ht : (lessBytes b a || b == a)
  · cases h : (lessBytes x a || x == a)
    · cases hm : (lessBytes x b || x == b)
      · exact bad3 a b x n h0 h1 h2 h3 h4 g0 g1 hb ht h hm
      · exact good2 a b x n h0 h1 h2 h3 h4 g0 g1 hb ht h hm
    · exact bad2 a b x n h0 h1 h2 h3 h4 g0 g1 hb ht h
  · exact voidT a b x n h0 h1 h2 h3 h4 g0 g1 hb ht
abbrev Inp := List (List UInt8) × (List UInt8 × (Int × Unit))
def avs (p : Inp) : List AV := [.agg (p.1.flatMap fun s => [.str s]), .str p.2.1, .int .i64 p.2.2.1]
def oks (p : Inp) : Prop := (p.1.length = 2 ∧ ∀ s ∈ p.1, s.length ≤ maxLen) ∧ (p.2.1.length ≤ maxLen ∧ ((IntKind.min .i64 ≤ p.2.2.1 ∧ p.2.2.1 ≤ IntKind.max .i64) ∧ True))
theorem args : Args Try.prog Try.f4.params.toList avs oks := by
  have hp : Try.f4.params.toList = [24, 9, 3] := by kernel_rfl
  rw [hp]
  exact .cons (arg_agg (rd_array (e := 9) (by kernel_rfl) (by kernel_rfl) (rd_str (by kernel_rfl))) (.inr ⟨2, 9, by kernel_rfl⟩)) (.cons (arg_str (by kernel_rfl)) (.cons (arg_int (by kernel_rfl)) .nil))
theorem comes (y : Inp) (hy : oks y) : Tri Try.prog 4 (avs y) [] Yes := by
  obtain ⟨l, x, n, u⟩ := y
  have hl : l.length = 2 := hy.1.1
  match l, hl with
  | [a, b], _ => exact Tri.of_s c4 sound2 (law a b x n)
theorem own : ownKnob Try.prog.godebug = none := by kernel_rfl
theorem laidOut : laidOutB Try.prog = true := by kernel_rfl
set_option maxRecDepth 100000 in
theorem lifted (os : Os) (started : os.Started) (H : Type) (enc : TypeId × Value → H) :
    ReturnsInHanded {} Try.checked os 4 .any (Rows.tourTakesSpec.pre6 enc Try.prog Try.f4 Rows.tourTakesRow.domain false) (Rows.tourTakesSpec.post enc Try.prog Try.f4 false true false false) := by
  refine returnsInHanded_of_change (C := Try.checked) own started (by kernel_rfl) Try.func4
    (ChangeSpec.witness6 (enc := enc) (C := Try.checked) false ⟨#[], #[.agg #[.string ⟨#[]⟩, .string ⟨#[]⟩], .string ⟨#[]⟩, .int .i64 0], []⟩ 8 (by kernel_rfl) (by kernel_rfl) (by kernel_rfl) (by kernel_rfl)) ?_
  intro W base args0 ds gs before hval hW _ _
  have hp : Try.f4.params.toList = [24, 9, 3] := by kernel_rfl
  refine calls_post (avs := avs) (oks := oks) laidOut ?_ (by kernel_rfl) (tb := 4) (by kernel_rfl) rfl ?_ args comes hval hW
  · rw [hp]; intro t ht
    have h3 : ([24, 9, 3].all fun t => Try.prog.readableRec t && Nat.blt t Try.prog.types.size) = true := by kernel_rfl
    have := List.all_eq_true.1 h3 t ht
    rw [Bool.and_eq_true, Nat.blt_eq] at this
    exact this
  · intro ds h
    rw [hp] at h
    match ds, h with
    | [_, _, _], _ => rfl
end Go.Proofs.Ytmjnmnhpmbbmgaa.tourTakes
namespace Go.Proofs.Ytmjnmnhpmbbmgaa
open Go.ChangeShapes Go.WideShapes Go.ChangeAt Go.RowKit
theorem tourTakes_holds : Rows.TourTakesSaid :=
  OpenClaim.holds_of_wide 4 Try.f4 rfl rfl rfl rfl rfl rfl rfl ⟨rfl, rfl, rfl, rfl, rfl⟩ rfl rfl rfl rfl rfl (by kernel_rfl) Try.func4 (by kernel_rfl)
    (of_decide_eq_true (by kernel_rfl)) (by unfold Func.isWrapper; first | (rw [if_pos (by decide +kernel)]; kernel_rfl) | (rw [if_neg (by decide +kernel)]; exact ⟨rfl, rfl⟩))
    (fun os started H enc _ => tourTakes.lifted os started H enc)
end Go.Proofs.Ytmjnmnhpmbbmgaa
