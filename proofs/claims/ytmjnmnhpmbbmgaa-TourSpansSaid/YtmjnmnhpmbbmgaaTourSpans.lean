/- The law gazetteerlaw23.TourSpans returns true for every input: the parts of the tour are a chain of spans that grows by one with each page that goes on; two loops' heads hold it. No condition. -/
import Derived.Test.YtmjnmnhpmbbmgaaRows
import Derived.Test.YtmjnmnhpmbbmgaaK22
import Derived.Test.YtmjnmnhpmbbmgaaK26
import Derived.Sort.Walk0
set_option linter.unusedVariables false
set_option linter.unusedSimpArgs false
namespace Go.Proofs.Ytmjnmnhpmbbmgaa.tourSpans
open Go.ChangeShapes Go.WideShapes Go.ChangeAt Go.RowKit Go.Gz
section
variable {C : PCall} {n0 : Nat} {R : MExit → Env → AHeap → Prop} {k : Cont} {e : Env} {σ : AHeap}
def r7_0 : List MOper := [⟨(some 2), .move (.c (.bool false)), none⟩]
def b7_0 : SCode := .region r7_0
theorem x7_0 : sC C n0 b7_0 (unw C n0 R k) e σ = sOps C r7_0 (unw C n0 R k .normal) e σ := _root_.id rfl
def r7_1 : List MOper := [⟨(some 17), .call 9 [], none⟩,
  ⟨(some 18), .un .not (.t 17), none⟩]
def b7_1 : SCode := .region r7_1
theorem x7_1 : sC C n0 b7_1 (unw C n0 R k) e σ = sOps C r7_1 (unw C n0 R k .normal) e σ := _root_.id rfl
def r7_2 : List MOper := [⟨(some 2), .move (.c (.bool false)), none⟩]
def b7_2 : SCode := .region r7_2
theorem x7_2 : sC C n0 b7_2 (unw C n0 R k) e σ = sOps C r7_2 (unw C n0 R k .normal) e σ := _root_.id rfl
def b7_3 : SCode := .seq b7_2 .ret
theorem x7_3 : sC C n0 b7_3 (unw C n0 R k) e σ = sC C n0 b7_2 (unw C n0 R (.seq .ret k)) e σ := _root_.id rfl
def b7_4 : SCode := .cond (.t 18) b7_3 .skip
theorem x7_4 : sC C n0 b7_4 (unw C n0 R k) e σ = condK C n0 R (Opd.ev e (.t 18)) b7_3 .skip k e σ := sC_cond
def b7_5 : SCode := .seq b7_1 b7_4
theorem x7_5 : sC C n0 b7_5 (unw C n0 R k) e σ = sC C n0 b7_1 (unw C n0 R (.seq b7_4 k)) e σ := _root_.id rfl
def r7_6 : List MOper := [⟨(some 19), .move (.t 0), none⟩,
  ⟨(some 20), .lenSl (.t 19), none⟩,
  ⟨(some 21), .bin .gtr .num (.t 20) (.c (.int .i64 40)), none⟩]
def b7_6 : SCode := .region r7_6
theorem x7_6 : sC C n0 b7_6 (unw C n0 R k) e σ = sOps C r7_6 (unw C n0 R k .normal) e σ := _root_.id rfl
def r7_7 : List MOper := [⟨(some 2), .move (.c (.bool true)), none⟩]
def b7_7 : SCode := .region r7_7
theorem x7_7 : sC C n0 b7_7 (unw C n0 R k) e σ = sOps C r7_7 (unw C n0 R k .normal) e σ := _root_.id rfl
def b7_8 : SCode := .seq b7_7 .ret
theorem x7_8 : sC C n0 b7_8 (unw C n0 R k) e σ = sC C n0 b7_7 (unw C n0 R (.seq .ret k)) e σ := _root_.id rfl
def b7_9 : SCode := .cond (.t 21) b7_8 .skip
theorem x7_9 : sC C n0 b7_9 (unw C n0 R k) e σ = condK C n0 R (Opd.ev e (.t 21)) b7_8 .skip k e σ := sC_cond
def b7_10 : SCode := .seq b7_6 b7_9
theorem x7_10 : sC C n0 b7_10 (unw C n0 R k) e σ = sC C n0 b7_6 (unw C n0 R (.seq b7_9 k)) e σ := _root_.id rfl
def r7_11 : List MOper := [⟨(some 23), .call 11 [(.c (.str [])), (.c (.str [])), (.c (.int .i64 3))], none⟩,
  ⟨(some 22), .move (.t 23), none⟩,
  ⟨(some 24), .extract (.t 22) 0, none⟩,
  ⟨(some 25), .extract (.t 22) 1, none⟩,
  ⟨(some 3), .move (.t 24), none⟩,
  ⟨(some 4), .move (.t 25), none⟩]
def b7_11 : SCode := .region r7_11
theorem x7_11 : sC C n0 b7_11 (unw C n0 R k) e σ = sOps C r7_11 (unw C n0 R k .normal) e σ := _root_.id rfl
def r7_12 : List MOper := [⟨(some 26), .move (.t 4), none⟩,
  ⟨(some 27), .bin .neq .num (.t 26) (.c (.int .i64 0)), none⟩,
  ⟨(some 28), .move (.t 27), none⟩,
  ⟨(some 29), .move (.t 3), (some (28, false))⟩,
  ⟨(some 30), .bin .eql .nilp (.t 29) (.c (.nilptr)), (some (28, false))⟩,
  ⟨(some 31), .pick (.t 28) (.c (.bool true)) (.t 30), none⟩]
def b7_12 : SCode := .region r7_12
theorem x7_12 : sC C n0 b7_12 (unw C n0 R k) e σ = sOps C r7_12 (unw C n0 R k .normal) e σ := _root_.id rfl
def r7_13 : List MOper := [⟨(some 2), .move (.c (.bool false)), none⟩]
def b7_13 : SCode := .region r7_13
theorem x7_13 : sC C n0 b7_13 (unw C n0 R k) e σ = sOps C r7_13 (unw C n0 R k .normal) e σ := _root_.id rfl
def b7_14 : SCode := .seq b7_13 .ret
theorem x7_14 : sC C n0 b7_14 (unw C n0 R k) e σ = sC C n0 b7_13 (unw C n0 R (.seq .ret k)) e σ := _root_.id rfl
def b7_15 : SCode := .cond (.t 31) b7_14 .skip
theorem x7_15 : sC C n0 b7_15 (unw C n0 R k) e σ = condK C n0 R (Opd.ev e (.t 31)) b7_14 .skip k e σ := sC_cond
def b7_16 : SCode := .seq b7_12 b7_15
theorem x7_16 : sC C n0 b7_16 (unw C n0 R k) e σ = sC C n0 b7_12 (unw C n0 R (.seq b7_15 k)) e σ := _root_.id rfl
def r7_17 : List MOper := [⟨(some 5), .move (.c (.str [])), none⟩,
  ⟨(some 6), .move (.c (.int .i64 0)), none⟩]
def b7_17 : SCode := .region r7_17
theorem x7_17 : sC C n0 b7_17 (unw C n0 R k) e σ = sOps C r7_17 (unw C n0 R k .normal) e σ := _root_.id rfl
def r7_18 : List MOper := [⟨(some 7), .move (.c (.int .i64 0)), none⟩]
def b7_18 : SCode := .region r7_18
theorem x7_18 : sC C n0 b7_18 (unw C n0 R k) e σ = sOps C r7_18 (unw C n0 R k .normal) e σ := _root_.id rfl
def r7_19 : List MOper := [⟨(some 32), .move (.t 7), none⟩,
  ⟨(some 33), .move (.t 0), none⟩,
  ⟨(some 34), .lenSl (.t 33), none⟩,
  ⟨(some 35), .bin .lss .num (.t 32) (.t 34), none⟩]
def b7_19 : SCode := .region r7_19
theorem x7_19 : sC C n0 b7_19 (unw C n0 R k) e σ = sOps C r7_19 (unw C n0 R k .normal) e σ := _root_.id rfl
def b7_20 : SCode := .cond (.t 35) .skip (.exit 0)
theorem x7_20 : sC C n0 b7_20 (unw C n0 R k) e σ = condK C n0 R (Opd.ev e (.t 35)) .skip (.exit 0) k e σ := sC_cond
def b7_21 : SCode := .seq b7_19 b7_20
theorem x7_21 : sC C n0 b7_21 (unw C n0 R k) e σ = sC C n0 b7_19 (unw C n0 R (.seq b7_20 k)) e σ := _root_.id rfl
def r7_22 : List MOper := [⟨(some 38), .move (.t 0), none⟩,
  ⟨(some 39), .move (.t 7), none⟩,
  ⟨(some 40), .indexAddr 1 (.t 38) (.t 39), none⟩,
  ⟨(some 41), .load1 (.t 40), none⟩,
  ⟨(some 42), .lenStr (.t 41), none⟩,
  ⟨(some 43), .bin .gtr .num (.t 42) (.c (.int .i64 300)), none⟩]
def b7_22 : SCode := .region r7_22
theorem x7_22 : sC C n0 b7_22 (unw C n0 R k) e σ = sOps C r7_22 (unw C n0 R k .normal) e σ := _root_.id rfl
def r7_23 : List MOper := [⟨(some 2), .move (.c (.bool true)), none⟩]
def b7_23 : SCode := .region r7_23
theorem x7_23 : sC C n0 b7_23 (unw C n0 R k) e σ = sOps C r7_23 (unw C n0 R k .normal) e σ := _root_.id rfl
def b7_24 : SCode := .seq b7_23 .ret
theorem x7_24 : sC C n0 b7_24 (unw C n0 R k) e σ = sC C n0 b7_23 (unw C n0 R (.seq .ret k)) e σ := _root_.id rfl
def b7_25 : SCode := .cond (.t 43) b7_24 .skip
theorem x7_25 : sC C n0 b7_25 (unw C n0 R k) e σ = condK C n0 R (Opd.ev e (.t 43)) b7_24 .skip k e σ := sC_cond
def b7_26 : SCode := .seq b7_22 b7_25
theorem x7_26 : sC C n0 b7_26 (unw C n0 R k) e σ = sC C n0 b7_22 (unw C n0 R (.seq b7_25 k)) e σ := _root_.id rfl
def r7_27 : List MOper := [⟨(some 44), .move (.t 3), none⟩,
  ⟨(some 45), .move (.t 0), none⟩,
  ⟨(some 46), .move (.t 7), none⟩,
  ⟨(some 47), .indexAddr 1 (.t 45) (.t 46), none⟩,
  ⟨(some 48), .load1 (.t 47), none⟩,
  ⟨(some 49), .build [.int .i64 0, .int .i64 0, .int .i64 0, .bool false, .str [], .nilslice, .str [], .bool false] [(6, 1, (.t 48)), (7, 1, (.c (.bool true)))], none⟩,
  ⟨(some 50), .call 14 [(.t 44), (.t 49)], none⟩,
  ⟨(some 8), .move (.t 50), none⟩]
def b7_27 : SCode := .region r7_27
theorem x7_27 : sC C n0 b7_27 (unw C n0 R k) e σ = sOps C r7_27 (unw C n0 R k .normal) e σ := _root_.id rfl
def r7_28 : List MOper := [⟨(some 51), .move (.t 8), none⟩,
  ⟨(some 52), .bin .eql .num (.t 51) (.c (.int .i64 0)), none⟩,
  ⟨(some 53), .move (.t 0), none⟩,
  ⟨(some 54), .move (.t 7), none⟩,
  ⟨(some 55), .indexAddr 1 (.t 53) (.t 54), none⟩,
  ⟨(some 56), .load1 (.t 55), none⟩,
  ⟨(some 57), .move (.t 5), none⟩,
  ⟨(some 58), .bin .gtr .num (.t 56) (.t 57), none⟩,
  ⟨(some 59), .bin .neq .bool (.t 52) (.t 58), none⟩]
def b7_28 : SCode := .region r7_28
theorem x7_28 : sC C n0 b7_28 (unw C n0 R k) e σ = sOps C r7_28 (unw C n0 R k .normal) e σ := _root_.id rfl
def r7_29 : List MOper := [⟨(some 2), .move (.c (.bool false)), none⟩]
def b7_29 : SCode := .region r7_29
theorem x7_29 : sC C n0 b7_29 (unw C n0 R k) e σ = sOps C r7_29 (unw C n0 R k .normal) e σ := _root_.id rfl
def b7_30 : SCode := .seq b7_29 .ret
theorem x7_30 : sC C n0 b7_30 (unw C n0 R k) e σ = sC C n0 b7_29 (unw C n0 R (.seq .ret k)) e σ := _root_.id rfl
def b7_31 : SCode := .cond (.t 59) b7_30 .skip
theorem x7_31 : sC C n0 b7_31 (unw C n0 R k) e σ = condK C n0 R (Opd.ev e (.t 59)) b7_30 .skip k e σ := sC_cond
def b7_32 : SCode := .seq b7_28 b7_31
theorem x7_32 : sC C n0 b7_32 (unw C n0 R k) e σ = sC C n0 b7_28 (unw C n0 R (.seq b7_31 k)) e σ := _root_.id rfl
def r7_33 : List MOper := [⟨(some 60), .move (.t 8), none⟩,
  ⟨(some 61), .bin .eql .num (.t 60) (.c (.int .i64 0)), none⟩]
def b7_33 : SCode := .region r7_33
theorem x7_33 : sC C n0 b7_33 (unw C n0 R k) e σ = sOps C r7_33 (unw C n0 R k .normal) e σ := _root_.id rfl
def r7_34 : List MOper := [⟨(some 62), .move (.t 0), none⟩,
  ⟨(some 63), .move (.t 7), none⟩,
  ⟨(some 64), .indexAddr 1 (.t 62) (.t 63), none⟩,
  ⟨(some 65), .load1 (.t 64), none⟩,
  ⟨(some 5), .move (.t 65), none⟩]
def b7_34 : SCode := .region r7_34
theorem x7_34 : sC C n0 b7_34 (unw C n0 R k) e σ = sOps C r7_34 (unw C n0 R k .normal) e σ := _root_.id rfl
def r7_35 : List MOper := [⟨(some 66), .move (.t 6), none⟩,
  ⟨(some 67), .bin .add .num (.t 66) (.c (.int .i64 1)), none⟩,
  ⟨(some 6), .move (.t 67), none⟩]
def b7_35 : SCode := .region r7_35
theorem x7_35 : sC C n0 b7_35 (unw C n0 R k) e σ = sOps C r7_35 (unw C n0 R k .normal) e σ := _root_.id rfl
def b7_36 : SCode := .seq b7_34 b7_35
theorem x7_36 : sC C n0 b7_36 (unw C n0 R k) e σ = sC C n0 b7_34 (unw C n0 R (.seq b7_35 k)) e σ := _root_.id rfl
def b7_37 : SCode := .cond (.t 61) b7_36 .skip
theorem x7_37 : sC C n0 b7_37 (unw C n0 R k) e σ = condK C n0 R (Opd.ev e (.t 61)) b7_36 .skip k e σ := sC_cond
def b7_38 : SCode := .seq b7_33 b7_37
theorem x7_38 : sC C n0 b7_38 (unw C n0 R k) e σ = sC C n0 b7_33 (unw C n0 R (.seq b7_37 k)) e σ := _root_.id rfl
def r7_39 : List MOper := [⟨(some 69), .move (.t 3), none⟩,
  ⟨(some 70), .call 12 [(.t 69)], none⟩,
  ⟨(some 68), .move (.t 70), none⟩,
  ⟨(some 71), .extract (.t 68) 0, none⟩,
  ⟨(some 72), .extract (.t 68) 1, none⟩,
  ⟨(some 73), .extract (.t 68) 2, none⟩,
  ⟨(some 74), .extract (.t 68) 3, none⟩,
  ⟨(some 9), .move (.t 71), none⟩,
  ⟨(some 10), .move (.t 72), none⟩,
  ⟨(some 11), .move (.t 73), none⟩,
  ⟨(some 12), .move (.t 74), none⟩]
def b7_39 : SCode := .region r7_39
theorem x7_39 : sC C n0 b7_39 (unw C n0 R k) e σ = sOps C r7_39 (unw C n0 R k .normal) e σ := _root_.id rfl
def r7_40 : List MOper := [⟨(some 75), .move (.t 3), none⟩,
  ⟨(some 76), .call 16 [(.t 75)], none⟩,
  ⟨(some 13), .move (.t 76), none⟩]
def b7_40 : SCode := .region r7_40
theorem x7_40 : sC C n0 b7_40 (unw C n0 R k) e σ = sOps C r7_40 (unw C n0 R k .normal) e σ := _root_.id rfl
def r7_41 : List MOper := [⟨(some 77), .move (.t 12), none⟩,
  ⟨(some 78), .un .not (.t 77), none⟩,
  ⟨(some 79), .move (.t 78), none⟩,
  ⟨(some 80), .move (.t 9), (some (79, false))⟩,
  ⟨(some 81), .move (.t 5), (some (79, false))⟩,
  ⟨(some 82), .bin .neq .num (.t 80) (.t 81), (some (79, false))⟩,
  ⟨(some 83), .pick (.t 79) (.c (.bool true)) (.t 82), none⟩,
  ⟨(some 84), .move (.t 83), none⟩,
  ⟨(some 85), .move (.t 10), (some (84, false))⟩,
  ⟨(some 86), .bin .neq .num (.t 85) (.c (.str [])), (some (84, false))⟩,
  ⟨(some 87), .pick (.t 84) (.c (.bool true)) (.t 86), none⟩,
  ⟨(some 88), .move (.t 87), none⟩,
  ⟨(some 89), .move (.t 13), (some (88, false))⟩,
  ⟨(some 90), .lenSl (.t 89), (some (88, false))⟩,
  ⟨(some 91), .move (.t 6), (some (88, false))⟩,
  ⟨(some 92), .bin .neq .num (.t 90) (.t 91), (some (88, false))⟩,
  ⟨(some 93), .pick (.t 88) (.c (.bool true)) (.t 92), none⟩,
  ⟨(some 94), .move (.t 93), none⟩,
  ⟨(some 95), .move (.t 3), (some (94, false))⟩,
  ⟨(some 96), .call 13 [(.t 95)], (some (94, false))⟩,
  ⟨(some 97), .pick (.t 94) (.c (.bool true)) (.t 96), none⟩]
def b7_41 : SCode := .region r7_41
theorem x7_41 : sC C n0 b7_41 (unw C n0 R k) e σ = sOps C r7_41 (unw C n0 R k .normal) e σ := _root_.id rfl
def r7_42 : List MOper := [⟨(some 2), .move (.c (.bool false)), none⟩]
def b7_42 : SCode := .region r7_42
theorem x7_42 : sC C n0 b7_42 (unw C n0 R k) e σ = sOps C r7_42 (unw C n0 R k .normal) e σ := _root_.id rfl
def b7_43 : SCode := .seq b7_42 .ret
theorem x7_43 : sC C n0 b7_43 (unw C n0 R k) e σ = sC C n0 b7_42 (unw C n0 R (.seq .ret k)) e σ := _root_.id rfl
def b7_44 : SCode := .cond (.t 97) b7_43 .skip
theorem x7_44 : sC C n0 b7_44 (unw C n0 R k) e σ = condK C n0 R (Opd.ev e (.t 97)) b7_43 .skip k e σ := sC_cond
def b7_45 : SCode := .seq b7_41 b7_44
theorem x7_45 : sC C n0 b7_45 (unw C n0 R k) e σ = sC C n0 b7_41 (unw C n0 R (.seq b7_44 k)) e σ := _root_.id rfl
def r7_46 : List MOper := [⟨(some 14), .move (.c (.int .i64 0)), none⟩]
def b7_46 : SCode := .region r7_46
theorem x7_46 : sC C n0 b7_46 (unw C n0 R k) e σ = sOps C r7_46 (unw C n0 R k .normal) e σ := _root_.id rfl
def r7_47 : List MOper := [⟨(some 98), .move (.t 14), none⟩,
  ⟨(some 99), .move (.t 13), none⟩,
  ⟨(some 100), .lenSl (.t 99), none⟩,
  ⟨(some 101), .bin .lss .num (.t 98) (.t 100), none⟩]
def b7_47 : SCode := .region r7_47
theorem x7_47 : sC C n0 b7_47 (unw C n0 R k) e σ = sOps C r7_47 (unw C n0 R k .normal) e σ := _root_.id rfl
def b7_48 : SCode := .cond (.t 101) .skip (.exit 2)
theorem x7_48 : sC C n0 b7_48 (unw C n0 R k) e σ = condK C n0 R (Opd.ev e (.t 101)) .skip (.exit 2) k e σ := sC_cond
def b7_49 : SCode := .seq b7_47 b7_48
theorem x7_49 : sC C n0 b7_49 (unw C n0 R k) e σ = sC C n0 b7_47 (unw C n0 R (.seq b7_48 k)) e σ := _root_.id rfl
def t7_50 : LTree := (.quiet ⟨(some 104), .move (.t 14), none⟩ 0
  (.quiet ⟨(some 105), .bin .eql .num (.t 104) (.c (.int .i64 0)), none⟩ 1
  (.quiet ⟨(some 106), .move (.t 105), none⟩ 2
  (.quiet ⟨(some 107), .move (.t 13), (some (106, true))⟩ 3
  (.quiet ⟨(some 108), .move (.t 14), (some (106, true))⟩ 4
  (.quiet ⟨(some 109), .indexAddr 2 (.t 107) (.t 108), (some (106, true))⟩ 5
  (.quiet ⟨(some 110), .fieldAddr 0 (.t 109), (some (106, true))⟩ 6
  (.quiet ⟨(some 111), .load1 (.t 110), (some (106, true))⟩ 7
  (.quiet ⟨(some 112), .bin .neq .num (.t 111) (.c (.str [])), (some (106, true))⟩ 8
  (.quiet ⟨(some 113), .pick (.t 106) (.t 112) (.c (.bool false)), none⟩ 9
  (.quiet ⟨(some 114), .move (.t 113), none⟩ 10
  (.quiet ⟨(some 115), .move (.t 14), (some (114, false))⟩ 11
  (.quiet ⟨(some 116), .bin .gtr .num (.t 115) (.c (.int .i64 0)), (some (114, false))⟩ 12
  (.quiet ⟨(some 117), .move (.t 116), (some (114, false))⟩ 13
  (.quiet ⟨(some 118), .move (.t 13), (some (117, true))⟩ 14
  (.quiet ⟨(some 119), .move (.t 14), (some (117, true))⟩ 15
  (.quiet ⟨(some 120), .indexAddr 2 (.t 118) (.t 119), (some (117, true))⟩ 16
  (.quiet ⟨(some 121), .fieldAddr 0 (.t 120), (some (117, true))⟩ 17
  (.quiet ⟨(some 122), .load1 (.t 121), (some (117, true))⟩ 18
  (.quiet ⟨(some 123), .move (.t 13), (some (117, true))⟩ 19
  (.quiet ⟨(some 124), .move (.t 14), (some (117, true))⟩ 20
  (.quiet ⟨(some 125), .bin .sub .num (.t 124) (.c (.int .i64 1)), (some (117, true))⟩ 21
  (.quiet ⟨(some 126), .indexAddr 2 (.t 123) (.t 125), (some (117, true))⟩ 22
  (.quiet ⟨(some 127), .fieldAddr 1 (.t 126), (some (117, true))⟩ 23
  (.quiet ⟨(some 128), .load1 (.t 127), (some (117, true))⟩ 24
  (.quiet ⟨(some 129), .bin .neq .num (.t 122) (.t 128), (some (117, true))⟩ 25
  (.quiet ⟨(some 130), .pick (.t 117) (.t 129) (.c (.bool false)), (some (114, false))⟩ 26
  (.quiet ⟨(some 131), .pick (.t 114) (.c (.bool true)) (.t 130), none⟩ 27
  .leaf))))))))))))))))))))))))))))
def b7_50 : SCode := .draw t7_50
theorem x7_50 : sC C n0 b7_50 (unw C n0 R k) e σ = sTree C (unw C n0 R k .normal) t7_50 [] e σ := _root_.id rfl
def r7_51 : List MOper := [⟨(some 2), .move (.c (.bool false)), none⟩]
def b7_51 : SCode := .region r7_51
theorem x7_51 : sC C n0 b7_51 (unw C n0 R k) e σ = sOps C r7_51 (unw C n0 R k .normal) e σ := _root_.id rfl
def b7_52 : SCode := .seq b7_51 .ret
theorem x7_52 : sC C n0 b7_52 (unw C n0 R k) e σ = sC C n0 b7_51 (unw C n0 R (.seq .ret k)) e σ := _root_.id rfl
def b7_53 : SCode := .cond (.t 131) b7_52 .skip
theorem x7_53 : sC C n0 b7_53 (unw C n0 R k) e σ = condK C n0 R (Opd.ev e (.t 131)) b7_52 .skip k e σ := sC_cond
def b7_54 : SCode := .seq b7_50 b7_53
theorem x7_54 : sC C n0 b7_54 (unw C n0 R k) e σ = sC C n0 b7_50 (unw C n0 R (.seq b7_53 k)) e σ := _root_.id rfl
def b7_55 : SCode := .block 3 b7_54
theorem x7_55 : sC C n0 b7_55 (unw C n0 R k) e σ = sC C n0 b7_54 (unw C n0 R (.block 3 k)) e σ := _root_.id rfl
def r7_56 : List MOper := [⟨(some 102), .move (.t 14), none⟩,
  ⟨(some 103), .bin .add .num (.t 102) (.c (.int .i64 1)), none⟩,
  ⟨(some 14), .move (.t 103), none⟩]
def b7_56 : SCode := .region r7_56
theorem x7_56 : sC C n0 b7_56 (unw C n0 R k) e σ = sOps C r7_56 (unw C n0 R k .normal) e σ := _root_.id rfl
def b7_57 : SCode := .seq b7_55 b7_56
theorem x7_57 : sC C n0 b7_57 (unw C n0 R k) e σ = sC C n0 b7_55 (unw C n0 R (.seq b7_56 k)) e σ := _root_.id rfl
def b7_58 : SCode := .seq b7_49 b7_57
theorem x7_58 : sC C n0 b7_58 (unw C n0 R k) e σ = sC C n0 b7_49 (unw C n0 R (.seq b7_57 k)) e σ := _root_.id rfl
def b7_59 : SCode := .loop b7_58
def b7_60 : SCode := .block 2 b7_59
theorem x7_60 : sC C n0 b7_60 (unw C n0 R k) e σ = sC C n0 b7_59 (unw C n0 R (.block 2 k)) e σ := _root_.id rfl
def b7_61 : SCode := .seq b7_46 b7_60
theorem x7_61 : sC C n0 b7_61 (unw C n0 R k) e σ = sC C n0 b7_46 (unw C n0 R (.seq b7_60 k)) e σ := _root_.id rfl
def b7_62 : SCode := .seq b7_45 b7_61
theorem x7_62 : sC C n0 b7_62 (unw C n0 R k) e σ = sC C n0 b7_45 (unw C n0 R (.seq b7_61 k)) e σ := _root_.id rfl
def b7_63 : SCode := .seq b7_40 b7_62
theorem x7_63 : sC C n0 b7_63 (unw C n0 R k) e σ = sC C n0 b7_40 (unw C n0 R (.seq b7_62 k)) e σ := _root_.id rfl
def b7_64 : SCode := .seq b7_39 b7_63
theorem x7_64 : sC C n0 b7_64 (unw C n0 R k) e σ = sC C n0 b7_39 (unw C n0 R (.seq b7_63 k)) e σ := _root_.id rfl
def b7_65 : SCode := .seq b7_38 b7_64
theorem x7_65 : sC C n0 b7_65 (unw C n0 R k) e σ = sC C n0 b7_38 (unw C n0 R (.seq b7_64 k)) e σ := _root_.id rfl
def b7_66 : SCode := .seq b7_32 b7_65
theorem x7_66 : sC C n0 b7_66 (unw C n0 R k) e σ = sC C n0 b7_32 (unw C n0 R (.seq b7_65 k)) e σ := _root_.id rfl
def b7_67 : SCode := .seq b7_27 b7_66
theorem x7_67 : sC C n0 b7_67 (unw C n0 R k) e σ = sC C n0 b7_27 (unw C n0 R (.seq b7_66 k)) e σ := _root_.id rfl
def b7_68 : SCode := .seq b7_26 b7_67
theorem x7_68 : sC C n0 b7_68 (unw C n0 R k) e σ = sC C n0 b7_26 (unw C n0 R (.seq b7_67 k)) e σ := _root_.id rfl
def b7_69 : SCode := .block 1 b7_68
theorem x7_69 : sC C n0 b7_69 (unw C n0 R k) e σ = sC C n0 b7_68 (unw C n0 R (.block 1 k)) e σ := _root_.id rfl
def r7_70 : List MOper := [⟨(some 36), .move (.t 7), none⟩,
  ⟨(some 37), .bin .add .num (.t 36) (.c (.int .i64 1)), none⟩,
  ⟨(some 7), .move (.t 37), none⟩]
def b7_70 : SCode := .region r7_70
theorem x7_70 : sC C n0 b7_70 (unw C n0 R k) e σ = sOps C r7_70 (unw C n0 R k .normal) e σ := _root_.id rfl
def b7_71 : SCode := .seq b7_69 b7_70
theorem x7_71 : sC C n0 b7_71 (unw C n0 R k) e σ = sC C n0 b7_69 (unw C n0 R (.seq b7_70 k)) e σ := _root_.id rfl
def b7_72 : SCode := .seq b7_21 b7_71
theorem x7_72 : sC C n0 b7_72 (unw C n0 R k) e σ = sC C n0 b7_21 (unw C n0 R (.seq b7_71 k)) e σ := _root_.id rfl
def b7_73 : SCode := .loop b7_72
def b7_74 : SCode := .block 0 b7_73
theorem x7_74 : sC C n0 b7_74 (unw C n0 R k) e σ = sC C n0 b7_73 (unw C n0 R (.block 0 k)) e σ := _root_.id rfl
def b7_75 : SCode := .seq b7_18 b7_74
theorem x7_75 : sC C n0 b7_75 (unw C n0 R k) e σ = sC C n0 b7_18 (unw C n0 R (.seq b7_74 k)) e σ := _root_.id rfl
def r7_76 : List MOper := [⟨(some 132), .move (.t 3), none⟩,
  ⟨(some 133), .build [.int .i64 0, .int .i64 0, .int .i64 0, .bool false, .str [], .nilslice, .str [], .bool false] [], none⟩,
  ⟨(some 134), .call 14 [(.t 132), (.t 133)], none⟩,
  ⟨(some 15), .move (.t 134), none⟩]
def b7_76 : SCode := .region r7_76
theorem x7_76 : sC C n0 b7_76 (unw C n0 R k) e σ = sOps C r7_76 (unw C n0 R k .normal) e σ := _root_.id rfl
def r7_77 : List MOper := [⟨(some 135), .move (.t 3), none⟩,
  ⟨(some 136), .call 16 [(.t 135)], none⟩,
  ⟨(some 16), .move (.t 136), none⟩]
def b7_77 : SCode := .region r7_77
theorem x7_77 : sC C n0 b7_77 (unw C n0 R k) e σ = sOps C r7_77 (unw C n0 R k .normal) e σ := _root_.id rfl
def r7_78 : List MOper := [⟨(some 137), .move (.t 15), none⟩,
  ⟨(some 138), .bin .eql .num (.t 137) (.c (.int .i64 0)), none⟩,
  ⟨(some 139), .move (.t 138), none⟩,
  ⟨(some 140), .move (.t 3), (some (139, true))⟩,
  ⟨(some 141), .call 13 [(.t 140)], (some (139, true))⟩,
  ⟨(some 142), .pick (.t 139) (.t 141) (.c (.bool false)), none⟩,
  ⟨(some 143), .move (.t 142), none⟩,
  ⟨(some 144), .move (.t 16), (some (143, true))⟩,
  ⟨(some 145), .call 21 [(.t 144)], (some (143, true))⟩,
  ⟨(some 146), .pick (.t 143) (.t 145) (.c (.bool false)), none⟩,
  ⟨(some 147), .move (.t 146), none⟩,
  ⟨(some 148), .move (.t 16), (some (147, true))⟩,
  ⟨(some 149), .lenSl (.t 148), (some (147, true))⟩,
  ⟨(some 150), .move (.t 6), (some (147, true))⟩,
  ⟨(some 151), .bin .add .num (.t 150) (.c (.int .i64 1)), (some (147, true))⟩,
  ⟨(some 152), .bin .eql .num (.t 149) (.t 151), (some (147, true))⟩,
  ⟨(some 153), .pick (.t 147) (.t 152) (.c (.bool false)), none⟩,
  ⟨(some 154), .move (.t 153), none⟩,
  ⟨(some 155), .move (.t 3), (some (154, true))⟩,
  ⟨(some 156), .call 15 [(.t 155)], (some (154, true))⟩,
  ⟨(some 157), .lenSl (.t 156), (some (154, true))⟩,
  ⟨(some 158), .bin .eql .num (.t 157) (.c (.int .i64 0)), (some (154, true))⟩,
  ⟨(some 159), .pick (.t 154) (.t 158) (.c (.bool false)), none⟩,
  ⟨(some 2), .move (.t 159), none⟩]
def b7_78 : SCode := .region r7_78
theorem x7_78 : sC C n0 b7_78 (unw C n0 R k) e σ = sOps C r7_78 (unw C n0 R k .normal) e σ := _root_.id rfl
def b7_79 : SCode := .seq b7_78 .ret
theorem x7_79 : sC C n0 b7_79 (unw C n0 R k) e σ = sC C n0 b7_78 (unw C n0 R (.seq .ret k)) e σ := _root_.id rfl
def b7_80 : SCode := .seq b7_77 b7_79
theorem x7_80 : sC C n0 b7_80 (unw C n0 R k) e σ = sC C n0 b7_77 (unw C n0 R (.seq b7_79 k)) e σ := _root_.id rfl
def b7_81 : SCode := .seq b7_76 b7_80
theorem x7_81 : sC C n0 b7_81 (unw C n0 R k) e σ = sC C n0 b7_76 (unw C n0 R (.seq b7_80 k)) e σ := _root_.id rfl
def b7_82 : SCode := .seq b7_75 b7_81
theorem x7_82 : sC C n0 b7_82 (unw C n0 R k) e σ = sC C n0 b7_75 (unw C n0 R (.seq b7_81 k)) e σ := _root_.id rfl
def b7_83 : SCode := .seq b7_17 b7_82
theorem x7_83 : sC C n0 b7_83 (unw C n0 R k) e σ = sC C n0 b7_17 (unw C n0 R (.seq b7_82 k)) e σ := _root_.id rfl
def b7_84 : SCode := .seq b7_16 b7_83
theorem x7_84 : sC C n0 b7_84 (unw C n0 R k) e σ = sC C n0 b7_16 (unw C n0 R (.seq b7_83 k)) e σ := _root_.id rfl
def b7_85 : SCode := .seq b7_11 b7_84
theorem x7_85 : sC C n0 b7_85 (unw C n0 R k) e σ = sC C n0 b7_11 (unw C n0 R (.seq b7_84 k)) e σ := _root_.id rfl
def b7_86 : SCode := .seq b7_10 b7_85
theorem x7_86 : sC C n0 b7_86 (unw C n0 R k) e σ = sC C n0 b7_10 (unw C n0 R (.seq b7_85 k)) e σ := _root_.id rfl
def b7_87 : SCode := .seq b7_5 b7_86
theorem x7_87 : sC C n0 b7_87 (unw C n0 R k) e σ = sC C n0 b7_5 (unw C n0 R (.seq b7_86 k)) e σ := _root_.id rfl
def b7_88 : SCode := .seq b7_0 b7_87
theorem x7_88 : sC C n0 b7_88 (unw C n0 R k) e σ = sC C n0 b7_0 (unw C n0 R (.seq b7_87 k)) e σ := _root_.id rfl
def s7 : SFunc := ⟨160, [.t 2], b7_88⟩
theorem c7 : sFn Try.prog 7 = some s7 := by kernel_rfl
theorem y7 {args : List AV} {Q : AV → AHeap → Prop} : sF C s7 args σ Q = (args.length ≤ 160 ∧ sC C σ.length b7_88 (unw C σ.length (RetQ [.t 2] Q) .fin) (argEnv args) σ) := _root_.id rfl
def r11_0 : List MOper := [⟨(some 6), .move (.c (.nilptr)), none⟩,
  ⟨(some 7), .move (.c (.int .i64 0)), none⟩]
def b11_0 : SCode := .region r11_0
theorem x11_0 : sC C n0 b11_0 (unw C n0 R k) e σ = sOps C r11_0 (unw C n0 R k .normal) e σ := _root_.id rfl
def r11_1 : List MOper := [⟨(some 10), .move (.t 2), none⟩,
  ⟨(some 11), .bin .lss .num (.t 10) (.c (.int .i64 1)), none⟩,
  ⟨(some 12), .move (.t 11), none⟩,
  ⟨(some 13), .move (.t 2), (some (12, false))⟩,
  ⟨(some 14), .bin .gtr .num (.t 13) (.c (.int .i64 16)), (some (12, false))⟩,
  ⟨(some 15), .pick (.t 12) (.c (.bool true)) (.t 14), none⟩,
  ⟨(some 9), .move (.t 15), none⟩]
def b11_1 : SCode := .region r11_1
theorem x11_1 : sC C n0 b11_1 (unw C n0 R k) e σ = sOps C r11_1 (unw C n0 R k .normal) e σ := _root_.id rfl
def r11_2 : List MOper := [⟨(some 6), .move (.c (.nilptr)), none⟩,
  ⟨(some 7), .move (.c (.int .i64 1)), none⟩]
def b11_2 : SCode := .region r11_2
theorem x11_2 : sC C n0 b11_2 (unw C n0 R k) e σ = sOps C r11_2 (unw C n0 R k .normal) e σ := _root_.id rfl
def b11_3 : SCode := .seq b11_2 .ret
theorem x11_3 : sC C n0 b11_3 (unw C n0 R k) e σ = sC C n0 b11_2 (unw C n0 R (.seq .ret k)) e σ := _root_.id rfl
def r11_4 : List MOper := [⟨(some 17), .move (.t 0), none⟩,
  ⟨(some 18), .lenStr (.t 17), none⟩,
  ⟨(some 19), .bin .gtr .num (.t 18) (.c (.int .i64 640)), none⟩,
  ⟨(some 20), .move (.t 19), none⟩,
  ⟨(some 21), .move (.t 1), (some (20, false))⟩,
  ⟨(some 22), .lenStr (.t 21), (some (20, false))⟩,
  ⟨(some 23), .bin .gtr .num (.t 22) (.c (.int .i64 640)), (some (20, false))⟩,
  ⟨(some 24), .pick (.t 20) (.c (.bool true)) (.t 23), none⟩,
  ⟨(some 16), .move (.t 24), none⟩]
def b11_4 : SCode := .region r11_4
theorem x11_4 : sC C n0 b11_4 (unw C n0 R k) e σ = sOps C r11_4 (unw C n0 R k .normal) e σ := _root_.id rfl
def r11_5 : List MOper := [⟨(some 6), .move (.c (.nilptr)), none⟩,
  ⟨(some 7), .move (.c (.int .i64 3)), none⟩]
def b11_5 : SCode := .region r11_5
theorem x11_5 : sC C n0 b11_5 (unw C n0 R k) e σ = sOps C r11_5 (unw C n0 R k .normal) e σ := _root_.id rfl
def b11_6 : SCode := .seq b11_5 .ret
theorem x11_6 : sC C n0 b11_6 (unw C n0 R k) e σ = sC C n0 b11_5 (unw C n0 R (.seq .ret k)) e σ := _root_.id rfl
def b11_7 : SCode := .cond (.t 16) b11_6 .skip
theorem x11_7 : sC C n0 b11_7 (unw C n0 R k) e σ = condK C n0 R (Opd.ev e (.t 16)) b11_6 .skip k e σ := sC_cond
def b11_8 : SCode := .seq b11_4 b11_7
theorem x11_8 : sC C n0 b11_8 (unw C n0 R k) e σ = sC C n0 b11_4 (unw C n0 R (.seq b11_7 k)) e σ := _root_.id rfl
def b11_9 : SCode := .cond (.t 9) b11_3 b11_8
theorem x11_9 : sC C n0 b11_9 (unw C n0 R k) e σ = condK C n0 R (Opd.ev e (.t 9)) b11_3 b11_8 k e σ := sC_cond
def b11_10 : SCode := .seq b11_1 b11_9
theorem x11_10 : sC C n0 b11_10 (unw C n0 R k) e σ = sC C n0 b11_1 (unw C n0 R (.seq b11_9 k)) e σ := _root_.id rfl
def b11_11 : SCode := .block 0 b11_10
theorem x11_11 : sC C n0 b11_11 (unw C n0 R k) e σ = sC C n0 b11_10 (unw C n0 R (.block 0 k)) e σ := _root_.id rfl
def r11_12 : List MOper := [⟨(some 25), .move (.t 0), none⟩,
  ⟨(some 26), .move (.t 1), none⟩,
  ⟨(some 27), .build [.str [], .str []] [(0, 1, (.t 25)), (1, 1, (.t 26))], none⟩,
  ⟨(some 28), .move (.t 2), none⟩,
  ⟨(some 29), .build [.str [], .str [], .int .i64 0, .bool false, .nilslice, .nilslice] [(0, 2, (.t 27)), (2, 1, (.t 28))], none⟩,
  ⟨(some 30), .box (.t 29), none⟩,
  ⟨(some 8), .move (.t 30), none⟩]
def b11_12 : SCode := .region r11_12
theorem x11_12 : sC C n0 b11_12 (unw C n0 R k) e σ = sOps C r11_12 (unw C n0 R k .normal) e σ := _root_.id rfl
def r11_13 : List MOper := [⟨(some 31), .move (.t 8), none⟩,
  ⟨(some 32), .move (.t 8), none⟩,
  ⟨(some 33), .nilCheck (.t 32), none⟩,
  ⟨(some 34), .fieldAddr 0 (.t 33), none⟩,
  ⟨(some 35), .loadN 2 (.t 34), none⟩,
  ⟨(some 36), .call 30 [(.t 35)], none⟩,
  ⟨(some 37), .nilCheck (.t 31), none⟩,
  ⟨(some 38), .fieldAddr 3 (.t 37), none⟩,
  ⟨none, .store 1 (.t 38) (.t 36), none⟩]
def b11_13 : SCode := .region r11_13
theorem x11_13 : sC C n0 b11_13 (unw C n0 R k) e σ = sOps C r11_13 (unw C n0 R k .normal) e σ := _root_.id rfl
def r11_14 : List MOper := [⟨(some 39), .move (.t 8), none⟩,
  ⟨(some 6), .move (.t 39), none⟩,
  ⟨(some 7), .move (.c (.int .i64 0)), none⟩]
def b11_14 : SCode := .region r11_14
theorem x11_14 : sC C n0 b11_14 (unw C n0 R k) e σ = sOps C r11_14 (unw C n0 R k .normal) e σ := _root_.id rfl
def b11_15 : SCode := .seq b11_14 .ret
theorem x11_15 : sC C n0 b11_15 (unw C n0 R k) e σ = sC C n0 b11_14 (unw C n0 R (.seq .ret k)) e σ := _root_.id rfl
def b11_16 : SCode := .seq b11_13 b11_15
theorem x11_16 : sC C n0 b11_16 (unw C n0 R k) e σ = sC C n0 b11_13 (unw C n0 R (.seq b11_15 k)) e σ := _root_.id rfl
def b11_17 : SCode := .seq b11_12 b11_16
theorem x11_17 : sC C n0 b11_17 (unw C n0 R k) e σ = sC C n0 b11_12 (unw C n0 R (.seq b11_16 k)) e σ := _root_.id rfl
def b11_18 : SCode := .seq b11_11 b11_17
theorem x11_18 : sC C n0 b11_18 (unw C n0 R k) e σ = sC C n0 b11_11 (unw C n0 R (.seq b11_17 k)) e σ := _root_.id rfl
def b11_19 : SCode := .seq b11_0 b11_18
theorem x11_19 : sC C n0 b11_19 (unw C n0 R k) e σ = sC C n0 b11_0 (unw C n0 R (.seq b11_18 k)) e σ := _root_.id rfl
def s11 : SFunc := ⟨40, [.t 6, .t 7], b11_19⟩
theorem c11 : sFn Try.prog 11 = some s11 := by kernel_rfl
theorem y11 {args : List AV} {Q : AV → AHeap → Prop} : sF C s11 args σ Q = (args.length ≤ 40 ∧ sC C σ.length b11_19 (unw C σ.length (RetQ [.t 6, .t 7] Q) .fin) (argEnv args) σ) := _root_.id rfl
def r12_0 : List MOper := [⟨(some 2), .move (.c (.str [])), none⟩,
  ⟨(some 3), .move (.c (.str [])), none⟩,
  ⟨(some 4), .move (.c (.int .i64 0)), none⟩,
  ⟨(some 5), .move (.c (.bool false)), none⟩]
def b12_0 : SCode := .region r12_0
theorem x12_0 : sC C n0 b12_0 (unw C n0 R k) e σ = sOps C r12_0 (unw C n0 R k .normal) e σ := _root_.id rfl
def r12_1 : List MOper := [⟨(some 6), .move (.t 0), none⟩,
  ⟨(some 7), .bin .eql .nilp (.t 6) (.c (.nilptr)), none⟩,
  ⟨(some 8), .move (.t 7), none⟩,
  ⟨(some 9), .move (.t 0), (some (8, false))⟩,
  ⟨(some 10), .nilCheck (.t 9), (some (8, false))⟩,
  ⟨(some 11), .fieldAddr 3 (.t 10), (some (8, false))⟩,
  ⟨(some 12), .load1 (.t 11), (some (8, false))⟩,
  ⟨(some 13), .pick (.t 8) (.c (.bool true)) (.t 12), none⟩]
def b12_1 : SCode := .region r12_1
theorem x12_1 : sC C n0 b12_1 (unw C n0 R k) e σ = sOps C r12_1 (unw C n0 R k .normal) e σ := _root_.id rfl
def r12_2 : List MOper := [⟨(some 2), .move (.c (.str [])), none⟩,
  ⟨(some 3), .move (.c (.str [])), none⟩,
  ⟨(some 4), .move (.c (.int .i64 0)), none⟩,
  ⟨(some 5), .move (.c (.bool false)), none⟩]
def b12_2 : SCode := .region r12_2
theorem x12_2 : sC C n0 b12_2 (unw C n0 R k) e σ = sOps C r12_2 (unw C n0 R k .normal) e σ := _root_.id rfl
def b12_3 : SCode := .seq b12_2 .ret
theorem x12_3 : sC C n0 b12_3 (unw C n0 R k) e σ = sC C n0 b12_2 (unw C n0 R (.seq .ret k)) e σ := _root_.id rfl
def b12_4 : SCode := .cond (.t 13) b12_3 .skip
theorem x12_4 : sC C n0 b12_4 (unw C n0 R k) e σ = condK C n0 R (Opd.ev e (.t 13)) b12_3 .skip k e σ := sC_cond
def b12_5 : SCode := .seq b12_1 b12_4
theorem x12_5 : sC C n0 b12_5 (unw C n0 R k) e σ = sC C n0 b12_1 (unw C n0 R (.seq b12_4 k)) e σ := _root_.id rfl
def t12_6 : LTree := (.quiet ⟨(some 14), .move (.t 0), none⟩ 0
  (.quiet ⟨(some 15), .nilCheck (.t 14), none⟩ 1
  (.quiet ⟨(some 16), .fieldAddr 0 (.t 15), none⟩ 2
  (.quiet ⟨(some 17), .fieldAddr 0 (.t 16), none⟩ 3
  (.quiet ⟨(some 18), .load1 (.t 17), none⟩ 4
  (.quiet ⟨(some 19), .move (.t 0), none⟩ 5
  (.quiet ⟨(some 20), .nilCheck (.t 19), none⟩ 6
  (.quiet ⟨(some 21), .fieldAddr 0 (.t 20), none⟩ 7
  (.quiet ⟨(some 22), .fieldAddr 1 (.t 21), none⟩ 8
  (.quiet ⟨(some 23), .load1 (.t 22), none⟩ 9
  (.quiet ⟨(some 24), .move (.t 0), none⟩ 10
  (.quiet ⟨(some 25), .nilCheck (.t 24), none⟩ 11
  (.quiet ⟨(some 26), .fieldAddr 2 (.t 25), none⟩ 12
  (.quiet ⟨(some 27), .load1 (.t 26), none⟩ 13
  (.quiet ⟨(some 2), .move (.t 18), none⟩ 14
  (.quiet ⟨(some 3), .move (.t 23), none⟩ 15
  (.quiet ⟨(some 4), .move (.t 27), none⟩ 16
  (.quiet ⟨(some 5), .move (.c (.bool true)), none⟩ 17
  .leaf))))))))))))))))))
def b12_6 : SCode := .draw t12_6
theorem x12_6 : sC C n0 b12_6 (unw C n0 R k) e σ = sTree C (unw C n0 R k .normal) t12_6 [] e σ := _root_.id rfl
def b12_7 : SCode := .seq b12_6 .ret
theorem x12_7 : sC C n0 b12_7 (unw C n0 R k) e σ = sC C n0 b12_6 (unw C n0 R (.seq .ret k)) e σ := _root_.id rfl
def b12_8 : SCode := .seq b12_5 b12_7
theorem x12_8 : sC C n0 b12_8 (unw C n0 R k) e σ = sC C n0 b12_5 (unw C n0 R (.seq b12_7 k)) e σ := _root_.id rfl
def b12_9 : SCode := .seq b12_0 b12_8
theorem x12_9 : sC C n0 b12_9 (unw C n0 R k) e σ = sC C n0 b12_0 (unw C n0 R (.seq b12_8 k)) e σ := _root_.id rfl
def s12 : SFunc := ⟨28, [.t 2, .t 3, .t 4, .t 5], b12_9⟩
theorem c12 : sFn Try.prog 12 = some s12 := by kernel_rfl
theorem y12 {args : List AV} {Q : AV → AHeap → Prop} : sF C s12 args σ Q = (args.length ≤ 28 ∧ sC C σ.length b12_9 (unw C σ.length (RetQ [.t 2, .t 3, .t 4, .t 5] Q) .fin) (argEnv args) σ) := _root_.id rfl
def r13_0 : List MOper := [⟨(some 2), .move (.c (.bool false)), none⟩]
def b13_0 : SCode := .region r13_0
theorem x13_0 : sC C n0 b13_0 (unw C n0 R k) e σ = sOps C r13_0 (unw C n0 R k .normal) e σ := _root_.id rfl
def r13_1 : List MOper := [⟨(some 3), .move (.t 0), none⟩,
  ⟨(some 4), .bin .neq .nilp (.t 3) (.c (.nilptr)), none⟩,
  ⟨(some 5), .move (.t 4), none⟩,
  ⟨(some 6), .move (.t 0), (some (5, true))⟩,
  ⟨(some 7), .nilCheck (.t 6), (some (5, true))⟩,
  ⟨(some 8), .fieldAddr 3 (.t 7), (some (5, true))⟩,
  ⟨(some 9), .load1 (.t 8), (some (5, true))⟩,
  ⟨(some 10), .pick (.t 5) (.t 9) (.c (.bool false)), none⟩,
  ⟨(some 2), .move (.t 10), none⟩]
def b13_1 : SCode := .region r13_1
theorem x13_1 : sC C n0 b13_1 (unw C n0 R k) e σ = sOps C r13_1 (unw C n0 R k .normal) e σ := _root_.id rfl
def b13_2 : SCode := .seq b13_1 .ret
theorem x13_2 : sC C n0 b13_2 (unw C n0 R k) e σ = sC C n0 b13_1 (unw C n0 R (.seq .ret k)) e σ := _root_.id rfl
def b13_3 : SCode := .seq b13_0 b13_2
theorem x13_3 : sC C n0 b13_3 (unw C n0 R k) e σ = sC C n0 b13_0 (unw C n0 R (.seq b13_2 k)) e σ := _root_.id rfl
def s13 : SFunc := ⟨11, [.t 2], b13_3⟩
theorem c13 : sFn Try.prog 13 = some s13 := by kernel_rfl
theorem y13 {args : List AV} {Q : AV → AHeap → Prop} : sF C s13 args σ Q = (args.length ≤ 11 ∧ sC C σ.length b13_3 (unw C σ.length (RetQ [.t 2] Q) .fin) (argEnv args) σ) := _root_.id rfl
def r14_0 : List MOper := [⟨(some 3), .box (.t 1), none⟩,
  ⟨(some 4), .move (.c (.int .i64 0)), none⟩]
def b14_0 : SCode := .region r14_0
theorem x14_0 : sC C n0 b14_0 (unw C n0 R k) e σ = sOps C r14_0 (unw C n0 R k .normal) e σ := _root_.id rfl
def r14_1 : List MOper := [⟨(some 6), .move (.t 0), none⟩,
  ⟨(some 7), .bin .eql .nilp (.t 6) (.c (.nilptr)), none⟩,
  ⟨(some 5), .move (.t 7), none⟩]
def b14_1 : SCode := .region r14_1
theorem x14_1 : sC C n0 b14_1 (unw C n0 R k) e σ = sOps C r14_1 (unw C n0 R k .normal) e σ := _root_.id rfl
def r14_2 : List MOper := [⟨(some 4), .move (.c (.int .i64 1)), none⟩]
def b14_2 : SCode := .region r14_2
theorem x14_2 : sC C n0 b14_2 (unw C n0 R k) e σ = sOps C r14_2 (unw C n0 R k .normal) e σ := _root_.id rfl
def b14_3 : SCode := .seq b14_2 .ret
theorem x14_3 : sC C n0 b14_3 (unw C n0 R k) e σ = sC C n0 b14_2 (unw C n0 R (.seq .ret k)) e σ := _root_.id rfl
def r14_4 : List MOper := [⟨(some 9), .move (.t 0), none⟩,
  ⟨(some 10), .nilCheck (.t 9), none⟩,
  ⟨(some 11), .fieldAddr 3 (.t 10), none⟩,
  ⟨(some 12), .load1 (.t 11), none⟩,
  ⟨(some 8), .move (.t 12), none⟩]
def b14_4 : SCode := .region r14_4
theorem x14_4 : sC C n0 b14_4 (unw C n0 R k) e σ = sOps C r14_4 (unw C n0 R k .normal) e σ := _root_.id rfl
def r14_5 : List MOper := [⟨(some 4), .move (.c (.int .i64 10)), none⟩]
def b14_5 : SCode := .region r14_5
theorem x14_5 : sC C n0 b14_5 (unw C n0 R k) e σ = sOps C r14_5 (unw C n0 R k .normal) e σ := _root_.id rfl
def b14_6 : SCode := .seq b14_5 .ret
theorem x14_6 : sC C n0 b14_6 (unw C n0 R k) e σ = sC C n0 b14_5 (unw C n0 R (.seq .ret k)) e σ := _root_.id rfl
def r14_7 : List MOper := [⟨(some 14), .fieldAddr 2 (.t 3), none⟩,
  ⟨(some 15), .load1 (.t 14), none⟩,
  ⟨(some 16), .bin .neq .num (.t 15) (.c (.int .i64 0)), none⟩,
  ⟨(some 13), .move (.t 16), none⟩]
def b14_7 : SCode := .region r14_7
theorem x14_7 : sC C n0 b14_7 (unw C n0 R k) e σ = sOps C r14_7 (unw C n0 R k .normal) e σ := _root_.id rfl
def r14_8 : List MOper := [⟨(some 17), .fieldAddr 2 (.t 3), none⟩,
  ⟨(some 18), .load1 (.t 17), none⟩,
  ⟨(some 4), .move (.t 18), none⟩]
def b14_8 : SCode := .region r14_8
theorem x14_8 : sC C n0 b14_8 (unw C n0 R k) e σ = sOps C r14_8 (unw C n0 R k .normal) e σ := _root_.id rfl
def b14_9 : SCode := .seq b14_8 .ret
theorem x14_9 : sC C n0 b14_9 (unw C n0 R k) e σ = sC C n0 b14_8 (unw C n0 R (.seq .ret k)) e σ := _root_.id rfl
def t14_10 : LTree := (.quiet ⟨(some 20), .fieldAddr 7 (.t 3), none⟩ 0
  (.quiet ⟨(some 21), .load1 (.t 20), none⟩ 1
  (.quiet ⟨(some 22), .move (.t 21), none⟩ 2
  (.quiet ⟨(some 23), .fieldAddr 6 (.t 3), (some (22, true))⟩ 3
  (.quiet ⟨(some 24), .load1 (.t 23), (some (22, true))⟩ 4
  (.quiet ⟨(some 25), .move (.t 0), (some (22, true))⟩ 5
  (.quiet ⟨(some 26), .nilCheck (.t 25), (some (22, true))⟩ 6
  (.quiet ⟨(some 27), .fieldAddr 0 (.t 26), (some (22, true))⟩ 7
  (.quiet ⟨(some 28), .fieldAddr 0 (.t 27), (some (22, true))⟩ 8
  (.quiet ⟨(some 29), .load1 (.t 28), (some (22, true))⟩ 9
  (.quiet ⟨(some 30), .bin .leq .num (.t 24) (.t 29), (some (22, true))⟩ 10
  (.quiet ⟨(some 31), .pick (.t 22) (.t 30) (.c (.bool false)), none⟩ 11
  (.quiet ⟨(some 19), .move (.t 31), none⟩ 12
  .leaf)))))))))))))
def b14_10 : SCode := .draw t14_10
theorem x14_10 : sC C n0 b14_10 (unw C n0 R k) e σ = sTree C (unw C n0 R k .normal) t14_10 [] e σ := _root_.id rfl
def t14_11 : LTree := (.quiet ⟨(some 32), .move (.t 0), none⟩ 0
  (.quiet ⟨(some 33), .nilCheck (.t 32), none⟩ 1
  (.quiet ⟨(some 34), .fieldAddr 0 (.t 33), none⟩ 2
  (.quiet ⟨(some 35), .fieldAddr 1 (.t 34), none⟩ 3
  (.quiet ⟨(some 36), .load1 (.t 35), none⟩ 4
  (.quiet ⟨(some 37), .bin .neq .num (.t 36) (.c (.str [])), none⟩ 5
  (.quiet ⟨(some 38), .move (.t 37), none⟩ 6
  (.quiet ⟨(some 39), .fieldAddr 6 (.t 3), (some (38, true))⟩ 7
  (.quiet ⟨(some 40), .load1 (.t 39), (some (38, true))⟩ 8
  (.quiet ⟨(some 41), .move (.t 0), (some (38, true))⟩ 9
  (.quiet ⟨(some 42), .nilCheck (.t 41), (some (38, true))⟩ 10
  (.quiet ⟨(some 43), .fieldAddr 0 (.t 42), (some (38, true))⟩ 11
  (.quiet ⟨(some 44), .fieldAddr 1 (.t 43), (some (38, true))⟩ 12
  (.quiet ⟨(some 45), .load1 (.t 44), (some (38, true))⟩ 13
  (.quiet ⟨(some 46), .bin .gtr .num (.t 40) (.t 45), (some (38, true))⟩ 14
  (.quiet ⟨(some 47), .pick (.t 38) (.t 46) (.c (.bool false)), none⟩ 15
  (.quiet ⟨(some 19), .move (.t 47), none⟩ 16
  .leaf)))))))))))))))))
def b14_11 : SCode := .draw t14_11
theorem x14_11 : sC C n0 b14_11 (unw C n0 R k) e σ = sTree C (unw C n0 R k .normal) t14_11 [] e σ := _root_.id rfl
def b14_12 : SCode := .cond (.t 19) .skip b14_11
theorem x14_12 : sC C n0 b14_12 (unw C n0 R k) e σ = condK C n0 R (Opd.ev e (.t 19)) .skip b14_11 k e σ := sC_cond
def b14_13 : SCode := .seq b14_10 b14_12
theorem x14_13 : sC C n0 b14_13 (unw C n0 R k) e σ = sC C n0 b14_10 (unw C n0 R (.seq b14_12 k)) e σ := _root_.id rfl
def r14_14 : List MOper := [⟨(some 4), .move (.c (.int .i64 5)), none⟩]
def b14_14 : SCode := .region r14_14
theorem x14_14 : sC C n0 b14_14 (unw C n0 R k) e σ = sOps C r14_14 (unw C n0 R k .normal) e σ := _root_.id rfl
def b14_15 : SCode := .seq b14_14 .ret
theorem x14_15 : sC C n0 b14_15 (unw C n0 R k) e σ = sC C n0 b14_14 (unw C n0 R (.seq .ret k)) e σ := _root_.id rfl
def b14_16 : SCode := .cond (.t 19) b14_15 .skip
theorem x14_16 : sC C n0 b14_16 (unw C n0 R k) e σ = condK C n0 R (Opd.ev e (.t 19)) b14_15 .skip k e σ := sC_cond
def b14_17 : SCode := .seq b14_13 b14_16
theorem x14_17 : sC C n0 b14_17 (unw C n0 R k) e σ = sC C n0 b14_13 (unw C n0 R (.seq b14_16 k)) e σ := _root_.id rfl
def b14_18 : SCode := .cond (.t 13) b14_9 b14_17
theorem x14_18 : sC C n0 b14_18 (unw C n0 R k) e σ = condK C n0 R (Opd.ev e (.t 13)) b14_9 b14_17 k e σ := sC_cond
def b14_19 : SCode := .seq b14_7 b14_18
theorem x14_19 : sC C n0 b14_19 (unw C n0 R k) e σ = sC C n0 b14_7 (unw C n0 R (.seq b14_18 k)) e σ := _root_.id rfl
def b14_20 : SCode := .cond (.t 8) b14_6 b14_19
theorem x14_20 : sC C n0 b14_20 (unw C n0 R k) e σ = condK C n0 R (Opd.ev e (.t 8)) b14_6 b14_19 k e σ := sC_cond
def b14_21 : SCode := .seq b14_4 b14_20
theorem x14_21 : sC C n0 b14_21 (unw C n0 R k) e σ = sC C n0 b14_4 (unw C n0 R (.seq b14_20 k)) e σ := _root_.id rfl
def b14_22 : SCode := .cond (.t 5) b14_3 b14_21
theorem x14_22 : sC C n0 b14_22 (unw C n0 R k) e σ = condK C n0 R (Opd.ev e (.t 5)) b14_3 b14_21 k e σ := sC_cond
def b14_23 : SCode := .seq b14_1 b14_22
theorem x14_23 : sC C n0 b14_23 (unw C n0 R k) e σ = sC C n0 b14_1 (unw C n0 R (.seq b14_22 k)) e σ := _root_.id rfl
def b14_24 : SCode := .block 0 b14_23
theorem x14_24 : sC C n0 b14_24 (unw C n0 R k) e σ = sC C n0 b14_23 (unw C n0 R (.block 0 k)) e σ := _root_.id rfl
def t14_25 : LTree := (.quiet ⟨(some 48), .move (.t 0), none⟩ 0
  (.quiet ⟨(some 49), .move (.t 0), none⟩ 1
  (.quiet ⟨(some 50), .nilCheck (.t 49), none⟩ 2
  (.quiet ⟨(some 51), .fieldAddr 4 (.t 50), none⟩ 3
  (.quiet ⟨(some 52), .load1 (.t 51), none⟩ 4
  (.quiet ⟨(some 53), .fieldAddr 5 (.t 3), none⟩ 5
  (.quiet ⟨(some 54), .load1 (.t 53), none⟩ 6
  (.loud ⟨(some 55), .append 2 32 (.t 52) (.t 54), none⟩ []
  (.quiet ⟨(some 56), .nilCheck (.t 48), none⟩ 8
  (.quiet ⟨(some 57), .fieldAddr 4 (.t 56), none⟩ 9
  (.loud ⟨none, .store 1 (.t 57) (.t 55), none⟩ []
  .leaf .stop))) .stop))))))))
def b14_25 : SCode := .draw t14_25
theorem x14_25 : sC C n0 b14_25 (unw C n0 R k) e σ = sTree C (unw C n0 R k .normal) t14_25 [] e σ := _root_.id rfl
def t14_26 : LTree := (.quiet ⟨(some 58), .move (.t 0), none⟩ 0
  (.quiet ⟨(some 59), .move (.t 0), none⟩ 1
  (.quiet ⟨(some 60), .nilCheck (.t 59), none⟩ 2
  (.quiet ⟨(some 61), .fieldAddr 5 (.t 60), none⟩ 3
  (.quiet ⟨(some 62), .load1 (.t 61), none⟩ 4
  (.quiet ⟨(some 63), .move (.t 0), none⟩ 5
  (.quiet ⟨(some 64), .nilCheck (.t 63), none⟩ 6
  (.quiet ⟨(some 65), .fieldAddr 0 (.t 64), none⟩ 7
  (.quiet ⟨(some 66), .fieldAddr 0 (.t 65), none⟩ 8
  (.quiet ⟨(some 67), .load1 (.t 66), none⟩ 9
  (.quiet ⟨(some 68), .fieldAddr 6 (.t 3), none⟩ 10
  (.quiet ⟨(some 69), .load1 (.t 68), none⟩ 11
  (.quiet ⟨(some 70), .build [.str [], .str []] [(0, 1, (.t 67)), (1, 1, (.t 69))], none⟩ 12
  (.loud ⟨(some 71), .buildSlice [.str [], .str []] 2 1 [(0, 2, (.t 70))], none⟩ [4]
  (.loud ⟨(some 72), .append 2 32 (.t 62) (.t 71), none⟩ []
  (.quiet ⟨(some 73), .nilCheck (.t 58), none⟩ 15
  (.quiet ⟨(some 74), .fieldAddr 5 (.t 73), none⟩ 16
  (.loud ⟨none, .store 1 (.t 74) (.t 72), none⟩ []
  .leaf .stop))) .stop) .stop))))))))))))))
def b14_26 : SCode := .draw t14_26
theorem x14_26 : sC C n0 b14_26 (unw C n0 R k) e σ = sTree C (unw C n0 R k .normal) t14_26 [] e σ := _root_.id rfl
def t14_27 : LTree := (.quiet ⟨(some 75), .move (.t 0), none⟩ 0
  (.quiet ⟨(some 76), .move (.t 0), none⟩ 1
  (.quiet ⟨(some 77), .fieldAddr 6 (.t 3), none⟩ 2
  (.quiet ⟨(some 78), .load1 (.t 77), none⟩ 3
  (.quiet ⟨(some 79), .fieldAddr 7 (.t 3), none⟩ 4
  (.quiet ⟨(some 80), .load1 (.t 79), none⟩ 5
  (.quiet ⟨(some 81), .un .not (.t 80), none⟩ 6
  (.quiet ⟨(some 82), .nilCheck (.t 75), none⟩ 7
  (.quiet ⟨(some 83), .fieldAddr 0 (.t 82), none⟩ 8
  (.quiet ⟨(some 84), .fieldAddr 0 (.t 83), none⟩ 9
  (.loud ⟨none, .store 1 (.t 84) (.t 78), none⟩ [5]
  (.quiet ⟨(some 85), .nilCheck (.t 76), none⟩ 11
  (.quiet ⟨(some 86), .fieldAddr 3 (.t 85), none⟩ 12
  (.loud ⟨none, .store 1 (.t 86) (.t 81), none⟩ []
  .leaf .stop))) .stop)))))))))))
def b14_27 : SCode := .draw t14_27
theorem x14_27 : sC C n0 b14_27 (unw C n0 R k) e σ = sTree C (unw C n0 R k .normal) t14_27 [] e σ := _root_.id rfl
def r14_28 : List MOper := [⟨(some 4), .move (.c (.int .i64 0)), none⟩]
def b14_28 : SCode := .region r14_28
theorem x14_28 : sC C n0 b14_28 (unw C n0 R k) e σ = sOps C r14_28 (unw C n0 R k .normal) e σ := _root_.id rfl
def b14_29 : SCode := .seq b14_28 .ret
theorem x14_29 : sC C n0 b14_29 (unw C n0 R k) e σ = sC C n0 b14_28 (unw C n0 R (.seq .ret k)) e σ := _root_.id rfl
def b14_30 : SCode := .seq b14_27 b14_29
theorem x14_30 : sC C n0 b14_30 (unw C n0 R k) e σ = sC C n0 b14_27 (unw C n0 R (.seq b14_29 k)) e σ := _root_.id rfl
def b14_31 : SCode := .seq b14_26 b14_30
theorem x14_31 : sC C n0 b14_31 (unw C n0 R k) e σ = sC C n0 b14_26 (unw C n0 R (.seq b14_30 k)) e σ := _root_.id rfl
def b14_32 : SCode := .seq b14_25 b14_31
theorem x14_32 : sC C n0 b14_32 (unw C n0 R k) e σ = sC C n0 b14_25 (unw C n0 R (.seq b14_31 k)) e σ := _root_.id rfl
def b14_33 : SCode := .seq b14_24 b14_32
theorem x14_33 : sC C n0 b14_33 (unw C n0 R k) e σ = sC C n0 b14_24 (unw C n0 R (.seq b14_32 k)) e σ := _root_.id rfl
def b14_34 : SCode := .seq b14_0 b14_33
theorem x14_34 : sC C n0 b14_34 (unw C n0 R k) e σ = sC C n0 b14_0 (unw C n0 R (.seq b14_33 k)) e σ := _root_.id rfl
def s14 : SFunc := ⟨87, [.t 4], b14_34⟩
theorem c14 : sFn Try.prog 14 = some s14 := by kernel_rfl
theorem y14 {args : List AV} {Q : AV → AHeap → Prop} : sF C s14 args σ Q = (args.length ≤ 87 ∧ sC C σ.length b14_34 (unw C σ.length (RetQ [.t 4] Q) .fin) (argEnv args) σ) := _root_.id rfl
def r15_0 : List MOper := [⟨(some 2), .move (.c (.nilslice)), none⟩]
def b15_0 : SCode := .region r15_0
theorem x15_0 : sC C n0 b15_0 (unw C n0 R k) e σ = sOps C r15_0 (unw C n0 R k .normal) e σ := _root_.id rfl
def r15_1 : List MOper := [⟨(some 3), .move (.t 0), none⟩,
  ⟨(some 4), .bin .eql .nilp (.t 3) (.c (.nilptr)), none⟩]
def b15_1 : SCode := .region r15_1
theorem x15_1 : sC C n0 b15_1 (unw C n0 R k) e σ = sOps C r15_1 (unw C n0 R k .normal) e σ := _root_.id rfl
def r15_2 : List MOper := [⟨(some 2), .move (.c (.nilslice)), none⟩]
def b15_2 : SCode := .region r15_2
theorem x15_2 : sC C n0 b15_2 (unw C n0 R k) e σ = sOps C r15_2 (unw C n0 R k .normal) e σ := _root_.id rfl
def b15_3 : SCode := .seq b15_2 .ret
theorem x15_3 : sC C n0 b15_3 (unw C n0 R k) e σ = sC C n0 b15_2 (unw C n0 R (.seq .ret k)) e σ := _root_.id rfl
def b15_4 : SCode := .cond (.t 4) b15_3 .skip
theorem x15_4 : sC C n0 b15_4 (unw C n0 R k) e σ = condK C n0 R (Opd.ev e (.t 4)) b15_3 .skip k e σ := sC_cond
def b15_5 : SCode := .seq b15_1 b15_4
theorem x15_5 : sC C n0 b15_5 (unw C n0 R k) e σ = sC C n0 b15_1 (unw C n0 R (.seq b15_4 k)) e σ := _root_.id rfl
def r15_6 : List MOper := [⟨(some 5), .move (.t 0), none⟩,
  ⟨(some 6), .nilCheck (.t 5), none⟩,
  ⟨(some 7), .fieldAddr 4 (.t 6), none⟩,
  ⟨(some 8), .load1 (.t 7), none⟩,
  ⟨(some 9), .call 31 [(.t 8)], none⟩,
  ⟨(some 2), .move (.t 9), none⟩]
def b15_6 : SCode := .region r15_6
theorem x15_6 : sC C n0 b15_6 (unw C n0 R k) e σ = sOps C r15_6 (unw C n0 R k .normal) e σ := _root_.id rfl
def b15_7 : SCode := .seq b15_6 .ret
theorem x15_7 : sC C n0 b15_7 (unw C n0 R k) e σ = sC C n0 b15_6 (unw C n0 R (.seq .ret k)) e σ := _root_.id rfl
def b15_8 : SCode := .seq b15_5 b15_7
theorem x15_8 : sC C n0 b15_8 (unw C n0 R k) e σ = sC C n0 b15_5 (unw C n0 R (.seq b15_7 k)) e σ := _root_.id rfl
def b15_9 : SCode := .seq b15_0 b15_8
theorem x15_9 : sC C n0 b15_9 (unw C n0 R k) e σ = sC C n0 b15_0 (unw C n0 R (.seq b15_8 k)) e σ := _root_.id rfl
def s15 : SFunc := ⟨10, [.t 2], b15_9⟩
theorem c15 : sFn Try.prog 15 = some s15 := by kernel_rfl
theorem y15 {args : List AV} {Q : AV → AHeap → Prop} : sF C s15 args σ Q = (args.length ≤ 10 ∧ sC C σ.length b15_9 (unw C σ.length (RetQ [.t 2] Q) .fin) (argEnv args) σ) := _root_.id rfl
def r16_0 : List MOper := [⟨(some 2), .move (.c (.nilslice)), none⟩]
def b16_0 : SCode := .region r16_0
theorem x16_0 : sC C n0 b16_0 (unw C n0 R k) e σ = sOps C r16_0 (unw C n0 R k .normal) e σ := _root_.id rfl
def r16_1 : List MOper := [⟨(some 3), .move (.t 0), none⟩,
  ⟨(some 4), .bin .eql .nilp (.t 3) (.c (.nilptr)), none⟩]
def b16_1 : SCode := .region r16_1
theorem x16_1 : sC C n0 b16_1 (unw C n0 R k) e σ = sOps C r16_1 (unw C n0 R k .normal) e σ := _root_.id rfl
def r16_2 : List MOper := [⟨(some 2), .move (.c (.nilslice)), none⟩]
def b16_2 : SCode := .region r16_2
theorem x16_2 : sC C n0 b16_2 (unw C n0 R k) e σ = sOps C r16_2 (unw C n0 R k .normal) e σ := _root_.id rfl
def b16_3 : SCode := .seq b16_2 .ret
theorem x16_3 : sC C n0 b16_3 (unw C n0 R k) e σ = sC C n0 b16_2 (unw C n0 R (.seq .ret k)) e σ := _root_.id rfl
def b16_4 : SCode := .cond (.t 4) b16_3 .skip
theorem x16_4 : sC C n0 b16_4 (unw C n0 R k) e σ = condK C n0 R (Opd.ev e (.t 4)) b16_3 .skip k e σ := sC_cond
def b16_5 : SCode := .seq b16_1 b16_4
theorem x16_5 : sC C n0 b16_5 (unw C n0 R k) e σ = sC C n0 b16_1 (unw C n0 R (.seq b16_4 k)) e σ := _root_.id rfl
def r16_6 : List MOper := [⟨(some 5), .move (.t 0), none⟩,
  ⟨(some 6), .nilCheck (.t 5), none⟩,
  ⟨(some 7), .fieldAddr 5 (.t 6), none⟩,
  ⟨(some 8), .load1 (.t 7), none⟩,
  ⟨(some 9), .call 32 [(.t 8)], none⟩,
  ⟨(some 2), .move (.t 9), none⟩]
def b16_6 : SCode := .region r16_6
theorem x16_6 : sC C n0 b16_6 (unw C n0 R k) e σ = sOps C r16_6 (unw C n0 R k .normal) e σ := _root_.id rfl
def b16_7 : SCode := .seq b16_6 .ret
theorem x16_7 : sC C n0 b16_7 (unw C n0 R k) e σ = sC C n0 b16_6 (unw C n0 R (.seq .ret k)) e σ := _root_.id rfl
def b16_8 : SCode := .seq b16_5 b16_7
theorem x16_8 : sC C n0 b16_8 (unw C n0 R k) e σ = sC C n0 b16_5 (unw C n0 R (.seq b16_7 k)) e σ := _root_.id rfl
def b16_9 : SCode := .seq b16_0 b16_8
theorem x16_9 : sC C n0 b16_9 (unw C n0 R k) e σ = sC C n0 b16_0 (unw C n0 R (.seq b16_8 k)) e σ := _root_.id rfl
def s16 : SFunc := ⟨10, [.t 2], b16_9⟩
theorem c16 : sFn Try.prog 16 = some s16 := by kernel_rfl
theorem y16 {args : List AV} {Q : AV → AHeap → Prop} : sF C s16 args σ Q = (args.length ≤ 10 ∧ sC C σ.length b16_9 (unw C σ.length (RetQ [.t 2] Q) .fin) (argEnv args) σ) := _root_.id rfl
def r21_0 : List MOper := [⟨(some 2), .move (.c (.bool false)), none⟩]
def b21_0 : SCode := .region r21_0
theorem x21_0 : sC C n0 b21_0 (unw C n0 R k) e σ = sOps C r21_0 (unw C n0 R k .normal) e σ := _root_.id rfl
def r21_1 : List MOper := [⟨(some 3), .move (.c (.str [])), none⟩]
def b21_1 : SCode := .region r21_1
theorem x21_1 : sC C n0 b21_1 (unw C n0 R k) e σ = sOps C r21_1 (unw C n0 R k .normal) e σ := _root_.id rfl
def r21_2 : List MOper := [⟨(some 6), .move (.t 0), none⟩,
  ⟨(some 7), .lenSl (.t 6), none⟩,
  ⟨(some 8), .move (.c (.int .i64 0)), none⟩]
def b21_2 : SCode := .region r21_2
theorem x21_2 : sC C n0 b21_2 (unw C n0 R k) e σ = sOps C r21_2 (unw C n0 R k .normal) e σ := _root_.id rfl
def r21_3 : List MOper := [⟨(some 9), .bin .lss .num (.t 8) (.t 7), none⟩]
def b21_3 : SCode := .region r21_3
theorem x21_3 : sC C n0 b21_3 (unw C n0 R k) e σ = sOps C r21_3 (unw C n0 R k .normal) e σ := _root_.id rfl
def b21_4 : SCode := .cond (.t 9) .skip (.exit 0)
theorem x21_4 : sC C n0 b21_4 (unw C n0 R k) e σ = condK C n0 R (Opd.ev e (.t 9)) .skip (.exit 0) k e σ := sC_cond
def r21_5 : List MOper := [⟨(some 10), .move (.t 8), none⟩,
  ⟨(some 11), .indexAddr 2 (.t 6) (.t 8), none⟩,
  ⟨(some 12), .loadN 2 (.t 11), none⟩,
  ⟨(some 5), .alloc [.str [], .str []], none⟩,
  ⟨(some 4), .move (.t 10), none⟩,
  ⟨none, .store 2 (.t 5) (.t 12), none⟩]
def b21_5 : SCode := .region r21_5
theorem x21_5 : sC C n0 b21_5 (unw C n0 R k) e σ = sOps C r21_5 (unw C n0 R k .normal) e σ := _root_.id rfl
def r21_6 : List MOper := [⟨(some 13), .loadN 2 (.t 5), none⟩,
  ⟨(some 14), .call 30 [(.t 13)], none⟩,
  ⟨(some 15), .move (.t 14), none⟩,
  ⟨(some 16), .fieldAddr 0 (.t 5), (some (15, false))⟩,
  ⟨(some 17), .load1 (.t 16), (some (15, false))⟩,
  ⟨(some 18), .move (.t 3), (some (15, false))⟩,
  ⟨(some 19), .bin .neq .num (.t 17) (.t 18), (some (15, false))⟩,
  ⟨(some 20), .pick (.t 15) (.c (.bool true)) (.t 19), none⟩,
  ⟨(some 21), .move (.t 20), none⟩,
  ⟨(some 22), .move (.t 4), (some (21, false))⟩,
  ⟨(some 23), .bin .gtr .num (.t 22) (.c (.int .i64 0)), (some (21, false))⟩,
  ⟨(some 24), .move (.t 23), (some (21, false))⟩,
  ⟨(some 25), .move (.t 3), (some (24, true))⟩,
  ⟨(some 26), .bin .eql .num (.t 25) (.c (.str [])), (some (24, true))⟩,
  ⟨(some 27), .pick (.t 24) (.t 26) (.c (.bool false)), (some (21, false))⟩,
  ⟨(some 28), .pick (.t 21) (.c (.bool true)) (.t 27), none⟩]
def b21_6 : SCode := .region r21_6
theorem x21_6 : sC C n0 b21_6 (unw C n0 R k) e σ = sOps C r21_6 (unw C n0 R k .normal) e σ := _root_.id rfl
def r21_7 : List MOper := [⟨(some 2), .move (.c (.bool false)), none⟩]
def b21_7 : SCode := .region r21_7
theorem x21_7 : sC C n0 b21_7 (unw C n0 R k) e σ = sOps C r21_7 (unw C n0 R k .normal) e σ := _root_.id rfl
def b21_8 : SCode := .seq b21_7 .ret
theorem x21_8 : sC C n0 b21_8 (unw C n0 R k) e σ = sC C n0 b21_7 (unw C n0 R (.seq .ret k)) e σ := _root_.id rfl
def b21_9 : SCode := .cond (.t 28) b21_8 .skip
theorem x21_9 : sC C n0 b21_9 (unw C n0 R k) e σ = condK C n0 R (Opd.ev e (.t 28)) b21_8 .skip k e σ := sC_cond
def b21_10 : SCode := .seq b21_6 b21_9
theorem x21_10 : sC C n0 b21_10 (unw C n0 R k) e σ = sC C n0 b21_6 (unw C n0 R (.seq b21_9 k)) e σ := _root_.id rfl
def r21_11 : List MOper := [⟨(some 29), .fieldAddr 1 (.t 5), none⟩,
  ⟨(some 30), .load1 (.t 29), none⟩,
  ⟨(some 3), .move (.t 30), none⟩]
def b21_11 : SCode := .region r21_11
theorem x21_11 : sC C n0 b21_11 (unw C n0 R k) e σ = sOps C r21_11 (unw C n0 R k .normal) e σ := _root_.id rfl
def b21_12 : SCode := .seq b21_10 b21_11
theorem x21_12 : sC C n0 b21_12 (unw C n0 R k) e σ = sC C n0 b21_10 (unw C n0 R (.seq b21_11 k)) e σ := _root_.id rfl
def b21_13 : SCode := .seq b21_5 b21_12
theorem x21_13 : sC C n0 b21_13 (unw C n0 R k) e σ = sC C n0 b21_5 (unw C n0 R (.seq b21_12 k)) e σ := _root_.id rfl
def b21_14 : SCode := .block 1 b21_13
theorem x21_14 : sC C n0 b21_14 (unw C n0 R k) e σ = sC C n0 b21_13 (unw C n0 R (.block 1 k)) e σ := _root_.id rfl
def r21_15 : List MOper := [⟨(some 31), .bin .add .num (.t 8) (.c (.int .i64 1)), none⟩,
  ⟨(some 8), .move (.t 31), none⟩]
def b21_15 : SCode := .region r21_15
theorem x21_15 : sC C n0 b21_15 (unw C n0 R k) e σ = sOps C r21_15 (unw C n0 R k .normal) e σ := _root_.id rfl
def b21_16 : SCode := .seq b21_14 b21_15
theorem x21_16 : sC C n0 b21_16 (unw C n0 R k) e σ = sC C n0 b21_14 (unw C n0 R (.seq b21_15 k)) e σ := _root_.id rfl
def b21_17 : SCode := .seq b21_4 b21_16
theorem x21_17 : sC C n0 b21_17 (unw C n0 R k) e σ = sC C n0 b21_4 (unw C n0 R (.seq b21_16 k)) e σ := _root_.id rfl
def b21_18 : SCode := .seq b21_3 b21_17
theorem x21_18 : sC C n0 b21_18 (unw C n0 R k) e σ = sC C n0 b21_3 (unw C n0 R (.seq b21_17 k)) e σ := _root_.id rfl
def b21_19 : SCode := .loop b21_18
def b21_20 : SCode := .block 0 b21_19
theorem x21_20 : sC C n0 b21_20 (unw C n0 R k) e σ = sC C n0 b21_19 (unw C n0 R (.block 0 k)) e σ := _root_.id rfl
def b21_21 : SCode := .seq b21_2 b21_20
theorem x21_21 : sC C n0 b21_21 (unw C n0 R k) e σ = sC C n0 b21_2 (unw C n0 R (.seq b21_20 k)) e σ := _root_.id rfl
def r21_22 : List MOper := [⟨(some 32), .move (.t 0), none⟩,
  ⟨(some 33), .lenSl (.t 32), none⟩,
  ⟨(some 34), .bin .gtr .num (.t 33) (.c (.int .i64 0)), none⟩,
  ⟨(some 35), .move (.t 34), none⟩,
  ⟨(some 36), .move (.t 3), (some (35, true))⟩,
  ⟨(some 37), .bin .eql .num (.t 36) (.c (.str [])), (some (35, true))⟩,
  ⟨(some 38), .pick (.t 35) (.t 37) (.c (.bool false)), none⟩,
  ⟨(some 2), .move (.t 38), none⟩]
def b21_22 : SCode := .region r21_22
theorem x21_22 : sC C n0 b21_22 (unw C n0 R k) e σ = sOps C r21_22 (unw C n0 R k .normal) e σ := _root_.id rfl
def b21_23 : SCode := .seq b21_22 .ret
theorem x21_23 : sC C n0 b21_23 (unw C n0 R k) e σ = sC C n0 b21_22 (unw C n0 R (.seq .ret k)) e σ := _root_.id rfl
def b21_24 : SCode := .seq b21_21 b21_23
theorem x21_24 : sC C n0 b21_24 (unw C n0 R k) e σ = sC C n0 b21_21 (unw C n0 R (.seq b21_23 k)) e σ := _root_.id rfl
def b21_25 : SCode := .seq b21_1 b21_24
theorem x21_25 : sC C n0 b21_25 (unw C n0 R k) e σ = sC C n0 b21_1 (unw C n0 R (.seq b21_24 k)) e σ := _root_.id rfl
def b21_26 : SCode := .seq b21_0 b21_25
theorem x21_26 : sC C n0 b21_26 (unw C n0 R k) e σ = sC C n0 b21_0 (unw C n0 R (.seq b21_25 k)) e σ := _root_.id rfl
def s21 : SFunc := ⟨39, [.t 2], b21_26⟩
theorem c21 : sFn Try.prog 21 = some s21 := by kernel_rfl
theorem y21 {args : List AV} {Q : AV → AHeap → Prop} : sF C s21 args σ Q = (args.length ≤ 39 ∧ sC C σ.length b21_26 (unw C σ.length (RetQ [.t 2] Q) .fin) (argEnv args) σ) := _root_.id rfl
def r30_0 : List MOper := [⟨(some 1), .box (.t 0), none⟩,
  ⟨(some 2), .move (.c (.bool false)), none⟩]
def b30_0 : SCode := .region r30_0
theorem x30_0 : sC C n0 b30_0 (unw C n0 R k) e σ = sOps C r30_0 (unw C n0 R k .normal) e σ := _root_.id rfl
def r30_1 : List MOper := [⟨(some 3), .fieldAddr 1 (.t 1), none⟩,
  ⟨(some 4), .load1 (.t 3), none⟩,
  ⟨(some 5), .bin .neq .num (.t 4) (.c (.str [])), none⟩,
  ⟨(some 6), .move (.t 5), none⟩,
  ⟨(some 7), .fieldAddr 1 (.t 1), (some (6, true))⟩,
  ⟨(some 8), .load1 (.t 7), (some (6, true))⟩,
  ⟨(some 9), .fieldAddr 0 (.t 1), (some (6, true))⟩,
  ⟨(some 10), .load1 (.t 9), (some (6, true))⟩,
  ⟨(some 11), .bin .leq .num (.t 8) (.t 10), (some (6, true))⟩,
  ⟨(some 12), .pick (.t 6) (.t 11) (.c (.bool false)), none⟩,
  ⟨(some 2), .move (.t 12), none⟩]
def b30_1 : SCode := .region r30_1
theorem x30_1 : sC C n0 b30_1 (unw C n0 R k) e σ = sOps C r30_1 (unw C n0 R k .normal) e σ := _root_.id rfl
def b30_2 : SCode := .seq b30_1 .ret
theorem x30_2 : sC C n0 b30_2 (unw C n0 R k) e σ = sC C n0 b30_1 (unw C n0 R (.seq .ret k)) e σ := _root_.id rfl
def b30_3 : SCode := .seq b30_0 b30_2
theorem x30_3 : sC C n0 b30_3 (unw C n0 R k) e σ = sC C n0 b30_0 (unw C n0 R (.seq b30_2 k)) e σ := _root_.id rfl
def s30 : SFunc := ⟨13, [.t 2], b30_3⟩
theorem c30 : sFn Try.prog 30 = some s30 := by kernel_rfl
theorem y30 {args : List AV} {Q : AV → AHeap → Prop} : sF C s30 args σ Q = (args.length ≤ 13 ∧ sC C σ.length b30_3 (unw C σ.length (RetQ [.t 2] Q) .fin) (argEnv args) σ) := _root_.id rfl
def r31_0 : List MOper := [⟨(some 2), .move (.c (.nilslice)), none⟩]
def b31_0 : SCode := .region r31_0
theorem x31_0 : sC C n0 b31_0 (unw C n0 R k) e σ = sOps C r31_0 (unw C n0 R k .normal) e σ := _root_.id rfl
def r31_1 : List MOper := [⟨(some 3), .move (.t 0), none⟩,
  ⟨(some 4), .bin .eql .nils (.t 3) (.c (.nilslice)), none⟩]
def b31_1 : SCode := .region r31_1
theorem x31_1 : sC C n0 b31_1 (unw C n0 R k) e σ = sOps C r31_1 (unw C n0 R k .normal) e σ := _root_.id rfl
def r31_2 : List MOper := [⟨(some 2), .move (.c (.nilslice)), none⟩]
def b31_2 : SCode := .region r31_2
theorem x31_2 : sC C n0 b31_2 (unw C n0 R k) e σ = sOps C r31_2 (unw C n0 R k .normal) e σ := _root_.id rfl
def b31_3 : SCode := .seq b31_2 .ret
theorem x31_3 : sC C n0 b31_3 (unw C n0 R k) e σ = sC C n0 b31_2 (unw C n0 R (.seq .ret k)) e σ := _root_.id rfl
def b31_4 : SCode := .cond (.t 4) b31_3 .skip
theorem x31_4 : sC C n0 b31_4 (unw C n0 R k) e σ = condK C n0 R (Opd.ev e (.t 4)) b31_3 .skip k e σ := sC_cond
def b31_5 : SCode := .seq b31_1 b31_4
theorem x31_5 : sC C n0 b31_5 (unw C n0 R k) e σ = sC C n0 b31_1 (unw C n0 R (.seq b31_4 k)) e σ := _root_.id rfl
def r31_6 : List MOper := [⟨(some 5), .buildSlice [.str [], .str []] 2 0 [], none⟩,
  ⟨(some 6), .move (.t 0), none⟩,
  ⟨(some 7), .append 2 32 (.t 5) (.t 6), none⟩,
  ⟨(some 2), .move (.t 7), none⟩]
def b31_6 : SCode := .region r31_6
theorem x31_6 : sC C n0 b31_6 (unw C n0 R k) e σ = sOps C r31_6 (unw C n0 R k .normal) e σ := _root_.id rfl
def b31_7 : SCode := .seq b31_6 .ret
theorem x31_7 : sC C n0 b31_7 (unw C n0 R k) e σ = sC C n0 b31_6 (unw C n0 R (.seq .ret k)) e σ := _root_.id rfl
def b31_8 : SCode := .seq b31_5 b31_7
theorem x31_8 : sC C n0 b31_8 (unw C n0 R k) e σ = sC C n0 b31_5 (unw C n0 R (.seq b31_7 k)) e σ := _root_.id rfl
def b31_9 : SCode := .seq b31_0 b31_8
theorem x31_9 : sC C n0 b31_9 (unw C n0 R k) e σ = sC C n0 b31_0 (unw C n0 R (.seq b31_8 k)) e σ := _root_.id rfl
def s31 : SFunc := ⟨8, [.t 2], b31_9⟩
theorem c31 : sFn Try.prog 31 = some s31 := by kernel_rfl
theorem y31 {args : List AV} {Q : AV → AHeap → Prop} : sF C s31 args σ Q = (args.length ≤ 8 ∧ sC C σ.length b31_9 (unw C σ.length (RetQ [.t 2] Q) .fin) (argEnv args) σ) := _root_.id rfl
def r32_0 : List MOper := [⟨(some 2), .move (.c (.nilslice)), none⟩]
def b32_0 : SCode := .region r32_0
theorem x32_0 : sC C n0 b32_0 (unw C n0 R k) e σ = sOps C r32_0 (unw C n0 R k .normal) e σ := _root_.id rfl
def r32_1 : List MOper := [⟨(some 3), .move (.t 0), none⟩,
  ⟨(some 4), .bin .eql .nils (.t 3) (.c (.nilslice)), none⟩]
def b32_1 : SCode := .region r32_1
theorem x32_1 : sC C n0 b32_1 (unw C n0 R k) e σ = sOps C r32_1 (unw C n0 R k .normal) e σ := _root_.id rfl
def r32_2 : List MOper := [⟨(some 2), .move (.c (.nilslice)), none⟩]
def b32_2 : SCode := .region r32_2
theorem x32_2 : sC C n0 b32_2 (unw C n0 R k) e σ = sOps C r32_2 (unw C n0 R k .normal) e σ := _root_.id rfl
def b32_3 : SCode := .seq b32_2 .ret
theorem x32_3 : sC C n0 b32_3 (unw C n0 R k) e σ = sC C n0 b32_2 (unw C n0 R (.seq .ret k)) e σ := _root_.id rfl
def b32_4 : SCode := .cond (.t 4) b32_3 .skip
theorem x32_4 : sC C n0 b32_4 (unw C n0 R k) e σ = condK C n0 R (Opd.ev e (.t 4)) b32_3 .skip k e σ := sC_cond
def b32_5 : SCode := .seq b32_1 b32_4
theorem x32_5 : sC C n0 b32_5 (unw C n0 R k) e σ = sC C n0 b32_1 (unw C n0 R (.seq b32_4 k)) e σ := _root_.id rfl
def r32_6 : List MOper := [⟨(some 5), .buildSlice [.str [], .str []] 2 0 [], none⟩,
  ⟨(some 6), .move (.t 0), none⟩,
  ⟨(some 7), .append 2 32 (.t 5) (.t 6), none⟩,
  ⟨(some 2), .move (.t 7), none⟩]
def b32_6 : SCode := .region r32_6
theorem x32_6 : sC C n0 b32_6 (unw C n0 R k) e σ = sOps C r32_6 (unw C n0 R k .normal) e σ := _root_.id rfl
def b32_7 : SCode := .seq b32_6 .ret
theorem x32_7 : sC C n0 b32_7 (unw C n0 R k) e σ = sC C n0 b32_6 (unw C n0 R (.seq .ret k)) e σ := _root_.id rfl
def b32_8 : SCode := .seq b32_5 b32_7
theorem x32_8 : sC C n0 b32_8 (unw C n0 R k) e σ = sC C n0 b32_5 (unw C n0 R (.seq b32_7 k)) e σ := _root_.id rfl
def b32_9 : SCode := .seq b32_0 b32_8
theorem x32_9 : sC C n0 b32_9 (unw C n0 R k) e σ = sC C n0 b32_0 (unw C n0 R (.seq b32_8 k)) e σ := _root_.id rfl
def s32 : SFunc := ⟨8, [.t 2], b32_9⟩
theorem c32 : sFn Try.prog 32 = some s32 := by kernel_rfl
theorem y32 {args : List AV} {Q : AV → AHeap → Prop} : sF C s32 args σ Q = (args.length ≤ 8 ∧ sC C σ.length b32_9 (unw C σ.length (RetQ [.t 2] Q) .fin) (argEnv args) σ) := _root_.id rfl

end
/-- A chain of spans, by its ends. -/
def rowsOf : List UInt8 → List (List UInt8) → List (List AV)
  | _, [] => []
  | p, e :: r => [.str p, .str e] :: rowsOf e r
def spc : List UInt8 → List (List UInt8) → List AV
  | _, [] => []
  | p, e :: r => .str p :: .str e :: spc e r
def lastE : List UInt8 → List (List UInt8) → List UInt8
  | p, [] => p
  | _, e :: r => lastE e r
def Ch : List UInt8 → List (List UInt8) → Prop
  | p, [] => p = []
  | p, e :: r => (e = [] → r = []) ∧ (¬ e = [] → (lessBytes e p || e == p) = false) ∧ Ch e r
def Inc : List UInt8 → List (List UInt8) → Prop
  | _, [] => True
  | p, e :: r => ¬ e = [] ∧ (lessBytes e p || e == p) = false ∧ Inc e r
theorem rowsOf_len : ∀ {p es}, (rowsOf p es).length = es.length
  | _, [] => rfl
  | _, e :: r => by simp [rowsOf, rowsOf_len]
theorem rowsOf_flat : ∀ {p es}, flatLL (rowsOf p es)
  | _, [] => by intro r h; simp [rowsOf] at h
  | p, e :: r => by
    intro x h
    simp only [rowsOf, List.mem_cons] at h
    rcases h with rfl | h
    · intro y hy; simp at hy; rcases hy with rfl | rfl <;> rfl
    · exact rowsOf_flat x h
theorem rowsOf_two : ∀ {p es}, ∀ r ∈ rowsOf p es, r.length = 2
  | _, [] => by intro r h; simp [rowsOf] at h
  | p, e :: r => by
    intro x h
    simp only [rowsOf, List.mem_cons] at h
    rcases h with rfl | h
    · rfl
    · exact rowsOf_two x h
theorem rowsOf_spc : ∀ {p es}, (rowsOf p es).flatten = spc p es
  | _, [] => rfl
  | p, e :: r => by simp [rowsOf, spc, rowsOf_spc]
theorem spc_len : ∀ {p es}, (spc p es).length = es.length * 2
  | _, [] => rfl
  | _, e :: r => by simp [spc, spc_len]; omega
theorem spc_flat : ∀ {p es}, flatL (spc p es)
  | _, [] => by intro r h; simp [spc] at h
  | p, e :: r => by
    intro x h
    simp only [spc, List.mem_cons] at h
    rcases h with rfl | rfl | h
    · rfl
    · rfl
    · exact spc_flat x h
theorem spc_cell {p es} : (spc p es).all AV.isCell = true := by
  rw [List.all_eq_true]
  intro x hx
  have := spc_flat x hx
  cases x <;> simp [AV.flat] at this <;> first | rfl | skip
  have h : ∀ {p es}, AV.unk ∉ spc p es := by
    intro p es
    induction es generalizing p with
    | nil => simp [spc]
    | cons e r ih => simp [spc]; exact ih
  exact absurd hx h
theorem spc_snoc : ∀ {p es x}, spc p (es ++ [x]) = spc p es ++ [.str (lastE p es), .str x]
  | _, [], _ => rfl
  | p, e :: r, x => by simp [spc, lastE, spc_snoc]
theorem lastE_snoc : ∀ {p es x}, lastE p (es ++ [x]) = x
  | _, [], _ => rfl
  | _, e :: r, x => by simp [lastE, lastE_snoc]
theorem spc_sub {p es} {n : Nat} (h : n = es.length * 2) : sub (spc p es) 0 n = some (spc p es) := sub_all (by rw [spc_len]; exact h)
theorem spc_to : ∀ {p es} {j : Nat} {x}, es[j]? = some x → (spc p es)[j * 2 + 1]? = some (.str x)
  | _, [], j, x, h => by simp at h
  | p, e :: r, 0, x, h => by simp at h; subst h; rfl
  | p, e :: r, j + 1, x, h => by
    have := spc_to (p := e) (es := r) (j := j) (x := x) (by simpa using h)
    have e1 : (j + 1) * 2 + 1 = (j * 2 + 1) + 2 := by omega
    rw [e1]; simpa [spc] using this
theorem spc_from : ∀ {p es} {j : Nat} {x}, es[j]? = some x → j + 1 < es.length → (spc p es)[(j + 1) * 2]? = some (.str x)
  | _, [], j, x, h, _ => by simp at h
  | p, [e], 0, x, h, hl => by simp at hl
  | p, e :: e' :: r, 0, x, h, hl => by simp at h; subst h; simp [spc]
  | p, e :: r, j + 1, x, h, hl => by
    have := spc_from (p := e) (es := r) (j := j) (x := x) (by simpa using h) (by simpa using hl)
    have e1 : (j + 1 + 1) * 2 = (j + 1) * 2 + 2 := by omega
    rw [e1]; simpa [spc] using this
theorem less_nil (x : List UInt8) : (lessBytes [] x || [] == x) = true := by cases x <;> rfl
theorem inc_snoc : ∀ {p es x}, Inc p es → (lessBytes x (lastE p es) || x == lastE p es) = false → Inc p (es ++ [x])
  | p, [], x, _, h => ⟨fun hx => (by subst hx; simp only [lastE] at h; rw [less_nil] at h; cases h), h, trivial⟩
  | p, e :: r, x, ⟨h1, h2, h3⟩, h => ⟨h1, h2, inc_snoc h3 h⟩
theorem inc_ch : ∀ {p es}, Inc p es → Ch p (es ++ [[]])
  | p, [], _ => ⟨fun _ => rfl, fun h => absurd rfl h, rfl⟩
  | p, e :: r, ⟨h1, h2, h3⟩ => ⟨fun h => absurd h h1, fun _ => h2, inc_ch h3⟩
/-! The function Whole, shown a chain. -/
def wI (rows : List (List AV)) (n : Nat) (e : Env) (σ : AHeap) : Prop :=
  ∃ (p : List UInt8) (rem : List (List UInt8)) (A : List (List AV)), rows = A ++ rowsOf p rem ∧ n = rem.length ∧ Ch p rem ∧ (0 < A.length → rem ≠ [] → p ≠ []) ∧ σ = [] ∧
    e 0 = .imm rows false false ∧ e 3 = .str p ∧ e 6 = .imm rows false false ∧ e 7 = .int .i64 rows.length ∧ e 8 = .int .i64 A.length
def D0 : PCall := rowF 30 noCall s30 noCall
theorem D0_app {f : FuncId} {args : List AV} {σ : AHeap} {K : AV → AHeap → Prop} : D0 f args σ K = rowF 30 noCall s30 noCall f args σ K := _root_.id rfl
theorem D0_sound : Sound Try.prog D0 := rowF_sound c30 (noCall_sound _) (noCall_sound _)
set_option maxHeartbeats 4000000
set_option maxRecDepth 10000
theorem whole_step (rows : List (List AV)) (hf : flatLL rows) (hl : rows.length < 1000) (K : AV → AHeap → Prop) (hK : K (.bool true) []) (hn0 : 0 < rows.length) (n : Nat) (e : Env) (σ : AHeap) (h : wI rows n e σ) :
    sC D0 0 b21_18 (unw D0 0 (loopR D0 0 (RetQ [MRes.t 2] K) (.block 0 (.seq b21_23 .fin)) (wI rows) n) .fin) e σ := by
  obtain ⟨p, rem, A, hrows, hn, hch, hp, rfl, h0, h3, h6, h7, h8⟩ := h
  cases rem with
  | nil =>
    have hlen : rows.length = A.length := by rw [hrows]; simp [rowsOf]
    have hlt : ¬ (A.length : Int) < (rows.length : Int) := by omega
    have hp0 : p = [] := hch
    subst hp0
    have hn' : (0 : Int) < (rows.length : Int) := by omega
    simp only [D0_app, y21, x21_0, r21_0, x21_1, r21_1, x21_2, r21_2, x21_3, r21_3, x21_4, x21_5, r21_5, x21_6, r21_6, x21_7, r21_7, x21_8, x21_9, x21_10, x21_11, r21_11, x21_12, x21_13, x21_14, x21_15, r21_15, x21_16, x21_17, x21_18, x21_20, x21_21, x21_22, r21_22, x21_23, x21_24, x21_25, x21_26, y30, x30_0, r30_0, x30_1, r30_1, x30_2, x30_3, sC_skip, sC_exit, sC_ret, condK_true, condK_false, unw_seq_normal, unw_seq_exit, unw_seq_ret, unw_block_normal, unw_block_exit, unw_block_ret, unw_lp_exit, unw_lp_ret, unw_fin, retQ_ret, retQ_normal, retQ_exit, nxt_app, nxtQ_app, nxtL_app, guardK_tt, guardK_ff, guardK_tf, guardK_ft, guardK_u, guardQ_tt, guardQ_ff, guardQ_tf, guardQ_ft, guardQ_u, guardL_tt, guardL_ff, guardL_tf, guardL_ft, guardL_u, sOps_nil, sOps_cons, sOps_guard, sTree_leaf, sTree_stop, sTree_quiet, sTree_loud, sTree_quietG, sTree_loudG, goO_some, goO_none, sOp_call, callvP_func, sOp_callv, putD_some, putD_none, still_nil, still_none, still_cons, sOp_move, sOp_nilCheck, sOp_pick, sOp_alloc, sOp_box, sOp_build, sOp_buildSlice, sOp_load1, sOp_loadN, sOp_store, sOp_bin, sOp_un, sOp_convInt, sOp_convSame, sOp_resame, sOp_toBytes, sOp_ofBytes, sOp_mkfunc, sOp_makeSlice, sOp_sliceStr, sOp_slice, sOp_sliceArr, sOp_fieldAddr, sOp_field1, sOp_fieldN, sOp_indexAddr, sOp_indexArrAddr, sOp_indexStr, sOp_indexArr1, sOp_indexArrN, sOp_extract, sOp_lenStr, sOp_lenSl, sOp_lenArr, sOp_append, sOp_copy, sOp_minmax, sOp_capOf, ev_t, ev_c, argEnv_nil, argEnv_cons, envL_nil, envL_cons, abin_add, abin_sub, abin_mul, abin_quo, abin_rem, abin_eql, abin_neq, abin_lss, abin_leq, abin_gtr, abin_geq, abin_shl, abin_shr, abin_sadd, abin_seql, abin_sneq, abin_slss, abin_sleq, abin_sgtr, abin_sgeq, abin_beql, abin_bneq, abin_p1, abin_p2, abin_p3, abin_p4, abin_p5, abin_p6, abin_s3, abin_s4, abin_s5, abin_s6, abin_f1, abin_f2, abin_f3, abin_f4, abin_feq, abin_fne, cellsEq_nil, cellsEq_s, cellsEq_i, cellsEq_b, aun_not, aun_neg, hget_nil, hget_cons, hset_cons, hkill_cons, hpush_nil, hpush_cons, idx_nil, idx_cons, sub_cons, take_cons, take_nil', put_cons, drop_cons, cells_agg, cells_str, cells_int, cells_bool, cells_ptr, cells_nilptr, cells_nilslice, cells_slice, cells_imm, cells_func, resVals_nil, resVals_t, retOf_one, retOf_two, retOf_nil, evOp, isRead, fixOp, ldCell, ldCells, fAddr, iAddr_slice, iAddr_imm, aAddr_ptr, aAddr_iptr, inRange_int, bound_none, bound_int, mayGrow, fillParts, lenOf, lenSl, evSlice, topOf, evAppend, elemsOf, grown, rowF_eq, rowQ_eq, Option.map_some, Option.map_none, Option.bind_some, Option.bind_none, Option.isSome_some, Option.isSome_none, List.map_cons, List.map_nil, List.length_cons, List.length_nil, List.append_nil, List.nil_append, List.cons_append, List.all_cons, List.all_nil, cell_str, cell_int, cell_bool, cell_ptr, cell_iptr, cell_nilptr, cell_nilslice, cell_slice, cell_imm, cell_func, cell_nilfunc, Bool.and_true, Bool.true_and, Bool.and_false, Bool.false_and, Bool.or_true, Bool.true_or, Bool.or_false, Bool.false_or, Bool.not_true, Bool.not_false, Bool.false_eq_true, Bool.true_eq_false, and_true, true_and, and_false, false_and, or_true, true_or, or_false, false_or, not_true_eq_false, not_false_eq_true, decide_true, decide_false, decide_eq_true_eq, if_true, if_false, ite_true, ite_false, ↓reduceIte, Nat.reduceAdd, Nat.reduceSub, Nat.reduceMul, Nat.reduceEqDiff, Nat.reduceLeDiff, Nat.reduceLT, Nat.succ_ne_zero, Nat.zero_add, Nat.add_zero, Nat.zero_mul, Nat.mul_one, Nat.one_mul, Nat.le_refl, Nat.sub_zero, Int.reduceLT, Int.reduceLE, Int.reduceEq, Int.reduceNe, Int.reduceToNat, Int.reduceAdd, Int.reduceSub, Int.toNat_zero, reduceCtorEq, eq_self, ne_eq, beq_self_eq_true, Nat.reduceBEq, Nat.reduceBNe, List.mem_cons, List.not_mem_nil, false_implies, true_implies, implies_true, forall_const, List.drop_zero, List.drop_nil, List.take_zero, List.drop_length, List.length_append, cast_zero, cast_one, Int.cast_ofNat_Int, List.replicate_zero, List.replicate_succ, List.flatten_cons, List.flatten_nil, wrap_one, loopR_exit, loopR_ret, h0, h3, h6, h7, h8, hlt, hn', hK]
  | cons e1 r =>
    have hlen : rows.length = A.length + (r.length + 1) := by rw [hrows]; simp [rowsOf, rowsOf_len]
    have hlt : (A.length : Int) < (rows.length : Int) := by omega
    have hlt' : A.length < rows.length := by omega
    have hge : (0 : Int) ≤ (A.length : Int) := by omega
    have hget : rows[A.length]? = some [.str p, .str e1] := by rw [hrows]; simp [rowsOf]
    have hw : IntKind.wrap .i64 ((A.length : Int) + 1) = ((A.length + 1 : Nat) : Int) := by rw [Gz.wrap64 (by omega)]; omega
    obtain ⟨c1, c2, c3'⟩ := hch
    have fin : ∀ (e' : Env) (σ' : AHeap), keepB 0 σ'.length [] = true → e' 0 = .imm rows false false → e' 3 = .str e1 → e' 6 = .imm rows false false → e' 7 = .int .i64 rows.length → e' 8 = .int .i64 ((A.length + 1 : Nat) : Int) →
        loopR D0 0 (RetQ [MRes.t 2] K) (.block 0 (.seq b21_23 .fin)) (wI rows) n .normal e' σ' := by
      intro e' σ' hk g0 g3 g6 g7 g8
      rw [loopR_normal]
      refine ⟨r.length, envL [(0, .imm rows false false), (3, .str e1), (6, .imm rows false false), (7, .int .i64 rows.length), (8, .int .i64 ((A.length + 1 : Nat) : Int))], [], by rw [hn]; simp, .inr (wkS_of [] hk (by unfold blksP; trivial) ?_), ?_⟩
      · simp only [wvE, g0, g3, g6, g7, g8, wv, true_and, and_true, hf]
      · refine ⟨e1, r, A ++ [[.str p, .str e1]], by rw [hrows]; simp [rowsOf], rfl, c3', fun _ hr he => hr (c1 he), rfl, rfl, rfl, rfl, rfl, ?_⟩
        simp [envL]
    by_cases he : e1 = []
    · by_cases hj : A.length = 0
      · have hj' : ¬ (0 : Int) < (A.length : Int) := by omega
        simp only [D0_app, y21, x21_0, r21_0, x21_1, r21_1, x21_2, r21_2, x21_3, r21_3, x21_4, x21_5, r21_5, x21_6, r21_6, x21_7, r21_7, x21_8, x21_9, x21_10, x21_11, r21_11, x21_12, x21_13, x21_14, x21_15, r21_15, x21_16, x21_17, x21_18, x21_20, x21_21, x21_22, r21_22, x21_23, x21_24, x21_25, x21_26, y30, x30_0, r30_0, x30_1, r30_1, x30_2, x30_3, sC_skip, sC_exit, sC_ret, condK_true, condK_false, unw_seq_normal, unw_seq_exit, unw_seq_ret, unw_block_normal, unw_block_exit, unw_block_ret, unw_lp_exit, unw_lp_ret, unw_fin, retQ_ret, retQ_normal, retQ_exit, nxt_app, nxtQ_app, nxtL_app, guardK_tt, guardK_ff, guardK_tf, guardK_ft, guardK_u, guardQ_tt, guardQ_ff, guardQ_tf, guardQ_ft, guardQ_u, guardL_tt, guardL_ff, guardL_tf, guardL_ft, guardL_u, sOps_nil, sOps_cons, sOps_guard, sTree_leaf, sTree_stop, sTree_quiet, sTree_loud, sTree_quietG, sTree_loudG, goO_some, goO_none, sOp_call, callvP_func, sOp_callv, putD_some, putD_none, still_nil, still_none, still_cons, sOp_move, sOp_nilCheck, sOp_pick, sOp_alloc, sOp_box, sOp_build, sOp_buildSlice, sOp_load1, sOp_loadN, sOp_store, sOp_bin, sOp_un, sOp_convInt, sOp_convSame, sOp_resame, sOp_toBytes, sOp_ofBytes, sOp_mkfunc, sOp_makeSlice, sOp_sliceStr, sOp_slice, sOp_sliceArr, sOp_fieldAddr, sOp_field1, sOp_fieldN, sOp_indexAddr, sOp_indexArrAddr, sOp_indexStr, sOp_indexArr1, sOp_indexArrN, sOp_extract, sOp_lenStr, sOp_lenSl, sOp_lenArr, sOp_append, sOp_copy, sOp_minmax, sOp_capOf, ev_t, ev_c, argEnv_nil, argEnv_cons, envL_nil, envL_cons, abin_add, abin_sub, abin_mul, abin_quo, abin_rem, abin_eql, abin_neq, abin_lss, abin_leq, abin_gtr, abin_geq, abin_shl, abin_shr, abin_sadd, abin_seql, abin_sneq, abin_slss, abin_sleq, abin_sgtr, abin_sgeq, abin_beql, abin_bneq, abin_p1, abin_p2, abin_p3, abin_p4, abin_p5, abin_p6, abin_s3, abin_s4, abin_s5, abin_s6, abin_f1, abin_f2, abin_f3, abin_f4, abin_feq, abin_fne, cellsEq_nil, cellsEq_s, cellsEq_i, cellsEq_b, aun_not, aun_neg, hget_nil, hget_cons, hset_cons, hkill_cons, hpush_nil, hpush_cons, idx_nil, idx_cons, sub_cons, take_cons, take_nil', put_cons, drop_cons, cells_agg, cells_str, cells_int, cells_bool, cells_ptr, cells_nilptr, cells_nilslice, cells_slice, cells_imm, cells_func, resVals_nil, resVals_t, retOf_one, retOf_two, retOf_nil, evOp, isRead, fixOp, ldCell, ldCells, fAddr, iAddr_slice, iAddr_imm, aAddr_ptr, aAddr_iptr, inRange_int, bound_none, bound_int, mayGrow, fillParts, lenOf, lenSl, evSlice, topOf, evAppend, elemsOf, grown, rowF_eq, rowQ_eq, Option.map_some, Option.map_none, Option.bind_some, Option.bind_none, Option.isSome_some, Option.isSome_none, List.map_cons, List.map_nil, List.length_cons, List.length_nil, List.append_nil, List.nil_append, List.cons_append, List.all_cons, List.all_nil, cell_str, cell_int, cell_bool, cell_ptr, cell_iptr, cell_nilptr, cell_nilslice, cell_slice, cell_imm, cell_func, cell_nilfunc, Bool.and_true, Bool.true_and, Bool.and_false, Bool.false_and, Bool.or_true, Bool.true_or, Bool.or_false, Bool.false_or, Bool.not_true, Bool.not_false, Bool.false_eq_true, Bool.true_eq_false, and_true, true_and, and_false, false_and, or_true, true_or, or_false, false_or, not_true_eq_false, not_false_eq_true, decide_true, decide_false, decide_eq_true_eq, if_true, if_false, ite_true, ite_false, ↓reduceIte, Nat.reduceAdd, Nat.reduceSub, Nat.reduceMul, Nat.reduceEqDiff, Nat.reduceLeDiff, Nat.reduceLT, Nat.succ_ne_zero, Nat.zero_add, Nat.add_zero, Nat.zero_mul, Nat.mul_one, Nat.one_mul, Nat.le_refl, Nat.sub_zero, Int.reduceLT, Int.reduceLE, Int.reduceEq, Int.reduceNe, Int.reduceToNat, Int.reduceAdd, Int.reduceSub, Int.toNat_zero, reduceCtorEq, eq_self, ne_eq, beq_self_eq_true, Nat.reduceBEq, Nat.reduceBNe, List.mem_cons, List.not_mem_nil, false_implies, true_implies, implies_true, forall_const, List.drop_zero, List.drop_nil, List.take_zero, List.drop_length, List.length_append, cast_zero, cast_one, Int.cast_ofNat_Int, List.replicate_zero, List.replicate_succ, List.flatten_cons, List.flatten_nil, wrap_one, loopR_exit, loopR_ret, h0, h3, h6, h7, h8, hlt, hlt', hge, hget, Int.toNat_natCast, he, hj']
        refine fin _ _ rfl ?_ ?_ ?_ ?_ ?_ <;> simp only [putD_some, putD_none, Nat.reduceEqDiff, ↓reduceIte, h0, h3, h6, h7, h8, hw, he]
      · have hj' : (0 : Int) < (A.length : Int) := by omega
        have hp' : ¬ p = [] := hp (by omega) (by simp)
        simp only [D0_app, y21, x21_0, r21_0, x21_1, r21_1, x21_2, r21_2, x21_3, r21_3, x21_4, x21_5, r21_5, x21_6, r21_6, x21_7, r21_7, x21_8, x21_9, x21_10, x21_11, r21_11, x21_12, x21_13, x21_14, x21_15, r21_15, x21_16, x21_17, x21_18, x21_20, x21_21, x21_22, r21_22, x21_23, x21_24, x21_25, x21_26, y30, x30_0, r30_0, x30_1, r30_1, x30_2, x30_3, sC_skip, sC_exit, sC_ret, condK_true, condK_false, unw_seq_normal, unw_seq_exit, unw_seq_ret, unw_block_normal, unw_block_exit, unw_block_ret, unw_lp_exit, unw_lp_ret, unw_fin, retQ_ret, retQ_normal, retQ_exit, nxt_app, nxtQ_app, nxtL_app, guardK_tt, guardK_ff, guardK_tf, guardK_ft, guardK_u, guardQ_tt, guardQ_ff, guardQ_tf, guardQ_ft, guardQ_u, guardL_tt, guardL_ff, guardL_tf, guardL_ft, guardL_u, sOps_nil, sOps_cons, sOps_guard, sTree_leaf, sTree_stop, sTree_quiet, sTree_loud, sTree_quietG, sTree_loudG, goO_some, goO_none, sOp_call, callvP_func, sOp_callv, putD_some, putD_none, still_nil, still_none, still_cons, sOp_move, sOp_nilCheck, sOp_pick, sOp_alloc, sOp_box, sOp_build, sOp_buildSlice, sOp_load1, sOp_loadN, sOp_store, sOp_bin, sOp_un, sOp_convInt, sOp_convSame, sOp_resame, sOp_toBytes, sOp_ofBytes, sOp_mkfunc, sOp_makeSlice, sOp_sliceStr, sOp_slice, sOp_sliceArr, sOp_fieldAddr, sOp_field1, sOp_fieldN, sOp_indexAddr, sOp_indexArrAddr, sOp_indexStr, sOp_indexArr1, sOp_indexArrN, sOp_extract, sOp_lenStr, sOp_lenSl, sOp_lenArr, sOp_append, sOp_copy, sOp_minmax, sOp_capOf, ev_t, ev_c, argEnv_nil, argEnv_cons, envL_nil, envL_cons, abin_add, abin_sub, abin_mul, abin_quo, abin_rem, abin_eql, abin_neq, abin_lss, abin_leq, abin_gtr, abin_geq, abin_shl, abin_shr, abin_sadd, abin_seql, abin_sneq, abin_slss, abin_sleq, abin_sgtr, abin_sgeq, abin_beql, abin_bneq, abin_p1, abin_p2, abin_p3, abin_p4, abin_p5, abin_p6, abin_s3, abin_s4, abin_s5, abin_s6, abin_f1, abin_f2, abin_f3, abin_f4, abin_feq, abin_fne, cellsEq_nil, cellsEq_s, cellsEq_i, cellsEq_b, aun_not, aun_neg, hget_nil, hget_cons, hset_cons, hkill_cons, hpush_nil, hpush_cons, idx_nil, idx_cons, sub_cons, take_cons, take_nil', put_cons, drop_cons, cells_agg, cells_str, cells_int, cells_bool, cells_ptr, cells_nilptr, cells_nilslice, cells_slice, cells_imm, cells_func, resVals_nil, resVals_t, retOf_one, retOf_two, retOf_nil, evOp, isRead, fixOp, ldCell, ldCells, fAddr, iAddr_slice, iAddr_imm, aAddr_ptr, aAddr_iptr, inRange_int, bound_none, bound_int, mayGrow, fillParts, lenOf, lenSl, evSlice, topOf, evAppend, elemsOf, grown, rowF_eq, rowQ_eq, Option.map_some, Option.map_none, Option.bind_some, Option.bind_none, Option.isSome_some, Option.isSome_none, List.map_cons, List.map_nil, List.length_cons, List.length_nil, List.append_nil, List.nil_append, List.cons_append, List.all_cons, List.all_nil, cell_str, cell_int, cell_bool, cell_ptr, cell_iptr, cell_nilptr, cell_nilslice, cell_slice, cell_imm, cell_func, cell_nilfunc, Bool.and_true, Bool.true_and, Bool.and_false, Bool.false_and, Bool.or_true, Bool.true_or, Bool.or_false, Bool.false_or, Bool.not_true, Bool.not_false, Bool.false_eq_true, Bool.true_eq_false, and_true, true_and, and_false, false_and, or_true, true_or, or_false, false_or, not_true_eq_false, not_false_eq_true, decide_true, decide_false, decide_eq_true_eq, if_true, if_false, ite_true, ite_false, ↓reduceIte, Nat.reduceAdd, Nat.reduceSub, Nat.reduceMul, Nat.reduceEqDiff, Nat.reduceLeDiff, Nat.reduceLT, Nat.succ_ne_zero, Nat.zero_add, Nat.add_zero, Nat.zero_mul, Nat.mul_one, Nat.one_mul, Nat.le_refl, Nat.sub_zero, Int.reduceLT, Int.reduceLE, Int.reduceEq, Int.reduceNe, Int.reduceToNat, Int.reduceAdd, Int.reduceSub, Int.toNat_zero, reduceCtorEq, eq_self, ne_eq, beq_self_eq_true, Nat.reduceBEq, Nat.reduceBNe, List.mem_cons, List.not_mem_nil, false_implies, true_implies, implies_true, forall_const, List.drop_zero, List.drop_nil, List.take_zero, List.drop_length, List.length_append, cast_zero, cast_one, Int.cast_ofNat_Int, List.replicate_zero, List.replicate_succ, List.flatten_cons, List.flatten_nil, wrap_one, loopR_exit, loopR_ret, h0, h3, h6, h7, h8, hlt, hlt', hge, hget, Int.toNat_natCast, he, hj', hp']
        refine fin _ _ rfl ?_ ?_ ?_ ?_ ?_ <;> simp only [putD_some, putD_none, Nat.reduceEqDiff, ↓reduceIte, h0, h3, h6, h7, h8, hw, he]
    · have hl' := c2 he
      by_cases hj : A.length = 0
      · have hj' : ¬ (0 : Int) < (A.length : Int) := by omega
        simp only [D0_app, y21, x21_0, r21_0, x21_1, r21_1, x21_2, r21_2, x21_3, r21_3, x21_4, x21_5, r21_5, x21_6, r21_6, x21_7, r21_7, x21_8, x21_9, x21_10, x21_11, r21_11, x21_12, x21_13, x21_14, x21_15, r21_15, x21_16, x21_17, x21_18, x21_20, x21_21, x21_22, r21_22, x21_23, x21_24, x21_25, x21_26, y30, x30_0, r30_0, x30_1, r30_1, x30_2, x30_3, sC_skip, sC_exit, sC_ret, condK_true, condK_false, unw_seq_normal, unw_seq_exit, unw_seq_ret, unw_block_normal, unw_block_exit, unw_block_ret, unw_lp_exit, unw_lp_ret, unw_fin, retQ_ret, retQ_normal, retQ_exit, nxt_app, nxtQ_app, nxtL_app, guardK_tt, guardK_ff, guardK_tf, guardK_ft, guardK_u, guardQ_tt, guardQ_ff, guardQ_tf, guardQ_ft, guardQ_u, guardL_tt, guardL_ff, guardL_tf, guardL_ft, guardL_u, sOps_nil, sOps_cons, sOps_guard, sTree_leaf, sTree_stop, sTree_quiet, sTree_loud, sTree_quietG, sTree_loudG, goO_some, goO_none, sOp_call, callvP_func, sOp_callv, putD_some, putD_none, still_nil, still_none, still_cons, sOp_move, sOp_nilCheck, sOp_pick, sOp_alloc, sOp_box, sOp_build, sOp_buildSlice, sOp_load1, sOp_loadN, sOp_store, sOp_bin, sOp_un, sOp_convInt, sOp_convSame, sOp_resame, sOp_toBytes, sOp_ofBytes, sOp_mkfunc, sOp_makeSlice, sOp_sliceStr, sOp_slice, sOp_sliceArr, sOp_fieldAddr, sOp_field1, sOp_fieldN, sOp_indexAddr, sOp_indexArrAddr, sOp_indexStr, sOp_indexArr1, sOp_indexArrN, sOp_extract, sOp_lenStr, sOp_lenSl, sOp_lenArr, sOp_append, sOp_copy, sOp_minmax, sOp_capOf, ev_t, ev_c, argEnv_nil, argEnv_cons, envL_nil, envL_cons, abin_add, abin_sub, abin_mul, abin_quo, abin_rem, abin_eql, abin_neq, abin_lss, abin_leq, abin_gtr, abin_geq, abin_shl, abin_shr, abin_sadd, abin_seql, abin_sneq, abin_slss, abin_sleq, abin_sgtr, abin_sgeq, abin_beql, abin_bneq, abin_p1, abin_p2, abin_p3, abin_p4, abin_p5, abin_p6, abin_s3, abin_s4, abin_s5, abin_s6, abin_f1, abin_f2, abin_f3, abin_f4, abin_feq, abin_fne, cellsEq_nil, cellsEq_s, cellsEq_i, cellsEq_b, aun_not, aun_neg, hget_nil, hget_cons, hset_cons, hkill_cons, hpush_nil, hpush_cons, idx_nil, idx_cons, sub_cons, take_cons, take_nil', put_cons, drop_cons, cells_agg, cells_str, cells_int, cells_bool, cells_ptr, cells_nilptr, cells_nilslice, cells_slice, cells_imm, cells_func, resVals_nil, resVals_t, retOf_one, retOf_two, retOf_nil, evOp, isRead, fixOp, ldCell, ldCells, fAddr, iAddr_slice, iAddr_imm, aAddr_ptr, aAddr_iptr, inRange_int, bound_none, bound_int, mayGrow, fillParts, lenOf, lenSl, evSlice, topOf, evAppend, elemsOf, grown, rowF_eq, rowQ_eq, Option.map_some, Option.map_none, Option.bind_some, Option.bind_none, Option.isSome_some, Option.isSome_none, List.map_cons, List.map_nil, List.length_cons, List.length_nil, List.append_nil, List.nil_append, List.cons_append, List.all_cons, List.all_nil, cell_str, cell_int, cell_bool, cell_ptr, cell_iptr, cell_nilptr, cell_nilslice, cell_slice, cell_imm, cell_func, cell_nilfunc, Bool.and_true, Bool.true_and, Bool.and_false, Bool.false_and, Bool.or_true, Bool.true_or, Bool.or_false, Bool.false_or, Bool.not_true, Bool.not_false, Bool.false_eq_true, Bool.true_eq_false, and_true, true_and, and_false, false_and, or_true, true_or, or_false, false_or, not_true_eq_false, not_false_eq_true, decide_true, decide_false, decide_eq_true_eq, if_true, if_false, ite_true, ite_false, ↓reduceIte, Nat.reduceAdd, Nat.reduceSub, Nat.reduceMul, Nat.reduceEqDiff, Nat.reduceLeDiff, Nat.reduceLT, Nat.succ_ne_zero, Nat.zero_add, Nat.add_zero, Nat.zero_mul, Nat.mul_one, Nat.one_mul, Nat.le_refl, Nat.sub_zero, Int.reduceLT, Int.reduceLE, Int.reduceEq, Int.reduceNe, Int.reduceToNat, Int.reduceAdd, Int.reduceSub, Int.toNat_zero, reduceCtorEq, eq_self, ne_eq, beq_self_eq_true, Nat.reduceBEq, Nat.reduceBNe, List.mem_cons, List.not_mem_nil, false_implies, true_implies, implies_true, forall_const, List.drop_zero, List.drop_nil, List.take_zero, List.drop_length, List.length_append, cast_zero, cast_one, Int.cast_ofNat_Int, List.replicate_zero, List.replicate_succ, List.flatten_cons, List.flatten_nil, wrap_one, loopR_exit, loopR_ret, h0, h3, h6, h7, h8, hlt, hlt', hge, hget, Int.toNat_natCast, he, hl', hj']
        refine fin _ _ rfl ?_ ?_ ?_ ?_ ?_ <;> simp only [putD_some, putD_none, Nat.reduceEqDiff, ↓reduceIte, h0, h3, h6, h7, h8, hw]
      · have hj' : (0 : Int) < (A.length : Int) := by omega
        have hp' : ¬ p = [] := hp (by omega) (by simp)
        simp only [D0_app, y21, x21_0, r21_0, x21_1, r21_1, x21_2, r21_2, x21_3, r21_3, x21_4, x21_5, r21_5, x21_6, r21_6, x21_7, r21_7, x21_8, x21_9, x21_10, x21_11, r21_11, x21_12, x21_13, x21_14, x21_15, r21_15, x21_16, x21_17, x21_18, x21_20, x21_21, x21_22, r21_22, x21_23, x21_24, x21_25, x21_26, y30, x30_0, r30_0, x30_1, r30_1, x30_2, x30_3, sC_skip, sC_exit, sC_ret, condK_true, condK_false, unw_seq_normal, unw_seq_exit, unw_seq_ret, unw_block_normal, unw_block_exit, unw_block_ret, unw_lp_exit, unw_lp_ret, unw_fin, retQ_ret, retQ_normal, retQ_exit, nxt_app, nxtQ_app, nxtL_app, guardK_tt, guardK_ff, guardK_tf, guardK_ft, guardK_u, guardQ_tt, guardQ_ff, guardQ_tf, guardQ_ft, guardQ_u, guardL_tt, guardL_ff, guardL_tf, guardL_ft, guardL_u, sOps_nil, sOps_cons, sOps_guard, sTree_leaf, sTree_stop, sTree_quiet, sTree_loud, sTree_quietG, sTree_loudG, goO_some, goO_none, sOp_call, callvP_func, sOp_callv, putD_some, putD_none, still_nil, still_none, still_cons, sOp_move, sOp_nilCheck, sOp_pick, sOp_alloc, sOp_box, sOp_build, sOp_buildSlice, sOp_load1, sOp_loadN, sOp_store, sOp_bin, sOp_un, sOp_convInt, sOp_convSame, sOp_resame, sOp_toBytes, sOp_ofBytes, sOp_mkfunc, sOp_makeSlice, sOp_sliceStr, sOp_slice, sOp_sliceArr, sOp_fieldAddr, sOp_field1, sOp_fieldN, sOp_indexAddr, sOp_indexArrAddr, sOp_indexStr, sOp_indexArr1, sOp_indexArrN, sOp_extract, sOp_lenStr, sOp_lenSl, sOp_lenArr, sOp_append, sOp_copy, sOp_minmax, sOp_capOf, ev_t, ev_c, argEnv_nil, argEnv_cons, envL_nil, envL_cons, abin_add, abin_sub, abin_mul, abin_quo, abin_rem, abin_eql, abin_neq, abin_lss, abin_leq, abin_gtr, abin_geq, abin_shl, abin_shr, abin_sadd, abin_seql, abin_sneq, abin_slss, abin_sleq, abin_sgtr, abin_sgeq, abin_beql, abin_bneq, abin_p1, abin_p2, abin_p3, abin_p4, abin_p5, abin_p6, abin_s3, abin_s4, abin_s5, abin_s6, abin_f1, abin_f2, abin_f3, abin_f4, abin_feq, abin_fne, cellsEq_nil, cellsEq_s, cellsEq_i, cellsEq_b, aun_not, aun_neg, hget_nil, hget_cons, hset_cons, hkill_cons, hpush_nil, hpush_cons, idx_nil, idx_cons, sub_cons, take_cons, take_nil', put_cons, drop_cons, cells_agg, cells_str, cells_int, cells_bool, cells_ptr, cells_nilptr, cells_nilslice, cells_slice, cells_imm, cells_func, resVals_nil, resVals_t, retOf_one, retOf_two, retOf_nil, evOp, isRead, fixOp, ldCell, ldCells, fAddr, iAddr_slice, iAddr_imm, aAddr_ptr, aAddr_iptr, inRange_int, bound_none, bound_int, mayGrow, fillParts, lenOf, lenSl, evSlice, topOf, evAppend, elemsOf, grown, rowF_eq, rowQ_eq, Option.map_some, Option.map_none, Option.bind_some, Option.bind_none, Option.isSome_some, Option.isSome_none, List.map_cons, List.map_nil, List.length_cons, List.length_nil, List.append_nil, List.nil_append, List.cons_append, List.all_cons, List.all_nil, cell_str, cell_int, cell_bool, cell_ptr, cell_iptr, cell_nilptr, cell_nilslice, cell_slice, cell_imm, cell_func, cell_nilfunc, Bool.and_true, Bool.true_and, Bool.and_false, Bool.false_and, Bool.or_true, Bool.true_or, Bool.or_false, Bool.false_or, Bool.not_true, Bool.not_false, Bool.false_eq_true, Bool.true_eq_false, and_true, true_and, and_false, false_and, or_true, true_or, or_false, false_or, not_true_eq_false, not_false_eq_true, decide_true, decide_false, decide_eq_true_eq, if_true, if_false, ite_true, ite_false, ↓reduceIte, Nat.reduceAdd, Nat.reduceSub, Nat.reduceMul, Nat.reduceEqDiff, Nat.reduceLeDiff, Nat.reduceLT, Nat.succ_ne_zero, Nat.zero_add, Nat.add_zero, Nat.zero_mul, Nat.mul_one, Nat.one_mul, Nat.le_refl, Nat.sub_zero, Int.reduceLT, Int.reduceLE, Int.reduceEq, Int.reduceNe, Int.reduceToNat, Int.reduceAdd, Int.reduceSub, Int.toNat_zero, reduceCtorEq, eq_self, ne_eq, beq_self_eq_true, Nat.reduceBEq, Nat.reduceBNe, List.mem_cons, List.not_mem_nil, false_implies, true_implies, implies_true, forall_const, List.drop_zero, List.drop_nil, List.take_zero, List.drop_length, List.length_append, cast_zero, cast_one, Int.cast_ofNat_Int, List.replicate_zero, List.replicate_succ, List.flatten_cons, List.flatten_nil, wrap_one, loopR_exit, loopR_ret, h0, h3, h6, h7, h8, hlt, hlt', hge, hget, Int.toNat_natCast, he, hl', hj', hp']
        refine fin _ _ rfl ?_ ?_ ?_ ?_ ?_ <;> simp only [putD_some, putD_none, Nat.reduceEqDiff, ↓reduceIte, h0, h3, h6, h7, h8, hw]
theorem whole_ok (es : List (List UInt8)) (hne : 0 < es.length) (hl : es.length < 1000) (hc : Ch [] es) : Tri Try.prog 21 [.imm (rowsOf [] es) false false] [] fun r _ => r.flatD = true ∧ r = .bool true := by
  refine Tri.of_s c21 D0_sound ?_
  simp only [D0_app, y21, x21_0, r21_0, x21_1, r21_1, x21_2, r21_2, x21_3, r21_3, x21_4, x21_5, r21_5, x21_6, r21_6, x21_7, r21_7, x21_8, x21_9, x21_10, x21_11, r21_11, x21_12, x21_13, x21_14, x21_15, r21_15, x21_16, x21_17, x21_18, x21_20, x21_21, x21_22, r21_22, x21_23, x21_24, x21_25, x21_26, y30, x30_0, r30_0, x30_1, r30_1, x30_2, x30_3, sC_skip, sC_exit, sC_ret, condK_true, condK_false, unw_seq_normal, unw_seq_exit, unw_seq_ret, unw_block_normal, unw_block_exit, unw_block_ret, unw_lp_exit, unw_lp_ret, unw_fin, retQ_ret, retQ_normal, retQ_exit, nxt_app, nxtQ_app, nxtL_app, guardK_tt, guardK_ff, guardK_tf, guardK_ft, guardK_u, guardQ_tt, guardQ_ff, guardQ_tf, guardQ_ft, guardQ_u, guardL_tt, guardL_ff, guardL_tf, guardL_ft, guardL_u, sOps_nil, sOps_cons, sOps_guard, sTree_leaf, sTree_stop, sTree_quiet, sTree_loud, sTree_quietG, sTree_loudG, goO_some, goO_none, sOp_call, callvP_func, sOp_callv, putD_some, putD_none, still_nil, still_none, still_cons, sOp_move, sOp_nilCheck, sOp_pick, sOp_alloc, sOp_box, sOp_build, sOp_buildSlice, sOp_load1, sOp_loadN, sOp_store, sOp_bin, sOp_un, sOp_convInt, sOp_convSame, sOp_resame, sOp_toBytes, sOp_ofBytes, sOp_mkfunc, sOp_makeSlice, sOp_sliceStr, sOp_slice, sOp_sliceArr, sOp_fieldAddr, sOp_field1, sOp_fieldN, sOp_indexAddr, sOp_indexArrAddr, sOp_indexStr, sOp_indexArr1, sOp_indexArrN, sOp_extract, sOp_lenStr, sOp_lenSl, sOp_lenArr, sOp_append, sOp_copy, sOp_minmax, sOp_capOf, ev_t, ev_c, argEnv_nil, argEnv_cons, envL_nil, envL_cons, abin_add, abin_sub, abin_mul, abin_quo, abin_rem, abin_eql, abin_neq, abin_lss, abin_leq, abin_gtr, abin_geq, abin_shl, abin_shr, abin_sadd, abin_seql, abin_sneq, abin_slss, abin_sleq, abin_sgtr, abin_sgeq, abin_beql, abin_bneq, abin_p1, abin_p2, abin_p3, abin_p4, abin_p5, abin_p6, abin_s3, abin_s4, abin_s5, abin_s6, abin_f1, abin_f2, abin_f3, abin_f4, abin_feq, abin_fne, cellsEq_nil, cellsEq_s, cellsEq_i, cellsEq_b, aun_not, aun_neg, hget_nil, hget_cons, hset_cons, hkill_cons, hpush_nil, hpush_cons, idx_nil, idx_cons, sub_cons, take_cons, take_nil', put_cons, drop_cons, cells_agg, cells_str, cells_int, cells_bool, cells_ptr, cells_nilptr, cells_nilslice, cells_slice, cells_imm, cells_func, resVals_nil, resVals_t, retOf_one, retOf_two, retOf_nil, evOp, isRead, fixOp, ldCell, ldCells, fAddr, iAddr_slice, iAddr_imm, aAddr_ptr, aAddr_iptr, inRange_int, bound_none, bound_int, mayGrow, fillParts, lenOf, lenSl, evSlice, topOf, evAppend, elemsOf, grown, rowF_eq, rowQ_eq, Option.map_some, Option.map_none, Option.bind_some, Option.bind_none, Option.isSome_some, Option.isSome_none, List.map_cons, List.map_nil, List.length_cons, List.length_nil, List.append_nil, List.nil_append, List.cons_append, List.all_cons, List.all_nil, cell_str, cell_int, cell_bool, cell_ptr, cell_iptr, cell_nilptr, cell_nilslice, cell_slice, cell_imm, cell_func, cell_nilfunc, Bool.and_true, Bool.true_and, Bool.and_false, Bool.false_and, Bool.or_true, Bool.true_or, Bool.or_false, Bool.false_or, Bool.not_true, Bool.not_false, Bool.false_eq_true, Bool.true_eq_false, and_true, true_and, and_false, false_and, or_true, true_or, or_false, false_or, not_true_eq_false, not_false_eq_true, decide_true, decide_false, decide_eq_true_eq, if_true, if_false, ite_true, ite_false, ↓reduceIte, Nat.reduceAdd, Nat.reduceSub, Nat.reduceMul, Nat.reduceEqDiff, Nat.reduceLeDiff, Nat.reduceLT, Nat.succ_ne_zero, Nat.zero_add, Nat.add_zero, Nat.zero_mul, Nat.mul_one, Nat.one_mul, Nat.le_refl, Nat.sub_zero, Int.reduceLT, Int.reduceLE, Int.reduceEq, Int.reduceNe, Int.reduceToNat, Int.reduceAdd, Int.reduceSub, Int.toNat_zero, reduceCtorEq, eq_self, ne_eq, beq_self_eq_true, Nat.reduceBEq, Nat.reduceBNe, List.mem_cons, List.not_mem_nil, false_implies, true_implies, implies_true, forall_const, List.drop_zero, List.drop_nil, List.take_zero, List.drop_length, List.length_append, cast_zero, cast_one, Int.cast_ofNat_Int, List.replicate_zero, List.replicate_succ, List.flatten_cons, List.flatten_nil, wrap_one]
  refine sC_inv (a := b21_18) (wI (rowsOf [] es)) es.length _ [] (.refl _ _ _) ?_ (whole_step (rowsOf [] es) rowsOf_flat (by rw [rowsOf_len]; exact hl) _ ⟨rfl, rfl⟩ (by rw [rowsOf_len]; exact hne))
  refine ⟨[], es, [], by simp, rfl, hc, fun h => by simp at h, rfl, ?_, ?_, ?_, ?_, ?_⟩ <;> simp only [putD_some, putD_none, argEnv_cons, Nat.reduceEqDiff, ↓reduceIte] <;> rfl
theorem awakeRun : bF (cFn Try.prog) 100 50 9 [] [] isYes = true := by kernel_rfl
theorem awakeOk (σ : AHeap) : Tri Try.prog 9 [] σ fun r σ' => r = .bool true ∧ σ' = σ :=
  Tri.frame (f := 9) (Q := fun r => r = .bool true) (by intro x hx; cases hx) ((Tri.run 100 50 isYes awakeRun).mono fun r σ' h => by
    have h1 : r = .bool true := isYes_ok h
    subst h1; exact ⟨rfl, rfl⟩) σ
def awakeD (args : List AV) (σ : AHeap) (K : AV → AHeap → Prop) : Prop := args = [] ∧ K (.bool true) σ
theorem awakeD_ok (args : List AV) (σ : AHeap) (K : AV → AHeap → Prop) (h : awakeD args σ K) : Tri Try.prog 9 args σ K := by
  obtain ⟨rfl, h⟩ := h
  exact (awakeOk σ).mono fun r σ' hr => by rw [hr.1, hr.2]; exact h
theorem awakeD_eq {args : List AV} {σ : AHeap} {K : AV → AHeap → Prop} : awakeD args σ K = (args = [] ∧ K (.bool true) σ) := _root_.id rfl
def wholeD (args : List AV) (σ : AHeap) (K : AV → AHeap → Prop) : Prop :=
  ∃ (es : List (List UInt8)) (s : Nat) (cap : Option Nat), args = [.slice s 0 es.length cap 2] ∧ hget σ s = some (spc [] es) ∧ 0 < es.length ∧ es.length < 1000 ∧ Ch [] es ∧ K (.bool true) σ
theorem wholeD_ok (args : List AV) (σ : AHeap) (K : AV → AHeap → Prop) (h : wholeD args σ K) : Tri Try.prog 21 args σ K := by
  obtain ⟨es, s, cap, rfl, h1, h2, h3, h4, h5⟩ := h
  refine (Tri.view (args1 := [.imm (rowsOf [] es) false false]) ?_ (whole_ok es h2 h3 h4)).mono fun r σ' hr => by rw [hr.1, hr.2]; exact h5
  simp only [wvs, wv, and_true]
  exact ⟨by simp, ⟨_, h1, by rw [rowsOf_spc]; exact spc_sub rfl⟩, rowsOf_len, rowsOf_two, by simp, by simp, rowsOf_flat⟩
def C1 : PCall := rowF 31 noCall s31 (rowF 32 noCall s32 noCall)
theorem C1_app {f : FuncId} {args : List AV} {σ : AHeap} {K : AV → AHeap → Prop} : C1 f args σ K = rowF 31 noCall s31 (rowF 32 noCall s32 noCall) f args σ K := _root_.id rfl
def C2 : PCall := rowQ 9 awakeD (rowQ 21 wholeD (rowF 11 D0 s11 (rowF 12 noCall s12 (rowF 13 noCall s13 (rowF 14 noCall s14 (rowF 15 C1 s15 (rowF 16 C1 s16 noCall)))))))
theorem C2_app {f : FuncId} {args : List AV} {σ : AHeap} {K : AV → AHeap → Prop} : C2 f args σ K = rowQ 9 awakeD (rowQ 21 wholeD (rowF 11 D0 s11 (rowF 12 noCall s12 (rowF 13 noCall s13 (rowF 14 noCall s14 (rowF 15 C1 s15 (rowF 16 C1 s16 noCall))))))) f args σ K := _root_.id rfl
theorem sound1 : Sound Try.prog C1 := rowF_sound c31 (noCall_sound _) (rowF_sound c32 (noCall_sound _) (noCall_sound _))
theorem sound2 : Sound Try.prog C2 :=
  rowQ_sound awakeD_ok (rowQ_sound wholeD_ok (rowF_sound c11 D0_sound (rowF_sound c12 (noCall_sound _) (rowF_sound c13 (noCall_sound _) (rowF_sound c14 (noCall_sound _) (rowF_sound c15 sound1 (rowF_sound c16 sound1 (noCall_sound _))))))))
/-! The inner loop: each part begins where the one before ends. -/
def inI (es : List (List UInt8)) (s : Nat) (e0 : Env) (σ0 : AHeap) (n : Nat) (e : Env) (σ : AHeap) : Prop :=
  ∃ j, j ≤ es.length ∧ n = es.length - j ∧ σ = σ0 ∧ e 13 = .slice s 0 es.length none 2 ∧ e 14 = .int .i64 (j : Int) ∧ ∀ t ∈ [0, 3, 5, 6, 7], e t = e0 t
theorem in_step (es : List (List UInt8)) (hl : es.length < 1000) (s : Nat) (e0 : Env) (σ0 : AHeap) (hs : hget σ0 s = some (spc [] es)) {R : MExit → Env → AHeap → Prop} {k : Cont} {n0 : Nat} (hk : ∀ e', (∀ t ∈ [0, 3, 5, 6, 7], e' t = e0 t) → unw C2 n0 R k (.exit 2) e' σ0) (n : Nat) (e : Env) (σ : AHeap) (h : inI es s e0 σ0 n e σ) :
    sC C2 n0 b7_58 (unw C2 n0 (loopR C2 n0 R k (inI es s e0 σ0) n) .fin) e σ := by
  obtain ⟨j, hj, hn, rfl, h13, h14, hother⟩ := h
  by_cases hlt' : j < es.length
  · have hlt : (j : Int) < (es.length : Int) := by omega
    have hge : (0 : Int) ≤ (j : Int) := by omega
    have hw : IntKind.wrap .i64 ((j : Int) + 1) = ((j + 1 : Nat) : Int) := by rw [Gz.wrap64 (by omega)]; omega
    have fin : ∀ (e' : Env), e' 13 = .slice s 0 es.length none 2 → e' 14 = .int .i64 ((j + 1 : Nat) : Int) → (∀ t ∈ [0, 3, 5, 6, 7], e' t = e0 t) → loopR C2 n0 R k (inI es s e0 σ) n .normal e' σ := by
      intro e' g13 g14 g
      rw [loopR_normal]
      exact ⟨es.length - (j + 1), e', σ, by omega, .refl _ _ _, j + 1, hlt', rfl, rfl, g13, g14, g⟩
    cases j with
    | zero =>
      cases es with
      | nil => simp at hlt'
      | cons x r =>
        have hz : (0 : Int) < ((x :: r).length : Int) := by simp only [List.length_cons]; omega
        have hz' : 0 < (x :: r).length := by simp
        simp only [List.length_cons] at hz hz' h13
        simp only [C2_app, y7, x7_0, r7_0, x7_1, r7_1, x7_2, r7_2, x7_3, x7_4, x7_5, x7_6, r7_6, x7_7, r7_7, x7_8, x7_9, x7_10, x7_11, r7_11, x7_12, r7_12, x7_13, r7_13, x7_14, x7_15, x7_16, x7_17, r7_17, x7_18, r7_18, x7_19, r7_19, x7_20, x7_21, x7_22, r7_22, x7_23, r7_23, x7_24, x7_25, x7_26, x7_27, r7_27, x7_28, r7_28, x7_29, r7_29, x7_30, x7_31, x7_32, x7_33, r7_33, x7_34, r7_34, x7_35, r7_35, x7_36, x7_37, x7_38, x7_39, r7_39, x7_40, r7_40, x7_41, r7_41, x7_42, r7_42, x7_43, x7_44, x7_45, x7_46, r7_46, x7_47, r7_47, x7_48, x7_49, x7_50, t7_50, x7_51, r7_51, x7_52, x7_53, x7_54, x7_55, x7_56, r7_56, x7_57, x7_58, x7_60, x7_61, x7_62, x7_63, x7_64, x7_65, x7_66, x7_67, x7_68, x7_69, x7_70, r7_70, x7_71, x7_72, x7_74, x7_75, x7_76, r7_76, x7_77, r7_77, x7_78, r7_78, x7_79, x7_80, x7_81, x7_82, x7_83, x7_84, x7_85, x7_86, x7_87, x7_88, sC_skip, sC_exit, sC_ret, condK_true, condK_false, unw_seq_normal, unw_seq_exit, unw_seq_ret, unw_block_normal, unw_block_exit, unw_block_ret, unw_lp_exit, unw_lp_ret, unw_fin, retQ_ret, retQ_normal, retQ_exit, nxt_app, nxtQ_app, nxtL_app, guardK_tt, guardK_ff, guardK_tf, guardK_ft, guardK_u, guardQ_tt, guardQ_ff, guardQ_tf, guardQ_ft, guardQ_u, guardL_tt, guardL_ff, guardL_tf, guardL_ft, guardL_u, sOps_nil, sOps_cons, sOps_guard, sTree_leaf, sTree_stop, sTree_quiet, sTree_loud, sTree_quietG, sTree_loudG, goO_some, goO_none, sOp_call, callvP_func, sOp_callv, putD_some, putD_none, still_nil, still_none, still_cons, sOp_move, sOp_nilCheck, sOp_pick, sOp_alloc, sOp_box, sOp_build, sOp_buildSlice, sOp_load1, sOp_loadN, sOp_store, sOp_bin, sOp_un, sOp_convInt, sOp_convSame, sOp_resame, sOp_toBytes, sOp_ofBytes, sOp_mkfunc, sOp_makeSlice, sOp_sliceStr, sOp_slice, sOp_sliceArr, sOp_fieldAddr, sOp_field1, sOp_fieldN, sOp_indexAddr, sOp_indexArrAddr, sOp_indexStr, sOp_indexArr1, sOp_indexArrN, sOp_extract, sOp_lenStr, sOp_lenSl, sOp_lenArr, sOp_append, sOp_copy, sOp_minmax, sOp_capOf, ev_t, ev_c, argEnv_nil, argEnv_cons, envL_nil, envL_cons, abin_add, abin_sub, abin_mul, abin_quo, abin_rem, abin_eql, abin_neq, abin_lss, abin_leq, abin_gtr, abin_geq, abin_shl, abin_shr, abin_sadd, abin_seql, abin_sneq, abin_slss, abin_sleq, abin_sgtr, abin_sgeq, abin_beql, abin_bneq, abin_p1, abin_p2, abin_p3, abin_p4, abin_p5, abin_p6, abin_s3, abin_s4, abin_s5, abin_s6, abin_f1, abin_f2, abin_f3, abin_f4, abin_feq, abin_fne, cellsEq_nil, cellsEq_s, cellsEq_i, cellsEq_b, aun_not, aun_neg, hget_nil, hget_cons, hset_cons, hkill_cons, hpush_nil, hpush_cons, idx_nil, idx_cons, sub_cons, take_cons, take_nil', put_cons, drop_cons, cells_agg, cells_str, cells_int, cells_bool, cells_ptr, cells_nilptr, cells_nilslice, cells_slice, cells_imm, cells_func, resVals_nil, resVals_t, retOf_one, retOf_two, retOf_nil, evOp, isRead, fixOp, ldCell, ldCells, fAddr, iAddr_slice, iAddr_imm, aAddr_ptr, aAddr_iptr, inRange_int, bound_none, bound_int, mayGrow, fillParts, lenOf, lenSl, evSlice, topOf, evAppend, elemsOf, grown, rowF_eq, rowQ_eq, Option.map_some, Option.map_none, Option.bind_some, Option.bind_none, Option.isSome_some, Option.isSome_none, List.map_cons, List.map_nil, List.length_cons, List.length_nil, List.append_nil, List.nil_append, List.cons_append, List.all_cons, List.all_nil, cell_str, cell_int, cell_bool, cell_ptr, cell_iptr, cell_nilptr, cell_nilslice, cell_slice, cell_imm, cell_func, cell_nilfunc, Bool.and_true, Bool.true_and, Bool.and_false, Bool.false_and, Bool.or_true, Bool.true_or, Bool.or_false, Bool.false_or, Bool.not_true, Bool.not_false, Bool.false_eq_true, Bool.true_eq_false, and_true, true_and, and_false, false_and, or_true, true_or, or_false, false_or, not_true_eq_false, not_false_eq_true, decide_true, decide_false, decide_eq_true_eq, if_true, if_false, ite_true, ite_false, ↓reduceIte, Nat.reduceAdd, Nat.reduceSub, Nat.reduceMul, Nat.reduceEqDiff, Nat.reduceLeDiff, Nat.reduceLT, Nat.succ_ne_zero, Nat.zero_add, Nat.add_zero, Nat.zero_mul, Nat.mul_one, Nat.one_mul, Nat.le_refl, Nat.sub_zero, Int.reduceLT, Int.reduceLE, Int.reduceEq, Int.reduceNe, Int.reduceToNat, Int.reduceAdd, Int.reduceSub, Int.toNat_zero, reduceCtorEq, eq_self, ne_eq, beq_self_eq_true, Nat.reduceBEq, Nat.reduceBNe, List.mem_cons, List.not_mem_nil, false_implies, true_implies, implies_true, forall_const, List.drop_zero, List.drop_nil, List.take_zero, List.drop_length, List.length_append, cast_zero, cast_one, Int.cast_ofNat_Int, List.replicate_zero, List.replicate_succ, List.flatten_cons, List.flatten_nil, wrap_one, loopR_exit, loopR_ret, h13, h14, hs, spc, hz, hz']
        refine fin _ (by simp only [List.length_cons]; exact h13) rfl fun t ht => ?_
        rw [← hother t ht]
        simp only [List.mem_cons, List.not_mem_nil, or_false] at ht
        rcases ht with rfl | rfl | rfl | rfl | rfl <;> rfl
    | succ j =>
      have hpos : (0 : Int) < ((j + 1 : Nat) : Int) := by omega
      have hnz : ¬ ((j + 1 : Nat) : Int) = 0 := by omega
      have hw1 : IntKind.wrap .i64 (((j + 1 : Nat) : Int) - 1) = (j : Int) := by rw [Gz.wrap64 (by omega)]; omega
      have hge0 : (0 : Int) ≤ (j : Int) := by omega
      have hlt0 : j < es.length := by omega
      obtain ⟨x, hx⟩ : ∃ x, es[j]? = some x := ⟨_, List.getElem?_eq_getElem hlt0⟩
      have f1 := spc_from (p := []) hx hlt'
      have f2 := spc_to (p := []) hx
      simp only [C2_app, y7, x7_0, r7_0, x7_1, r7_1, x7_2, r7_2, x7_3, x7_4, x7_5, x7_6, r7_6, x7_7, r7_7, x7_8, x7_9, x7_10, x7_11, r7_11, x7_12, r7_12, x7_13, r7_13, x7_14, x7_15, x7_16, x7_17, r7_17, x7_18, r7_18, x7_19, r7_19, x7_20, x7_21, x7_22, r7_22, x7_23, r7_23, x7_24, x7_25, x7_26, x7_27, r7_27, x7_28, r7_28, x7_29, r7_29, x7_30, x7_31, x7_32, x7_33, r7_33, x7_34, r7_34, x7_35, r7_35, x7_36, x7_37, x7_38, x7_39, r7_39, x7_40, r7_40, x7_41, r7_41, x7_42, r7_42, x7_43, x7_44, x7_45, x7_46, r7_46, x7_47, r7_47, x7_48, x7_49, x7_50, t7_50, x7_51, r7_51, x7_52, x7_53, x7_54, x7_55, x7_56, r7_56, x7_57, x7_58, x7_60, x7_61, x7_62, x7_63, x7_64, x7_65, x7_66, x7_67, x7_68, x7_69, x7_70, r7_70, x7_71, x7_72, x7_74, x7_75, x7_76, r7_76, x7_77, r7_77, x7_78, r7_78, x7_79, x7_80, x7_81, x7_82, x7_83, x7_84, x7_85, x7_86, x7_87, x7_88, sC_skip, sC_exit, sC_ret, condK_true, condK_false, unw_seq_normal, unw_seq_exit, unw_seq_ret, unw_block_normal, unw_block_exit, unw_block_ret, unw_lp_exit, unw_lp_ret, unw_fin, retQ_ret, retQ_normal, retQ_exit, nxt_app, nxtQ_app, nxtL_app, guardK_tt, guardK_ff, guardK_tf, guardK_ft, guardK_u, guardQ_tt, guardQ_ff, guardQ_tf, guardQ_ft, guardQ_u, guardL_tt, guardL_ff, guardL_tf, guardL_ft, guardL_u, sOps_nil, sOps_cons, sOps_guard, sTree_leaf, sTree_stop, sTree_quiet, sTree_loud, sTree_quietG, sTree_loudG, goO_some, goO_none, sOp_call, callvP_func, sOp_callv, putD_some, putD_none, still_nil, still_none, still_cons, sOp_move, sOp_nilCheck, sOp_pick, sOp_alloc, sOp_box, sOp_build, sOp_buildSlice, sOp_load1, sOp_loadN, sOp_store, sOp_bin, sOp_un, sOp_convInt, sOp_convSame, sOp_resame, sOp_toBytes, sOp_ofBytes, sOp_mkfunc, sOp_makeSlice, sOp_sliceStr, sOp_slice, sOp_sliceArr, sOp_fieldAddr, sOp_field1, sOp_fieldN, sOp_indexAddr, sOp_indexArrAddr, sOp_indexStr, sOp_indexArr1, sOp_indexArrN, sOp_extract, sOp_lenStr, sOp_lenSl, sOp_lenArr, sOp_append, sOp_copy, sOp_minmax, sOp_capOf, ev_t, ev_c, argEnv_nil, argEnv_cons, envL_nil, envL_cons, abin_add, abin_sub, abin_mul, abin_quo, abin_rem, abin_eql, abin_neq, abin_lss, abin_leq, abin_gtr, abin_geq, abin_shl, abin_shr, abin_sadd, abin_seql, abin_sneq, abin_slss, abin_sleq, abin_sgtr, abin_sgeq, abin_beql, abin_bneq, abin_p1, abin_p2, abin_p3, abin_p4, abin_p5, abin_p6, abin_s3, abin_s4, abin_s5, abin_s6, abin_f1, abin_f2, abin_f3, abin_f4, abin_feq, abin_fne, cellsEq_nil, cellsEq_s, cellsEq_i, cellsEq_b, aun_not, aun_neg, hget_nil, hget_cons, hset_cons, hkill_cons, hpush_nil, hpush_cons, idx_nil, idx_cons, sub_cons, take_cons, take_nil', put_cons, drop_cons, cells_agg, cells_str, cells_int, cells_bool, cells_ptr, cells_nilptr, cells_nilslice, cells_slice, cells_imm, cells_func, resVals_nil, resVals_t, retOf_one, retOf_two, retOf_nil, evOp, isRead, fixOp, ldCell, ldCells, fAddr, iAddr_slice, iAddr_imm, aAddr_ptr, aAddr_iptr, inRange_int, bound_none, bound_int, mayGrow, fillParts, lenOf, lenSl, evSlice, topOf, evAppend, elemsOf, grown, rowF_eq, rowQ_eq, Option.map_some, Option.map_none, Option.bind_some, Option.bind_none, Option.isSome_some, Option.isSome_none, List.map_cons, List.map_nil, List.length_cons, List.length_nil, List.append_nil, List.nil_append, List.cons_append, List.all_cons, List.all_nil, cell_str, cell_int, cell_bool, cell_ptr, cell_iptr, cell_nilptr, cell_nilslice, cell_slice, cell_imm, cell_func, cell_nilfunc, Bool.and_true, Bool.true_and, Bool.and_false, Bool.false_and, Bool.or_true, Bool.true_or, Bool.or_false, Bool.false_or, Bool.not_true, Bool.not_false, Bool.false_eq_true, Bool.true_eq_false, and_true, true_and, and_false, false_and, or_true, true_or, or_false, false_or, not_true_eq_false, not_false_eq_true, decide_true, decide_false, decide_eq_true_eq, if_true, if_false, ite_true, ite_false, ↓reduceIte, Nat.reduceAdd, Nat.reduceSub, Nat.reduceMul, Nat.reduceEqDiff, Nat.reduceLeDiff, Nat.reduceLT, Nat.succ_ne_zero, Nat.zero_add, Nat.add_zero, Nat.zero_mul, Nat.mul_one, Nat.one_mul, Nat.le_refl, Nat.sub_zero, Int.reduceLT, Int.reduceLE, Int.reduceEq, Int.reduceNe, Int.reduceToNat, Int.reduceAdd, Int.reduceSub, Int.toNat_zero, reduceCtorEq, eq_self, ne_eq, beq_self_eq_true, Nat.reduceBEq, Nat.reduceBNe, List.mem_cons, List.not_mem_nil, false_implies, true_implies, implies_true, forall_const, List.drop_zero, List.drop_nil, List.take_zero, List.drop_length, List.length_append, cast_zero, cast_one, Int.cast_ofNat_Int, List.replicate_zero, List.replicate_succ, List.flatten_cons, List.flatten_nil, wrap_one, loopR_exit, loopR_ret, h13, h14, hs, hlt, hlt', hge, hpos, hnz, hw1, hge0, hlt0, f1, f2, Int.toNat_natCast]
      refine fin _ h13 (by rw [← hw]; rfl) fun t ht => ?_
      rw [← hother t ht]
      simp only [List.mem_cons, List.not_mem_nil, or_false] at ht
      rcases ht with rfl | rfl | rfl | rfl | rfl <;> rfl
  · have hlt : ¬ (j : Int) < (es.length : Int) := by omega
    simp only [C2_app, y7, x7_0, r7_0, x7_1, r7_1, x7_2, r7_2, x7_3, x7_4, x7_5, x7_6, r7_6, x7_7, r7_7, x7_8, x7_9, x7_10, x7_11, r7_11, x7_12, r7_12, x7_13, r7_13, x7_14, x7_15, x7_16, x7_17, r7_17, x7_18, r7_18, x7_19, r7_19, x7_20, x7_21, x7_22, r7_22, x7_23, r7_23, x7_24, x7_25, x7_26, x7_27, r7_27, x7_28, r7_28, x7_29, r7_29, x7_30, x7_31, x7_32, x7_33, r7_33, x7_34, r7_34, x7_35, r7_35, x7_36, x7_37, x7_38, x7_39, r7_39, x7_40, r7_40, x7_41, r7_41, x7_42, r7_42, x7_43, x7_44, x7_45, x7_46, r7_46, x7_47, r7_47, x7_48, x7_49, x7_50, t7_50, x7_51, r7_51, x7_52, x7_53, x7_54, x7_55, x7_56, r7_56, x7_57, x7_58, x7_60, x7_61, x7_62, x7_63, x7_64, x7_65, x7_66, x7_67, x7_68, x7_69, x7_70, r7_70, x7_71, x7_72, x7_74, x7_75, x7_76, r7_76, x7_77, r7_77, x7_78, r7_78, x7_79, x7_80, x7_81, x7_82, x7_83, x7_84, x7_85, x7_86, x7_87, x7_88, sC_skip, sC_exit, sC_ret, condK_true, condK_false, unw_seq_normal, unw_seq_exit, unw_seq_ret, unw_block_normal, unw_block_exit, unw_block_ret, unw_lp_exit, unw_lp_ret, unw_fin, retQ_ret, retQ_normal, retQ_exit, nxt_app, nxtQ_app, nxtL_app, guardK_tt, guardK_ff, guardK_tf, guardK_ft, guardK_u, guardQ_tt, guardQ_ff, guardQ_tf, guardQ_ft, guardQ_u, guardL_tt, guardL_ff, guardL_tf, guardL_ft, guardL_u, sOps_nil, sOps_cons, sOps_guard, sTree_leaf, sTree_stop, sTree_quiet, sTree_loud, sTree_quietG, sTree_loudG, goO_some, goO_none, sOp_call, callvP_func, sOp_callv, putD_some, putD_none, still_nil, still_none, still_cons, sOp_move, sOp_nilCheck, sOp_pick, sOp_alloc, sOp_box, sOp_build, sOp_buildSlice, sOp_load1, sOp_loadN, sOp_store, sOp_bin, sOp_un, sOp_convInt, sOp_convSame, sOp_resame, sOp_toBytes, sOp_ofBytes, sOp_mkfunc, sOp_makeSlice, sOp_sliceStr, sOp_slice, sOp_sliceArr, sOp_fieldAddr, sOp_field1, sOp_fieldN, sOp_indexAddr, sOp_indexArrAddr, sOp_indexStr, sOp_indexArr1, sOp_indexArrN, sOp_extract, sOp_lenStr, sOp_lenSl, sOp_lenArr, sOp_append, sOp_copy, sOp_minmax, sOp_capOf, ev_t, ev_c, argEnv_nil, argEnv_cons, envL_nil, envL_cons, abin_add, abin_sub, abin_mul, abin_quo, abin_rem, abin_eql, abin_neq, abin_lss, abin_leq, abin_gtr, abin_geq, abin_shl, abin_shr, abin_sadd, abin_seql, abin_sneq, abin_slss, abin_sleq, abin_sgtr, abin_sgeq, abin_beql, abin_bneq, abin_p1, abin_p2, abin_p3, abin_p4, abin_p5, abin_p6, abin_s3, abin_s4, abin_s5, abin_s6, abin_f1, abin_f2, abin_f3, abin_f4, abin_feq, abin_fne, cellsEq_nil, cellsEq_s, cellsEq_i, cellsEq_b, aun_not, aun_neg, hget_nil, hget_cons, hset_cons, hkill_cons, hpush_nil, hpush_cons, idx_nil, idx_cons, sub_cons, take_cons, take_nil', put_cons, drop_cons, cells_agg, cells_str, cells_int, cells_bool, cells_ptr, cells_nilptr, cells_nilslice, cells_slice, cells_imm, cells_func, resVals_nil, resVals_t, retOf_one, retOf_two, retOf_nil, evOp, isRead, fixOp, ldCell, ldCells, fAddr, iAddr_slice, iAddr_imm, aAddr_ptr, aAddr_iptr, inRange_int, bound_none, bound_int, mayGrow, fillParts, lenOf, lenSl, evSlice, topOf, evAppend, elemsOf, grown, rowF_eq, rowQ_eq, Option.map_some, Option.map_none, Option.bind_some, Option.bind_none, Option.isSome_some, Option.isSome_none, List.map_cons, List.map_nil, List.length_cons, List.length_nil, List.append_nil, List.nil_append, List.cons_append, List.all_cons, List.all_nil, cell_str, cell_int, cell_bool, cell_ptr, cell_iptr, cell_nilptr, cell_nilslice, cell_slice, cell_imm, cell_func, cell_nilfunc, Bool.and_true, Bool.true_and, Bool.and_false, Bool.false_and, Bool.or_true, Bool.true_or, Bool.or_false, Bool.false_or, Bool.not_true, Bool.not_false, Bool.false_eq_true, Bool.true_eq_false, and_true, true_and, and_false, false_and, or_true, true_or, or_false, false_or, not_true_eq_false, not_false_eq_true, decide_true, decide_false, decide_eq_true_eq, if_true, if_false, ite_true, ite_false, ↓reduceIte, Nat.reduceAdd, Nat.reduceSub, Nat.reduceMul, Nat.reduceEqDiff, Nat.reduceLeDiff, Nat.reduceLT, Nat.succ_ne_zero, Nat.zero_add, Nat.add_zero, Nat.zero_mul, Nat.mul_one, Nat.one_mul, Nat.le_refl, Nat.sub_zero, Int.reduceLT, Int.reduceLE, Int.reduceEq, Int.reduceNe, Int.reduceToNat, Int.reduceAdd, Int.reduceSub, Int.toNat_zero, reduceCtorEq, eq_self, ne_eq, beq_self_eq_true, Nat.reduceBEq, Nat.reduceBNe, List.mem_cons, List.not_mem_nil, false_implies, true_implies, implies_true, forall_const, List.drop_zero, List.drop_nil, List.take_zero, List.drop_length, List.length_append, cast_zero, cast_one, Int.cast_ofNat_Int, List.replicate_zero, List.replicate_succ, List.flatten_cons, List.flatten_nil, wrap_one, loopR_exit, loopR_ret, h13, h14, hlt]
    refine hk _ fun t ht => ?_
    rw [← hother t ht]
    simp only [List.mem_cons, List.not_mem_nil, or_false] at ht
    rcases ht with rfl | rfl | rfl | rfl | rfl <;> rfl
theorem in_ok (es : List (List UInt8)) (hl : es.length < 1000) (s : Nat) {R : MExit → Env → AHeap → Prop} {k : Cont} {n0 : Nat} {e : Env} {σ : AHeap} (hs : hget σ s = some (spc [] es)) (h13 : e 13 = .slice s 0 es.length none 2) (h14 : e 14 = .int .i64 0)
    (hk : ∀ e', (∀ t ∈ [0, 3, 5, 6, 7], e' t = e t) → unw C2 n0 R k (.exit 2) e' σ) : sC C2 n0 b7_59 (unw C2 n0 R k) e σ :=
  sC_inv (a := b7_58) (inI es s e σ) es.length e σ (.refl _ _ _) ⟨0, Nat.zero_le _, rfl, rfl, h13, h14, fun _ _ => rfl⟩ (in_step es hl s e σ hs hk)
def in0 (e0 : Env) (σ0 : AHeap) (n : Nat) (e : Env) (σ : AHeap) : Prop := σ = σ0 ∧ e = e0
theorem in_nil {R : MExit → Env → AHeap → Prop} {k : Cont} {n0 : Nat} {e : Env} {σ : AHeap} (h13 : e 13 = .nilslice) (h14 : e 14 = .int .i64 0)
    (hk : ∀ e', (∀ t ∈ [0, 3, 5, 6, 7], e' t = e t) → unw C2 n0 R k (.exit 2) e' σ) : sC C2 n0 b7_59 (unw C2 n0 R k) e σ := by
  refine sC_inv (a := b7_58) (in0 e σ) 0 e σ (.refl _ _ _) ⟨rfl, rfl⟩ fun n e' σ' h => ?_
  obtain ⟨rfl, rfl⟩ := h
  simp only [C2_app, y7, x7_0, r7_0, x7_1, r7_1, x7_2, r7_2, x7_3, x7_4, x7_5, x7_6, r7_6, x7_7, r7_7, x7_8, x7_9, x7_10, x7_11, r7_11, x7_12, r7_12, x7_13, r7_13, x7_14, x7_15, x7_16, x7_17, r7_17, x7_18, r7_18, x7_19, r7_19, x7_20, x7_21, x7_22, r7_22, x7_23, r7_23, x7_24, x7_25, x7_26, x7_27, r7_27, x7_28, r7_28, x7_29, r7_29, x7_30, x7_31, x7_32, x7_33, r7_33, x7_34, r7_34, x7_35, r7_35, x7_36, x7_37, x7_38, x7_39, r7_39, x7_40, r7_40, x7_41, r7_41, x7_42, r7_42, x7_43, x7_44, x7_45, x7_46, r7_46, x7_47, r7_47, x7_48, x7_49, x7_50, t7_50, x7_51, r7_51, x7_52, x7_53, x7_54, x7_55, x7_56, r7_56, x7_57, x7_58, x7_60, x7_61, x7_62, x7_63, x7_64, x7_65, x7_66, x7_67, x7_68, x7_69, x7_70, r7_70, x7_71, x7_72, x7_74, x7_75, x7_76, r7_76, x7_77, r7_77, x7_78, r7_78, x7_79, x7_80, x7_81, x7_82, x7_83, x7_84, x7_85, x7_86, x7_87, x7_88, sC_skip, sC_exit, sC_ret, condK_true, condK_false, unw_seq_normal, unw_seq_exit, unw_seq_ret, unw_block_normal, unw_block_exit, unw_block_ret, unw_lp_exit, unw_lp_ret, unw_fin, retQ_ret, retQ_normal, retQ_exit, nxt_app, nxtQ_app, nxtL_app, guardK_tt, guardK_ff, guardK_tf, guardK_ft, guardK_u, guardQ_tt, guardQ_ff, guardQ_tf, guardQ_ft, guardQ_u, guardL_tt, guardL_ff, guardL_tf, guardL_ft, guardL_u, sOps_nil, sOps_cons, sOps_guard, sTree_leaf, sTree_stop, sTree_quiet, sTree_loud, sTree_quietG, sTree_loudG, goO_some, goO_none, sOp_call, callvP_func, sOp_callv, putD_some, putD_none, still_nil, still_none, still_cons, sOp_move, sOp_nilCheck, sOp_pick, sOp_alloc, sOp_box, sOp_build, sOp_buildSlice, sOp_load1, sOp_loadN, sOp_store, sOp_bin, sOp_un, sOp_convInt, sOp_convSame, sOp_resame, sOp_toBytes, sOp_ofBytes, sOp_mkfunc, sOp_makeSlice, sOp_sliceStr, sOp_slice, sOp_sliceArr, sOp_fieldAddr, sOp_field1, sOp_fieldN, sOp_indexAddr, sOp_indexArrAddr, sOp_indexStr, sOp_indexArr1, sOp_indexArrN, sOp_extract, sOp_lenStr, sOp_lenSl, sOp_lenArr, sOp_append, sOp_copy, sOp_minmax, sOp_capOf, ev_t, ev_c, argEnv_nil, argEnv_cons, envL_nil, envL_cons, abin_add, abin_sub, abin_mul, abin_quo, abin_rem, abin_eql, abin_neq, abin_lss, abin_leq, abin_gtr, abin_geq, abin_shl, abin_shr, abin_sadd, abin_seql, abin_sneq, abin_slss, abin_sleq, abin_sgtr, abin_sgeq, abin_beql, abin_bneq, abin_p1, abin_p2, abin_p3, abin_p4, abin_p5, abin_p6, abin_s3, abin_s4, abin_s5, abin_s6, abin_f1, abin_f2, abin_f3, abin_f4, abin_feq, abin_fne, cellsEq_nil, cellsEq_s, cellsEq_i, cellsEq_b, aun_not, aun_neg, hget_nil, hget_cons, hset_cons, hkill_cons, hpush_nil, hpush_cons, idx_nil, idx_cons, sub_cons, take_cons, take_nil', put_cons, drop_cons, cells_agg, cells_str, cells_int, cells_bool, cells_ptr, cells_nilptr, cells_nilslice, cells_slice, cells_imm, cells_func, resVals_nil, resVals_t, retOf_one, retOf_two, retOf_nil, evOp, isRead, fixOp, ldCell, ldCells, fAddr, iAddr_slice, iAddr_imm, aAddr_ptr, aAddr_iptr, inRange_int, bound_none, bound_int, mayGrow, fillParts, lenOf, lenSl, evSlice, topOf, evAppend, elemsOf, grown, rowF_eq, rowQ_eq, Option.map_some, Option.map_none, Option.bind_some, Option.bind_none, Option.isSome_some, Option.isSome_none, List.map_cons, List.map_nil, List.length_cons, List.length_nil, List.append_nil, List.nil_append, List.cons_append, List.all_cons, List.all_nil, cell_str, cell_int, cell_bool, cell_ptr, cell_iptr, cell_nilptr, cell_nilslice, cell_slice, cell_imm, cell_func, cell_nilfunc, Bool.and_true, Bool.true_and, Bool.and_false, Bool.false_and, Bool.or_true, Bool.true_or, Bool.or_false, Bool.false_or, Bool.not_true, Bool.not_false, Bool.false_eq_true, Bool.true_eq_false, and_true, true_and, and_false, false_and, or_true, true_or, or_false, false_or, not_true_eq_false, not_false_eq_true, decide_true, decide_false, decide_eq_true_eq, if_true, if_false, ite_true, ite_false, ↓reduceIte, Nat.reduceAdd, Nat.reduceSub, Nat.reduceMul, Nat.reduceEqDiff, Nat.reduceLeDiff, Nat.reduceLT, Nat.succ_ne_zero, Nat.zero_add, Nat.add_zero, Nat.zero_mul, Nat.mul_one, Nat.one_mul, Nat.le_refl, Nat.sub_zero, Int.reduceLT, Int.reduceLE, Int.reduceEq, Int.reduceNe, Int.reduceToNat, Int.reduceAdd, Int.reduceSub, Int.toNat_zero, reduceCtorEq, eq_self, ne_eq, beq_self_eq_true, Nat.reduceBEq, Nat.reduceBNe, List.mem_cons, List.not_mem_nil, false_implies, true_implies, implies_true, forall_const, List.drop_zero, List.drop_nil, List.take_zero, List.drop_length, List.length_append, cast_zero, cast_one, Int.cast_ofNat_Int, List.replicate_zero, List.replicate_succ, List.flatten_cons, List.flatten_nil, wrap_one, loopR_exit, loopR_ret, h13, h14, Int.lt_irrefl]
  refine hk _ fun t ht => ?_
  simp only [List.mem_cons, List.not_mem_nil, or_false] at ht
  rcases ht with rfl | rfl | rfl | rfl | rfl <;> rfl
/-! The outer loop. -/
abbrev tourC (at_ : List UInt8) (P : AV) : List AV := [.str at_, .str [], .int .i64 3, .bool false, .nilslice, P]
def oI (nexts : List (List UInt8)) (n : Nat) (e : Env) (σ : AHeap) : Prop :=
  ∃ (i : Nat) (es : List (List UInt8)), i ≤ nexts.length ∧ n = nexts.length - i ∧ es.length ≤ i ∧ Inc [] es ∧
    ((es = [] ∧ σ = [some (tourC [] .nilslice)]) ∨ (0 < es.length ∧ σ = [some (tourC (lastE [] es) (.slice 1 0 es.length none 2)), some (spc [] es)])) ∧
    e 0 = .imm (nexts.map fun s => [.str s]) false false ∧ e 3 = .ptr 0 0 ∧ e 5 = .str (lastE [] es) ∧ e 6 = .int .i64 (es.length : Int) ∧ e 7 = .int .i64 (i : Int)
abbrev R0 : MExit → Env → AHeap → Prop := RetQ [MRes.t 2] Yes
abbrev k0 : Cont := .block 0 (.seq b7_81 .fin)
theorem o_fin {nexts : List (List UInt8)} {i : Nat} (hi : i < nexts.length) {n : Nat} (hn : n = nexts.length - i) (es : List (List UInt8)) (hl : es.length ≤ i + 1) (hinc : Inc [] es) {e' : Env} {σ' σ1 : AHeap} (keep : Keep)
    (hk : keepB 0 σ'.length keep = true) (hb : blksP σ' keep keep σ1) (hσ : (es = [] ∧ σ1 = [some (tourC [] .nilslice)]) ∨ (0 < es.length ∧ σ1 = [some (tourC (lastE [] es) (.slice 1 0 es.length none 2)), some (spc [] es)])) (h0 : keep[0]? = some (some 0))
    (g0 : e' 0 = .imm (nexts.map fun s => [.str s]) false false) (g3 : e' 3 = .ptr 0 0) (g5 : e' 5 = .str (lastE [] es)) (g6 : e' 6 = .int .i64 (es.length : Int)) (g7 : e' 7 = .int .i64 ((i + 1 : Nat) : Int)) :
    loopR C2 0 R0 k0 (oI nexts) n .normal e' σ' := by
  rw [loopR_normal]
  refine ⟨nexts.length - (i + 1), envL [(0, .imm (nexts.map fun s => [.str s]) false false), (3, .ptr 0 0), (5, .str (lastE [] es)), (6, .int .i64 (es.length : Int)), (7, .int .i64 ((i + 1 : Nat) : Int))], σ1, by omega, .inr (wkS_of keep hk hb ?_), i + 1, es, hi, rfl, hl, hinc, hσ, rfl, rfl, rfl, rfl, rfl⟩
  have hf : flatLL (nexts.map fun s => [AV.str s]) := by
    intro r hr
    obtain ⟨s, _, rfl⟩ := List.mem_map.1 hr
    intro y hy
    simp at hy; subst hy; rfl
  simp only [wvE, g0, g3, g5, g6, g7, wv, true_and, and_true, hf, h0]
theorem hx_of {nexts : List (List UInt8)} {i : Nat} (hi : i < nexts.length) : ∃ x, (nexts.map fun s => [AV.str s])[i]? = some [.str x] := ⟨nexts[i], by simp [hi]⟩
theorem o_nil (nexts : List (List UInt8)) (h40 : nexts.length ≤ 40) (i : Nat) (e : Env) (hi : i < nexts.length) (x : List UInt8) (hx : (nexts.map fun s => [AV.str s])[i]? = some [.str x]) (n : Nat) (hn : n = nexts.length - i)
    (h0 : e 0 = .imm (nexts.map fun s => [.str s]) false false) (h3 : e 3 = .ptr 0 0) (h5 : e 5 = .str []) (h6 : e 6 = .int .i64 0) (h7 : e 7 = .int .i64 (i : Int)) :
    sC C2 0 b7_72 (unw C2 0 (loopR C2 0 R0 k0 (oI nexts) n) .fin) e [some (tourC [] .nilslice)] := by
  have hlt : (i : Int) < (nexts.length : Int) := by omega
  have hge : (0 : Int) ≤ (i : Int) := by omega
  have hw : IntKind.wrap .i64 ((i : Int) + 1) = ((i + 1 : Nat) : Int) := by rw [Gz.wrap64 (by omega)]; omega
  by_cases hlong : (300 : Int) < (x.length : Int)
  · simp only [C2_app, y7, x7_0, r7_0, x7_1, r7_1, x7_2, r7_2, x7_3, x7_4, x7_5, x7_6, r7_6, x7_7, r7_7, x7_8, x7_9, x7_10, x7_11, r7_11, x7_12, r7_12, x7_13, r7_13, x7_14, x7_15, x7_16, x7_17, r7_17, x7_18, r7_18, x7_19, r7_19, x7_20, x7_21, x7_22, r7_22, x7_23, r7_23, x7_24, x7_25, x7_26, x7_27, r7_27, x7_28, r7_28, x7_29, r7_29, x7_30, x7_31, x7_32, x7_33, r7_33, x7_34, r7_34, x7_35, r7_35, x7_36, x7_37, x7_38, x7_39, r7_39, x7_40, r7_40, x7_41, r7_41, x7_42, r7_42, x7_43, x7_44, x7_45, x7_46, r7_46, x7_47, r7_47, x7_48, x7_49, x7_50, t7_50, x7_51, r7_51, x7_52, x7_53, x7_54, x7_55, x7_56, r7_56, x7_57, x7_58, x7_60, x7_61, x7_62, x7_63, x7_64, x7_65, x7_66, x7_67, x7_68, x7_69, x7_70, r7_70, x7_71, x7_72, x7_74, x7_75, x7_76, r7_76, x7_77, r7_77, x7_78, r7_78, x7_79, x7_80, x7_81, x7_82, x7_83, x7_84, x7_85, x7_86, x7_87, x7_88, sC_skip, sC_exit, sC_ret, condK_true, condK_false, unw_seq_normal, unw_seq_exit, unw_seq_ret, unw_block_normal, unw_block_exit, unw_block_ret, unw_lp_exit, unw_lp_ret, unw_fin, retQ_ret, retQ_normal, retQ_exit, nxt_app, nxtQ_app, nxtL_app, guardK_tt, guardK_ff, guardK_tf, guardK_ft, guardK_u, guardQ_tt, guardQ_ff, guardQ_tf, guardQ_ft, guardQ_u, guardL_tt, guardL_ff, guardL_tf, guardL_ft, guardL_u, sOps_nil, sOps_cons, sOps_guard, sTree_leaf, sTree_stop, sTree_quiet, sTree_loud, sTree_quietG, sTree_loudG, goO_some, goO_none, sOp_call, callvP_func, sOp_callv, putD_some, putD_none, still_nil, still_none, still_cons, sOp_move, sOp_nilCheck, sOp_pick, sOp_alloc, sOp_box, sOp_build, sOp_buildSlice, sOp_load1, sOp_loadN, sOp_store, sOp_bin, sOp_un, sOp_convInt, sOp_convSame, sOp_resame, sOp_toBytes, sOp_ofBytes, sOp_mkfunc, sOp_makeSlice, sOp_sliceStr, sOp_slice, sOp_sliceArr, sOp_fieldAddr, sOp_field1, sOp_fieldN, sOp_indexAddr, sOp_indexArrAddr, sOp_indexStr, sOp_indexArr1, sOp_indexArrN, sOp_extract, sOp_lenStr, sOp_lenSl, sOp_lenArr, sOp_append, sOp_copy, sOp_minmax, sOp_capOf, ev_t, ev_c, argEnv_nil, argEnv_cons, envL_nil, envL_cons, abin_add, abin_sub, abin_mul, abin_quo, abin_rem, abin_eql, abin_neq, abin_lss, abin_leq, abin_gtr, abin_geq, abin_shl, abin_shr, abin_sadd, abin_seql, abin_sneq, abin_slss, abin_sleq, abin_sgtr, abin_sgeq, abin_beql, abin_bneq, abin_p1, abin_p2, abin_p3, abin_p4, abin_p5, abin_p6, abin_s3, abin_s4, abin_s5, abin_s6, abin_f1, abin_f2, abin_f3, abin_f4, abin_feq, abin_fne, cellsEq_nil, cellsEq_s, cellsEq_i, cellsEq_b, aun_not, aun_neg, hget_nil, hget_cons, hset_cons, hkill_cons, hpush_nil, hpush_cons, idx_nil, idx_cons, sub_cons, take_cons, take_nil', put_cons, drop_cons, cells_agg, cells_str, cells_int, cells_bool, cells_ptr, cells_nilptr, cells_nilslice, cells_slice, cells_imm, cells_func, resVals_nil, resVals_t, retOf_one, retOf_two, retOf_nil, evOp, isRead, fixOp, ldCell, ldCells, fAddr, iAddr_slice, iAddr_imm, aAddr_ptr, aAddr_iptr, inRange_int, bound_none, bound_int, mayGrow, fillParts, lenOf, lenSl, evSlice, topOf, evAppend, elemsOf, grown, rowF_eq, rowQ_eq, Option.map_some, Option.map_none, Option.bind_some, Option.bind_none, Option.isSome_some, Option.isSome_none, List.map_cons, List.map_nil, List.length_cons, List.length_nil, List.append_nil, List.nil_append, List.cons_append, List.all_cons, List.all_nil, cell_str, cell_int, cell_bool, cell_ptr, cell_iptr, cell_nilptr, cell_nilslice, cell_slice, cell_imm, cell_func, cell_nilfunc, Bool.and_true, Bool.true_and, Bool.and_false, Bool.false_and, Bool.or_true, Bool.true_or, Bool.or_false, Bool.false_or, Bool.not_true, Bool.not_false, Bool.false_eq_true, Bool.true_eq_false, and_true, true_and, and_false, false_and, or_true, true_or, or_false, false_or, not_true_eq_false, not_false_eq_true, decide_true, decide_false, decide_eq_true_eq, if_true, if_false, ite_true, ite_false, ↓reduceIte, Nat.reduceAdd, Nat.reduceSub, Nat.reduceMul, Nat.reduceEqDiff, Nat.reduceLeDiff, Nat.reduceLT, Nat.succ_ne_zero, Nat.zero_add, Nat.add_zero, Nat.zero_mul, Nat.mul_one, Nat.one_mul, Nat.le_refl, Nat.sub_zero, Int.reduceLT, Int.reduceLE, Int.reduceEq, Int.reduceNe, Int.reduceToNat, Int.reduceAdd, Int.reduceSub, Int.toNat_zero, reduceCtorEq, eq_self, ne_eq, beq_self_eq_true, Nat.reduceBEq, Nat.reduceBNe, List.mem_cons, List.not_mem_nil, false_implies, true_implies, implies_true, forall_const, List.drop_zero, List.drop_nil, List.take_zero, List.drop_length, List.length_append, cast_zero, cast_one, Int.cast_ofNat_Int, List.replicate_zero, List.replicate_succ, List.flatten_cons, List.flatten_nil, wrap_one, loopR_exit, loopR_ret, h0, h3, h5, h6, h7, hlt, hge, hi, hx, hlong, List.length_map, Int.toNat_natCast]
    trivial
  cases hL : (lessBytes x [] || x == [])
  · simp only [C2_app, C1_app, D0_app, y7, x7_0, r7_0, x7_1, r7_1, x7_2, r7_2, x7_3, x7_4, x7_5, x7_6, r7_6, x7_7, r7_7, x7_8, x7_9, x7_10, x7_11, r7_11, x7_12, r7_12, x7_13, r7_13, x7_14, x7_15, x7_16, x7_17, r7_17, x7_18, r7_18, x7_19, r7_19, x7_20, x7_21, x7_22, r7_22, x7_23, r7_23, x7_24, x7_25, x7_26, x7_27, r7_27, x7_28, r7_28, x7_29, r7_29, x7_30, x7_31, x7_32, x7_33, r7_33, x7_34, r7_34, x7_35, r7_35, x7_36, x7_37, x7_38, x7_39, r7_39, x7_40, r7_40, x7_41, r7_41, x7_42, r7_42, x7_43, x7_44, x7_45, x7_46, r7_46, x7_47, r7_47, x7_48, x7_49, x7_50, t7_50, x7_51, r7_51, x7_52, x7_53, x7_54, x7_55, x7_56, r7_56, x7_57, x7_58, x7_60, x7_61, x7_62, x7_63, x7_64, x7_65, x7_66, x7_67, x7_68, x7_69, x7_70, r7_70, x7_71, x7_72, x7_74, x7_75, x7_76, r7_76, x7_77, r7_77, x7_78, r7_78, x7_79, x7_80, x7_81, x7_82, x7_83, x7_84, x7_85, x7_86, x7_87, x7_88, y12, x12_0, r12_0, x12_1, r12_1, x12_2, r12_2, x12_3, x12_4, x12_5, x12_6, t12_6, x12_7, x12_8, x12_9, y13, x13_0, r13_0, x13_1, r13_1, x13_2, x13_3, y14, x14_0, r14_0, x14_1, r14_1, x14_2, r14_2, x14_3, x14_4, r14_4, x14_5, r14_5, x14_6, x14_7, r14_7, x14_8, r14_8, x14_9, x14_10, t14_10, x14_11, t14_11, x14_12, x14_13, x14_14, r14_14, x14_15, x14_16, x14_17, x14_18, x14_19, x14_20, x14_21, x14_22, x14_23, x14_24, x14_25, t14_25, x14_26, t14_26, x14_27, t14_27, x14_28, r14_28, x14_29, x14_30, x14_31, x14_32, x14_33, x14_34, y16, x16_0, r16_0, x16_1, r16_1, x16_2, r16_2, x16_3, x16_4, x16_5, x16_6, r16_6, x16_7, x16_8, x16_9, y32, x32_0, r32_0, x32_1, r32_1, x32_2, r32_2, x32_3, x32_4, x32_5, x32_6, r32_6, x32_7, x32_8, x32_9, sC_skip, sC_exit, sC_ret, condK_true, condK_false, unw_seq_normal, unw_seq_exit, unw_seq_ret, unw_block_normal, unw_block_exit, unw_block_ret, unw_lp_exit, unw_lp_ret, unw_fin, retQ_ret, retQ_normal, retQ_exit, nxt_app, nxtQ_app, nxtL_app, guardK_tt, guardK_ff, guardK_tf, guardK_ft, guardK_u, guardQ_tt, guardQ_ff, guardQ_tf, guardQ_ft, guardQ_u, guardL_tt, guardL_ff, guardL_tf, guardL_ft, guardL_u, sOps_nil, sOps_cons, sOps_guard, sTree_leaf, sTree_stop, sTree_quiet, sTree_loud, sTree_quietG, sTree_loudG, goO_some, goO_none, sOp_call, callvP_func, sOp_callv, putD_some, putD_none, still_nil, still_none, still_cons, sOp_move, sOp_nilCheck, sOp_pick, sOp_alloc, sOp_box, sOp_build, sOp_buildSlice, sOp_load1, sOp_loadN, sOp_store, sOp_bin, sOp_un, sOp_convInt, sOp_convSame, sOp_resame, sOp_toBytes, sOp_ofBytes, sOp_mkfunc, sOp_makeSlice, sOp_sliceStr, sOp_slice, sOp_sliceArr, sOp_fieldAddr, sOp_field1, sOp_fieldN, sOp_indexAddr, sOp_indexArrAddr, sOp_indexStr, sOp_indexArr1, sOp_indexArrN, sOp_extract, sOp_lenStr, sOp_lenSl, sOp_lenArr, sOp_append, sOp_copy, sOp_minmax, sOp_capOf, ev_t, ev_c, argEnv_nil, argEnv_cons, envL_nil, envL_cons, abin_add, abin_sub, abin_mul, abin_quo, abin_rem, abin_eql, abin_neq, abin_lss, abin_leq, abin_gtr, abin_geq, abin_shl, abin_shr, abin_sadd, abin_seql, abin_sneq, abin_slss, abin_sleq, abin_sgtr, abin_sgeq, abin_beql, abin_bneq, abin_p1, abin_p2, abin_p3, abin_p4, abin_p5, abin_p6, abin_s3, abin_s4, abin_s5, abin_s6, abin_f1, abin_f2, abin_f3, abin_f4, abin_feq, abin_fne, cellsEq_nil, cellsEq_s, cellsEq_i, cellsEq_b, aun_not, aun_neg, hget_nil, hget_cons, hset_cons, hkill_cons, hpush_nil, hpush_cons, idx_nil, idx_cons, sub_cons, take_cons, take_nil', put_cons, drop_cons, cells_agg, cells_str, cells_int, cells_bool, cells_ptr, cells_nilptr, cells_nilslice, cells_slice, cells_imm, cells_func, resVals_nil, resVals_t, retOf_one, retOf_two, retOf_nil, evOp, isRead, fixOp, ldCell, ldCells, fAddr, iAddr_slice, iAddr_imm, aAddr_ptr, aAddr_iptr, inRange_int, bound_none, bound_int, mayGrow, fillParts, lenOf, lenSl, evSlice, topOf, evAppend, elemsOf, grown, rowF_eq, rowQ_eq, Option.map_some, Option.map_none, Option.bind_some, Option.bind_none, Option.isSome_some, Option.isSome_none, List.map_cons, List.map_nil, List.length_cons, List.length_nil, List.append_nil, List.nil_append, List.cons_append, List.all_cons, List.all_nil, cell_str, cell_int, cell_bool, cell_ptr, cell_iptr, cell_nilptr, cell_nilslice, cell_slice, cell_imm, cell_func, cell_nilfunc, Bool.and_true, Bool.true_and, Bool.and_false, Bool.false_and, Bool.or_true, Bool.true_or, Bool.or_false, Bool.false_or, Bool.not_true, Bool.not_false, Bool.false_eq_true, Bool.true_eq_false, and_true, true_and, and_false, false_and, or_true, true_or, or_false, false_or, not_true_eq_false, not_false_eq_true, decide_true, decide_false, decide_eq_true_eq, if_true, if_false, ite_true, ite_false, ↓reduceIte, Nat.reduceAdd, Nat.reduceSub, Nat.reduceMul, Nat.reduceEqDiff, Nat.reduceLeDiff, Nat.reduceLT, Nat.succ_ne_zero, Nat.zero_add, Nat.add_zero, Nat.zero_mul, Nat.mul_one, Nat.one_mul, Nat.le_refl, Nat.sub_zero, Int.reduceLT, Int.reduceLE, Int.reduceEq, Int.reduceNe, Int.reduceToNat, Int.reduceAdd, Int.reduceSub, Int.toNat_zero, reduceCtorEq, eq_self, ne_eq, beq_self_eq_true, Nat.reduceBEq, Nat.reduceBNe, List.mem_cons, List.not_mem_nil, false_implies, true_implies, implies_true, forall_const, List.drop_zero, List.drop_nil, List.take_zero, List.drop_length, List.length_append, cast_zero, cast_one, Int.cast_ofNat_Int, List.replicate_zero, List.replicate_succ, List.flatten_cons, List.flatten_nil, wrap_one, loopR_exit, loopR_ret, h0, h3, h5, h6, h7, hlt, hge, hi, hx, hlong, hL, List.length_map, Int.toNat_natCast]
    refine in_ok [x] (by simp) 5 rfl rfl rfl fun e' he => ?_
    have g0 : e' 0 = _ := (he 0 (by simp)).trans h0
    have g3 : e' 3 = _ := (he 3 (by simp)).trans h3
    have g5 : e' 5 = .str x := he 5 (by simp)
    have g6 : e' 6 = .int .i64 1 := he 6 (by simp)
    have g7 : e' 7 = _ := (he 7 (by simp)).trans h7
    simp only [C2_app, y7, x7_0, r7_0, x7_1, r7_1, x7_2, r7_2, x7_3, x7_4, x7_5, x7_6, r7_6, x7_7, r7_7, x7_8, x7_9, x7_10, x7_11, r7_11, x7_12, r7_12, x7_13, r7_13, x7_14, x7_15, x7_16, x7_17, r7_17, x7_18, r7_18, x7_19, r7_19, x7_20, x7_21, x7_22, r7_22, x7_23, r7_23, x7_24, x7_25, x7_26, x7_27, r7_27, x7_28, r7_28, x7_29, r7_29, x7_30, x7_31, x7_32, x7_33, r7_33, x7_34, r7_34, x7_35, r7_35, x7_36, x7_37, x7_38, x7_39, r7_39, x7_40, r7_40, x7_41, r7_41, x7_42, r7_42, x7_43, x7_44, x7_45, x7_46, r7_46, x7_47, r7_47, x7_48, x7_49, x7_50, t7_50, x7_51, r7_51, x7_52, x7_53, x7_54, x7_55, x7_56, r7_56, x7_57, x7_58, x7_60, x7_61, x7_62, x7_63, x7_64, x7_65, x7_66, x7_67, x7_68, x7_69, x7_70, r7_70, x7_71, x7_72, x7_74, x7_75, x7_76, r7_76, x7_77, r7_77, x7_78, r7_78, x7_79, x7_80, x7_81, x7_82, x7_83, x7_84, x7_85, x7_86, x7_87, x7_88, sC_skip, sC_exit, sC_ret, condK_true, condK_false, unw_seq_normal, unw_seq_exit, unw_seq_ret, unw_block_normal, unw_block_exit, unw_block_ret, unw_lp_exit, unw_lp_ret, unw_fin, retQ_ret, retQ_normal, retQ_exit, nxt_app, nxtQ_app, nxtL_app, guardK_tt, guardK_ff, guardK_tf, guardK_ft, guardK_u, guardQ_tt, guardQ_ff, guardQ_tf, guardQ_ft, guardQ_u, guardL_tt, guardL_ff, guardL_tf, guardL_ft, guardL_u, sOps_nil, sOps_cons, sOps_guard, sTree_leaf, sTree_stop, sTree_quiet, sTree_loud, sTree_quietG, sTree_loudG, goO_some, goO_none, sOp_call, callvP_func, sOp_callv, putD_some, putD_none, still_nil, still_none, still_cons, sOp_move, sOp_nilCheck, sOp_pick, sOp_alloc, sOp_box, sOp_build, sOp_buildSlice, sOp_load1, sOp_loadN, sOp_store, sOp_bin, sOp_un, sOp_convInt, sOp_convSame, sOp_resame, sOp_toBytes, sOp_ofBytes, sOp_mkfunc, sOp_makeSlice, sOp_sliceStr, sOp_slice, sOp_sliceArr, sOp_fieldAddr, sOp_field1, sOp_fieldN, sOp_indexAddr, sOp_indexArrAddr, sOp_indexStr, sOp_indexArr1, sOp_indexArrN, sOp_extract, sOp_lenStr, sOp_lenSl, sOp_lenArr, sOp_append, sOp_copy, sOp_minmax, sOp_capOf, ev_t, ev_c, argEnv_nil, argEnv_cons, envL_nil, envL_cons, abin_add, abin_sub, abin_mul, abin_quo, abin_rem, abin_eql, abin_neq, abin_lss, abin_leq, abin_gtr, abin_geq, abin_shl, abin_shr, abin_sadd, abin_seql, abin_sneq, abin_slss, abin_sleq, abin_sgtr, abin_sgeq, abin_beql, abin_bneq, abin_p1, abin_p2, abin_p3, abin_p4, abin_p5, abin_p6, abin_s3, abin_s4, abin_s5, abin_s6, abin_f1, abin_f2, abin_f3, abin_f4, abin_feq, abin_fne, cellsEq_nil, cellsEq_s, cellsEq_i, cellsEq_b, aun_not, aun_neg, hget_nil, hget_cons, hset_cons, hkill_cons, hpush_nil, hpush_cons, idx_nil, idx_cons, sub_cons, take_cons, take_nil', put_cons, drop_cons, cells_agg, cells_str, cells_int, cells_bool, cells_ptr, cells_nilptr, cells_nilslice, cells_slice, cells_imm, cells_func, resVals_nil, resVals_t, retOf_one, retOf_two, retOf_nil, evOp, isRead, fixOp, ldCell, ldCells, fAddr, iAddr_slice, iAddr_imm, aAddr_ptr, aAddr_iptr, inRange_int, bound_none, bound_int, mayGrow, fillParts, lenOf, lenSl, evSlice, topOf, evAppend, elemsOf, grown, rowF_eq, rowQ_eq, Option.map_some, Option.map_none, Option.bind_some, Option.bind_none, Option.isSome_some, Option.isSome_none, List.map_cons, List.map_nil, List.length_cons, List.length_nil, List.append_nil, List.nil_append, List.cons_append, List.all_cons, List.all_nil, cell_str, cell_int, cell_bool, cell_ptr, cell_iptr, cell_nilptr, cell_nilslice, cell_slice, cell_imm, cell_func, cell_nilfunc, Bool.and_true, Bool.true_and, Bool.and_false, Bool.false_and, Bool.or_true, Bool.true_or, Bool.or_false, Bool.false_or, Bool.not_true, Bool.not_false, Bool.false_eq_true, Bool.true_eq_false, and_true, true_and, and_false, false_and, or_true, true_or, or_false, false_or, not_true_eq_false, not_false_eq_true, decide_true, decide_false, decide_eq_true_eq, if_true, if_false, ite_true, ite_false, ↓reduceIte, Nat.reduceAdd, Nat.reduceSub, Nat.reduceMul, Nat.reduceEqDiff, Nat.reduceLeDiff, Nat.reduceLT, Nat.succ_ne_zero, Nat.zero_add, Nat.add_zero, Nat.zero_mul, Nat.mul_one, Nat.one_mul, Nat.le_refl, Nat.sub_zero, Int.reduceLT, Int.reduceLE, Int.reduceEq, Int.reduceNe, Int.reduceToNat, Int.reduceAdd, Int.reduceSub, Int.toNat_zero, reduceCtorEq, eq_self, ne_eq, beq_self_eq_true, Nat.reduceBEq, Nat.reduceBNe, List.mem_cons, List.not_mem_nil, false_implies, true_implies, implies_true, forall_const, List.drop_zero, List.drop_nil, List.take_zero, List.drop_length, List.length_append, cast_zero, cast_one, Int.cast_ofNat_Int, List.replicate_zero, List.replicate_succ, List.flatten_cons, List.flatten_nil, wrap_one, loopR_exit, loopR_ret, g7]
    refine o_fin hi hn [x] (by simp) (inc_snoc (p := []) (es := []) trivial hL) [some 0, some 3] rfl (σ1 := [some (tourC x (.slice 1 0 1 none 2)), some (spc [] [x])]) ?_ (.inr ⟨by simp, rfl⟩) rfl g0 g3 g5 g6 (by rw [← hw]; rfl)
    refine ⟨⟨_, rfl, ?_⟩, ⟨_, rfl, wvs_flat (spc_flat (p := []) (es := [x]))⟩, trivial⟩
    simp [wvs, wv]
  · simp only [C2_app, C1_app, D0_app, y7, x7_0, r7_0, x7_1, r7_1, x7_2, r7_2, x7_3, x7_4, x7_5, x7_6, r7_6, x7_7, r7_7, x7_8, x7_9, x7_10, x7_11, r7_11, x7_12, r7_12, x7_13, r7_13, x7_14, x7_15, x7_16, x7_17, r7_17, x7_18, r7_18, x7_19, r7_19, x7_20, x7_21, x7_22, r7_22, x7_23, r7_23, x7_24, x7_25, x7_26, x7_27, r7_27, x7_28, r7_28, x7_29, r7_29, x7_30, x7_31, x7_32, x7_33, r7_33, x7_34, r7_34, x7_35, r7_35, x7_36, x7_37, x7_38, x7_39, r7_39, x7_40, r7_40, x7_41, r7_41, x7_42, r7_42, x7_43, x7_44, x7_45, x7_46, r7_46, x7_47, r7_47, x7_48, x7_49, x7_50, t7_50, x7_51, r7_51, x7_52, x7_53, x7_54, x7_55, x7_56, r7_56, x7_57, x7_58, x7_60, x7_61, x7_62, x7_63, x7_64, x7_65, x7_66, x7_67, x7_68, x7_69, x7_70, r7_70, x7_71, x7_72, x7_74, x7_75, x7_76, r7_76, x7_77, r7_77, x7_78, r7_78, x7_79, x7_80, x7_81, x7_82, x7_83, x7_84, x7_85, x7_86, x7_87, x7_88, y12, x12_0, r12_0, x12_1, r12_1, x12_2, r12_2, x12_3, x12_4, x12_5, x12_6, t12_6, x12_7, x12_8, x12_9, y13, x13_0, r13_0, x13_1, r13_1, x13_2, x13_3, y14, x14_0, r14_0, x14_1, r14_1, x14_2, r14_2, x14_3, x14_4, r14_4, x14_5, r14_5, x14_6, x14_7, r14_7, x14_8, r14_8, x14_9, x14_10, t14_10, x14_11, t14_11, x14_12, x14_13, x14_14, r14_14, x14_15, x14_16, x14_17, x14_18, x14_19, x14_20, x14_21, x14_22, x14_23, x14_24, x14_25, t14_25, x14_26, t14_26, x14_27, t14_27, x14_28, r14_28, x14_29, x14_30, x14_31, x14_32, x14_33, x14_34, y16, x16_0, r16_0, x16_1, r16_1, x16_2, r16_2, x16_3, x16_4, x16_5, x16_6, r16_6, x16_7, x16_8, x16_9, y32, x32_0, r32_0, x32_1, r32_1, x32_2, r32_2, x32_3, x32_4, x32_5, x32_6, r32_6, x32_7, x32_8, x32_9, sC_skip, sC_exit, sC_ret, condK_true, condK_false, unw_seq_normal, unw_seq_exit, unw_seq_ret, unw_block_normal, unw_block_exit, unw_block_ret, unw_lp_exit, unw_lp_ret, unw_fin, retQ_ret, retQ_normal, retQ_exit, nxt_app, nxtQ_app, nxtL_app, guardK_tt, guardK_ff, guardK_tf, guardK_ft, guardK_u, guardQ_tt, guardQ_ff, guardQ_tf, guardQ_ft, guardQ_u, guardL_tt, guardL_ff, guardL_tf, guardL_ft, guardL_u, sOps_nil, sOps_cons, sOps_guard, sTree_leaf, sTree_stop, sTree_quiet, sTree_loud, sTree_quietG, sTree_loudG, goO_some, goO_none, sOp_call, callvP_func, sOp_callv, putD_some, putD_none, still_nil, still_none, still_cons, sOp_move, sOp_nilCheck, sOp_pick, sOp_alloc, sOp_box, sOp_build, sOp_buildSlice, sOp_load1, sOp_loadN, sOp_store, sOp_bin, sOp_un, sOp_convInt, sOp_convSame, sOp_resame, sOp_toBytes, sOp_ofBytes, sOp_mkfunc, sOp_makeSlice, sOp_sliceStr, sOp_slice, sOp_sliceArr, sOp_fieldAddr, sOp_field1, sOp_fieldN, sOp_indexAddr, sOp_indexArrAddr, sOp_indexStr, sOp_indexArr1, sOp_indexArrN, sOp_extract, sOp_lenStr, sOp_lenSl, sOp_lenArr, sOp_append, sOp_copy, sOp_minmax, sOp_capOf, ev_t, ev_c, argEnv_nil, argEnv_cons, envL_nil, envL_cons, abin_add, abin_sub, abin_mul, abin_quo, abin_rem, abin_eql, abin_neq, abin_lss, abin_leq, abin_gtr, abin_geq, abin_shl, abin_shr, abin_sadd, abin_seql, abin_sneq, abin_slss, abin_sleq, abin_sgtr, abin_sgeq, abin_beql, abin_bneq, abin_p1, abin_p2, abin_p3, abin_p4, abin_p5, abin_p6, abin_s3, abin_s4, abin_s5, abin_s6, abin_f1, abin_f2, abin_f3, abin_f4, abin_feq, abin_fne, cellsEq_nil, cellsEq_s, cellsEq_i, cellsEq_b, aun_not, aun_neg, hget_nil, hget_cons, hset_cons, hkill_cons, hpush_nil, hpush_cons, idx_nil, idx_cons, sub_cons, take_cons, take_nil', put_cons, drop_cons, cells_agg, cells_str, cells_int, cells_bool, cells_ptr, cells_nilptr, cells_nilslice, cells_slice, cells_imm, cells_func, resVals_nil, resVals_t, retOf_one, retOf_two, retOf_nil, evOp, isRead, fixOp, ldCell, ldCells, fAddr, iAddr_slice, iAddr_imm, aAddr_ptr, aAddr_iptr, inRange_int, bound_none, bound_int, mayGrow, fillParts, lenOf, lenSl, evSlice, topOf, evAppend, elemsOf, grown, rowF_eq, rowQ_eq, Option.map_some, Option.map_none, Option.bind_some, Option.bind_none, Option.isSome_some, Option.isSome_none, List.map_cons, List.map_nil, List.length_cons, List.length_nil, List.append_nil, List.nil_append, List.cons_append, List.all_cons, List.all_nil, cell_str, cell_int, cell_bool, cell_ptr, cell_iptr, cell_nilptr, cell_nilslice, cell_slice, cell_imm, cell_func, cell_nilfunc, Bool.and_true, Bool.true_and, Bool.and_false, Bool.false_and, Bool.or_true, Bool.true_or, Bool.or_false, Bool.false_or, Bool.not_true, Bool.not_false, Bool.false_eq_true, Bool.true_eq_false, and_true, true_and, and_false, false_and, or_true, true_or, or_false, false_or, not_true_eq_false, not_false_eq_true, decide_true, decide_false, decide_eq_true_eq, if_true, if_false, ite_true, ite_false, ↓reduceIte, Nat.reduceAdd, Nat.reduceSub, Nat.reduceMul, Nat.reduceEqDiff, Nat.reduceLeDiff, Nat.reduceLT, Nat.succ_ne_zero, Nat.zero_add, Nat.add_zero, Nat.zero_mul, Nat.mul_one, Nat.one_mul, Nat.le_refl, Nat.sub_zero, Int.reduceLT, Int.reduceLE, Int.reduceEq, Int.reduceNe, Int.reduceToNat, Int.reduceAdd, Int.reduceSub, Int.toNat_zero, reduceCtorEq, eq_self, ne_eq, beq_self_eq_true, Nat.reduceBEq, Nat.reduceBNe, List.mem_cons, List.not_mem_nil, false_implies, true_implies, implies_true, forall_const, List.drop_zero, List.drop_nil, List.take_zero, List.drop_length, List.length_append, cast_zero, cast_one, Int.cast_ofNat_Int, List.replicate_zero, List.replicate_succ, List.flatten_cons, List.flatten_nil, wrap_one, loopR_exit, loopR_ret, h0, h3, h5, h6, h7, hlt, hge, hi, hx, hlong, hL, List.length_map, Int.toNat_natCast]
    refine in_nil rfl rfl fun e' he => ?_
    have g0 : e' 0 = _ := (he 0 (by simp)).trans h0
    have g3 : e' 3 = _ := (he 3 (by simp)).trans h3
    have g5 : e' 5 = .str [] := (he 5 (by simp)).trans h5
    have g6 : e' 6 = .int .i64 0 := (he 6 (by simp)).trans h6
    have g7 : e' 7 = _ := (he 7 (by simp)).trans h7
    simp only [C2_app, y7, x7_0, r7_0, x7_1, r7_1, x7_2, r7_2, x7_3, x7_4, x7_5, x7_6, r7_6, x7_7, r7_7, x7_8, x7_9, x7_10, x7_11, r7_11, x7_12, r7_12, x7_13, r7_13, x7_14, x7_15, x7_16, x7_17, r7_17, x7_18, r7_18, x7_19, r7_19, x7_20, x7_21, x7_22, r7_22, x7_23, r7_23, x7_24, x7_25, x7_26, x7_27, r7_27, x7_28, r7_28, x7_29, r7_29, x7_30, x7_31, x7_32, x7_33, r7_33, x7_34, r7_34, x7_35, r7_35, x7_36, x7_37, x7_38, x7_39, r7_39, x7_40, r7_40, x7_41, r7_41, x7_42, r7_42, x7_43, x7_44, x7_45, x7_46, r7_46, x7_47, r7_47, x7_48, x7_49, x7_50, t7_50, x7_51, r7_51, x7_52, x7_53, x7_54, x7_55, x7_56, r7_56, x7_57, x7_58, x7_60, x7_61, x7_62, x7_63, x7_64, x7_65, x7_66, x7_67, x7_68, x7_69, x7_70, r7_70, x7_71, x7_72, x7_74, x7_75, x7_76, r7_76, x7_77, r7_77, x7_78, r7_78, x7_79, x7_80, x7_81, x7_82, x7_83, x7_84, x7_85, x7_86, x7_87, x7_88, sC_skip, sC_exit, sC_ret, condK_true, condK_false, unw_seq_normal, unw_seq_exit, unw_seq_ret, unw_block_normal, unw_block_exit, unw_block_ret, unw_lp_exit, unw_lp_ret, unw_fin, retQ_ret, retQ_normal, retQ_exit, nxt_app, nxtQ_app, nxtL_app, guardK_tt, guardK_ff, guardK_tf, guardK_ft, guardK_u, guardQ_tt, guardQ_ff, guardQ_tf, guardQ_ft, guardQ_u, guardL_tt, guardL_ff, guardL_tf, guardL_ft, guardL_u, sOps_nil, sOps_cons, sOps_guard, sTree_leaf, sTree_stop, sTree_quiet, sTree_loud, sTree_quietG, sTree_loudG, goO_some, goO_none, sOp_call, callvP_func, sOp_callv, putD_some, putD_none, still_nil, still_none, still_cons, sOp_move, sOp_nilCheck, sOp_pick, sOp_alloc, sOp_box, sOp_build, sOp_buildSlice, sOp_load1, sOp_loadN, sOp_store, sOp_bin, sOp_un, sOp_convInt, sOp_convSame, sOp_resame, sOp_toBytes, sOp_ofBytes, sOp_mkfunc, sOp_makeSlice, sOp_sliceStr, sOp_slice, sOp_sliceArr, sOp_fieldAddr, sOp_field1, sOp_fieldN, sOp_indexAddr, sOp_indexArrAddr, sOp_indexStr, sOp_indexArr1, sOp_indexArrN, sOp_extract, sOp_lenStr, sOp_lenSl, sOp_lenArr, sOp_append, sOp_copy, sOp_minmax, sOp_capOf, ev_t, ev_c, argEnv_nil, argEnv_cons, envL_nil, envL_cons, abin_add, abin_sub, abin_mul, abin_quo, abin_rem, abin_eql, abin_neq, abin_lss, abin_leq, abin_gtr, abin_geq, abin_shl, abin_shr, abin_sadd, abin_seql, abin_sneq, abin_slss, abin_sleq, abin_sgtr, abin_sgeq, abin_beql, abin_bneq, abin_p1, abin_p2, abin_p3, abin_p4, abin_p5, abin_p6, abin_s3, abin_s4, abin_s5, abin_s6, abin_f1, abin_f2, abin_f3, abin_f4, abin_feq, abin_fne, cellsEq_nil, cellsEq_s, cellsEq_i, cellsEq_b, aun_not, aun_neg, hget_nil, hget_cons, hset_cons, hkill_cons, hpush_nil, hpush_cons, idx_nil, idx_cons, sub_cons, take_cons, take_nil', put_cons, drop_cons, cells_agg, cells_str, cells_int, cells_bool, cells_ptr, cells_nilptr, cells_nilslice, cells_slice, cells_imm, cells_func, resVals_nil, resVals_t, retOf_one, retOf_two, retOf_nil, evOp, isRead, fixOp, ldCell, ldCells, fAddr, iAddr_slice, iAddr_imm, aAddr_ptr, aAddr_iptr, inRange_int, bound_none, bound_int, mayGrow, fillParts, lenOf, lenSl, evSlice, topOf, evAppend, elemsOf, grown, rowF_eq, rowQ_eq, Option.map_some, Option.map_none, Option.bind_some, Option.bind_none, Option.isSome_some, Option.isSome_none, List.map_cons, List.map_nil, List.length_cons, List.length_nil, List.append_nil, List.nil_append, List.cons_append, List.all_cons, List.all_nil, cell_str, cell_int, cell_bool, cell_ptr, cell_iptr, cell_nilptr, cell_nilslice, cell_slice, cell_imm, cell_func, cell_nilfunc, Bool.and_true, Bool.true_and, Bool.and_false, Bool.false_and, Bool.or_true, Bool.true_or, Bool.or_false, Bool.false_or, Bool.not_true, Bool.not_false, Bool.false_eq_true, Bool.true_eq_false, and_true, true_and, and_false, false_and, or_true, true_or, or_false, false_or, not_true_eq_false, not_false_eq_true, decide_true, decide_false, decide_eq_true_eq, if_true, if_false, ite_true, ite_false, ↓reduceIte, Nat.reduceAdd, Nat.reduceSub, Nat.reduceMul, Nat.reduceEqDiff, Nat.reduceLeDiff, Nat.reduceLT, Nat.succ_ne_zero, Nat.zero_add, Nat.add_zero, Nat.zero_mul, Nat.mul_one, Nat.one_mul, Nat.le_refl, Nat.sub_zero, Int.reduceLT, Int.reduceLE, Int.reduceEq, Int.reduceNe, Int.reduceToNat, Int.reduceAdd, Int.reduceSub, Int.toNat_zero, reduceCtorEq, eq_self, ne_eq, beq_self_eq_true, Nat.reduceBEq, Nat.reduceBNe, List.mem_cons, List.not_mem_nil, false_implies, true_implies, implies_true, forall_const, List.drop_zero, List.drop_nil, List.take_zero, List.drop_length, List.length_append, cast_zero, cast_one, Int.cast_ofNat_Int, List.replicate_zero, List.replicate_succ, List.flatten_cons, List.flatten_nil, wrap_one, loopR_exit, loopR_ret, g7]
    refine o_fin hi hn [] (by simp) trivial [some 0] rfl (σ1 := [some (tourC [] .nilslice)]) ?_ (.inl ⟨rfl, rfl⟩) rfl g0 g3 g5 g6 (by rw [← hw]; rfl)
    refine ⟨⟨_, rfl, ?_⟩, trivial⟩
    simp [wvs, wv]
theorem o_cons (nexts : List (List UInt8)) (h40 : nexts.length ≤ 40) (i : Nat) (e : Env) (hi : i < nexts.length) (x : List UInt8) (hx : (nexts.map fun s => [AV.str s])[i]? = some [.str x]) (n : Nat) (hn : n = nexts.length - i) (es : List (List UInt8)) (hpos : 0 < es.length) (hes : es.length ≤ i) (hinc : Inc [] es)
    (h0 : e 0 = .imm (nexts.map fun s => [.str s]) false false) (h3 : e 3 = .ptr 0 0) (h5 : e 5 = .str (lastE [] es)) (h6 : e 6 = .int .i64 (es.length : Int)) (h7 : e 7 = .int .i64 (i : Int)) :
    sC C2 0 b7_72 (unw C2 0 (loopR C2 0 R0 k0 (oI nexts) n) .fin) e [some (tourC (lastE [] es) (.slice 1 0 es.length none 2)), some (spc [] es)] := by
  have hlt : (i : Int) < (nexts.length : Int) := by omega
  have hge : (0 : Int) ≤ (i : Int) := by omega
  have hw : IntKind.wrap .i64 ((i : Int) + 1) = ((i + 1 : Nat) : Int) := by rw [Gz.wrap64 (by omega)]; omega
  have hwm : IntKind.wrap .i64 ((es.length : Int) + 1) = ((es.length + 1 : Nat) : Int) := by rw [Gz.wrap64 (by omega)]; omega
  have hsub := spc_sub (p := []) (es := es) (n := es.length * 2) rfl
  by_cases hlong : (300 : Int) < (x.length : Int)
  · simp only [C2_app, y7, x7_0, r7_0, x7_1, r7_1, x7_2, r7_2, x7_3, x7_4, x7_5, x7_6, r7_6, x7_7, r7_7, x7_8, x7_9, x7_10, x7_11, r7_11, x7_12, r7_12, x7_13, r7_13, x7_14, x7_15, x7_16, x7_17, r7_17, x7_18, r7_18, x7_19, r7_19, x7_20, x7_21, x7_22, r7_22, x7_23, r7_23, x7_24, x7_25, x7_26, x7_27, r7_27, x7_28, r7_28, x7_29, r7_29, x7_30, x7_31, x7_32, x7_33, r7_33, x7_34, r7_34, x7_35, r7_35, x7_36, x7_37, x7_38, x7_39, r7_39, x7_40, r7_40, x7_41, r7_41, x7_42, r7_42, x7_43, x7_44, x7_45, x7_46, r7_46, x7_47, r7_47, x7_48, x7_49, x7_50, t7_50, x7_51, r7_51, x7_52, x7_53, x7_54, x7_55, x7_56, r7_56, x7_57, x7_58, x7_60, x7_61, x7_62, x7_63, x7_64, x7_65, x7_66, x7_67, x7_68, x7_69, x7_70, r7_70, x7_71, x7_72, x7_74, x7_75, x7_76, r7_76, x7_77, r7_77, x7_78, r7_78, x7_79, x7_80, x7_81, x7_82, x7_83, x7_84, x7_85, x7_86, x7_87, x7_88, sC_skip, sC_exit, sC_ret, condK_true, condK_false, unw_seq_normal, unw_seq_exit, unw_seq_ret, unw_block_normal, unw_block_exit, unw_block_ret, unw_lp_exit, unw_lp_ret, unw_fin, retQ_ret, retQ_normal, retQ_exit, nxt_app, nxtQ_app, nxtL_app, guardK_tt, guardK_ff, guardK_tf, guardK_ft, guardK_u, guardQ_tt, guardQ_ff, guardQ_tf, guardQ_ft, guardQ_u, guardL_tt, guardL_ff, guardL_tf, guardL_ft, guardL_u, sOps_nil, sOps_cons, sOps_guard, sTree_leaf, sTree_stop, sTree_quiet, sTree_loud, sTree_quietG, sTree_loudG, goO_some, goO_none, sOp_call, callvP_func, sOp_callv, putD_some, putD_none, still_nil, still_none, still_cons, sOp_move, sOp_nilCheck, sOp_pick, sOp_alloc, sOp_box, sOp_build, sOp_buildSlice, sOp_load1, sOp_loadN, sOp_store, sOp_bin, sOp_un, sOp_convInt, sOp_convSame, sOp_resame, sOp_toBytes, sOp_ofBytes, sOp_mkfunc, sOp_makeSlice, sOp_sliceStr, sOp_slice, sOp_sliceArr, sOp_fieldAddr, sOp_field1, sOp_fieldN, sOp_indexAddr, sOp_indexArrAddr, sOp_indexStr, sOp_indexArr1, sOp_indexArrN, sOp_extract, sOp_lenStr, sOp_lenSl, sOp_lenArr, sOp_append, sOp_copy, sOp_minmax, sOp_capOf, ev_t, ev_c, argEnv_nil, argEnv_cons, envL_nil, envL_cons, abin_add, abin_sub, abin_mul, abin_quo, abin_rem, abin_eql, abin_neq, abin_lss, abin_leq, abin_gtr, abin_geq, abin_shl, abin_shr, abin_sadd, abin_seql, abin_sneq, abin_slss, abin_sleq, abin_sgtr, abin_sgeq, abin_beql, abin_bneq, abin_p1, abin_p2, abin_p3, abin_p4, abin_p5, abin_p6, abin_s3, abin_s4, abin_s5, abin_s6, abin_f1, abin_f2, abin_f3, abin_f4, abin_feq, abin_fne, cellsEq_nil, cellsEq_s, cellsEq_i, cellsEq_b, aun_not, aun_neg, hget_nil, hget_cons, hset_cons, hkill_cons, hpush_nil, hpush_cons, idx_nil, idx_cons, sub_cons, take_cons, take_nil', put_cons, drop_cons, cells_agg, cells_str, cells_int, cells_bool, cells_ptr, cells_nilptr, cells_nilslice, cells_slice, cells_imm, cells_func, resVals_nil, resVals_t, retOf_one, retOf_two, retOf_nil, evOp, isRead, fixOp, ldCell, ldCells, fAddr, iAddr_slice, iAddr_imm, aAddr_ptr, aAddr_iptr, inRange_int, bound_none, bound_int, mayGrow, fillParts, lenOf, lenSl, evSlice, topOf, evAppend, elemsOf, grown, rowF_eq, rowQ_eq, Option.map_some, Option.map_none, Option.bind_some, Option.bind_none, Option.isSome_some, Option.isSome_none, List.map_cons, List.map_nil, List.length_cons, List.length_nil, List.append_nil, List.nil_append, List.cons_append, List.all_cons, List.all_nil, cell_str, cell_int, cell_bool, cell_ptr, cell_iptr, cell_nilptr, cell_nilslice, cell_slice, cell_imm, cell_func, cell_nilfunc, Bool.and_true, Bool.true_and, Bool.and_false, Bool.false_and, Bool.or_true, Bool.true_or, Bool.or_false, Bool.false_or, Bool.not_true, Bool.not_false, Bool.false_eq_true, Bool.true_eq_false, and_true, true_and, and_false, false_and, or_true, true_or, or_false, false_or, not_true_eq_false, not_false_eq_true, decide_true, decide_false, decide_eq_true_eq, if_true, if_false, ite_true, ite_false, ↓reduceIte, Nat.reduceAdd, Nat.reduceSub, Nat.reduceMul, Nat.reduceEqDiff, Nat.reduceLeDiff, Nat.reduceLT, Nat.succ_ne_zero, Nat.zero_add, Nat.add_zero, Nat.zero_mul, Nat.mul_one, Nat.one_mul, Nat.le_refl, Nat.sub_zero, Int.reduceLT, Int.reduceLE, Int.reduceEq, Int.reduceNe, Int.reduceToNat, Int.reduceAdd, Int.reduceSub, Int.toNat_zero, reduceCtorEq, eq_self, ne_eq, beq_self_eq_true, Nat.reduceBEq, Nat.reduceBNe, List.mem_cons, List.not_mem_nil, false_implies, true_implies, implies_true, forall_const, List.drop_zero, List.drop_nil, List.take_zero, List.drop_length, List.length_append, cast_zero, cast_one, Int.cast_ofNat_Int, List.replicate_zero, List.replicate_succ, List.flatten_cons, List.flatten_nil, wrap_one, loopR_exit, loopR_ret, h0, h3, h5, h6, h7, hlt, hge, hi, hx, hlong, List.length_map, Int.toNat_natCast]
    trivial
  cases hL : (lessBytes x (lastE [] es) || x == lastE [] es)
  · have hg1 : (2 * (es.length + 1) + 768) * 32 ≤ 281474976710656 := by omega
    have hg2 : (2 * (0 + (es.length + 1)) + 768) * 32 ≤ 281474976710656 := by omega
    have hz : 0 < es.length + 1 := by omega
    have hz' : ¬ es.length + 1 = 0 := by omega
    have hsub2 := spc_sub (p := []) (es := es ++ [x]) (n := (es.length + 1) * 2) (by simp)
    have hc2 := spc_cell (p := []) (es := es ++ [x])
    rw [spc_snoc] at hsub2 hc2
    simp only [C2_app, C1_app, D0_app, y7, x7_0, r7_0, x7_1, r7_1, x7_2, r7_2, x7_3, x7_4, x7_5, x7_6, r7_6, x7_7, r7_7, x7_8, x7_9, x7_10, x7_11, r7_11, x7_12, r7_12, x7_13, r7_13, x7_14, x7_15, x7_16, x7_17, r7_17, x7_18, r7_18, x7_19, r7_19, x7_20, x7_21, x7_22, r7_22, x7_23, r7_23, x7_24, x7_25, x7_26, x7_27, r7_27, x7_28, r7_28, x7_29, r7_29, x7_30, x7_31, x7_32, x7_33, r7_33, x7_34, r7_34, x7_35, r7_35, x7_36, x7_37, x7_38, x7_39, r7_39, x7_40, r7_40, x7_41, r7_41, x7_42, r7_42, x7_43, x7_44, x7_45, x7_46, r7_46, x7_47, r7_47, x7_48, x7_49, x7_50, t7_50, x7_51, r7_51, x7_52, x7_53, x7_54, x7_55, x7_56, r7_56, x7_57, x7_58, x7_60, x7_61, x7_62, x7_63, x7_64, x7_65, x7_66, x7_67, x7_68, x7_69, x7_70, r7_70, x7_71, x7_72, x7_74, x7_75, x7_76, r7_76, x7_77, r7_77, x7_78, r7_78, x7_79, x7_80, x7_81, x7_82, x7_83, x7_84, x7_85, x7_86, x7_87, x7_88, y12, x12_0, r12_0, x12_1, r12_1, x12_2, r12_2, x12_3, x12_4, x12_5, x12_6, t12_6, x12_7, x12_8, x12_9, y13, x13_0, r13_0, x13_1, r13_1, x13_2, x13_3, y14, x14_0, r14_0, x14_1, r14_1, x14_2, r14_2, x14_3, x14_4, r14_4, x14_5, r14_5, x14_6, x14_7, r14_7, x14_8, r14_8, x14_9, x14_10, t14_10, x14_11, t14_11, x14_12, x14_13, x14_14, r14_14, x14_15, x14_16, x14_17, x14_18, x14_19, x14_20, x14_21, x14_22, x14_23, x14_24, x14_25, t14_25, x14_26, t14_26, x14_27, t14_27, x14_28, r14_28, x14_29, x14_30, x14_31, x14_32, x14_33, x14_34, y16, x16_0, r16_0, x16_1, r16_1, x16_2, r16_2, x16_3, x16_4, x16_5, x16_6, r16_6, x16_7, x16_8, x16_9, y32, x32_0, r32_0, x32_1, r32_1, x32_2, r32_2, x32_3, x32_4, x32_5, x32_6, r32_6, x32_7, x32_8, x32_9, sC_skip, sC_exit, sC_ret, condK_true, condK_false, unw_seq_normal, unw_seq_exit, unw_seq_ret, unw_block_normal, unw_block_exit, unw_block_ret, unw_lp_exit, unw_lp_ret, unw_fin, retQ_ret, retQ_normal, retQ_exit, nxt_app, nxtQ_app, nxtL_app, guardK_tt, guardK_ff, guardK_tf, guardK_ft, guardK_u, guardQ_tt, guardQ_ff, guardQ_tf, guardQ_ft, guardQ_u, guardL_tt, guardL_ff, guardL_tf, guardL_ft, guardL_u, sOps_nil, sOps_cons, sOps_guard, sTree_leaf, sTree_stop, sTree_quiet, sTree_loud, sTree_quietG, sTree_loudG, goO_some, goO_none, sOp_call, callvP_func, sOp_callv, putD_some, putD_none, still_nil, still_none, still_cons, sOp_move, sOp_nilCheck, sOp_pick, sOp_alloc, sOp_box, sOp_build, sOp_buildSlice, sOp_load1, sOp_loadN, sOp_store, sOp_bin, sOp_un, sOp_convInt, sOp_convSame, sOp_resame, sOp_toBytes, sOp_ofBytes, sOp_mkfunc, sOp_makeSlice, sOp_sliceStr, sOp_slice, sOp_sliceArr, sOp_fieldAddr, sOp_field1, sOp_fieldN, sOp_indexAddr, sOp_indexArrAddr, sOp_indexStr, sOp_indexArr1, sOp_indexArrN, sOp_extract, sOp_lenStr, sOp_lenSl, sOp_lenArr, sOp_append, sOp_copy, sOp_minmax, sOp_capOf, ev_t, ev_c, argEnv_nil, argEnv_cons, envL_nil, envL_cons, abin_add, abin_sub, abin_mul, abin_quo, abin_rem, abin_eql, abin_neq, abin_lss, abin_leq, abin_gtr, abin_geq, abin_shl, abin_shr, abin_sadd, abin_seql, abin_sneq, abin_slss, abin_sleq, abin_sgtr, abin_sgeq, abin_beql, abin_bneq, abin_p1, abin_p2, abin_p3, abin_p4, abin_p5, abin_p6, abin_s3, abin_s4, abin_s5, abin_s6, abin_f1, abin_f2, abin_f3, abin_f4, abin_feq, abin_fne, cellsEq_nil, cellsEq_s, cellsEq_i, cellsEq_b, aun_not, aun_neg, hget_nil, hget_cons, hset_cons, hkill_cons, hpush_nil, hpush_cons, idx_nil, idx_cons, sub_cons, take_cons, take_nil', put_cons, drop_cons, cells_agg, cells_str, cells_int, cells_bool, cells_ptr, cells_nilptr, cells_nilslice, cells_slice, cells_imm, cells_func, resVals_nil, resVals_t, retOf_one, retOf_two, retOf_nil, evOp, isRead, fixOp, ldCell, ldCells, fAddr, iAddr_slice, iAddr_imm, aAddr_ptr, aAddr_iptr, inRange_int, bound_none, bound_int, mayGrow, fillParts, lenOf, lenSl, evSlice, topOf, evAppend, elemsOf, grown, rowF_eq, rowQ_eq, Option.map_some, Option.map_none, Option.bind_some, Option.bind_none, Option.isSome_some, Option.isSome_none, List.map_cons, List.map_nil, List.length_cons, List.length_nil, List.append_nil, List.nil_append, List.cons_append, List.all_cons, List.all_nil, cell_str, cell_int, cell_bool, cell_ptr, cell_iptr, cell_nilptr, cell_nilslice, cell_slice, cell_imm, cell_func, cell_nilfunc, Bool.and_true, Bool.true_and, Bool.and_false, Bool.false_and, Bool.or_true, Bool.true_or, Bool.or_false, Bool.false_or, Bool.not_true, Bool.not_false, Bool.false_eq_true, Bool.true_eq_false, and_true, true_and, and_false, false_and, or_true, true_or, or_false, false_or, not_true_eq_false, not_false_eq_true, decide_true, decide_false, decide_eq_true_eq, if_true, if_false, ite_true, ite_false, ↓reduceIte, Nat.reduceAdd, Nat.reduceSub, Nat.reduceMul, Nat.reduceEqDiff, Nat.reduceLeDiff, Nat.reduceLT, Nat.succ_ne_zero, Nat.zero_add, Nat.add_zero, Nat.zero_mul, Nat.mul_one, Nat.one_mul, Nat.le_refl, Nat.sub_zero, Int.reduceLT, Int.reduceLE, Int.reduceEq, Int.reduceNe, Int.reduceToNat, Int.reduceAdd, Int.reduceSub, Int.toNat_zero, reduceCtorEq, eq_self, ne_eq, beq_self_eq_true, Nat.reduceBEq, Nat.reduceBNe, List.mem_cons, List.not_mem_nil, false_implies, true_implies, implies_true, forall_const, List.drop_zero, List.drop_nil, List.take_zero, List.drop_length, List.length_append, cast_zero, cast_one, Int.cast_ofNat_Int, List.replicate_zero, List.replicate_succ, List.flatten_cons, List.flatten_nil, wrap_one, loopR_exit, loopR_ret, h0, h3, h5, h6, h7, hlt, hge, hi, hx, hlong, hL, hsub, hsub2, hc2, hg1, hg2, hz, hz', hwm, List.length_map, Int.toNat_natCast]
    refine in_ok (es ++ [x]) (by simp; omega) 6 (by rw [spc_snoc]; rfl) (by simp only [List.length_append, List.length_cons, List.length_nil]; rfl) rfl fun e' he => ?_
    have g0 : e' 0 = _ := (he 0 (by simp)).trans h0
    have g3 : e' 3 = _ := (he 3 (by simp)).trans h3
    have g5 : e' 5 = .str x := he 5 (by simp)
    have g6 : e' 6 = .int .i64 ((es.length + 1 : Nat) : Int) := he 6 (by simp)
    have g7 : e' 7 = _ := (he 7 (by simp)).trans h7
    simp only [C2_app, y7, x7_0, r7_0, x7_1, r7_1, x7_2, r7_2, x7_3, x7_4, x7_5, x7_6, r7_6, x7_7, r7_7, x7_8, x7_9, x7_10, x7_11, r7_11, x7_12, r7_12, x7_13, r7_13, x7_14, x7_15, x7_16, x7_17, r7_17, x7_18, r7_18, x7_19, r7_19, x7_20, x7_21, x7_22, r7_22, x7_23, r7_23, x7_24, x7_25, x7_26, x7_27, r7_27, x7_28, r7_28, x7_29, r7_29, x7_30, x7_31, x7_32, x7_33, r7_33, x7_34, r7_34, x7_35, r7_35, x7_36, x7_37, x7_38, x7_39, r7_39, x7_40, r7_40, x7_41, r7_41, x7_42, r7_42, x7_43, x7_44, x7_45, x7_46, r7_46, x7_47, r7_47, x7_48, x7_49, x7_50, t7_50, x7_51, r7_51, x7_52, x7_53, x7_54, x7_55, x7_56, r7_56, x7_57, x7_58, x7_60, x7_61, x7_62, x7_63, x7_64, x7_65, x7_66, x7_67, x7_68, x7_69, x7_70, r7_70, x7_71, x7_72, x7_74, x7_75, x7_76, r7_76, x7_77, r7_77, x7_78, r7_78, x7_79, x7_80, x7_81, x7_82, x7_83, x7_84, x7_85, x7_86, x7_87, x7_88, sC_skip, sC_exit, sC_ret, condK_true, condK_false, unw_seq_normal, unw_seq_exit, unw_seq_ret, unw_block_normal, unw_block_exit, unw_block_ret, unw_lp_exit, unw_lp_ret, unw_fin, retQ_ret, retQ_normal, retQ_exit, nxt_app, nxtQ_app, nxtL_app, guardK_tt, guardK_ff, guardK_tf, guardK_ft, guardK_u, guardQ_tt, guardQ_ff, guardQ_tf, guardQ_ft, guardQ_u, guardL_tt, guardL_ff, guardL_tf, guardL_ft, guardL_u, sOps_nil, sOps_cons, sOps_guard, sTree_leaf, sTree_stop, sTree_quiet, sTree_loud, sTree_quietG, sTree_loudG, goO_some, goO_none, sOp_call, callvP_func, sOp_callv, putD_some, putD_none, still_nil, still_none, still_cons, sOp_move, sOp_nilCheck, sOp_pick, sOp_alloc, sOp_box, sOp_build, sOp_buildSlice, sOp_load1, sOp_loadN, sOp_store, sOp_bin, sOp_un, sOp_convInt, sOp_convSame, sOp_resame, sOp_toBytes, sOp_ofBytes, sOp_mkfunc, sOp_makeSlice, sOp_sliceStr, sOp_slice, sOp_sliceArr, sOp_fieldAddr, sOp_field1, sOp_fieldN, sOp_indexAddr, sOp_indexArrAddr, sOp_indexStr, sOp_indexArr1, sOp_indexArrN, sOp_extract, sOp_lenStr, sOp_lenSl, sOp_lenArr, sOp_append, sOp_copy, sOp_minmax, sOp_capOf, ev_t, ev_c, argEnv_nil, argEnv_cons, envL_nil, envL_cons, abin_add, abin_sub, abin_mul, abin_quo, abin_rem, abin_eql, abin_neq, abin_lss, abin_leq, abin_gtr, abin_geq, abin_shl, abin_shr, abin_sadd, abin_seql, abin_sneq, abin_slss, abin_sleq, abin_sgtr, abin_sgeq, abin_beql, abin_bneq, abin_p1, abin_p2, abin_p3, abin_p4, abin_p5, abin_p6, abin_s3, abin_s4, abin_s5, abin_s6, abin_f1, abin_f2, abin_f3, abin_f4, abin_feq, abin_fne, cellsEq_nil, cellsEq_s, cellsEq_i, cellsEq_b, aun_not, aun_neg, hget_nil, hget_cons, hset_cons, hkill_cons, hpush_nil, hpush_cons, idx_nil, idx_cons, sub_cons, take_cons, take_nil', put_cons, drop_cons, cells_agg, cells_str, cells_int, cells_bool, cells_ptr, cells_nilptr, cells_nilslice, cells_slice, cells_imm, cells_func, resVals_nil, resVals_t, retOf_one, retOf_two, retOf_nil, evOp, isRead, fixOp, ldCell, ldCells, fAddr, iAddr_slice, iAddr_imm, aAddr_ptr, aAddr_iptr, inRange_int, bound_none, bound_int, mayGrow, fillParts, lenOf, lenSl, evSlice, topOf, evAppend, elemsOf, grown, rowF_eq, rowQ_eq, Option.map_some, Option.map_none, Option.bind_some, Option.bind_none, Option.isSome_some, Option.isSome_none, List.map_cons, List.map_nil, List.length_cons, List.length_nil, List.append_nil, List.nil_append, List.cons_append, List.all_cons, List.all_nil, cell_str, cell_int, cell_bool, cell_ptr, cell_iptr, cell_nilptr, cell_nilslice, cell_slice, cell_imm, cell_func, cell_nilfunc, Bool.and_true, Bool.true_and, Bool.and_false, Bool.false_and, Bool.or_true, Bool.true_or, Bool.or_false, Bool.false_or, Bool.not_true, Bool.not_false, Bool.false_eq_true, Bool.true_eq_false, and_true, true_and, and_false, false_and, or_true, true_or, or_false, false_or, not_true_eq_false, not_false_eq_true, decide_true, decide_false, decide_eq_true_eq, if_true, if_false, ite_true, ite_false, ↓reduceIte, Nat.reduceAdd, Nat.reduceSub, Nat.reduceMul, Nat.reduceEqDiff, Nat.reduceLeDiff, Nat.reduceLT, Nat.succ_ne_zero, Nat.zero_add, Nat.add_zero, Nat.zero_mul, Nat.mul_one, Nat.one_mul, Nat.le_refl, Nat.sub_zero, Int.reduceLT, Int.reduceLE, Int.reduceEq, Int.reduceNe, Int.reduceToNat, Int.reduceAdd, Int.reduceSub, Int.toNat_zero, reduceCtorEq, eq_self, ne_eq, beq_self_eq_true, Nat.reduceBEq, Nat.reduceBNe, List.mem_cons, List.not_mem_nil, false_implies, true_implies, implies_true, forall_const, List.drop_zero, List.drop_nil, List.take_zero, List.drop_length, List.length_append, cast_zero, cast_one, Int.cast_ofNat_Int, List.replicate_zero, List.replicate_succ, List.flatten_cons, List.flatten_nil, wrap_one, loopR_exit, loopR_ret, g7]
    refine o_fin hi hn (es ++ [x]) (by simp; omega) (inc_snoc hinc hL) [some 0, some 4] rfl (σ1 := [some (tourC x (.slice 1 0 (es.length + 1) none 2)), some (spc [] (es ++ [x]))]) ?_ (.inr ⟨by simp, by rw [lastE_snoc]; simp⟩) rfl g0 g3 (by rw [lastE_snoc]; exact g5) (by simp only [List.length_append, List.length_cons, List.length_nil]; exact g6) (by rw [← hw]; rfl)
    refine ⟨⟨_, rfl, ?_⟩, ⟨_, rfl, ?_⟩, trivial⟩
    · simp [wvs, wv]
    · rw [← spc_snoc]; exact wvs_flat spc_flat
  · have hg2 : (2 * (0 + es.length) + 768) * 32 ≤ 281474976710656 := by omega
    have hg1 : (2 * es.length + 768) * 32 ≤ 281474976710656 := by omega
    have hz' : ¬ es.length = 0 := by omega
    have hc2 := spc_cell (p := []) (es := es)
    simp only [C2_app, C1_app, D0_app, y7, x7_0, r7_0, x7_1, r7_1, x7_2, r7_2, x7_3, x7_4, x7_5, x7_6, r7_6, x7_7, r7_7, x7_8, x7_9, x7_10, x7_11, r7_11, x7_12, r7_12, x7_13, r7_13, x7_14, x7_15, x7_16, x7_17, r7_17, x7_18, r7_18, x7_19, r7_19, x7_20, x7_21, x7_22, r7_22, x7_23, r7_23, x7_24, x7_25, x7_26, x7_27, r7_27, x7_28, r7_28, x7_29, r7_29, x7_30, x7_31, x7_32, x7_33, r7_33, x7_34, r7_34, x7_35, r7_35, x7_36, x7_37, x7_38, x7_39, r7_39, x7_40, r7_40, x7_41, r7_41, x7_42, r7_42, x7_43, x7_44, x7_45, x7_46, r7_46, x7_47, r7_47, x7_48, x7_49, x7_50, t7_50, x7_51, r7_51, x7_52, x7_53, x7_54, x7_55, x7_56, r7_56, x7_57, x7_58, x7_60, x7_61, x7_62, x7_63, x7_64, x7_65, x7_66, x7_67, x7_68, x7_69, x7_70, r7_70, x7_71, x7_72, x7_74, x7_75, x7_76, r7_76, x7_77, r7_77, x7_78, r7_78, x7_79, x7_80, x7_81, x7_82, x7_83, x7_84, x7_85, x7_86, x7_87, x7_88, y12, x12_0, r12_0, x12_1, r12_1, x12_2, r12_2, x12_3, x12_4, x12_5, x12_6, t12_6, x12_7, x12_8, x12_9, y13, x13_0, r13_0, x13_1, r13_1, x13_2, x13_3, y14, x14_0, r14_0, x14_1, r14_1, x14_2, r14_2, x14_3, x14_4, r14_4, x14_5, r14_5, x14_6, x14_7, r14_7, x14_8, r14_8, x14_9, x14_10, t14_10, x14_11, t14_11, x14_12, x14_13, x14_14, r14_14, x14_15, x14_16, x14_17, x14_18, x14_19, x14_20, x14_21, x14_22, x14_23, x14_24, x14_25, t14_25, x14_26, t14_26, x14_27, t14_27, x14_28, r14_28, x14_29, x14_30, x14_31, x14_32, x14_33, x14_34, y16, x16_0, r16_0, x16_1, r16_1, x16_2, r16_2, x16_3, x16_4, x16_5, x16_6, r16_6, x16_7, x16_8, x16_9, y32, x32_0, r32_0, x32_1, r32_1, x32_2, r32_2, x32_3, x32_4, x32_5, x32_6, r32_6, x32_7, x32_8, x32_9, sC_skip, sC_exit, sC_ret, condK_true, condK_false, unw_seq_normal, unw_seq_exit, unw_seq_ret, unw_block_normal, unw_block_exit, unw_block_ret, unw_lp_exit, unw_lp_ret, unw_fin, retQ_ret, retQ_normal, retQ_exit, nxt_app, nxtQ_app, nxtL_app, guardK_tt, guardK_ff, guardK_tf, guardK_ft, guardK_u, guardQ_tt, guardQ_ff, guardQ_tf, guardQ_ft, guardQ_u, guardL_tt, guardL_ff, guardL_tf, guardL_ft, guardL_u, sOps_nil, sOps_cons, sOps_guard, sTree_leaf, sTree_stop, sTree_quiet, sTree_loud, sTree_quietG, sTree_loudG, goO_some, goO_none, sOp_call, callvP_func, sOp_callv, putD_some, putD_none, still_nil, still_none, still_cons, sOp_move, sOp_nilCheck, sOp_pick, sOp_alloc, sOp_box, sOp_build, sOp_buildSlice, sOp_load1, sOp_loadN, sOp_store, sOp_bin, sOp_un, sOp_convInt, sOp_convSame, sOp_resame, sOp_toBytes, sOp_ofBytes, sOp_mkfunc, sOp_makeSlice, sOp_sliceStr, sOp_slice, sOp_sliceArr, sOp_fieldAddr, sOp_field1, sOp_fieldN, sOp_indexAddr, sOp_indexArrAddr, sOp_indexStr, sOp_indexArr1, sOp_indexArrN, sOp_extract, sOp_lenStr, sOp_lenSl, sOp_lenArr, sOp_append, sOp_copy, sOp_minmax, sOp_capOf, ev_t, ev_c, argEnv_nil, argEnv_cons, envL_nil, envL_cons, abin_add, abin_sub, abin_mul, abin_quo, abin_rem, abin_eql, abin_neq, abin_lss, abin_leq, abin_gtr, abin_geq, abin_shl, abin_shr, abin_sadd, abin_seql, abin_sneq, abin_slss, abin_sleq, abin_sgtr, abin_sgeq, abin_beql, abin_bneq, abin_p1, abin_p2, abin_p3, abin_p4, abin_p5, abin_p6, abin_s3, abin_s4, abin_s5, abin_s6, abin_f1, abin_f2, abin_f3, abin_f4, abin_feq, abin_fne, cellsEq_nil, cellsEq_s, cellsEq_i, cellsEq_b, aun_not, aun_neg, hget_nil, hget_cons, hset_cons, hkill_cons, hpush_nil, hpush_cons, idx_nil, idx_cons, sub_cons, take_cons, take_nil', put_cons, drop_cons, cells_agg, cells_str, cells_int, cells_bool, cells_ptr, cells_nilptr, cells_nilslice, cells_slice, cells_imm, cells_func, resVals_nil, resVals_t, retOf_one, retOf_two, retOf_nil, evOp, isRead, fixOp, ldCell, ldCells, fAddr, iAddr_slice, iAddr_imm, aAddr_ptr, aAddr_iptr, inRange_int, bound_none, bound_int, mayGrow, fillParts, lenOf, lenSl, evSlice, topOf, evAppend, elemsOf, grown, rowF_eq, rowQ_eq, Option.map_some, Option.map_none, Option.bind_some, Option.bind_none, Option.isSome_some, Option.isSome_none, List.map_cons, List.map_nil, List.length_cons, List.length_nil, List.append_nil, List.nil_append, List.cons_append, List.all_cons, List.all_nil, cell_str, cell_int, cell_bool, cell_ptr, cell_iptr, cell_nilptr, cell_nilslice, cell_slice, cell_imm, cell_func, cell_nilfunc, Bool.and_true, Bool.true_and, Bool.and_false, Bool.false_and, Bool.or_true, Bool.true_or, Bool.or_false, Bool.false_or, Bool.not_true, Bool.not_false, Bool.false_eq_true, Bool.true_eq_false, and_true, true_and, and_false, false_and, or_true, true_or, or_false, false_or, not_true_eq_false, not_false_eq_true, decide_true, decide_false, decide_eq_true_eq, if_true, if_false, ite_true, ite_false, ↓reduceIte, Nat.reduceAdd, Nat.reduceSub, Nat.reduceMul, Nat.reduceEqDiff, Nat.reduceLeDiff, Nat.reduceLT, Nat.succ_ne_zero, Nat.zero_add, Nat.add_zero, Nat.zero_mul, Nat.mul_one, Nat.one_mul, Nat.le_refl, Nat.sub_zero, Int.reduceLT, Int.reduceLE, Int.reduceEq, Int.reduceNe, Int.reduceToNat, Int.reduceAdd, Int.reduceSub, Int.toNat_zero, reduceCtorEq, eq_self, ne_eq, beq_self_eq_true, Nat.reduceBEq, Nat.reduceBNe, List.mem_cons, List.not_mem_nil, false_implies, true_implies, implies_true, forall_const, List.drop_zero, List.drop_nil, List.take_zero, List.drop_length, List.length_append, cast_zero, cast_one, Int.cast_ofNat_Int, List.replicate_zero, List.replicate_succ, List.flatten_cons, List.flatten_nil, wrap_one, loopR_exit, loopR_ret, h0, h3, h5, h6, h7, hlt, hge, hi, hx, hlong, hL, hsub, hc2, hg1, hg2, hpos, hz', List.length_map, Int.toNat_natCast]
    refine in_ok es (by omega) 4 rfl rfl rfl fun e' he => ?_
    have g0 : e' 0 = _ := (he 0 (by simp)).trans h0
    have g3 : e' 3 = _ := (he 3 (by simp)).trans h3
    have g5 : e' 5 = .str (lastE [] es) := (he 5 (by simp)).trans h5
    have g6 : e' 6 = .int .i64 (es.length : Int) := (he 6 (by simp)).trans h6
    have g7 : e' 7 = _ := (he 7 (by simp)).trans h7
    simp only [C2_app, y7, x7_0, r7_0, x7_1, r7_1, x7_2, r7_2, x7_3, x7_4, x7_5, x7_6, r7_6, x7_7, r7_7, x7_8, x7_9, x7_10, x7_11, r7_11, x7_12, r7_12, x7_13, r7_13, x7_14, x7_15, x7_16, x7_17, r7_17, x7_18, r7_18, x7_19, r7_19, x7_20, x7_21, x7_22, r7_22, x7_23, r7_23, x7_24, x7_25, x7_26, x7_27, r7_27, x7_28, r7_28, x7_29, r7_29, x7_30, x7_31, x7_32, x7_33, r7_33, x7_34, r7_34, x7_35, r7_35, x7_36, x7_37, x7_38, x7_39, r7_39, x7_40, r7_40, x7_41, r7_41, x7_42, r7_42, x7_43, x7_44, x7_45, x7_46, r7_46, x7_47, r7_47, x7_48, x7_49, x7_50, t7_50, x7_51, r7_51, x7_52, x7_53, x7_54, x7_55, x7_56, r7_56, x7_57, x7_58, x7_60, x7_61, x7_62, x7_63, x7_64, x7_65, x7_66, x7_67, x7_68, x7_69, x7_70, r7_70, x7_71, x7_72, x7_74, x7_75, x7_76, r7_76, x7_77, r7_77, x7_78, r7_78, x7_79, x7_80, x7_81, x7_82, x7_83, x7_84, x7_85, x7_86, x7_87, x7_88, sC_skip, sC_exit, sC_ret, condK_true, condK_false, unw_seq_normal, unw_seq_exit, unw_seq_ret, unw_block_normal, unw_block_exit, unw_block_ret, unw_lp_exit, unw_lp_ret, unw_fin, retQ_ret, retQ_normal, retQ_exit, nxt_app, nxtQ_app, nxtL_app, guardK_tt, guardK_ff, guardK_tf, guardK_ft, guardK_u, guardQ_tt, guardQ_ff, guardQ_tf, guardQ_ft, guardQ_u, guardL_tt, guardL_ff, guardL_tf, guardL_ft, guardL_u, sOps_nil, sOps_cons, sOps_guard, sTree_leaf, sTree_stop, sTree_quiet, sTree_loud, sTree_quietG, sTree_loudG, goO_some, goO_none, sOp_call, callvP_func, sOp_callv, putD_some, putD_none, still_nil, still_none, still_cons, sOp_move, sOp_nilCheck, sOp_pick, sOp_alloc, sOp_box, sOp_build, sOp_buildSlice, sOp_load1, sOp_loadN, sOp_store, sOp_bin, sOp_un, sOp_convInt, sOp_convSame, sOp_resame, sOp_toBytes, sOp_ofBytes, sOp_mkfunc, sOp_makeSlice, sOp_sliceStr, sOp_slice, sOp_sliceArr, sOp_fieldAddr, sOp_field1, sOp_fieldN, sOp_indexAddr, sOp_indexArrAddr, sOp_indexStr, sOp_indexArr1, sOp_indexArrN, sOp_extract, sOp_lenStr, sOp_lenSl, sOp_lenArr, sOp_append, sOp_copy, sOp_minmax, sOp_capOf, ev_t, ev_c, argEnv_nil, argEnv_cons, envL_nil, envL_cons, abin_add, abin_sub, abin_mul, abin_quo, abin_rem, abin_eql, abin_neq, abin_lss, abin_leq, abin_gtr, abin_geq, abin_shl, abin_shr, abin_sadd, abin_seql, abin_sneq, abin_slss, abin_sleq, abin_sgtr, abin_sgeq, abin_beql, abin_bneq, abin_p1, abin_p2, abin_p3, abin_p4, abin_p5, abin_p6, abin_s3, abin_s4, abin_s5, abin_s6, abin_f1, abin_f2, abin_f3, abin_f4, abin_feq, abin_fne, cellsEq_nil, cellsEq_s, cellsEq_i, cellsEq_b, aun_not, aun_neg, hget_nil, hget_cons, hset_cons, hkill_cons, hpush_nil, hpush_cons, idx_nil, idx_cons, sub_cons, take_cons, take_nil', put_cons, drop_cons, cells_agg, cells_str, cells_int, cells_bool, cells_ptr, cells_nilptr, cells_nilslice, cells_slice, cells_imm, cells_func, resVals_nil, resVals_t, retOf_one, retOf_two, retOf_nil, evOp, isRead, fixOp, ldCell, ldCells, fAddr, iAddr_slice, iAddr_imm, aAddr_ptr, aAddr_iptr, inRange_int, bound_none, bound_int, mayGrow, fillParts, lenOf, lenSl, evSlice, topOf, evAppend, elemsOf, grown, rowF_eq, rowQ_eq, Option.map_some, Option.map_none, Option.bind_some, Option.bind_none, Option.isSome_some, Option.isSome_none, List.map_cons, List.map_nil, List.length_cons, List.length_nil, List.append_nil, List.nil_append, List.cons_append, List.all_cons, List.all_nil, cell_str, cell_int, cell_bool, cell_ptr, cell_iptr, cell_nilptr, cell_nilslice, cell_slice, cell_imm, cell_func, cell_nilfunc, Bool.and_true, Bool.true_and, Bool.and_false, Bool.false_and, Bool.or_true, Bool.true_or, Bool.or_false, Bool.false_or, Bool.not_true, Bool.not_false, Bool.false_eq_true, Bool.true_eq_false, and_true, true_and, and_false, false_and, or_true, true_or, or_false, false_or, not_true_eq_false, not_false_eq_true, decide_true, decide_false, decide_eq_true_eq, if_true, if_false, ite_true, ite_false, ↓reduceIte, Nat.reduceAdd, Nat.reduceSub, Nat.reduceMul, Nat.reduceEqDiff, Nat.reduceLeDiff, Nat.reduceLT, Nat.succ_ne_zero, Nat.zero_add, Nat.add_zero, Nat.zero_mul, Nat.mul_one, Nat.one_mul, Nat.le_refl, Nat.sub_zero, Int.reduceLT, Int.reduceLE, Int.reduceEq, Int.reduceNe, Int.reduceToNat, Int.reduceAdd, Int.reduceSub, Int.toNat_zero, reduceCtorEq, eq_self, ne_eq, beq_self_eq_true, Nat.reduceBEq, Nat.reduceBNe, List.mem_cons, List.not_mem_nil, false_implies, true_implies, implies_true, forall_const, List.drop_zero, List.drop_nil, List.take_zero, List.drop_length, List.length_append, cast_zero, cast_one, Int.cast_ofNat_Int, List.replicate_zero, List.replicate_succ, List.flatten_cons, List.flatten_nil, wrap_one, loopR_exit, loopR_ret, g7]
    refine o_fin hi hn es (by omega) hinc [some 0, some 1] rfl (σ1 := [some (tourC (lastE [] es) (.slice 1 0 es.length none 2)), some (spc [] es)]) ?_ (.inr ⟨hpos, rfl⟩) rfl g0 g3 g5 g6 (by rw [← hw]; rfl)
    refine ⟨⟨_, rfl, ?_⟩, ⟨_, rfl, wvs_flat spc_flat⟩, trivial⟩
    simp [wvs, wv]
theorem f_nil (nexts : List (List UInt8)) (n : Nat) (e : Env) (i : Nat) (hi : i = nexts.length)
    (h0 : e 0 = .imm (nexts.map fun s => [.str s]) false false) (h3 : e 3 = .ptr 0 0) (h5 : e 5 = .str []) (h6 : e 6 = .int .i64 0) (h7 : e 7 = .int .i64 (i : Int)) :
    sC C2 0 b7_72 (unw C2 0 (loopR C2 0 R0 k0 (oI nexts) n) .fin) e [some (tourC [] .nilslice)] := by
  have hlt : ¬ (i : Int) < (nexts.length : Int) := by omega
  simp only [C2_app, C1_app, D0_app, y7, x7_0, r7_0, x7_1, r7_1, x7_2, r7_2, x7_3, x7_4, x7_5, x7_6, r7_6, x7_7, r7_7, x7_8, x7_9, x7_10, x7_11, r7_11, x7_12, r7_12, x7_13, r7_13, x7_14, x7_15, x7_16, x7_17, r7_17, x7_18, r7_18, x7_19, r7_19, x7_20, x7_21, x7_22, r7_22, x7_23, r7_23, x7_24, x7_25, x7_26, x7_27, r7_27, x7_28, r7_28, x7_29, r7_29, x7_30, x7_31, x7_32, x7_33, r7_33, x7_34, r7_34, x7_35, r7_35, x7_36, x7_37, x7_38, x7_39, r7_39, x7_40, r7_40, x7_41, r7_41, x7_42, r7_42, x7_43, x7_44, x7_45, x7_46, r7_46, x7_47, r7_47, x7_48, x7_49, x7_50, t7_50, x7_51, r7_51, x7_52, x7_53, x7_54, x7_55, x7_56, r7_56, x7_57, x7_58, x7_60, x7_61, x7_62, x7_63, x7_64, x7_65, x7_66, x7_67, x7_68, x7_69, x7_70, r7_70, x7_71, x7_72, x7_74, x7_75, x7_76, r7_76, x7_77, r7_77, x7_78, r7_78, x7_79, x7_80, x7_81, x7_82, x7_83, x7_84, x7_85, x7_86, x7_87, x7_88, y12, x12_0, r12_0, x12_1, r12_1, x12_2, r12_2, x12_3, x12_4, x12_5, x12_6, t12_6, x12_7, x12_8, x12_9, y13, x13_0, r13_0, x13_1, r13_1, x13_2, x13_3, y14, x14_0, r14_0, x14_1, r14_1, x14_2, r14_2, x14_3, x14_4, r14_4, x14_5, r14_5, x14_6, x14_7, r14_7, x14_8, r14_8, x14_9, x14_10, t14_10, x14_11, t14_11, x14_12, x14_13, x14_14, r14_14, x14_15, x14_16, x14_17, x14_18, x14_19, x14_20, x14_21, x14_22, x14_23, x14_24, x14_25, t14_25, x14_26, t14_26, x14_27, t14_27, x14_28, r14_28, x14_29, x14_30, x14_31, x14_32, x14_33, x14_34, y15, x15_0, r15_0, x15_1, r15_1, x15_2, r15_2, x15_3, x15_4, x15_5, x15_6, r15_6, x15_7, x15_8, x15_9, y16, x16_0, r16_0, x16_1, r16_1, x16_2, r16_2, x16_3, x16_4, x16_5, x16_6, r16_6, x16_7, x16_8, x16_9, y31, x31_0, r31_0, x31_1, r31_1, x31_2, r31_2, x31_3, x31_4, x31_5, x31_6, r31_6, x31_7, x31_8, x31_9, y32, x32_0, r32_0, x32_1, r32_1, x32_2, r32_2, x32_3, x32_4, x32_5, x32_6, r32_6, x32_7, x32_8, x32_9, sC_skip, sC_exit, sC_ret, condK_true, condK_false, unw_seq_normal, unw_seq_exit, unw_seq_ret, unw_block_normal, unw_block_exit, unw_block_ret, unw_lp_exit, unw_lp_ret, unw_fin, retQ_ret, retQ_normal, retQ_exit, nxt_app, nxtQ_app, nxtL_app, guardK_tt, guardK_ff, guardK_tf, guardK_ft, guardK_u, guardQ_tt, guardQ_ff, guardQ_tf, guardQ_ft, guardQ_u, guardL_tt, guardL_ff, guardL_tf, guardL_ft, guardL_u, sOps_nil, sOps_cons, sOps_guard, sTree_leaf, sTree_stop, sTree_quiet, sTree_loud, sTree_quietG, sTree_loudG, goO_some, goO_none, sOp_call, callvP_func, sOp_callv, putD_some, putD_none, still_nil, still_none, still_cons, sOp_move, sOp_nilCheck, sOp_pick, sOp_alloc, sOp_box, sOp_build, sOp_buildSlice, sOp_load1, sOp_loadN, sOp_store, sOp_bin, sOp_un, sOp_convInt, sOp_convSame, sOp_resame, sOp_toBytes, sOp_ofBytes, sOp_mkfunc, sOp_makeSlice, sOp_sliceStr, sOp_slice, sOp_sliceArr, sOp_fieldAddr, sOp_field1, sOp_fieldN, sOp_indexAddr, sOp_indexArrAddr, sOp_indexStr, sOp_indexArr1, sOp_indexArrN, sOp_extract, sOp_lenStr, sOp_lenSl, sOp_lenArr, sOp_append, sOp_copy, sOp_minmax, sOp_capOf, ev_t, ev_c, argEnv_nil, argEnv_cons, envL_nil, envL_cons, abin_add, abin_sub, abin_mul, abin_quo, abin_rem, abin_eql, abin_neq, abin_lss, abin_leq, abin_gtr, abin_geq, abin_shl, abin_shr, abin_sadd, abin_seql, abin_sneq, abin_slss, abin_sleq, abin_sgtr, abin_sgeq, abin_beql, abin_bneq, abin_p1, abin_p2, abin_p3, abin_p4, abin_p5, abin_p6, abin_s3, abin_s4, abin_s5, abin_s6, abin_f1, abin_f2, abin_f3, abin_f4, abin_feq, abin_fne, cellsEq_nil, cellsEq_s, cellsEq_i, cellsEq_b, aun_not, aun_neg, hget_nil, hget_cons, hset_cons, hkill_cons, hpush_nil, hpush_cons, idx_nil, idx_cons, sub_cons, take_cons, take_nil', put_cons, drop_cons, cells_agg, cells_str, cells_int, cells_bool, cells_ptr, cells_nilptr, cells_nilslice, cells_slice, cells_imm, cells_func, resVals_nil, resVals_t, retOf_one, retOf_two, retOf_nil, evOp, isRead, fixOp, ldCell, ldCells, fAddr, iAddr_slice, iAddr_imm, aAddr_ptr, aAddr_iptr, inRange_int, bound_none, bound_int, mayGrow, fillParts, lenOf, lenSl, evSlice, topOf, evAppend, elemsOf, grown, rowF_eq, rowQ_eq, Option.map_some, Option.map_none, Option.bind_some, Option.bind_none, Option.isSome_some, Option.isSome_none, List.map_cons, List.map_nil, List.length_cons, List.length_nil, List.append_nil, List.nil_append, List.cons_append, List.all_cons, List.all_nil, cell_str, cell_int, cell_bool, cell_ptr, cell_iptr, cell_nilptr, cell_nilslice, cell_slice, cell_imm, cell_func, cell_nilfunc, Bool.and_true, Bool.true_and, Bool.and_false, Bool.false_and, Bool.or_true, Bool.true_or, Bool.or_false, Bool.false_or, Bool.not_true, Bool.not_false, Bool.false_eq_true, Bool.true_eq_false, and_true, true_and, and_false, false_and, or_true, true_or, or_false, false_or, not_true_eq_false, not_false_eq_true, decide_true, decide_false, decide_eq_true_eq, if_true, if_false, ite_true, ite_false, ↓reduceIte, Nat.reduceAdd, Nat.reduceSub, Nat.reduceMul, Nat.reduceEqDiff, Nat.reduceLeDiff, Nat.reduceLT, Nat.succ_ne_zero, Nat.zero_add, Nat.add_zero, Nat.zero_mul, Nat.mul_one, Nat.one_mul, Nat.le_refl, Nat.sub_zero, Int.reduceLT, Int.reduceLE, Int.reduceEq, Int.reduceNe, Int.reduceToNat, Int.reduceAdd, Int.reduceSub, Int.toNat_zero, reduceCtorEq, eq_self, ne_eq, beq_self_eq_true, Nat.reduceBEq, Nat.reduceBNe, List.mem_cons, List.not_mem_nil, false_implies, true_implies, implies_true, forall_const, List.drop_zero, List.drop_nil, List.take_zero, List.drop_length, List.length_append, cast_zero, cast_one, Int.cast_ofNat_Int, List.replicate_zero, List.replicate_succ, List.flatten_cons, List.flatten_nil, wrap_one, loopR_exit, loopR_ret, h0, h3, h5, h6, h7, hlt, List.length_map, Int.toNat_natCast]
  refine ⟨[[]], 5, none, rfl, rfl, by simp, by simp, inc_ch (es := []) trivial, ?_⟩
  simp only [C2_app, C1_app, D0_app, y7, x7_0, r7_0, x7_1, r7_1, x7_2, r7_2, x7_3, x7_4, x7_5, x7_6, r7_6, x7_7, r7_7, x7_8, x7_9, x7_10, x7_11, r7_11, x7_12, r7_12, x7_13, r7_13, x7_14, x7_15, x7_16, x7_17, r7_17, x7_18, r7_18, x7_19, r7_19, x7_20, x7_21, x7_22, r7_22, x7_23, r7_23, x7_24, x7_25, x7_26, x7_27, r7_27, x7_28, r7_28, x7_29, r7_29, x7_30, x7_31, x7_32, x7_33, r7_33, x7_34, r7_34, x7_35, r7_35, x7_36, x7_37, x7_38, x7_39, r7_39, x7_40, r7_40, x7_41, r7_41, x7_42, r7_42, x7_43, x7_44, x7_45, x7_46, r7_46, x7_47, r7_47, x7_48, x7_49, x7_50, t7_50, x7_51, r7_51, x7_52, x7_53, x7_54, x7_55, x7_56, r7_56, x7_57, x7_58, x7_60, x7_61, x7_62, x7_63, x7_64, x7_65, x7_66, x7_67, x7_68, x7_69, x7_70, r7_70, x7_71, x7_72, x7_74, x7_75, x7_76, r7_76, x7_77, r7_77, x7_78, r7_78, x7_79, x7_80, x7_81, x7_82, x7_83, x7_84, x7_85, x7_86, x7_87, x7_88, y12, x12_0, r12_0, x12_1, r12_1, x12_2, r12_2, x12_3, x12_4, x12_5, x12_6, t12_6, x12_7, x12_8, x12_9, y13, x13_0, r13_0, x13_1, r13_1, x13_2, x13_3, y14, x14_0, r14_0, x14_1, r14_1, x14_2, r14_2, x14_3, x14_4, r14_4, x14_5, r14_5, x14_6, x14_7, r14_7, x14_8, r14_8, x14_9, x14_10, t14_10, x14_11, t14_11, x14_12, x14_13, x14_14, r14_14, x14_15, x14_16, x14_17, x14_18, x14_19, x14_20, x14_21, x14_22, x14_23, x14_24, x14_25, t14_25, x14_26, t14_26, x14_27, t14_27, x14_28, r14_28, x14_29, x14_30, x14_31, x14_32, x14_33, x14_34, y15, x15_0, r15_0, x15_1, r15_1, x15_2, r15_2, x15_3, x15_4, x15_5, x15_6, r15_6, x15_7, x15_8, x15_9, y16, x16_0, r16_0, x16_1, r16_1, x16_2, r16_2, x16_3, x16_4, x16_5, x16_6, r16_6, x16_7, x16_8, x16_9, y31, x31_0, r31_0, x31_1, r31_1, x31_2, r31_2, x31_3, x31_4, x31_5, x31_6, r31_6, x31_7, x31_8, x31_9, y32, x32_0, r32_0, x32_1, r32_1, x32_2, r32_2, x32_3, x32_4, x32_5, x32_6, r32_6, x32_7, x32_8, x32_9, sC_skip, sC_exit, sC_ret, condK_true, condK_false, unw_seq_normal, unw_seq_exit, unw_seq_ret, unw_block_normal, unw_block_exit, unw_block_ret, unw_lp_exit, unw_lp_ret, unw_fin, retQ_ret, retQ_normal, retQ_exit, nxt_app, nxtQ_app, nxtL_app, guardK_tt, guardK_ff, guardK_tf, guardK_ft, guardK_u, guardQ_tt, guardQ_ff, guardQ_tf, guardQ_ft, guardQ_u, guardL_tt, guardL_ff, guardL_tf, guardL_ft, guardL_u, sOps_nil, sOps_cons, sOps_guard, sTree_leaf, sTree_stop, sTree_quiet, sTree_loud, sTree_quietG, sTree_loudG, goO_some, goO_none, sOp_call, callvP_func, sOp_callv, putD_some, putD_none, still_nil, still_none, still_cons, sOp_move, sOp_nilCheck, sOp_pick, sOp_alloc, sOp_box, sOp_build, sOp_buildSlice, sOp_load1, sOp_loadN, sOp_store, sOp_bin, sOp_un, sOp_convInt, sOp_convSame, sOp_resame, sOp_toBytes, sOp_ofBytes, sOp_mkfunc, sOp_makeSlice, sOp_sliceStr, sOp_slice, sOp_sliceArr, sOp_fieldAddr, sOp_field1, sOp_fieldN, sOp_indexAddr, sOp_indexArrAddr, sOp_indexStr, sOp_indexArr1, sOp_indexArrN, sOp_extract, sOp_lenStr, sOp_lenSl, sOp_lenArr, sOp_append, sOp_copy, sOp_minmax, sOp_capOf, ev_t, ev_c, argEnv_nil, argEnv_cons, envL_nil, envL_cons, abin_add, abin_sub, abin_mul, abin_quo, abin_rem, abin_eql, abin_neq, abin_lss, abin_leq, abin_gtr, abin_geq, abin_shl, abin_shr, abin_sadd, abin_seql, abin_sneq, abin_slss, abin_sleq, abin_sgtr, abin_sgeq, abin_beql, abin_bneq, abin_p1, abin_p2, abin_p3, abin_p4, abin_p5, abin_p6, abin_s3, abin_s4, abin_s5, abin_s6, abin_f1, abin_f2, abin_f3, abin_f4, abin_feq, abin_fne, cellsEq_nil, cellsEq_s, cellsEq_i, cellsEq_b, aun_not, aun_neg, hget_nil, hget_cons, hset_cons, hkill_cons, hpush_nil, hpush_cons, idx_nil, idx_cons, sub_cons, take_cons, take_nil', put_cons, drop_cons, cells_agg, cells_str, cells_int, cells_bool, cells_ptr, cells_nilptr, cells_nilslice, cells_slice, cells_imm, cells_func, resVals_nil, resVals_t, retOf_one, retOf_two, retOf_nil, evOp, isRead, fixOp, ldCell, ldCells, fAddr, iAddr_slice, iAddr_imm, aAddr_ptr, aAddr_iptr, inRange_int, bound_none, bound_int, mayGrow, fillParts, lenOf, lenSl, evSlice, topOf, evAppend, elemsOf, grown, rowF_eq, rowQ_eq, Option.map_some, Option.map_none, Option.bind_some, Option.bind_none, Option.isSome_some, Option.isSome_none, List.map_cons, List.map_nil, List.length_cons, List.length_nil, List.append_nil, List.nil_append, List.cons_append, List.all_cons, List.all_nil, cell_str, cell_int, cell_bool, cell_ptr, cell_iptr, cell_nilptr, cell_nilslice, cell_slice, cell_imm, cell_func, cell_nilfunc, Bool.and_true, Bool.true_and, Bool.and_false, Bool.false_and, Bool.or_true, Bool.true_or, Bool.or_false, Bool.false_or, Bool.not_true, Bool.not_false, Bool.false_eq_true, Bool.true_eq_false, and_true, true_and, and_false, false_and, or_true, true_or, or_false, false_or, not_true_eq_false, not_false_eq_true, decide_true, decide_false, decide_eq_true_eq, if_true, if_false, ite_true, ite_false, ↓reduceIte, Nat.reduceAdd, Nat.reduceSub, Nat.reduceMul, Nat.reduceEqDiff, Nat.reduceLeDiff, Nat.reduceLT, Nat.succ_ne_zero, Nat.zero_add, Nat.add_zero, Nat.zero_mul, Nat.mul_one, Nat.one_mul, Nat.le_refl, Nat.sub_zero, Int.reduceLT, Int.reduceLE, Int.reduceEq, Int.reduceNe, Int.reduceToNat, Int.reduceAdd, Int.reduceSub, Int.toNat_zero, reduceCtorEq, eq_self, ne_eq, beq_self_eq_true, Nat.reduceBEq, Nat.reduceBNe, List.mem_cons, List.not_mem_nil, false_implies, true_implies, implies_true, forall_const, List.drop_zero, List.drop_nil, List.take_zero, List.drop_length, List.length_append, cast_zero, cast_one, Int.cast_ofNat_Int, List.replicate_zero, List.replicate_succ, List.flatten_cons, List.flatten_nil, wrap_one, loopR_exit, loopR_ret, h0, h3, h5, h6, h7, hlt]
  trivial
theorem f_cons (nexts : List (List UInt8)) (h40 : nexts.length ≤ 40) (n : Nat) (e : Env) (i : Nat) (hi : i = nexts.length) (es : List (List UInt8)) (hpos : 0 < es.length) (hes : es.length ≤ i) (hinc : Inc [] es)
    (h0 : e 0 = .imm (nexts.map fun s => [.str s]) false false) (h3 : e 3 = .ptr 0 0) (h5 : e 5 = .str (lastE [] es)) (h6 : e 6 = .int .i64 (es.length : Int)) (h7 : e 7 = .int .i64 (i : Int)) :
    sC C2 0 b7_72 (unw C2 0 (loopR C2 0 R0 k0 (oI nexts) n) .fin) e [some (tourC (lastE [] es) (.slice 1 0 es.length none 2)), some (spc [] es)] := by
  have hlt : ¬ (i : Int) < (nexts.length : Int) := by omega
  have hwm : IntKind.wrap .i64 ((es.length : Int) + 1) = ((es.length + 1 : Nat) : Int) := by rw [Gz.wrap64 (by omega)]; omega
  have hsub := spc_sub (p := []) (es := es) (n := es.length * 2) rfl
  have hg1 : (2 * (es.length + 1) + 768) * 32 ≤ 281474976710656 := by omega
  have hg2 : (2 * (0 + (es.length + 1)) + 768) * 32 ≤ 281474976710656 := by omega
  have hz : 0 < es.length + 1 := by omega
  have hz' : ¬ es.length + 1 = 0 := by omega
  have hsub2 := spc_sub (p := []) (es := es ++ [[]]) (n := (es.length + 1) * 2) (by simp)
  have hc2 := spc_cell (p := []) (es := es ++ [[]])
  rw [spc_snoc] at hsub2 hc2
  simp only [C2_app, C1_app, D0_app, y7, x7_0, r7_0, x7_1, r7_1, x7_2, r7_2, x7_3, x7_4, x7_5, x7_6, r7_6, x7_7, r7_7, x7_8, x7_9, x7_10, x7_11, r7_11, x7_12, r7_12, x7_13, r7_13, x7_14, x7_15, x7_16, x7_17, r7_17, x7_18, r7_18, x7_19, r7_19, x7_20, x7_21, x7_22, r7_22, x7_23, r7_23, x7_24, x7_25, x7_26, x7_27, r7_27, x7_28, r7_28, x7_29, r7_29, x7_30, x7_31, x7_32, x7_33, r7_33, x7_34, r7_34, x7_35, r7_35, x7_36, x7_37, x7_38, x7_39, r7_39, x7_40, r7_40, x7_41, r7_41, x7_42, r7_42, x7_43, x7_44, x7_45, x7_46, r7_46, x7_47, r7_47, x7_48, x7_49, x7_50, t7_50, x7_51, r7_51, x7_52, x7_53, x7_54, x7_55, x7_56, r7_56, x7_57, x7_58, x7_60, x7_61, x7_62, x7_63, x7_64, x7_65, x7_66, x7_67, x7_68, x7_69, x7_70, r7_70, x7_71, x7_72, x7_74, x7_75, x7_76, r7_76, x7_77, r7_77, x7_78, r7_78, x7_79, x7_80, x7_81, x7_82, x7_83, x7_84, x7_85, x7_86, x7_87, x7_88, y12, x12_0, r12_0, x12_1, r12_1, x12_2, r12_2, x12_3, x12_4, x12_5, x12_6, t12_6, x12_7, x12_8, x12_9, y13, x13_0, r13_0, x13_1, r13_1, x13_2, x13_3, y14, x14_0, r14_0, x14_1, r14_1, x14_2, r14_2, x14_3, x14_4, r14_4, x14_5, r14_5, x14_6, x14_7, r14_7, x14_8, r14_8, x14_9, x14_10, t14_10, x14_11, t14_11, x14_12, x14_13, x14_14, r14_14, x14_15, x14_16, x14_17, x14_18, x14_19, x14_20, x14_21, x14_22, x14_23, x14_24, x14_25, t14_25, x14_26, t14_26, x14_27, t14_27, x14_28, r14_28, x14_29, x14_30, x14_31, x14_32, x14_33, x14_34, y15, x15_0, r15_0, x15_1, r15_1, x15_2, r15_2, x15_3, x15_4, x15_5, x15_6, r15_6, x15_7, x15_8, x15_9, y16, x16_0, r16_0, x16_1, r16_1, x16_2, r16_2, x16_3, x16_4, x16_5, x16_6, r16_6, x16_7, x16_8, x16_9, y31, x31_0, r31_0, x31_1, r31_1, x31_2, r31_2, x31_3, x31_4, x31_5, x31_6, r31_6, x31_7, x31_8, x31_9, y32, x32_0, r32_0, x32_1, r32_1, x32_2, r32_2, x32_3, x32_4, x32_5, x32_6, r32_6, x32_7, x32_8, x32_9, sC_skip, sC_exit, sC_ret, condK_true, condK_false, unw_seq_normal, unw_seq_exit, unw_seq_ret, unw_block_normal, unw_block_exit, unw_block_ret, unw_lp_exit, unw_lp_ret, unw_fin, retQ_ret, retQ_normal, retQ_exit, nxt_app, nxtQ_app, nxtL_app, guardK_tt, guardK_ff, guardK_tf, guardK_ft, guardK_u, guardQ_tt, guardQ_ff, guardQ_tf, guardQ_ft, guardQ_u, guardL_tt, guardL_ff, guardL_tf, guardL_ft, guardL_u, sOps_nil, sOps_cons, sOps_guard, sTree_leaf, sTree_stop, sTree_quiet, sTree_loud, sTree_quietG, sTree_loudG, goO_some, goO_none, sOp_call, callvP_func, sOp_callv, putD_some, putD_none, still_nil, still_none, still_cons, sOp_move, sOp_nilCheck, sOp_pick, sOp_alloc, sOp_box, sOp_build, sOp_buildSlice, sOp_load1, sOp_loadN, sOp_store, sOp_bin, sOp_un, sOp_convInt, sOp_convSame, sOp_resame, sOp_toBytes, sOp_ofBytes, sOp_mkfunc, sOp_makeSlice, sOp_sliceStr, sOp_slice, sOp_sliceArr, sOp_fieldAddr, sOp_field1, sOp_fieldN, sOp_indexAddr, sOp_indexArrAddr, sOp_indexStr, sOp_indexArr1, sOp_indexArrN, sOp_extract, sOp_lenStr, sOp_lenSl, sOp_lenArr, sOp_append, sOp_copy, sOp_minmax, sOp_capOf, ev_t, ev_c, argEnv_nil, argEnv_cons, envL_nil, envL_cons, abin_add, abin_sub, abin_mul, abin_quo, abin_rem, abin_eql, abin_neq, abin_lss, abin_leq, abin_gtr, abin_geq, abin_shl, abin_shr, abin_sadd, abin_seql, abin_sneq, abin_slss, abin_sleq, abin_sgtr, abin_sgeq, abin_beql, abin_bneq, abin_p1, abin_p2, abin_p3, abin_p4, abin_p5, abin_p6, abin_s3, abin_s4, abin_s5, abin_s6, abin_f1, abin_f2, abin_f3, abin_f4, abin_feq, abin_fne, cellsEq_nil, cellsEq_s, cellsEq_i, cellsEq_b, aun_not, aun_neg, hget_nil, hget_cons, hset_cons, hkill_cons, hpush_nil, hpush_cons, idx_nil, idx_cons, sub_cons, take_cons, take_nil', put_cons, drop_cons, cells_agg, cells_str, cells_int, cells_bool, cells_ptr, cells_nilptr, cells_nilslice, cells_slice, cells_imm, cells_func, resVals_nil, resVals_t, retOf_one, retOf_two, retOf_nil, evOp, isRead, fixOp, ldCell, ldCells, fAddr, iAddr_slice, iAddr_imm, aAddr_ptr, aAddr_iptr, inRange_int, bound_none, bound_int, mayGrow, fillParts, lenOf, lenSl, evSlice, topOf, evAppend, elemsOf, grown, rowF_eq, rowQ_eq, Option.map_some, Option.map_none, Option.bind_some, Option.bind_none, Option.isSome_some, Option.isSome_none, List.map_cons, List.map_nil, List.length_cons, List.length_nil, List.append_nil, List.nil_append, List.cons_append, List.all_cons, List.all_nil, cell_str, cell_int, cell_bool, cell_ptr, cell_iptr, cell_nilptr, cell_nilslice, cell_slice, cell_imm, cell_func, cell_nilfunc, Bool.and_true, Bool.true_and, Bool.and_false, Bool.false_and, Bool.or_true, Bool.true_or, Bool.or_false, Bool.false_or, Bool.not_true, Bool.not_false, Bool.false_eq_true, Bool.true_eq_false, and_true, true_and, and_false, false_and, or_true, true_or, or_false, false_or, not_true_eq_false, not_false_eq_true, decide_true, decide_false, decide_eq_true_eq, if_true, if_false, ite_true, ite_false, ↓reduceIte, Nat.reduceAdd, Nat.reduceSub, Nat.reduceMul, Nat.reduceEqDiff, Nat.reduceLeDiff, Nat.reduceLT, Nat.succ_ne_zero, Nat.zero_add, Nat.add_zero, Nat.zero_mul, Nat.mul_one, Nat.one_mul, Nat.le_refl, Nat.sub_zero, Int.reduceLT, Int.reduceLE, Int.reduceEq, Int.reduceNe, Int.reduceToNat, Int.reduceAdd, Int.reduceSub, Int.toNat_zero, reduceCtorEq, eq_self, ne_eq, beq_self_eq_true, Nat.reduceBEq, Nat.reduceBNe, List.mem_cons, List.not_mem_nil, false_implies, true_implies, implies_true, forall_const, List.drop_zero, List.drop_nil, List.take_zero, List.drop_length, List.length_append, cast_zero, cast_one, Int.cast_ofNat_Int, List.replicate_zero, List.replicate_succ, List.flatten_cons, List.flatten_nil, wrap_one, loopR_exit, loopR_ret, h0, h3, h5, h6, h7, hlt, hsub, hsub2, hc2, hg1, hg2, hz, hz', hwm, List.length_map, Int.toNat_natCast]
  refine ⟨es ++ [[]], 6, none, by simp only [List.length_append, List.length_cons, List.length_nil], by rw [spc_snoc]; rfl, by simp, by simp; omega, inc_ch hinc, ?_⟩
  simp only [C2_app, C1_app, D0_app, y7, x7_0, r7_0, x7_1, r7_1, x7_2, r7_2, x7_3, x7_4, x7_5, x7_6, r7_6, x7_7, r7_7, x7_8, x7_9, x7_10, x7_11, r7_11, x7_12, r7_12, x7_13, r7_13, x7_14, x7_15, x7_16, x7_17, r7_17, x7_18, r7_18, x7_19, r7_19, x7_20, x7_21, x7_22, r7_22, x7_23, r7_23, x7_24, x7_25, x7_26, x7_27, r7_27, x7_28, r7_28, x7_29, r7_29, x7_30, x7_31, x7_32, x7_33, r7_33, x7_34, r7_34, x7_35, r7_35, x7_36, x7_37, x7_38, x7_39, r7_39, x7_40, r7_40, x7_41, r7_41, x7_42, r7_42, x7_43, x7_44, x7_45, x7_46, r7_46, x7_47, r7_47, x7_48, x7_49, x7_50, t7_50, x7_51, r7_51, x7_52, x7_53, x7_54, x7_55, x7_56, r7_56, x7_57, x7_58, x7_60, x7_61, x7_62, x7_63, x7_64, x7_65, x7_66, x7_67, x7_68, x7_69, x7_70, r7_70, x7_71, x7_72, x7_74, x7_75, x7_76, r7_76, x7_77, r7_77, x7_78, r7_78, x7_79, x7_80, x7_81, x7_82, x7_83, x7_84, x7_85, x7_86, x7_87, x7_88, y12, x12_0, r12_0, x12_1, r12_1, x12_2, r12_2, x12_3, x12_4, x12_5, x12_6, t12_6, x12_7, x12_8, x12_9, y13, x13_0, r13_0, x13_1, r13_1, x13_2, x13_3, y14, x14_0, r14_0, x14_1, r14_1, x14_2, r14_2, x14_3, x14_4, r14_4, x14_5, r14_5, x14_6, x14_7, r14_7, x14_8, r14_8, x14_9, x14_10, t14_10, x14_11, t14_11, x14_12, x14_13, x14_14, r14_14, x14_15, x14_16, x14_17, x14_18, x14_19, x14_20, x14_21, x14_22, x14_23, x14_24, x14_25, t14_25, x14_26, t14_26, x14_27, t14_27, x14_28, r14_28, x14_29, x14_30, x14_31, x14_32, x14_33, x14_34, y15, x15_0, r15_0, x15_1, r15_1, x15_2, r15_2, x15_3, x15_4, x15_5, x15_6, r15_6, x15_7, x15_8, x15_9, y16, x16_0, r16_0, x16_1, r16_1, x16_2, r16_2, x16_3, x16_4, x16_5, x16_6, r16_6, x16_7, x16_8, x16_9, y31, x31_0, r31_0, x31_1, r31_1, x31_2, r31_2, x31_3, x31_4, x31_5, x31_6, r31_6, x31_7, x31_8, x31_9, y32, x32_0, r32_0, x32_1, r32_1, x32_2, r32_2, x32_3, x32_4, x32_5, x32_6, r32_6, x32_7, x32_8, x32_9, sC_skip, sC_exit, sC_ret, condK_true, condK_false, unw_seq_normal, unw_seq_exit, unw_seq_ret, unw_block_normal, unw_block_exit, unw_block_ret, unw_lp_exit, unw_lp_ret, unw_fin, retQ_ret, retQ_normal, retQ_exit, nxt_app, nxtQ_app, nxtL_app, guardK_tt, guardK_ff, guardK_tf, guardK_ft, guardK_u, guardQ_tt, guardQ_ff, guardQ_tf, guardQ_ft, guardQ_u, guardL_tt, guardL_ff, guardL_tf, guardL_ft, guardL_u, sOps_nil, sOps_cons, sOps_guard, sTree_leaf, sTree_stop, sTree_quiet, sTree_loud, sTree_quietG, sTree_loudG, goO_some, goO_none, sOp_call, callvP_func, sOp_callv, putD_some, putD_none, still_nil, still_none, still_cons, sOp_move, sOp_nilCheck, sOp_pick, sOp_alloc, sOp_box, sOp_build, sOp_buildSlice, sOp_load1, sOp_loadN, sOp_store, sOp_bin, sOp_un, sOp_convInt, sOp_convSame, sOp_resame, sOp_toBytes, sOp_ofBytes, sOp_mkfunc, sOp_makeSlice, sOp_sliceStr, sOp_slice, sOp_sliceArr, sOp_fieldAddr, sOp_field1, sOp_fieldN, sOp_indexAddr, sOp_indexArrAddr, sOp_indexStr, sOp_indexArr1, sOp_indexArrN, sOp_extract, sOp_lenStr, sOp_lenSl, sOp_lenArr, sOp_append, sOp_copy, sOp_minmax, sOp_capOf, ev_t, ev_c, argEnv_nil, argEnv_cons, envL_nil, envL_cons, abin_add, abin_sub, abin_mul, abin_quo, abin_rem, abin_eql, abin_neq, abin_lss, abin_leq, abin_gtr, abin_geq, abin_shl, abin_shr, abin_sadd, abin_seql, abin_sneq, abin_slss, abin_sleq, abin_sgtr, abin_sgeq, abin_beql, abin_bneq, abin_p1, abin_p2, abin_p3, abin_p4, abin_p5, abin_p6, abin_s3, abin_s4, abin_s5, abin_s6, abin_f1, abin_f2, abin_f3, abin_f4, abin_feq, abin_fne, cellsEq_nil, cellsEq_s, cellsEq_i, cellsEq_b, aun_not, aun_neg, hget_nil, hget_cons, hset_cons, hkill_cons, hpush_nil, hpush_cons, idx_nil, idx_cons, sub_cons, take_cons, take_nil', put_cons, drop_cons, cells_agg, cells_str, cells_int, cells_bool, cells_ptr, cells_nilptr, cells_nilslice, cells_slice, cells_imm, cells_func, resVals_nil, resVals_t, retOf_one, retOf_two, retOf_nil, evOp, isRead, fixOp, ldCell, ldCells, fAddr, iAddr_slice, iAddr_imm, aAddr_ptr, aAddr_iptr, inRange_int, bound_none, bound_int, mayGrow, fillParts, lenOf, lenSl, evSlice, topOf, evAppend, elemsOf, grown, rowF_eq, rowQ_eq, Option.map_some, Option.map_none, Option.bind_some, Option.bind_none, Option.isSome_some, Option.isSome_none, List.map_cons, List.map_nil, List.length_cons, List.length_nil, List.append_nil, List.nil_append, List.cons_append, List.all_cons, List.all_nil, cell_str, cell_int, cell_bool, cell_ptr, cell_iptr, cell_nilptr, cell_nilslice, cell_slice, cell_imm, cell_func, cell_nilfunc, Bool.and_true, Bool.true_and, Bool.and_false, Bool.false_and, Bool.or_true, Bool.true_or, Bool.or_false, Bool.false_or, Bool.not_true, Bool.not_false, Bool.false_eq_true, Bool.true_eq_false, and_true, true_and, and_false, false_and, or_true, true_or, or_false, false_or, not_true_eq_false, not_false_eq_true, decide_true, decide_false, decide_eq_true_eq, if_true, if_false, ite_true, ite_false, ↓reduceIte, Nat.reduceAdd, Nat.reduceSub, Nat.reduceMul, Nat.reduceEqDiff, Nat.reduceLeDiff, Nat.reduceLT, Nat.succ_ne_zero, Nat.zero_add, Nat.add_zero, Nat.zero_mul, Nat.mul_one, Nat.one_mul, Nat.le_refl, Nat.sub_zero, Int.reduceLT, Int.reduceLE, Int.reduceEq, Int.reduceNe, Int.reduceToNat, Int.reduceAdd, Int.reduceSub, Int.toNat_zero, reduceCtorEq, eq_self, ne_eq, beq_self_eq_true, Nat.reduceBEq, Nat.reduceBNe, List.mem_cons, List.not_mem_nil, false_implies, true_implies, implies_true, forall_const, List.drop_zero, List.drop_nil, List.take_zero, List.drop_length, List.length_append, cast_zero, cast_one, Int.cast_ofNat_Int, List.replicate_zero, List.replicate_succ, List.flatten_cons, List.flatten_nil, wrap_one, loopR_exit, loopR_ret, h0, h3, h5, h6, h7, hlt, hwm]
  trivial
theorem law (nexts : List (List UInt8)) : sF C2 s7 [.imm (nexts.map fun s => [.str s]) false false] [] Yes := by
  by_cases h : (40 : Int) < (nexts.length : Int)
  · simp only [C2_app, C1_app, D0_app, awakeD_eq, y7, x7_0, r7_0, x7_1, r7_1, x7_2, r7_2, x7_3, x7_4, x7_5, x7_6, r7_6, x7_7, r7_7, x7_8, x7_9, x7_10, x7_11, r7_11, x7_12, r7_12, x7_13, r7_13, x7_14, x7_15, x7_16, x7_17, r7_17, x7_18, r7_18, x7_19, r7_19, x7_20, x7_21, x7_22, r7_22, x7_23, r7_23, x7_24, x7_25, x7_26, x7_27, r7_27, x7_28, r7_28, x7_29, r7_29, x7_30, x7_31, x7_32, x7_33, r7_33, x7_34, r7_34, x7_35, r7_35, x7_36, x7_37, x7_38, x7_39, r7_39, x7_40, r7_40, x7_41, r7_41, x7_42, r7_42, x7_43, x7_44, x7_45, x7_46, r7_46, x7_47, r7_47, x7_48, x7_49, x7_50, t7_50, x7_51, r7_51, x7_52, x7_53, x7_54, x7_55, x7_56, r7_56, x7_57, x7_58, x7_60, x7_61, x7_62, x7_63, x7_64, x7_65, x7_66, x7_67, x7_68, x7_69, x7_70, r7_70, x7_71, x7_72, x7_74, x7_75, x7_76, r7_76, x7_77, r7_77, x7_78, r7_78, x7_79, x7_80, x7_81, x7_82, x7_83, x7_84, x7_85, x7_86, x7_87, x7_88, sC_skip, sC_exit, sC_ret, condK_true, condK_false, unw_seq_normal, unw_seq_exit, unw_seq_ret, unw_block_normal, unw_block_exit, unw_block_ret, unw_lp_exit, unw_lp_ret, unw_fin, retQ_ret, retQ_normal, retQ_exit, nxt_app, nxtQ_app, nxtL_app, guardK_tt, guardK_ff, guardK_tf, guardK_ft, guardK_u, guardQ_tt, guardQ_ff, guardQ_tf, guardQ_ft, guardQ_u, guardL_tt, guardL_ff, guardL_tf, guardL_ft, guardL_u, sOps_nil, sOps_cons, sOps_guard, sTree_leaf, sTree_stop, sTree_quiet, sTree_loud, sTree_quietG, sTree_loudG, goO_some, goO_none, sOp_call, callvP_func, sOp_callv, putD_some, putD_none, still_nil, still_none, still_cons, sOp_move, sOp_nilCheck, sOp_pick, sOp_alloc, sOp_box, sOp_build, sOp_buildSlice, sOp_load1, sOp_loadN, sOp_store, sOp_bin, sOp_un, sOp_convInt, sOp_convSame, sOp_resame, sOp_toBytes, sOp_ofBytes, sOp_mkfunc, sOp_makeSlice, sOp_sliceStr, sOp_slice, sOp_sliceArr, sOp_fieldAddr, sOp_field1, sOp_fieldN, sOp_indexAddr, sOp_indexArrAddr, sOp_indexStr, sOp_indexArr1, sOp_indexArrN, sOp_extract, sOp_lenStr, sOp_lenSl, sOp_lenArr, sOp_append, sOp_copy, sOp_minmax, sOp_capOf, ev_t, ev_c, argEnv_nil, argEnv_cons, envL_nil, envL_cons, abin_add, abin_sub, abin_mul, abin_quo, abin_rem, abin_eql, abin_neq, abin_lss, abin_leq, abin_gtr, abin_geq, abin_shl, abin_shr, abin_sadd, abin_seql, abin_sneq, abin_slss, abin_sleq, abin_sgtr, abin_sgeq, abin_beql, abin_bneq, abin_p1, abin_p2, abin_p3, abin_p4, abin_p5, abin_p6, abin_s3, abin_s4, abin_s5, abin_s6, abin_f1, abin_f2, abin_f3, abin_f4, abin_feq, abin_fne, cellsEq_nil, cellsEq_s, cellsEq_i, cellsEq_b, aun_not, aun_neg, hget_nil, hget_cons, hset_cons, hkill_cons, hpush_nil, hpush_cons, idx_nil, idx_cons, sub_cons, take_cons, take_nil', put_cons, drop_cons, cells_agg, cells_str, cells_int, cells_bool, cells_ptr, cells_nilptr, cells_nilslice, cells_slice, cells_imm, cells_func, resVals_nil, resVals_t, retOf_one, retOf_two, retOf_nil, evOp, isRead, fixOp, ldCell, ldCells, fAddr, iAddr_slice, iAddr_imm, aAddr_ptr, aAddr_iptr, inRange_int, bound_none, bound_int, mayGrow, fillParts, lenOf, lenSl, evSlice, topOf, evAppend, elemsOf, grown, rowF_eq, rowQ_eq, Option.map_some, Option.map_none, Option.bind_some, Option.bind_none, Option.isSome_some, Option.isSome_none, List.map_cons, List.map_nil, List.length_cons, List.length_nil, List.append_nil, List.nil_append, List.cons_append, List.all_cons, List.all_nil, cell_str, cell_int, cell_bool, cell_ptr, cell_iptr, cell_nilptr, cell_nilslice, cell_slice, cell_imm, cell_func, cell_nilfunc, Bool.and_true, Bool.true_and, Bool.and_false, Bool.false_and, Bool.or_true, Bool.true_or, Bool.or_false, Bool.false_or, Bool.not_true, Bool.not_false, Bool.false_eq_true, Bool.true_eq_false, and_true, true_and, and_false, false_and, or_true, true_or, or_false, false_or, not_true_eq_false, not_false_eq_true, decide_true, decide_false, decide_eq_true_eq, if_true, if_false, ite_true, ite_false, ↓reduceIte, Nat.reduceAdd, Nat.reduceSub, Nat.reduceMul, Nat.reduceEqDiff, Nat.reduceLeDiff, Nat.reduceLT, Nat.succ_ne_zero, Nat.zero_add, Nat.add_zero, Nat.zero_mul, Nat.mul_one, Nat.one_mul, Nat.le_refl, Nat.sub_zero, Int.reduceLT, Int.reduceLE, Int.reduceEq, Int.reduceNe, Int.reduceToNat, Int.reduceAdd, Int.reduceSub, Int.toNat_zero, reduceCtorEq, eq_self, ne_eq, beq_self_eq_true, Nat.reduceBEq, Nat.reduceBNe, List.mem_cons, List.not_mem_nil, false_implies, true_implies, implies_true, forall_const, List.drop_zero, List.drop_nil, List.take_zero, List.drop_length, List.length_append, cast_zero, cast_one, Int.cast_ofNat_Int, List.replicate_zero, List.replicate_succ, List.flatten_cons, List.flatten_nil, wrap_one, List.length_map, h]
    trivial
  have h40 : nexts.length ≤ 40 := by omega
  simp only [C2_app, C1_app, D0_app, awakeD_eq, y7, x7_0, r7_0, x7_1, r7_1, x7_2, r7_2, x7_3, x7_4, x7_5, x7_6, r7_6, x7_7, r7_7, x7_8, x7_9, x7_10, x7_11, r7_11, x7_12, r7_12, x7_13, r7_13, x7_14, x7_15, x7_16, x7_17, r7_17, x7_18, r7_18, x7_19, r7_19, x7_20, x7_21, x7_22, r7_22, x7_23, r7_23, x7_24, x7_25, x7_26, x7_27, r7_27, x7_28, r7_28, x7_29, r7_29, x7_30, x7_31, x7_32, x7_33, r7_33, x7_34, r7_34, x7_35, r7_35, x7_36, x7_37, x7_38, x7_39, r7_39, x7_40, r7_40, x7_41, r7_41, x7_42, r7_42, x7_43, x7_44, x7_45, x7_46, r7_46, x7_47, r7_47, x7_48, x7_49, x7_50, t7_50, x7_51, r7_51, x7_52, x7_53, x7_54, x7_55, x7_56, r7_56, x7_57, x7_58, x7_60, x7_61, x7_62, x7_63, x7_64, x7_65, x7_66, x7_67, x7_68, x7_69, x7_70, r7_70, x7_71, x7_72, x7_74, x7_75, x7_76, r7_76, x7_77, r7_77, x7_78, r7_78, x7_79, x7_80, x7_81, x7_82, x7_83, x7_84, x7_85, x7_86, x7_87, x7_88, y11, x11_0, r11_0, x11_1, r11_1, x11_2, r11_2, x11_3, x11_4, r11_4, x11_5, r11_5, x11_6, x11_7, x11_8, x11_9, x11_10, x11_11, x11_12, r11_12, x11_13, r11_13, x11_14, r11_14, x11_15, x11_16, x11_17, x11_18, x11_19, y30, x30_0, r30_0, x30_1, r30_1, x30_2, x30_3, sC_skip, sC_exit, sC_ret, condK_true, condK_false, unw_seq_normal, unw_seq_exit, unw_seq_ret, unw_block_normal, unw_block_exit, unw_block_ret, unw_lp_exit, unw_lp_ret, unw_fin, retQ_ret, retQ_normal, retQ_exit, nxt_app, nxtQ_app, nxtL_app, guardK_tt, guardK_ff, guardK_tf, guardK_ft, guardK_u, guardQ_tt, guardQ_ff, guardQ_tf, guardQ_ft, guardQ_u, guardL_tt, guardL_ff, guardL_tf, guardL_ft, guardL_u, sOps_nil, sOps_cons, sOps_guard, sTree_leaf, sTree_stop, sTree_quiet, sTree_loud, sTree_quietG, sTree_loudG, goO_some, goO_none, sOp_call, callvP_func, sOp_callv, putD_some, putD_none, still_nil, still_none, still_cons, sOp_move, sOp_nilCheck, sOp_pick, sOp_alloc, sOp_box, sOp_build, sOp_buildSlice, sOp_load1, sOp_loadN, sOp_store, sOp_bin, sOp_un, sOp_convInt, sOp_convSame, sOp_resame, sOp_toBytes, sOp_ofBytes, sOp_mkfunc, sOp_makeSlice, sOp_sliceStr, sOp_slice, sOp_sliceArr, sOp_fieldAddr, sOp_field1, sOp_fieldN, sOp_indexAddr, sOp_indexArrAddr, sOp_indexStr, sOp_indexArr1, sOp_indexArrN, sOp_extract, sOp_lenStr, sOp_lenSl, sOp_lenArr, sOp_append, sOp_copy, sOp_minmax, sOp_capOf, ev_t, ev_c, argEnv_nil, argEnv_cons, envL_nil, envL_cons, abin_add, abin_sub, abin_mul, abin_quo, abin_rem, abin_eql, abin_neq, abin_lss, abin_leq, abin_gtr, abin_geq, abin_shl, abin_shr, abin_sadd, abin_seql, abin_sneq, abin_slss, abin_sleq, abin_sgtr, abin_sgeq, abin_beql, abin_bneq, abin_p1, abin_p2, abin_p3, abin_p4, abin_p5, abin_p6, abin_s3, abin_s4, abin_s5, abin_s6, abin_f1, abin_f2, abin_f3, abin_f4, abin_feq, abin_fne, cellsEq_nil, cellsEq_s, cellsEq_i, cellsEq_b, aun_not, aun_neg, hget_nil, hget_cons, hset_cons, hkill_cons, hpush_nil, hpush_cons, idx_nil, idx_cons, sub_cons, take_cons, take_nil', put_cons, drop_cons, cells_agg, cells_str, cells_int, cells_bool, cells_ptr, cells_nilptr, cells_nilslice, cells_slice, cells_imm, cells_func, resVals_nil, resVals_t, retOf_one, retOf_two, retOf_nil, evOp, isRead, fixOp, ldCell, ldCells, fAddr, iAddr_slice, iAddr_imm, aAddr_ptr, aAddr_iptr, inRange_int, bound_none, bound_int, mayGrow, fillParts, lenOf, lenSl, evSlice, topOf, evAppend, elemsOf, grown, rowF_eq, rowQ_eq, Option.map_some, Option.map_none, Option.bind_some, Option.bind_none, Option.isSome_some, Option.isSome_none, List.map_cons, List.map_nil, List.length_cons, List.length_nil, List.append_nil, List.nil_append, List.cons_append, List.all_cons, List.all_nil, cell_str, cell_int, cell_bool, cell_ptr, cell_iptr, cell_nilptr, cell_nilslice, cell_slice, cell_imm, cell_func, cell_nilfunc, Bool.and_true, Bool.true_and, Bool.and_false, Bool.false_and, Bool.or_true, Bool.true_or, Bool.or_false, Bool.false_or, Bool.not_true, Bool.not_false, Bool.false_eq_true, Bool.true_eq_false, and_true, true_and, and_false, false_and, or_true, true_or, or_false, false_or, not_true_eq_false, not_false_eq_true, decide_true, decide_false, decide_eq_true_eq, if_true, if_false, ite_true, ite_false, ↓reduceIte, Nat.reduceAdd, Nat.reduceSub, Nat.reduceMul, Nat.reduceEqDiff, Nat.reduceLeDiff, Nat.reduceLT, Nat.succ_ne_zero, Nat.zero_add, Nat.add_zero, Nat.zero_mul, Nat.mul_one, Nat.one_mul, Nat.le_refl, Nat.sub_zero, Int.reduceLT, Int.reduceLE, Int.reduceEq, Int.reduceNe, Int.reduceToNat, Int.reduceAdd, Int.reduceSub, Int.toNat_zero, reduceCtorEq, eq_self, ne_eq, beq_self_eq_true, Nat.reduceBEq, Nat.reduceBNe, List.mem_cons, List.not_mem_nil, false_implies, true_implies, implies_true, forall_const, List.drop_zero, List.drop_nil, List.take_zero, List.drop_length, List.length_append, cast_zero, cast_one, Int.cast_ofNat_Int, List.replicate_zero, List.replicate_succ, List.flatten_cons, List.flatten_nil, wrap_one, List.length_map, h]
  refine sC_inv (a := b7_72) (oI nexts) nexts.length (envL [(0, .imm (nexts.map fun s => [.str s]) false false), (3, .ptr 0 0), (5, .str []), (6, .int .i64 0), (7, .int .i64 0)]) [some (tourC [] .nilslice)] (.inr (wkS_of [some 0] rfl ?_ ?_)) ⟨0, [], by simp, rfl, by simp, trivial, .inl ⟨rfl, rfl⟩, rfl, rfl, rfl, rfl, rfl⟩ ?_
  · refine ⟨⟨_, rfl, ?_⟩, trivial⟩
    simp [wvs, wv]
  · have hf : flatLL (nexts.map fun s => [AV.str s]) := by
      intro r hr
      obtain ⟨s, _, rfl⟩ := List.mem_map.1 hr
      intro y hy
      simp at hy; subst hy; rfl
    simp [wvE, wv, putD_some, argEnv_cons, hf]
  · rintro n e σ ⟨i, es, hi, hn, hes, hinc, hσ, h0, h3, h5, h6, h7⟩
    rcases Nat.lt_or_ge i nexts.length with hlt | hge
    · obtain ⟨x, hx⟩ := hx_of hlt
      rcases hσ with ⟨rfl, rfl⟩ | ⟨hpos, rfl⟩
      · exact o_nil nexts h40 i e hlt x hx n hn h0 h3 h5 h6 h7
      · exact o_cons nexts h40 i e hlt x hx n hn es hpos hes hinc h0 h3 h5 h6 h7
    · have hie : i = nexts.length := by omega
      rcases hσ with ⟨rfl, rfl⟩ | ⟨hpos, rfl⟩
      · exact f_nil nexts n e i hie h0 h3 h5 h6 h7
      · exact f_cons nexts h40 n e i hie es hpos hes hinc h0 h3 h5 h6 h7
abbrev Inp := List (List UInt8) × Unit
def avs (p : Inp) : List AV := [.imm (p.1.map fun s => [.str s]) false false]
def oks (p : Inp) : Prop := (p.1.length ≤ maxLen ∧ ∀ s ∈ p.1, s.length ≤ maxLen) ∧ True
theorem args : Args Try.prog Try.f7.params.toList avs oks := by
  have hp : Try.f7.params.toList = [22] := by kernel_rfl
  rw [hp]
  exact .cons (arg_slice (e := 9) (by kernel_rfl) (by decide +kernel) (rd_str (by kernel_rfl))) .nil
theorem comes (y : Inp) (hy : oks y) : Tri Try.prog 7 (avs y) [] Yes := Tri.of_s c7 sound2 (law y.1)
theorem own : ownKnob Try.prog.godebug = none := by kernel_rfl
theorem laidOut : laidOutB Try.prog = true := by kernel_rfl
set_option maxRecDepth 100000 in
theorem lifted (os : Os) (started : os.Started) (H : Type) (enc : TypeId × Value → H) :
    ReturnsInHanded {} Try.checked os 7 .any (Rows.tourSpansSpec.pre6 enc Try.prog Try.f7 Rows.tourSpansRow.domain false) (Rows.tourSpansSpec.post enc Try.prog Try.f7 false true false false) := by
  refine returnsInHanded_of_change (C := Try.checked) own started (by kernel_rfl) Try.func7
    (ChangeSpec.witness6 (enc := enc) (C := Try.checked) false ⟨#[], #[.slice none 0 0], []⟩ 8 (by kernel_rfl) (by kernel_rfl) (by kernel_rfl) (by kernel_rfl)) ?_
  intro W base args0 ds gs before hval hW _ _
  have hp : Try.f7.params.toList = [22] := by kernel_rfl
  refine calls_post (avs := avs) (oks := oks) laidOut ?_ (by kernel_rfl) (tb := 4) (by kernel_rfl) rfl ?_ args comes hval hW
  · rw [hp]; intro t ht
    have h3 : ([22].all fun t => Try.prog.readableRec t && Nat.blt t Try.prog.types.size) = true := by kernel_rfl
    have := List.all_eq_true.1 h3 t ht
    rw [Bool.and_eq_true, Nat.blt_eq] at this
    exact this
  · intro ds h
    rw [hp] at h
    match ds, h with
    | [_], _ => rfl
end Go.Proofs.Ytmjnmnhpmbbmgaa.tourSpans
namespace Go.Proofs.Ytmjnmnhpmbbmgaa
open Go.ChangeShapes Go.WideShapes Go.ChangeAt Go.RowKit
theorem tourSpans_holds : Rows.TourSpansSaid :=
  OpenClaim.holds_of_wide 7 Try.f7 rfl rfl rfl rfl rfl rfl rfl ⟨rfl, rfl, rfl, rfl, rfl⟩ rfl rfl rfl rfl rfl (by kernel_rfl) Try.func7 (by kernel_rfl)
    (of_decide_eq_true (by kernel_rfl)) (by unfold Func.isWrapper; first | (rw [if_pos (by decide +kernel)]; kernel_rfl) | (rw [if_neg (by decide +kernel)]; exact ⟨rfl, rfl⟩))
    (fun os started H enc _ => tourSpans.lifted os started H enc)
end Go.Proofs.Ytmjnmnhpmbbmgaa
