/- The law gazetteerlaw9.ParcelLists returns true for every input: what ReadList answers is a function of the bytes; of the bytes of a list it is that list. No condition. -/
import Derived.Test.YtmjnmnhpmbbmgabListRead
set_option linter.unusedVariables false
set_option linter.unusedSimpArgs false
namespace Go.Proofs.Ytmjnmnhpmbbmgab.parcelLists
open Go.ChangeShapes Go.WideShapes Go.ChangeAt Go.RowKit Go.Gz Go.Proofs.Ytmjnmnhpmbbmgab.parcelCuts
section
variable {C : PCall} {n0 : Nat} {R : MExit → Env → AHeap → Prop} {k : Cont} {e : Env} {σ : AHeap}
def r3_0 : List MOper := [⟨(some 4), .move (.c (.bool false)), none⟩]
def b3_0 : SCode := .region r3_0
theorem x3_0 : sC C n0 b3_0 (unw C n0 R k) e σ = sOps C r3_0 (unw C n0 R k .normal) e σ := _root_.id rfl
def r3_1 : List MOper := [⟨(some 18), .call 6 [], none⟩,
  ⟨(some 19), .un .not (.t 18), none⟩]
def b3_1 : SCode := .region r3_1
theorem x3_1 : sC C n0 b3_1 (unw C n0 R k) e σ = sOps C r3_1 (unw C n0 R k .normal) e σ := _root_.id rfl
def r3_2 : List MOper := [⟨(some 4), .move (.c (.bool false)), none⟩]
def b3_2 : SCode := .region r3_2
theorem x3_2 : sC C n0 b3_2 (unw C n0 R k) e σ = sOps C r3_2 (unw C n0 R k .normal) e σ := _root_.id rfl
def b3_3 : SCode := .seq b3_2 .ret
theorem x3_3 : sC C n0 b3_3 (unw C n0 R k) e σ = sC C n0 b3_2 (unw C n0 R (.seq .ret k)) e σ := _root_.id rfl
def b3_4 : SCode := .cond (.t 19) b3_3 .skip
theorem x3_4 : sC C n0 b3_4 (unw C n0 R k) e σ = condK C n0 R (Opd.ev e (.t 19)) b3_3 .skip k e σ := sC_cond
def b3_5 : SCode := .seq b3_1 b3_4
theorem x3_5 : sC C n0 b3_5 (unw C n0 R k) e σ = sC C n0 b3_1 (unw C n0 R (.seq b3_4 k)) e σ := _root_.id rfl
def r3_6 : List MOper := [⟨(some 5), .move (.c (.int .i64 0)), none⟩,
  ⟨(some 6), .move (.c (.bool true)), none⟩]
def b3_6 : SCode := .region r3_6
theorem x3_6 : sC C n0 b3_6 (unw C n0 R k) e σ = sOps C r3_6 (unw C n0 R k .normal) e σ := _root_.id rfl
def r3_7 : List MOper := [⟨(some 7), .move (.c (.int .i64 0)), none⟩]
def b3_7 : SCode := .region r3_7
theorem x3_7 : sC C n0 b3_7 (unw C n0 R k) e σ = sOps C r3_7 (unw C n0 R k .normal) e σ := _root_.id rfl
def r3_8 : List MOper := [⟨(some 20), .move (.t 7), none⟩,
  ⟨(some 21), .move (.t 0), none⟩,
  ⟨(some 22), .lenSl (.t 21), none⟩,
  ⟨(some 23), .bin .lss .num (.t 20) (.t 22), none⟩,
  ⟨(some 24), .move (.t 23), none⟩,
  ⟨(some 25), .move (.t 7), (some (24, true))⟩,
  ⟨(some 26), .bin .lss .num (.t 25) (.c (.int .i64 300)), (some (24, true))⟩,
  ⟨(some 27), .pick (.t 24) (.t 26) (.c (.bool false)), none⟩]
def b3_8 : SCode := .region r3_8
theorem x3_8 : sC C n0 b3_8 (unw C n0 R k) e σ = sOps C r3_8 (unw C n0 R k .normal) e σ := _root_.id rfl
def b3_9 : SCode := .cond (.t 27) .skip (.exit 0)
theorem x3_9 : sC C n0 b3_9 (unw C n0 R k) e σ = condK C n0 R (Opd.ev e (.t 27)) .skip (.exit 0) k e σ := sC_cond
def b3_10 : SCode := .seq b3_8 b3_9
theorem x3_10 : sC C n0 b3_10 (unw C n0 R k) e σ = sC C n0 b3_8 (unw C n0 R (.seq b3_9 k)) e σ := _root_.id rfl
def r3_11 : List MOper := [⟨(some 30), .move (.t 5), none⟩,
  ⟨(some 31), .move (.t 0), none⟩,
  ⟨(some 32), .move (.t 7), none⟩,
  ⟨(some 33), .indexAddr 1 (.t 31) (.t 32), none⟩,
  ⟨(some 34), .load1 (.t 33), none⟩,
  ⟨(some 35), .lenStr (.t 34), none⟩,
  ⟨(some 36), .bin .add .num (.t 30) (.t 35), none⟩,
  ⟨(some 5), .move (.t 36), none⟩]
def b3_11 : SCode := .region r3_11
theorem x3_11 : sC C n0 b3_11 (unw C n0 R k) e σ = sOps C r3_11 (unw C n0 R k .normal) e σ := _root_.id rfl
def r3_12 : List MOper := [⟨(some 37), .move (.t 6), none⟩,
  ⟨(some 38), .move (.t 37), none⟩,
  ⟨(some 39), .move (.t 0), (some (38, true))⟩,
  ⟨(some 40), .move (.t 7), (some (38, true))⟩,
  ⟨(some 41), .indexAddr 1 (.t 39) (.t 40), (some (38, true))⟩,
  ⟨(some 42), .load1 (.t 41), (some (38, true))⟩,
  ⟨(some 43), .lenStr (.t 42), (some (38, true))⟩,
  ⟨(some 44), .bin .leq .num (.t 43) (.c (.int .i64 3)), (some (38, true))⟩,
  ⟨(some 45), .pick (.t 38) (.t 44) (.c (.bool false)), none⟩,
  ⟨(some 6), .move (.t 45), none⟩]
def b3_12 : SCode := .region r3_12
theorem x3_12 : sC C n0 b3_12 (unw C n0 R k) e σ = sOps C r3_12 (unw C n0 R k .normal) e σ := _root_.id rfl
def b3_13 : SCode := .seq b3_11 b3_12
theorem x3_13 : sC C n0 b3_13 (unw C n0 R k) e σ = sC C n0 b3_11 (unw C n0 R (.seq b3_12 k)) e σ := _root_.id rfl
def b3_14 : SCode := .block 1 b3_13
theorem x3_14 : sC C n0 b3_14 (unw C n0 R k) e σ = sC C n0 b3_13 (unw C n0 R (.block 1 k)) e σ := _root_.id rfl
def r3_15 : List MOper := [⟨(some 28), .move (.t 7), none⟩,
  ⟨(some 29), .bin .add .num (.t 28) (.c (.int .i64 1)), none⟩,
  ⟨(some 7), .move (.t 29), none⟩]
def b3_15 : SCode := .region r3_15
theorem x3_15 : sC C n0 b3_15 (unw C n0 R k) e σ = sOps C r3_15 (unw C n0 R k .normal) e σ := _root_.id rfl
def b3_16 : SCode := .seq b3_14 b3_15
theorem x3_16 : sC C n0 b3_16 (unw C n0 R k) e σ = sC C n0 b3_14 (unw C n0 R (.seq b3_15 k)) e σ := _root_.id rfl
def b3_17 : SCode := .seq b3_10 b3_16
theorem x3_17 : sC C n0 b3_17 (unw C n0 R k) e σ = sC C n0 b3_10 (unw C n0 R (.seq b3_16 k)) e σ := _root_.id rfl
def b3_18 : SCode := .loop b3_17
def b3_19 : SCode := .block 0 b3_18
theorem x3_19 : sC C n0 b3_19 (unw C n0 R k) e σ = sC C n0 b3_18 (unw C n0 R (.block 0 k)) e σ := _root_.id rfl
def b3_20 : SCode := .seq b3_7 b3_19
theorem x3_20 : sC C n0 b3_20 (unw C n0 R k) e σ = sC C n0 b3_7 (unw C n0 R (.seq b3_19 k)) e σ := _root_.id rfl
def r3_21 : List MOper := [⟨(some 46), .move (.t 0), none⟩,
  ⟨(some 47), .lenSl (.t 46), none⟩,
  ⟨(some 48), .bin .gtr .num (.t 47) (.c (.int .i64 200)), none⟩,
  ⟨(some 49), .move (.t 48), none⟩,
  ⟨(some 50), .move (.t 5), (some (49, false))⟩,
  ⟨(some 51), .bin .gtr .num (.t 50) (.c (.int .i64 5000)), (some (49, false))⟩,
  ⟨(some 52), .pick (.t 49) (.c (.bool true)) (.t 51), none⟩]
def b3_21 : SCode := .region r3_21
theorem x3_21 : sC C n0 b3_21 (unw C n0 R k) e σ = sOps C r3_21 (unw C n0 R k .normal) e σ := _root_.id rfl
def r3_22 : List MOper := [⟨(some 4), .move (.c (.bool true)), none⟩]
def b3_22 : SCode := .region r3_22
theorem x3_22 : sC C n0 b3_22 (unw C n0 R k) e σ = sOps C r3_22 (unw C n0 R k .normal) e σ := _root_.id rfl
def b3_23 : SCode := .seq b3_22 .ret
theorem x3_23 : sC C n0 b3_23 (unw C n0 R k) e σ = sC C n0 b3_22 (unw C n0 R (.seq .ret k)) e σ := _root_.id rfl
def b3_24 : SCode := .cond (.t 52) b3_23 .skip
theorem x3_24 : sC C n0 b3_24 (unw C n0 R k) e σ = condK C n0 R (Opd.ev e (.t 52)) b3_23 .skip k e σ := sC_cond
def b3_25 : SCode := .seq b3_21 b3_24
theorem x3_25 : sC C n0 b3_25 (unw C n0 R k) e σ = sC C n0 b3_21 (unw C n0 R (.seq b3_24 k)) e σ := _root_.id rfl
def r3_26 : List MOper := [⟨(some 53), .move (.t 0), none⟩,
  ⟨(some 54), .call 7 [(.t 53), (.c (.func 8 []))], none⟩,
  ⟨(some 8), .move (.t 54), none⟩]
def b3_26 : SCode := .region r3_26
theorem x3_26 : sC C n0 b3_26 (unw C n0 R k) e σ = sOps C r3_26 (unw C n0 R k .normal) e σ := _root_.id rfl
def r3_27 : List MOper := [⟨(some 56), .move (.t 8), none⟩,
  ⟨(some 57), .call 9 [(.t 56), (.c (.func 10 []))], none⟩,
  ⟨(some 55), .move (.t 57), none⟩,
  ⟨(some 58), .extract (.t 55) 0, none⟩,
  ⟨(some 59), .extract (.t 55) 1, none⟩,
  ⟨(some 9), .move (.t 58), none⟩,
  ⟨(some 10), .move (.t 59), none⟩]
def b3_27 : SCode := .region r3_27
theorem x3_27 : sC C n0 b3_27 (unw C n0 R k) e σ = sOps C r3_27 (unw C n0 R k .normal) e σ := _root_.id rfl
def r3_28 : List MOper := [⟨(some 60), .move (.t 6), none⟩,
  ⟨(some 61), .un .not (.t 60), none⟩]
def b3_28 : SCode := .region r3_28
theorem x3_28 : sC C n0 b3_28 (unw C n0 R k) e σ = sOps C r3_28 (unw C n0 R k .normal) e σ := _root_.id rfl
def r3_29 : List MOper := [⟨(some 62), .move (.t 10), none⟩,
  ⟨(some 63), .bin .eql .num (.t 62) (.c (.int .i64 2)), none⟩,
  ⟨(some 64), .move (.t 63), none⟩,
  ⟨(some 65), .move (.t 9), (some (64, true))⟩,
  ⟨(some 66), .lenSl (.t 65), (some (64, true))⟩,
  ⟨(some 67), .bin .eql .num (.t 66) (.c (.int .i64 0)), (some (64, true))⟩,
  ⟨(some 68), .pick (.t 64) (.t 67) (.c (.bool false)), none⟩,
  ⟨(some 4), .move (.t 68), none⟩]
def b3_29 : SCode := .region r3_29
theorem x3_29 : sC C n0 b3_29 (unw C n0 R k) e σ = sOps C r3_29 (unw C n0 R k .normal) e σ := _root_.id rfl
def b3_30 : SCode := .seq b3_29 .ret
theorem x3_30 : sC C n0 b3_30 (unw C n0 R k) e σ = sC C n0 b3_29 (unw C n0 R (.seq .ret k)) e σ := _root_.id rfl
def b3_31 : SCode := .cond (.t 61) b3_30 .skip
theorem x3_31 : sC C n0 b3_31 (unw C n0 R k) e σ = condK C n0 R (Opd.ev e (.t 61)) b3_30 .skip k e σ := sC_cond
def b3_32 : SCode := .seq b3_28 b3_31
theorem x3_32 : sC C n0 b3_32 (unw C n0 R k) e σ = sC C n0 b3_28 (unw C n0 R (.seq b3_31 k)) e σ := _root_.id rfl
def r3_33 : List MOper := [⟨(some 69), .move (.t 10), none⟩,
  ⟨(some 70), .bin .neq .num (.t 69) (.c (.int .i64 0)), none⟩,
  ⟨(some 71), .move (.t 70), none⟩,
  ⟨(some 72), .move (.t 9), (some (71, false))⟩,
  ⟨(some 73), .lenSl (.t 72), (some (71, false))⟩,
  ⟨(some 74), .move (.t 0), (some (71, false))⟩,
  ⟨(some 75), .lenSl (.t 74), (some (71, false))⟩,
  ⟨(some 76), .bin .neq .num (.t 73) (.t 75), (some (71, false))⟩,
  ⟨(some 77), .pick (.t 71) (.c (.bool true)) (.t 76), none⟩,
  ⟨(some 78), .move (.t 77), none⟩,
  ⟨(some 79), .move (.t 8), (some (78, false))⟩,
  ⟨(some 80), .lenSl (.t 79), (some (78, false))⟩,
  ⟨(some 81), .move (.t 0), (some (78, false))⟩,
  ⟨(some 82), .lenSl (.t 81), (some (78, false))⟩,
  ⟨(some 83), .bin .mul .num (.c (.int .i64 4)) (.t 82), (some (78, false))⟩,
  ⟨(some 84), .bin .add .num (.c (.int .i64 4)) (.t 83), (some (78, false))⟩,
  ⟨(some 85), .move (.t 5), (some (78, false))⟩,
  ⟨(some 86), .bin .add .num (.t 84) (.t 85), (some (78, false))⟩,
  ⟨(some 87), .bin .neq .num (.t 80) (.t 86), (some (78, false))⟩,
  ⟨(some 88), .pick (.t 78) (.c (.bool true)) (.t 87), none⟩]
def b3_33 : SCode := .region r3_33
theorem x3_33 : sC C n0 b3_33 (unw C n0 R k) e σ = sOps C r3_33 (unw C n0 R k .normal) e σ := _root_.id rfl
def r3_34 : List MOper := [⟨(some 4), .move (.c (.bool false)), none⟩]
def b3_34 : SCode := .region r3_34
theorem x3_34 : sC C n0 b3_34 (unw C n0 R k) e σ = sOps C r3_34 (unw C n0 R k .normal) e σ := _root_.id rfl
def b3_35 : SCode := .seq b3_34 .ret
theorem x3_35 : sC C n0 b3_35 (unw C n0 R k) e σ = sC C n0 b3_34 (unw C n0 R (.seq .ret k)) e σ := _root_.id rfl
def b3_36 : SCode := .cond (.t 88) b3_35 .skip
theorem x3_36 : sC C n0 b3_36 (unw C n0 R k) e σ = condK C n0 R (Opd.ev e (.t 88)) b3_35 .skip k e σ := sC_cond
def b3_37 : SCode := .seq b3_33 b3_36
theorem x3_37 : sC C n0 b3_37 (unw C n0 R k) e σ = sC C n0 b3_33 (unw C n0 R (.seq b3_36 k)) e σ := _root_.id rfl
def r3_38 : List MOper := [⟨(some 11), .move (.c (.int .i64 0)), none⟩]
def b3_38 : SCode := .region r3_38
theorem x3_38 : sC C n0 b3_38 (unw C n0 R k) e σ = sOps C r3_38 (unw C n0 R k .normal) e σ := _root_.id rfl
def r3_39 : List MOper := [⟨(some 89), .move (.t 11), none⟩,
  ⟨(some 90), .move (.t 0), none⟩,
  ⟨(some 91), .lenSl (.t 90), none⟩,
  ⟨(some 92), .bin .lss .num (.t 89) (.t 91), none⟩]
def b3_39 : SCode := .region r3_39
theorem x3_39 : sC C n0 b3_39 (unw C n0 R k) e σ = sOps C r3_39 (unw C n0 R k .normal) e σ := _root_.id rfl
def b3_40 : SCode := .cond (.t 92) .skip (.exit 2)
theorem x3_40 : sC C n0 b3_40 (unw C n0 R k) e σ = condK C n0 R (Opd.ev e (.t 92)) .skip (.exit 2) k e σ := sC_cond
def b3_41 : SCode := .seq b3_39 b3_40
theorem x3_41 : sC C n0 b3_41 (unw C n0 R k) e σ = sC C n0 b3_39 (unw C n0 R (.seq b3_40 k)) e σ := _root_.id rfl
def t3_42 : LTree := (.quiet ⟨(some 95), .move (.t 9), none⟩ 0
  (.quiet ⟨(some 96), .move (.t 11), none⟩ 1
  (.quiet ⟨(some 97), .indexAddr 1 (.t 95) (.t 96), none⟩ 2
  (.quiet ⟨(some 98), .load1 (.t 97), none⟩ 3
  (.quiet ⟨(some 99), .move (.t 0), none⟩ 4
  (.quiet ⟨(some 100), .move (.t 11), none⟩ 5
  (.quiet ⟨(some 101), .indexAddr 1 (.t 99) (.t 100), none⟩ 6
  (.quiet ⟨(some 102), .load1 (.t 101), none⟩ 7
  (.quiet ⟨(some 103), .bin .neq .num (.t 98) (.t 102), none⟩ 8
  .leaf)))))))))
def b3_42 : SCode := .draw t3_42
theorem x3_42 : sC C n0 b3_42 (unw C n0 R k) e σ = sTree C (unw C n0 R k .normal) t3_42 [] e σ := _root_.id rfl
def r3_43 : List MOper := [⟨(some 4), .move (.c (.bool false)), none⟩]
def b3_43 : SCode := .region r3_43
theorem x3_43 : sC C n0 b3_43 (unw C n0 R k) e σ = sOps C r3_43 (unw C n0 R k .normal) e σ := _root_.id rfl
def b3_44 : SCode := .seq b3_43 .ret
theorem x3_44 : sC C n0 b3_44 (unw C n0 R k) e σ = sC C n0 b3_43 (unw C n0 R (.seq .ret k)) e σ := _root_.id rfl
def b3_45 : SCode := .cond (.t 103) b3_44 .skip
theorem x3_45 : sC C n0 b3_45 (unw C n0 R k) e σ = condK C n0 R (Opd.ev e (.t 103)) b3_44 .skip k e σ := sC_cond
def b3_46 : SCode := .seq b3_42 b3_45
theorem x3_46 : sC C n0 b3_46 (unw C n0 R k) e σ = sC C n0 b3_42 (unw C n0 R (.seq b3_45 k)) e σ := _root_.id rfl
def b3_47 : SCode := .block 3 b3_46
theorem x3_47 : sC C n0 b3_47 (unw C n0 R k) e σ = sC C n0 b3_46 (unw C n0 R (.block 3 k)) e σ := _root_.id rfl
def r3_48 : List MOper := [⟨(some 93), .move (.t 11), none⟩,
  ⟨(some 94), .bin .add .num (.t 93) (.c (.int .i64 1)), none⟩,
  ⟨(some 11), .move (.t 94), none⟩]
def b3_48 : SCode := .region r3_48
theorem x3_48 : sC C n0 b3_48 (unw C n0 R k) e σ = sOps C r3_48 (unw C n0 R k .normal) e σ := _root_.id rfl
def b3_49 : SCode := .seq b3_47 b3_48
theorem x3_49 : sC C n0 b3_49 (unw C n0 R k) e σ = sC C n0 b3_47 (unw C n0 R (.seq b3_48 k)) e σ := _root_.id rfl
def b3_50 : SCode := .seq b3_41 b3_49
theorem x3_50 : sC C n0 b3_50 (unw C n0 R k) e σ = sC C n0 b3_41 (unw C n0 R (.seq b3_49 k)) e σ := _root_.id rfl
def b3_51 : SCode := .loop b3_50
def b3_52 : SCode := .block 2 b3_51
theorem x3_52 : sC C n0 b3_52 (unw C n0 R k) e σ = sC C n0 b3_51 (unw C n0 R (.block 2 k)) e σ := _root_.id rfl
def b3_53 : SCode := .seq b3_38 b3_52
theorem x3_53 : sC C n0 b3_53 (unw C n0 R k) e σ = sC C n0 b3_38 (unw C n0 R (.seq b3_52 k)) e σ := _root_.id rfl
def r3_54 : List MOper := [⟨(some 105), .move (.t 8), none⟩,
  ⟨(some 106), .move (.t 1), none⟩,
  ⟨(some 107), .convInt .i64 (.t 106), none⟩,
  ⟨(some 108), .move (.t 8), none⟩,
  ⟨(some 109), .lenSl (.t 108), none⟩,
  ⟨(some 110), .bin .rem .num (.t 107) (.t 109), none⟩,
  ⟨(some 111), .slice 1 (.t 105) none (some (.t 110)) none, none⟩,
  ⟨(some 112), .call 9 [(.t 111), (.c (.func 10 []))], none⟩,
  ⟨(some 104), .move (.t 112), none⟩,
  ⟨(some 113), .extract (.t 104) 0, none⟩,
  ⟨(some 114), .extract (.t 104) 1, none⟩,
  ⟨(some 12), .move (.t 113), none⟩,
  ⟨(some 13), .move (.t 114), none⟩]
def b3_54 : SCode := .region r3_54
theorem x3_54 : sC C n0 b3_54 (unw C n0 R k) e σ = sOps C r3_54 (unw C n0 R k .normal) e σ := _root_.id rfl
def r3_55 : List MOper := [⟨(some 116), .buildSlice [.int .u8 0] 1 0 [], none⟩,
  ⟨(some 117), .move (.t 8), none⟩,
  ⟨(some 118), .append 1 1 (.t 116) (.t 117), none⟩,
  ⟨(some 119), .buildSlice [.int .u8 0] 1 1 [(0, 1, (.c (.int .u8 0)))], none⟩,
  ⟨(some 120), .append 1 1 (.t 118) (.t 119), none⟩,
  ⟨(some 121), .call 9 [(.t 120), (.c (.func 10 []))], none⟩,
  ⟨(some 115), .move (.t 121), none⟩,
  ⟨(some 122), .extract (.t 115) 0, none⟩,
  ⟨(some 123), .extract (.t 115) 1, none⟩,
  ⟨(some 14), .move (.t 122), none⟩,
  ⟨(some 15), .move (.t 123), none⟩]
def b3_55 : SCode := .region r3_55
theorem x3_55 : sC C n0 b3_55 (unw C n0 R k) e σ = sOps C r3_55 (unw C n0 R k .normal) e σ := _root_.id rfl
def r3_56 : List MOper := [⟨(some 125), .move (.t 8), none⟩,
  ⟨(some 126), .call 9 [(.t 125), (.c (.nilfunc))], none⟩,
  ⟨(some 124), .move (.t 126), none⟩,
  ⟨(some 127), .extract (.t 124) 0, none⟩,
  ⟨(some 128), .extract (.t 124) 1, none⟩,
  ⟨(some 16), .move (.t 127), none⟩,
  ⟨(some 17), .move (.t 128), none⟩]
def b3_56 : SCode := .region r3_56
theorem x3_56 : sC C n0 b3_56 (unw C n0 R k) e σ = sOps C r3_56 (unw C n0 R k .normal) e σ := _root_.id rfl
def r3_57 : List MOper := [⟨(some 129), .move (.t 13), none⟩,
  ⟨(some 130), .bin .eql .num (.t 129) (.c (.int .i64 7)), none⟩,
  ⟨(some 131), .move (.t 130), none⟩,
  ⟨(some 132), .move (.t 15), (some (131, true))⟩,
  ⟨(some 133), .bin .eql .num (.t 132) (.c (.int .i64 5)), (some (131, true))⟩,
  ⟨(some 134), .pick (.t 131) (.t 133) (.c (.bool false)), none⟩,
  ⟨(some 135), .move (.t 134), none⟩,
  ⟨(some 136), .move (.t 17), (some (135, true))⟩,
  ⟨(some 137), .bin .eql .num (.t 136) (.c (.int .i64 1)), (some (135, true))⟩,
  ⟨(some 138), .pick (.t 135) (.t 137) (.c (.bool false)), none⟩,
  ⟨(some 139), .move (.t 138), none⟩,
  ⟨(some 140), .move (.t 0), (some (139, true))⟩,
  ⟨(some 141), .call 7 [(.t 140), (.c (.nilfunc))], (some (139, true))⟩,
  ⟨(some 142), .lenSl (.t 141), (some (139, true))⟩,
  ⟨(some 143), .bin .eql .num (.t 142) (.c (.int .i64 0)), (some (139, true))⟩,
  ⟨(some 144), .pick (.t 139) (.t 143) (.c (.bool false)), none⟩,
  ⟨(some 4), .move (.t 144), none⟩]
def b3_57 : SCode := .region r3_57
theorem x3_57 : sC C n0 b3_57 (unw C n0 R k) e σ = sOps C r3_57 (unw C n0 R k .normal) e σ := _root_.id rfl
def b3_58 : SCode := .seq b3_57 .ret
theorem x3_58 : sC C n0 b3_58 (unw C n0 R k) e σ = sC C n0 b3_57 (unw C n0 R (.seq .ret k)) e σ := _root_.id rfl
def b3_59 : SCode := .seq b3_56 b3_58
theorem x3_59 : sC C n0 b3_59 (unw C n0 R k) e σ = sC C n0 b3_56 (unw C n0 R (.seq b3_58 k)) e σ := _root_.id rfl
def b3_60 : SCode := .seq b3_55 b3_59
theorem x3_60 : sC C n0 b3_60 (unw C n0 R k) e σ = sC C n0 b3_55 (unw C n0 R (.seq b3_59 k)) e σ := _root_.id rfl
def b3_61 : SCode := .seq b3_54 b3_60
theorem x3_61 : sC C n0 b3_61 (unw C n0 R k) e σ = sC C n0 b3_54 (unw C n0 R (.seq b3_60 k)) e σ := _root_.id rfl
def b3_62 : SCode := .seq b3_53 b3_61
theorem x3_62 : sC C n0 b3_62 (unw C n0 R k) e σ = sC C n0 b3_53 (unw C n0 R (.seq b3_61 k)) e σ := _root_.id rfl
def b3_63 : SCode := .seq b3_37 b3_62
theorem x3_63 : sC C n0 b3_63 (unw C n0 R k) e σ = sC C n0 b3_37 (unw C n0 R (.seq b3_62 k)) e σ := _root_.id rfl
def b3_64 : SCode := .seq b3_32 b3_63
theorem x3_64 : sC C n0 b3_64 (unw C n0 R k) e σ = sC C n0 b3_32 (unw C n0 R (.seq b3_63 k)) e σ := _root_.id rfl
def b3_65 : SCode := .seq b3_27 b3_64
theorem x3_65 : sC C n0 b3_65 (unw C n0 R k) e σ = sC C n0 b3_27 (unw C n0 R (.seq b3_64 k)) e σ := _root_.id rfl
def b3_66 : SCode := .seq b3_26 b3_65
theorem x3_66 : sC C n0 b3_66 (unw C n0 R k) e σ = sC C n0 b3_26 (unw C n0 R (.seq b3_65 k)) e σ := _root_.id rfl
def b3_67 : SCode := .seq b3_25 b3_66
theorem x3_67 : sC C n0 b3_67 (unw C n0 R k) e σ = sC C n0 b3_25 (unw C n0 R (.seq b3_66 k)) e σ := _root_.id rfl
def b3_68 : SCode := .seq b3_20 b3_67
theorem x3_68 : sC C n0 b3_68 (unw C n0 R k) e σ = sC C n0 b3_20 (unw C n0 R (.seq b3_67 k)) e σ := _root_.id rfl
def b3_69 : SCode := .seq b3_6 b3_68
theorem x3_69 : sC C n0 b3_69 (unw C n0 R k) e σ = sC C n0 b3_6 (unw C n0 R (.seq b3_68 k)) e σ := _root_.id rfl
def b3_70 : SCode := .seq b3_5 b3_69
theorem x3_70 : sC C n0 b3_70 (unw C n0 R k) e σ = sC C n0 b3_5 (unw C n0 R (.seq b3_69 k)) e σ := _root_.id rfl
def b3_71 : SCode := .seq b3_0 b3_70
theorem x3_71 : sC C n0 b3_71 (unw C n0 R k) e σ = sC C n0 b3_0 (unw C n0 R (.seq b3_70 k)) e σ := _root_.id rfl
def s3 : SFunc := ⟨145, [.t 4], b3_71⟩
theorem c3 : sFn Try.prog 3 = some s3 := by kernel_rfl
theorem y3 {args : List AV} {Q : AV → AHeap → Prop} : sF C s3 args σ Q = (args.length ≤ 145 ∧ sC C σ.length b3_71 (unw C σ.length (RetQ [.t 4] Q) .fin) (argEnv args) σ) := _root_.id rfl

end
set_option maxHeartbeats 4000000
set_option maxRecDepth 100000
/-! Plain laws. -/
def fineS (ss : List (List UInt8)) : Bool := ss.all fun s => decide (s.length ≤ 3)
def sumS (ss : List (List UInt8)) : Int := (ss.map fun s => (s.length : Int)).sum
theorem sumS_cons (s : List UInt8) (ss : List (List UInt8)) : sumS (s :: ss) = (s.length : Int) + sumS ss := by simp [sumS]
theorem sumS_nonneg : ∀ ss, 0 ≤ sumS ss
  | [] => by simp [sumS]
  | s :: ss => by have := sumS_nonneg ss; rw [sumS_cons]; omega
theorem tot_eq : ∀ ss : List (List UInt8), ((ss.flatMap txt).length : Int) = 4 * ss.length + sumS ss
  | [] => rfl
  | s :: ss => by
    have := tot_eq ss
    rw [sumS_cons]
    simp only [List.flatMap_cons, List.length_append, txt, u32_len, List.length_cons]
    omega
theorem mem_sum {s : List UInt8} : ∀ {ss : List (List UInt8)}, s ∈ ss → (s.length : Int) ≤ sumS ss
  | [], h => by simp at h
  | x :: ss, h => by
    have h0 := sumS_nonneg ss
    rw [sumS_cons]
    rcases List.mem_cons.1 h with rfl | h
    · omega
    · have := mem_sum h; omega
theorem badT_small {s : List UInt8} (h : s.length ≤ 268435455) : badT s = false := by
  simp only [badT, badN, Bool.or_eq_false_iff, decide_eq_false_iff_not]; omega
theorem lstR_good : ∀ {ss : List (List UInt8)} {r : List UInt8} {acc : List (List UInt8)}, fineS ss = true → lstR ss.length (ss.flatMap txt ++ r, 0) acc = finL (r, 0) (acc ++ ss)
  | [], r, acc, _ => by simp [lstR]
  | s :: ss, r, acc, h => by
    simp only [fineS, List.all_cons, Bool.and_eq_true, decide_eq_true_eq] at h
    have hb : badT s = false := badT_small (by omega)
    have h3 : ¬ 3 < s.length := by omega
    simp only [List.flatMap_cons, List.append_assoc, List.length_cons, lstR, if_true, stT_good hb, text_good hb, if_neg h3]
    rw [lstR_good h.2]
    simp
theorem lstR_bad : ∀ {ss : List (List UInt8)} {r : List UInt8} {acc : List (List UInt8)}, (∀ s ∈ ss, badT s = false) → fineS ss = false → lstR ss.length (ss.flatMap txt ++ r, 0) acc = ([], 2)
  | [], r, acc, _, h => by simp [fineS] at h
  | s :: ss, r, acc, hb, h => by
    have hs := hb s (by simp)
    simp only [List.flatMap_cons, List.append_assoc, List.length_cons, lstR, if_true, stT_good hs, text_good hs]
    by_cases h3 : 3 < s.length
    · rw [if_pos h3]
    · rw [if_neg h3]
      refine lstR_bad (fun x hx => hb x (by simp [hx])) ?_
      simp only [fineS, List.all_cons] at h ⊢
      rw [decide_eq_true (by omega : s.length ≤ 3), Bool.true_and] at h
      exact h
theorem cutTv {s : St} {w : List UInt8} {x : List UInt8} (hx : badT x = false) (h : Cut s (txt x ++ w)) (h0 : (stT s).2 = 0) : (rdText s.1 s.2).1 = x := by
  unfold txt at h
  rw [List.append_assoc] at h
  have hN := cutN hx h
  unfold stT rdText at h0
  unfold rdText
  rcases hN with ⟨h1, h2⟩ | ⟨h1, h2⟩
  · rw [h1] at h0 ⊢
    simp only [if_true, Int.toNat_natCast] at h0 ⊢
    by_cases hl : x.length ≤ (stN s).1.length
    · rw [if_pos hl]
      rcases h2 with ⟨_, q, hq, h2⟩ | h2
      · have := congrArg (List.take x.length) h2
        rw [List.take_append_of_le_length (Nat.le_refl _), List.take_length, List.take_append_of_le_length hl] at this
        exact this.symm
      · have h3 : (stN s).2 = 0 := by simp only [stN]; rw [h1]
        omega
    · rw [if_neg hl] at h0
      cases h0
  · have h3 : (rdNum s.1 s.2).2.2 = 7 := h2
    simp only [h3] at h0
    cases h0
theorem fin7 {s : St} {acc : List (List UInt8)} (h : s.2 = 7) : finL s acc = ([], 7) := by
  have : rdEnd s.1 s.2 = 7 := by rw [h]; rfl
  unfold finL
  rw [this]
  rfl
theorem lstR_cut : ∀ {ss : List (List UInt8)} {s : St} {acc : List (List UInt8)}, fineS ss = true → Cut s (ss.flatMap txt) → lstR ss.length s acc = ([], 7)
  | [], s, acc, _, h => by simp only [List.length_nil, lstR]; exact fin7 (cut_nil h)
  | x :: ss, s, acc, hf, h => by
    simp only [fineS, List.all_cons, Bool.and_eq_true, decide_eq_true_eq] at hf
    have hb : badT x = false := badT_small (by omega)
    simp only [List.flatMap_cons] at h
    have hc := cutT hb h
    have hv := cutTv hb h
    simp only [List.length_cons, lstR]
    by_cases h0 : s.2 = 0
    · rw [if_pos h0]
      by_cases h1 : (stT s).2 = 0
      · rw [if_pos h1, hv h1, if_neg (by omega)]
        exact lstR_cut hf.2 hc
      · rw [if_neg h1]
        rcases hc with ⟨h, _⟩ | h
        · exact absurd h h1
        · exact fin7 h
    · rw [if_neg h0]
      rcases h with ⟨h, _⟩ | h
      · exact absurd h h0
      · exact fin7 h
theorem num_ok {ss : List (List UInt8)} (h : ss.length ≤ 268435455) : badN (ss.length : Int) = false := by
  simp only [badN, Bool.or_eq_false_iff, decide_eq_false_iff_not]; omega
theorem read_good {ss : List (List UInt8)} (hf : fineS ss = true) (hl : ss.length ≤ 268435455) : readList (lstB ss) = (ss, 0) := by
  unfold readList lstB
  rw [num_good (num_ok hl), stN_good (num_ok hl), Int.toNat_natCast]
  have := lstR_good (r := []) (acc := []) hf
  rw [List.append_nil] at this
  simp only [this]; rfl
theorem read_more {ss : List (List UInt8)} (hf : fineS ss = true) (hl : ss.length ≤ 268435455) : readList (lstB ss ++ [0]) = ([], 5) := by
  unfold readList lstB
  rw [List.append_assoc, num_good (num_ok hl), stN_good (num_ok hl), Int.toNat_natCast]
  simp only [lstR_good hf]; rfl
theorem read_bad {ss : List (List UInt8)} (hf : fineS ss = false) (hl : ss.length ≤ 268435455) (hb : ∀ s ∈ ss, badT s = false) : readList (lstB ss) = ([], 2) := by
  unfold readList lstB
  rw [num_good (num_ok hl), stN_good (num_ok hl), Int.toNat_natCast]
  have := lstR_bad (r := []) (acc := []) hb hf
  rw [List.append_nil] at this
  exact this
theorem read_cut {ss : List (List UInt8)} (hf : fineS ss = true) (hl : ss.length ≤ 268435455) {k : Nat} (hk : k < (lstB ss).length) : readList ((lstB ss).take k) = ([], 7) := by
  have h0 : Cut ((lstB ss).take k, 0) (lstB ss) := .inl ⟨rfl, (lstB ss).drop k, by intro h; have := congrArg List.length h; simp at this; omega, by simp⟩
  unfold readList
  generalize (lstB ss).take k = bs at h0 ⊢
  unfold lstB at h0
  rcases cutN (num_ok hl) h0 with ⟨h1, h2⟩ | ⟨h1, h2⟩
  · simp only at h1; rw [h1, Int.toNat_natCast]
    exact lstR_cut hf h2
  · simp only at h1; rw [h1]
    exact fin7 h2
/-! The table. -/
theorem strs_ff (ss : List (List UInt8)) : flatLL (strs ss) := by
  intro r hr x hx
  obtain ⟨b, _, rfl⟩ := List.mem_map.1 hr
  simp at hx; subst hx; rfl
def listD (args : List AV) (σ : AHeap) (K : AV → AHeap → Prop) : Prop := ∃ ss f nn, (args = [.imm (strs ss) f nn, .func 8 []] ∧ total ss ≤ 900000000 ∧ ss.length ≤ 1048576 ∧ K (.imm (rws (lstB ss)) false false) σ) ∨ (args = [.imm (strs ss) f nn, .nilfunc] ∧ K .nilslice σ)
theorem listD_ok (args : List AV) (σ : AHeap) (K : AV → AHeap → Prop) (h : listD args σ K) : Tri Try.prog 7 args σ K := by
  obtain ⟨ss, f, nn, ⟨rfl, h1, h2, h3⟩ | ⟨rfl, h3⟩⟩ := h
  · refine (Tri.pureG ?_ (list_ok ss f nn h1 h2) σ).mono fun r σ' hr => by rw [hr.1, hr.2]; exact h3
    intro x hx; simp at hx; rcases hx with rfl | rfl
    · exact .inl (strs_ff ss)
    · exact .inr rfl
  · refine (Tri.pureF ?_ (listNil_ok ss f nn) σ).mono fun r σ' hr => by rw [hr.1, hr.2]; exact h3
    intro x hx; simp at hx; rcases hx with rfl | rfl
    · exact strs_ff ss
    · rfl
def readListD (args : List AV) (σ : AHeap) (K : AV → AHeap → Prop) : Prop := ∃ x bs, wv σ [] x (.imm (rws bs) false false) ∧ ((args = [x, .func 10 []] ∧ K (.tuple [.slice (0 + σ.length) 0 (readList bs).1.length none 1, .int .i64 (readList bs).2]) (σ ++ [some ((readList bs).1.map AV.str)])) ∨ (args = [x, .nilfunc] ∧ K (.tuple [.nilslice, .int .i64 1]) σ))
theorem readListD_ok (args : List AV) (σ : AHeap) (K : AV → AHeap → Prop) (h : readListD args σ K) : Tri Try.prog 9 args σ K := by
  obtain ⟨x, bs, h1, ⟨rfl, h2⟩ | ⟨rfl, h2⟩⟩ := h
  · refine (Tri.behind (args1 := [.imm (rws bs) false false, .func 10 []]) ?_ (readList_ok bs)).mono fun r σ' hr => ?_
    · simp only [wvs, and_true]; exact ⟨h1, by simp [wv, wvs]⟩
    · obtain ⟨vs, τ, ⟨rfl, rfl⟩, rfl, rfl⟩ := hr
      exact h2
  · refine (Tri.view (args1 := [.imm (rws bs) false false, .nilfunc]) ?_ (readNil_ok bs)).mono fun r σ' hr => by rw [hr.1, hr.2]; exact h2
    simp only [wvs, and_true]; exact ⟨h1, by simp [wv]⟩
def C3 : PCall := rowQ 6 awakeD (rowQ 7 listD (rowQ 9 readListD noCall))
theorem C3_app {f : FuncId} {args : List AV} {σ : AHeap} {K : AV → AHeap → Prop} : C3 f args σ K = rowQ 6 awakeD (rowQ 7 listD (rowQ 9 readListD noCall)) f args σ K := _root_.id rfl
theorem C3_sound : Sound Try.prog C3 := rowQ_sound awakeD_ok (rowQ_sound listD_ok (rowQ_sound readListD_ok (noCall_sound _)))
/-! The law. -/
abbrev Okn (ss : List (List UInt8)) : Prop := ss.length ≤ 140737488351232 ∧ ∀ s ∈ ss, s.length ≤ 140737488351232
def cmpI (ss : List (List UInt8)) (cut : Int) (n : Nat) (e : Env) (σ : AHeap) : Prop :=
  ∃ i : Nat, i ≤ ss.length ∧ n = ss.length - i ∧ σ = [some (ss.map AV.str)] ∧ e 0 = .imm (strs ss) false false ∧ e 1 = .int .u16 cut ∧ e 8 = .imm (rws (lstB ss)) false false ∧ e 9 = .slice 0 0 ss.length none 1 ∧ e 11 = .int .i64 (i : Int)
theorem cmp_step (ss : List (List UInt8)) (cut : Int) (hc0 : 0 ≤ cut) (hc1 : cut ≤ 65535) (hl : ss.length ≤ 200) (hs : sumS ss ≤ 5000) (hf : fineS ss = true) (n : Nat) (e : Env) (σ : AHeap) (h : cmpI ss cut n e σ) :
    sC C3 0 b3_50 (unw C3 0 (loopR C3 0 (RetQ [MRes.t 4] Yes) (.block 2 (.seq b3_61 .fin)) (cmpI ss cut) n) .fin) e σ := by
  obtain ⟨i, hi, hn, rfl, h0, h1, h8, h9, h11⟩ := h
  rcases Nat.lt_or_ge i ss.length with hlt | hge
  · have hlt' : (i : Int) < (ss.length : Int) := by omega
    have hge0 : (0 : Int) ≤ (i : Int) := by omega
    obtain ⟨x, hx⟩ : ∃ x, ss[i]? = some x := ⟨_, List.getElem?_eq_getElem hlt⟩
    have hxx : (strs ss)[i]? = some [.str x] := by simp [strs, hx]
    have hxm : (ss.map AV.str)[i]? = some (.str x) := by simp [hx]
    have hw : IntKind.wrap .i64 ((i : Int) + 1) = ((i + 1 : Nat) : Int) := by rw [Gz.wrap64 (by omega)]; omega
    simp only [C3_app, y3, x3_0, r3_0, x3_1, r3_1, x3_2, r3_2, x3_3, x3_4, x3_5, x3_6, r3_6, x3_7, r3_7, x3_8, r3_8, x3_9, x3_10, x3_11, r3_11, x3_12, r3_12, x3_13, x3_14, x3_15, r3_15, x3_16, x3_17, x3_19, x3_20, x3_21, r3_21, x3_22, r3_22, x3_23, x3_24, x3_25, x3_26, r3_26, x3_27, r3_27, x3_28, r3_28, x3_29, r3_29, x3_30, x3_31, x3_32, x3_33, r3_33, x3_34, r3_34, x3_35, x3_36, x3_37, x3_38, r3_38, x3_39, r3_39, x3_40, x3_41, x3_42, t3_42, x3_43, r3_43, x3_44, x3_45, x3_46, x3_47, x3_48, r3_48, x3_49, x3_50, x3_52, x3_53, x3_54, r3_54, x3_55, r3_55, x3_56, r3_56, x3_57, r3_57, x3_58, x3_59, x3_60, x3_61, x3_62, x3_63, x3_64, x3_65, x3_66, x3_67, x3_68, x3_69, x3_70, x3_71, sC_skip, sC_exit, sC_ret, condK_true, condK_false, unw_seq_normal, unw_seq_exit, unw_seq_ret, unw_block_normal, unw_block_exit, unw_block_ret, unw_lp_exit, unw_lp_ret, unw_fin, retQ_ret, retQ_normal, retQ_exit, nxt_app, nxtQ_app, nxtL_app, guardK_tt, guardK_ff, guardK_tf, guardK_ft, guardK_u, guardQ_tt, guardQ_ff, guardQ_tf, guardQ_ft, guardQ_u, guardL_tt, guardL_ff, guardL_tf, guardL_ft, guardL_u, sOps_nil, sOps_cons, sOps_guard, sTree_leaf, sTree_stop, sTree_quiet, sTree_loud, sTree_quietG, sTree_loudG, goO_some, goO_none, sOp_call, callvP_func, sOp_callv, putD_some, putD_none, still_nil, still_none, still_cons, sOp_move, sOp_nilCheck, sOp_pick, sOp_alloc, sOp_box, sOp_build, sOp_buildSlice, sOp_load1, sOp_loadN, sOp_store, sOp_bin, sOp_un, sOp_convInt, sOp_convSame, sOp_resame, sOp_toBytes, sOp_ofBytes, sOp_mkfunc, sOp_makeSlice, sOp_sliceStr, sOp_slice, sOp_sliceArr, sOp_fieldAddr, sOp_field1, sOp_fieldN, sOp_indexAddr, sOp_indexArrAddr, sOp_indexStr, sOp_indexArr1, sOp_indexArrN, sOp_extract, sOp_lenStr, sOp_lenSl, sOp_lenArr, sOp_append, sOp_copy, sOp_minmax, sOp_capOf, ev_t, ev_c, argEnv_nil, argEnv_cons, envL_nil, envL_cons, abin_add, abin_sub, abin_mul, abin_quo, abin_rem, abin_eql, abin_neq, abin_lss, abin_leq, abin_gtr, abin_geq, abin_shl, abin_shr, abin_sadd, abin_seql, abin_sneq, abin_slss, abin_sleq, abin_sgtr, abin_sgeq, abin_beql, abin_bneq, abin_p1, abin_p2, abin_p3, abin_p4, abin_p5, abin_p6, abin_s3, abin_s4, abin_s5, abin_s6, abin_f1, abin_f2, abin_f3, abin_f4, abin_feq, abin_fne, cellsEq_nil, cellsEq_s, cellsEq_i, cellsEq_b, aun_not, aun_neg, hget_nil, hget_cons, hset_cons, hkill_cons, hpush_nil, hpush_cons, idx_nil, idx_cons, sub_cons, take_cons, take_nil', put_cons, drop_cons, cells_agg, cells_str, cells_int, cells_bool, cells_ptr, cells_nilptr, cells_nilslice, cells_slice, cells_imm, cells_func, resVals_nil, resVals_t, resVals_cN, resVals_c1, retOf_one, retOf_two, retOf_nil, evOp, isRead, fixOp, ldCell, ldCells, fAddr, iAddr_slice, iAddr_imm, aAddr_ptr, aAddr_iptr, inRange_int, bound_none, bound_int, mayGrow, fillParts, lenOf, lenSl, evSlice, topOf, evAppend, elemsOf, grown, rowF_eq, rowQ_eq, Option.map_some, Option.map_none, Option.bind_some, Option.bind_none, Option.isSome_some, Option.isSome_none, List.map_cons, List.map_nil, List.length_cons, List.length_nil, List.append_nil, List.nil_append, List.cons_append, List.all_cons, List.all_nil, cell_str, cell_int, cell_bool, cell_ptr, cell_iptr, cell_nilptr, cell_nilslice, cell_slice, cell_imm, cell_func, cell_nilfunc, Bool.and_true, Bool.true_and, Bool.and_false, Bool.false_and, Bool.or_true, Bool.true_or, Bool.or_false, Bool.false_or, Bool.not_true, Bool.not_false, Bool.false_eq_true, Bool.true_eq_false, and_true, true_and, and_false, false_and, or_true, true_or, or_false, false_or, not_true_eq_false, not_false_eq_true, decide_true, decide_false, decide_eq_true_eq, if_true, if_false, ite_true, ite_false, ↓reduceIte, Nat.reduceAdd, Nat.reduceSub, Nat.reduceMul, Nat.reduceEqDiff, Nat.reduceLeDiff, Nat.reduceLT, Nat.succ_ne_zero, Nat.zero_add, Nat.add_zero, Nat.zero_mul, Nat.mul_one, Nat.one_mul, Nat.le_refl, Nat.sub_zero, Int.reduceLT, Int.reduceLE, Int.reduceEq, Int.reduceNe, Int.reduceToNat, Int.reduceAdd, Int.reduceSub, Int.toNat_zero, reduceCtorEq, eq_self, ne_eq, beq_self_eq_true, Nat.reduceBEq, Nat.reduceBNe, List.mem_cons, List.not_mem_nil, false_implies, true_implies, implies_true, forall_const, List.drop_zero, List.drop_nil, List.take_zero, List.drop_length, List.length_append, cast_zero, cast_one, Int.cast_ofNat_Int, List.replicate_zero, List.replicate_succ, List.flatten_cons, List.flatten_nil, wrap_one, loopR_exit, loopR_ret, h0, h1, h8, h9, h11, hlt', hlt, hge0, hxx, hxm, strs_len, hw, Int.toNat_natCast]
    rw [loopR_normal]
    refine ⟨ss.length - (i + 1), _, _, by omega, .refl _ _ _, i + 1, hlt, rfl, rfl, ?_, ?_, ?_, ?_, ?_⟩
    all_goals simp only [putD_some, putD_none, Nat.reduceEqDiff, ↓reduceIte, h0, h1, h8, h9, h11, hw]
  · have hlt' : ¬ (i : Int) < (ss.length : Int) := by omega
    have hpos : 0 < (lstB ss).length := by simp only [lstB, List.length_append, u32_len]; omega
    have hbl : (lstB ss).length ≤ 1000000000 := by
      have := tot_eq ss
      simp only [lstB, List.length_append, u32_len]; omega
    obtain ⟨k, hk, hkl⟩ := cutIdx (n := (lstB ss).length) hc0 hpos
    have hk0 : (0 : Int) ≤ (k : Int) := by omega
    have hkl' : (k : Int).toNat ≤ (lstB ss).length := by omega
    have rc := read_cut hf (by omega) hkl
    have rm := read_more hf (by omega : ss.length ≤ 268435455)
    have ne : ¬ ((lstB ss).length : Int) = 0 := by omega
    have hw : IntKind.wrap .i64 cut = cut := Gz.wrap64 (by omega)
    have a0 := fun (σ : AHeap) (s : Nat) (f n : Bool) => app0 (σ := σ) (s := s) (f := f) (n := n) hbl hpos
    have a1 := fun (σ : AHeap) (s t : Nat) h1 h2 => app1 (σ := σ) (s := s) (t := t) (bs := lstB ss) h1 h2 hbl
    generalize lstB ss = B at *
    simp only [C3_app, y3, x3_0, r3_0, x3_1, r3_1, x3_2, r3_2, x3_3, x3_4, x3_5, x3_6, r3_6, x3_7, r3_7, x3_8, r3_8, x3_9, x3_10, x3_11, r3_11, x3_12, r3_12, x3_13, x3_14, x3_15, r3_15, x3_16, x3_17, x3_19, x3_20, x3_21, r3_21, x3_22, r3_22, x3_23, x3_24, x3_25, x3_26, r3_26, x3_27, r3_27, x3_28, r3_28, x3_29, r3_29, x3_30, x3_31, x3_32, x3_33, r3_33, x3_34, r3_34, x3_35, x3_36, x3_37, x3_38, r3_38, x3_39, r3_39, x3_40, x3_41, x3_42, t3_42, x3_43, r3_43, x3_44, x3_45, x3_46, x3_47, x3_48, r3_48, x3_49, x3_50, x3_52, x3_53, x3_54, r3_54, x3_55, r3_55, x3_56, r3_56, x3_57, r3_57, x3_58, x3_59, x3_60, x3_61, x3_62, x3_63, x3_64, x3_65, x3_66, x3_67, x3_68, x3_69, x3_70, x3_71, sC_skip, sC_exit, sC_ret, condK_true, condK_false, unw_seq_normal, unw_seq_exit, unw_seq_ret, unw_block_normal, unw_block_exit, unw_block_ret, unw_lp_exit, unw_lp_ret, unw_fin, retQ_ret, retQ_normal, retQ_exit, nxt_app, nxtQ_app, nxtL_app, guardK_tt, guardK_ff, guardK_tf, guardK_ft, guardK_u, guardQ_tt, guardQ_ff, guardQ_tf, guardQ_ft, guardQ_u, guardL_tt, guardL_ff, guardL_tf, guardL_ft, guardL_u, sOps_nil, sOps_cons, sOps_guard, sTree_leaf, sTree_stop, sTree_quiet, sTree_loud, sTree_quietG, sTree_loudG, goO_some, goO_none, sOp_call, callvP_func, sOp_callv, putD_some, putD_none, still_nil, still_none, still_cons, sOp_move, sOp_nilCheck, sOp_pick, sOp_alloc, sOp_box, sOp_build, sOp_buildSlice, sOp_load1, sOp_loadN, sOp_store, sOp_bin, sOp_un, sOp_convInt, sOp_convSame, sOp_resame, sOp_toBytes, sOp_ofBytes, sOp_mkfunc, sOp_makeSlice, sOp_sliceStr, sOp_slice, sOp_sliceArr, sOp_fieldAddr, sOp_field1, sOp_fieldN, sOp_indexAddr, sOp_indexArrAddr, sOp_indexStr, sOp_indexArr1, sOp_indexArrN, sOp_extract, sOp_lenStr, sOp_lenSl, sOp_lenArr, sOp_append, sOp_copy, sOp_minmax, sOp_capOf, ev_t, ev_c, argEnv_nil, argEnv_cons, envL_nil, envL_cons, abin_add, abin_sub, abin_mul, abin_quo, abin_rem, abin_eql, abin_neq, abin_lss, abin_leq, abin_gtr, abin_geq, abin_shl, abin_shr, abin_sadd, abin_seql, abin_sneq, abin_slss, abin_sleq, abin_sgtr, abin_sgeq, abin_beql, abin_bneq, abin_p1, abin_p2, abin_p3, abin_p4, abin_p5, abin_p6, abin_s3, abin_s4, abin_s5, abin_s6, abin_f1, abin_f2, abin_f3, abin_f4, abin_feq, abin_fne, cellsEq_nil, cellsEq_s, cellsEq_i, cellsEq_b, aun_not, aun_neg, hget_nil, hget_cons, hset_cons, hkill_cons, hpush_nil, hpush_cons, idx_nil, idx_cons, sub_cons, take_cons, take_nil', put_cons, drop_cons, cells_agg, cells_str, cells_int, cells_bool, cells_ptr, cells_nilptr, cells_nilslice, cells_slice, cells_imm, cells_func, resVals_nil, resVals_t, resVals_cN, resVals_c1, retOf_one, retOf_two, retOf_nil, evOp, isRead, fixOp, ldCell, ldCells, fAddr, iAddr_slice, iAddr_imm, aAddr_ptr, aAddr_iptr, inRange_int, bound_none, bound_int, mayGrow, fillParts, lenSl, topOf, rowF_eq, rowQ_eq, Option.map_some, Option.map_none, Option.bind_some, Option.bind_none, Option.isSome_some, Option.isSome_none, List.map_cons, List.map_nil, List.length_cons, List.length_nil, List.append_nil, List.nil_append, List.cons_append, List.all_cons, List.all_nil, cell_str, cell_int, cell_bool, cell_ptr, cell_iptr, cell_nilptr, cell_nilslice, cell_slice, cell_imm, cell_func, cell_nilfunc, Bool.and_true, Bool.true_and, Bool.and_false, Bool.false_and, Bool.or_true, Bool.true_or, Bool.or_false, Bool.false_or, Bool.not_true, Bool.not_false, Bool.false_eq_true, Bool.true_eq_false, and_true, true_and, and_false, false_and, or_true, true_or, or_false, false_or, not_true_eq_false, not_false_eq_true, decide_true, decide_false, decide_eq_true_eq, if_true, if_false, ite_true, ite_false, ↓reduceIte, Nat.reduceAdd, Nat.reduceSub, Nat.reduceMul, Nat.reduceEqDiff, Nat.reduceLeDiff, Nat.reduceLT, Nat.succ_ne_zero, Nat.zero_add, Nat.add_zero, Nat.zero_mul, Nat.mul_one, Nat.one_mul, Nat.le_refl, Nat.sub_zero, Int.reduceLT, Int.reduceLE, Int.reduceEq, Int.reduceNe, Int.reduceToNat, Int.reduceAdd, Int.reduceSub, Int.toNat_zero, reduceCtorEq, eq_self, ne_eq, beq_self_eq_true, Nat.reduceBEq, Nat.reduceBNe, List.mem_cons, List.not_mem_nil, false_implies, true_implies, implies_true, forall_const, List.drop_zero, List.drop_nil, List.take_zero, List.drop_length, List.length_append, cast_zero, cast_one, Int.cast_ofNat_Int, List.replicate_zero, List.replicate_succ, List.flatten_cons, List.flatten_nil, wrap_one, loopR_exit, loopR_ret, h0, h1, h8, h9, h11, hlt', strs_len, hw, hk, ne, lenOf_imm, lenOf_sl, rws_len, evS_hi hk0 hkl', Int.toNat_natCast]
    refine ⟨_, B.take k, wv_imm, .inl ⟨rfl, ?_⟩⟩
    rw [rc]
    simp only [C3_app, y3, x3_0, r3_0, x3_1, r3_1, x3_2, r3_2, x3_3, x3_4, x3_5, x3_6, r3_6, x3_7, r3_7, x3_8, r3_8, x3_9, x3_10, x3_11, r3_11, x3_12, r3_12, x3_13, x3_14, x3_15, r3_15, x3_16, x3_17, x3_19, x3_20, x3_21, r3_21, x3_22, r3_22, x3_23, x3_24, x3_25, x3_26, r3_26, x3_27, r3_27, x3_28, r3_28, x3_29, r3_29, x3_30, x3_31, x3_32, x3_33, r3_33, x3_34, r3_34, x3_35, x3_36, x3_37, x3_38, r3_38, x3_39, r3_39, x3_40, x3_41, x3_42, t3_42, x3_43, r3_43, x3_44, x3_45, x3_46, x3_47, x3_48, r3_48, x3_49, x3_50, x3_52, x3_53, x3_54, r3_54, x3_55, r3_55, x3_56, r3_56, x3_57, r3_57, x3_58, x3_59, x3_60, x3_61, x3_62, x3_63, x3_64, x3_65, x3_66, x3_67, x3_68, x3_69, x3_70, x3_71, sC_skip, sC_exit, sC_ret, condK_true, condK_false, unw_seq_normal, unw_seq_exit, unw_seq_ret, unw_block_normal, unw_block_exit, unw_block_ret, unw_lp_exit, unw_lp_ret, unw_fin, retQ_ret, retQ_normal, retQ_exit, nxt_app, nxtQ_app, nxtL_app, guardK_tt, guardK_ff, guardK_tf, guardK_ft, guardK_u, guardQ_tt, guardQ_ff, guardQ_tf, guardQ_ft, guardQ_u, guardL_tt, guardL_ff, guardL_tf, guardL_ft, guardL_u, sOps_nil, sOps_cons, sOps_guard, sTree_leaf, sTree_stop, sTree_quiet, sTree_loud, sTree_quietG, sTree_loudG, goO_some, goO_none, sOp_call, callvP_func, sOp_callv, putD_some, putD_none, still_nil, still_none, still_cons, sOp_move, sOp_nilCheck, sOp_pick, sOp_alloc, sOp_box, sOp_build, sOp_buildSlice, sOp_load1, sOp_loadN, sOp_store, sOp_bin, sOp_un, sOp_convInt, sOp_convSame, sOp_resame, sOp_toBytes, sOp_ofBytes, sOp_mkfunc, sOp_makeSlice, sOp_sliceStr, sOp_slice, sOp_sliceArr, sOp_fieldAddr, sOp_field1, sOp_fieldN, sOp_indexAddr, sOp_indexArrAddr, sOp_indexStr, sOp_indexArr1, sOp_indexArrN, sOp_extract, sOp_lenStr, sOp_lenSl, sOp_lenArr, sOp_append, sOp_copy, sOp_minmax, sOp_capOf, ev_t, ev_c, argEnv_nil, argEnv_cons, envL_nil, envL_cons, abin_add, abin_sub, abin_mul, abin_quo, abin_rem, abin_eql, abin_neq, abin_lss, abin_leq, abin_gtr, abin_geq, abin_shl, abin_shr, abin_sadd, abin_seql, abin_sneq, abin_slss, abin_sleq, abin_sgtr, abin_sgeq, abin_beql, abin_bneq, abin_p1, abin_p2, abin_p3, abin_p4, abin_p5, abin_p6, abin_s3, abin_s4, abin_s5, abin_s6, abin_f1, abin_f2, abin_f3, abin_f4, abin_feq, abin_fne, cellsEq_nil, cellsEq_s, cellsEq_i, cellsEq_b, aun_not, aun_neg, hget_nil, hget_cons, hset_cons, hkill_cons, hpush_nil, hpush_cons, idx_nil, idx_cons, sub_cons, take_cons, take_nil', put_cons, drop_cons, cells_agg, cells_str, cells_int, cells_bool, cells_ptr, cells_nilptr, cells_nilslice, cells_slice, cells_imm, cells_func, resVals_nil, resVals_t, resVals_cN, resVals_c1, retOf_one, retOf_two, retOf_nil, evOp, isRead, fixOp, ldCell, ldCells, fAddr, iAddr_slice, iAddr_imm, aAddr_ptr, aAddr_iptr, inRange_int, bound_none, bound_int, mayGrow, fillParts, lenSl, topOf, rowF_eq, rowQ_eq, Option.map_some, Option.map_none, Option.bind_some, Option.bind_none, Option.isSome_some, Option.isSome_none, List.map_cons, List.map_nil, List.length_cons, List.length_nil, List.append_nil, List.nil_append, List.cons_append, List.all_cons, List.all_nil, cell_str, cell_int, cell_bool, cell_ptr, cell_iptr, cell_nilptr, cell_nilslice, cell_slice, cell_imm, cell_func, cell_nilfunc, Bool.and_true, Bool.true_and, Bool.and_false, Bool.false_and, Bool.or_true, Bool.true_or, Bool.or_false, Bool.false_or, Bool.not_true, Bool.not_false, Bool.false_eq_true, Bool.true_eq_false, and_true, true_and, and_false, false_and, or_true, true_or, or_false, false_or, not_true_eq_false, not_false_eq_true, decide_true, decide_false, decide_eq_true_eq, if_true, if_false, ite_true, ite_false, ↓reduceIte, Nat.reduceAdd, Nat.reduceSub, Nat.reduceMul, Nat.reduceEqDiff, Nat.reduceLeDiff, Nat.reduceLT, Nat.succ_ne_zero, Nat.zero_add, Nat.add_zero, Nat.zero_mul, Nat.mul_one, Nat.one_mul, Nat.le_refl, Nat.sub_zero, Int.reduceLT, Int.reduceLE, Int.reduceEq, Int.reduceNe, Int.reduceToNat, Int.reduceAdd, Int.reduceSub, Int.toNat_zero, reduceCtorEq, eq_self, ne_eq, beq_self_eq_true, Nat.reduceBEq, Nat.reduceBNe, List.mem_cons, List.not_mem_nil, false_implies, true_implies, implies_true, forall_const, List.drop_zero, List.drop_nil, List.take_zero, List.drop_length, List.length_append, cast_zero, cast_one, Int.cast_ofNat_Int, List.replicate_zero, List.replicate_succ, List.flatten_cons, List.flatten_nil, wrap_one, loopR_exit, loopR_ret, h0, h1, h8, h9, h11, strs_len, lenOf_imm, lenOf_sl, rws_len, a0, a1]
    refine ⟨_, B ++ [0], wv_slice rfl (by simp), .inl ⟨rfl, ?_⟩⟩
    rw [rm]
    simp only [C3_app, y3, x3_0, r3_0, x3_1, r3_1, x3_2, r3_2, x3_3, x3_4, x3_5, x3_6, r3_6, x3_7, r3_7, x3_8, r3_8, x3_9, x3_10, x3_11, r3_11, x3_12, r3_12, x3_13, x3_14, x3_15, r3_15, x3_16, x3_17, x3_19, x3_20, x3_21, r3_21, x3_22, r3_22, x3_23, x3_24, x3_25, x3_26, r3_26, x3_27, r3_27, x3_28, r3_28, x3_29, r3_29, x3_30, x3_31, x3_32, x3_33, r3_33, x3_34, r3_34, x3_35, x3_36, x3_37, x3_38, r3_38, x3_39, r3_39, x3_40, x3_41, x3_42, t3_42, x3_43, r3_43, x3_44, x3_45, x3_46, x3_47, x3_48, r3_48, x3_49, x3_50, x3_52, x3_53, x3_54, r3_54, x3_55, r3_55, x3_56, r3_56, x3_57, r3_57, x3_58, x3_59, x3_60, x3_61, x3_62, x3_63, x3_64, x3_65, x3_66, x3_67, x3_68, x3_69, x3_70, x3_71, sC_skip, sC_exit, sC_ret, condK_true, condK_false, unw_seq_normal, unw_seq_exit, unw_seq_ret, unw_block_normal, unw_block_exit, unw_block_ret, unw_lp_exit, unw_lp_ret, unw_fin, retQ_ret, retQ_normal, retQ_exit, nxt_app, nxtQ_app, nxtL_app, guardK_tt, guardK_ff, guardK_tf, guardK_ft, guardK_u, guardQ_tt, guardQ_ff, guardQ_tf, guardQ_ft, guardQ_u, guardL_tt, guardL_ff, guardL_tf, guardL_ft, guardL_u, sOps_nil, sOps_cons, sOps_guard, sTree_leaf, sTree_stop, sTree_quiet, sTree_loud, sTree_quietG, sTree_loudG, goO_some, goO_none, sOp_call, callvP_func, sOp_callv, putD_some, putD_none, still_nil, still_none, still_cons, sOp_move, sOp_nilCheck, sOp_pick, sOp_alloc, sOp_box, sOp_build, sOp_buildSlice, sOp_load1, sOp_loadN, sOp_store, sOp_bin, sOp_un, sOp_convInt, sOp_convSame, sOp_resame, sOp_toBytes, sOp_ofBytes, sOp_mkfunc, sOp_makeSlice, sOp_sliceStr, sOp_slice, sOp_sliceArr, sOp_fieldAddr, sOp_field1, sOp_fieldN, sOp_indexAddr, sOp_indexArrAddr, sOp_indexStr, sOp_indexArr1, sOp_indexArrN, sOp_extract, sOp_lenStr, sOp_lenSl, sOp_lenArr, sOp_append, sOp_copy, sOp_minmax, sOp_capOf, ev_t, ev_c, argEnv_nil, argEnv_cons, envL_nil, envL_cons, abin_add, abin_sub, abin_mul, abin_quo, abin_rem, abin_eql, abin_neq, abin_lss, abin_leq, abin_gtr, abin_geq, abin_shl, abin_shr, abin_sadd, abin_seql, abin_sneq, abin_slss, abin_sleq, abin_sgtr, abin_sgeq, abin_beql, abin_bneq, abin_p1, abin_p2, abin_p3, abin_p4, abin_p5, abin_p6, abin_s3, abin_s4, abin_s5, abin_s6, abin_f1, abin_f2, abin_f3, abin_f4, abin_feq, abin_fne, cellsEq_nil, cellsEq_s, cellsEq_i, cellsEq_b, aun_not, aun_neg, hget_nil, hget_cons, hset_cons, hkill_cons, hpush_nil, hpush_cons, idx_nil, idx_cons, sub_cons, take_cons, take_nil', put_cons, drop_cons, cells_agg, cells_str, cells_int, cells_bool, cells_ptr, cells_nilptr, cells_nilslice, cells_slice, cells_imm, cells_func, resVals_nil, resVals_t, resVals_cN, resVals_c1, retOf_one, retOf_two, retOf_nil, evOp, isRead, fixOp, ldCell, ldCells, fAddr, iAddr_slice, iAddr_imm, aAddr_ptr, aAddr_iptr, inRange_int, bound_none, bound_int, mayGrow, fillParts, lenSl, topOf, rowF_eq, rowQ_eq, Option.map_some, Option.map_none, Option.bind_some, Option.bind_none, Option.isSome_some, Option.isSome_none, List.map_cons, List.map_nil, List.length_cons, List.length_nil, List.append_nil, List.nil_append, List.cons_append, List.all_cons, List.all_nil, cell_str, cell_int, cell_bool, cell_ptr, cell_iptr, cell_nilptr, cell_nilslice, cell_slice, cell_imm, cell_func, cell_nilfunc, Bool.and_true, Bool.true_and, Bool.and_false, Bool.false_and, Bool.or_true, Bool.true_or, Bool.or_false, Bool.false_or, Bool.not_true, Bool.not_false, Bool.false_eq_true, Bool.true_eq_false, and_true, true_and, and_false, false_and, or_true, true_or, or_false, false_or, not_true_eq_false, not_false_eq_true, decide_true, decide_false, decide_eq_true_eq, if_true, if_false, ite_true, ite_false, ↓reduceIte, Nat.reduceAdd, Nat.reduceSub, Nat.reduceMul, Nat.reduceEqDiff, Nat.reduceLeDiff, Nat.reduceLT, Nat.succ_ne_zero, Nat.zero_add, Nat.add_zero, Nat.zero_mul, Nat.mul_one, Nat.one_mul, Nat.le_refl, Nat.sub_zero, Int.reduceLT, Int.reduceLE, Int.reduceEq, Int.reduceNe, Int.reduceToNat, Int.reduceAdd, Int.reduceSub, Int.toNat_zero, reduceCtorEq, eq_self, ne_eq, beq_self_eq_true, Nat.reduceBEq, Nat.reduceBNe, List.mem_cons, List.not_mem_nil, false_implies, true_implies, implies_true, forall_const, List.drop_zero, List.drop_nil, List.take_zero, List.drop_length, List.length_append, cast_zero, cast_one, Int.cast_ofNat_Int, List.replicate_zero, List.replicate_succ, List.flatten_cons, List.flatten_nil, wrap_one, loopR_exit, loopR_ret, h0, h1, h8, h9, h11, strs_len, lenOf_imm, lenOf_sl, rws_len]
    refine ⟨_, B, wv_imm, .inr ⟨rfl, ?_⟩⟩
    simp only [C3_app, y3, x3_0, r3_0, x3_1, r3_1, x3_2, r3_2, x3_3, x3_4, x3_5, x3_6, r3_6, x3_7, r3_7, x3_8, r3_8, x3_9, x3_10, x3_11, r3_11, x3_12, r3_12, x3_13, x3_14, x3_15, r3_15, x3_16, x3_17, x3_19, x3_20, x3_21, r3_21, x3_22, r3_22, x3_23, x3_24, x3_25, x3_26, r3_26, x3_27, r3_27, x3_28, r3_28, x3_29, r3_29, x3_30, x3_31, x3_32, x3_33, r3_33, x3_34, r3_34, x3_35, x3_36, x3_37, x3_38, r3_38, x3_39, r3_39, x3_40, x3_41, x3_42, t3_42, x3_43, r3_43, x3_44, x3_45, x3_46, x3_47, x3_48, r3_48, x3_49, x3_50, x3_52, x3_53, x3_54, r3_54, x3_55, r3_55, x3_56, r3_56, x3_57, r3_57, x3_58, x3_59, x3_60, x3_61, x3_62, x3_63, x3_64, x3_65, x3_66, x3_67, x3_68, x3_69, x3_70, x3_71, sC_skip, sC_exit, sC_ret, condK_true, condK_false, unw_seq_normal, unw_seq_exit, unw_seq_ret, unw_block_normal, unw_block_exit, unw_block_ret, unw_lp_exit, unw_lp_ret, unw_fin, retQ_ret, retQ_normal, retQ_exit, nxt_app, nxtQ_app, nxtL_app, guardK_tt, guardK_ff, guardK_tf, guardK_ft, guardK_u, guardQ_tt, guardQ_ff, guardQ_tf, guardQ_ft, guardQ_u, guardL_tt, guardL_ff, guardL_tf, guardL_ft, guardL_u, sOps_nil, sOps_cons, sOps_guard, sTree_leaf, sTree_stop, sTree_quiet, sTree_loud, sTree_quietG, sTree_loudG, goO_some, goO_none, sOp_call, callvP_func, sOp_callv, putD_some, putD_none, still_nil, still_none, still_cons, sOp_move, sOp_nilCheck, sOp_pick, sOp_alloc, sOp_box, sOp_build, sOp_buildSlice, sOp_load1, sOp_loadN, sOp_store, sOp_bin, sOp_un, sOp_convInt, sOp_convSame, sOp_resame, sOp_toBytes, sOp_ofBytes, sOp_mkfunc, sOp_makeSlice, sOp_sliceStr, sOp_slice, sOp_sliceArr, sOp_fieldAddr, sOp_field1, sOp_fieldN, sOp_indexAddr, sOp_indexArrAddr, sOp_indexStr, sOp_indexArr1, sOp_indexArrN, sOp_extract, sOp_lenStr, sOp_lenSl, sOp_lenArr, sOp_append, sOp_copy, sOp_minmax, sOp_capOf, ev_t, ev_c, argEnv_nil, argEnv_cons, envL_nil, envL_cons, abin_add, abin_sub, abin_mul, abin_quo, abin_rem, abin_eql, abin_neq, abin_lss, abin_leq, abin_gtr, abin_geq, abin_shl, abin_shr, abin_sadd, abin_seql, abin_sneq, abin_slss, abin_sleq, abin_sgtr, abin_sgeq, abin_beql, abin_bneq, abin_p1, abin_p2, abin_p3, abin_p4, abin_p5, abin_p6, abin_s3, abin_s4, abin_s5, abin_s6, abin_f1, abin_f2, abin_f3, abin_f4, abin_feq, abin_fne, cellsEq_nil, cellsEq_s, cellsEq_i, cellsEq_b, aun_not, aun_neg, hget_nil, hget_cons, hset_cons, hkill_cons, hpush_nil, hpush_cons, idx_nil, idx_cons, sub_cons, take_cons, take_nil', put_cons, drop_cons, cells_agg, cells_str, cells_int, cells_bool, cells_ptr, cells_nilptr, cells_nilslice, cells_slice, cells_imm, cells_func, resVals_nil, resVals_t, resVals_cN, resVals_c1, retOf_one, retOf_two, retOf_nil, evOp, isRead, fixOp, ldCell, ldCells, fAddr, iAddr_slice, iAddr_imm, aAddr_ptr, aAddr_iptr, inRange_int, bound_none, bound_int, mayGrow, fillParts, lenSl, topOf, rowF_eq, rowQ_eq, Option.map_some, Option.map_none, Option.bind_some, Option.bind_none, Option.isSome_some, Option.isSome_none, List.map_cons, List.map_nil, List.length_cons, List.length_nil, List.append_nil, List.nil_append, List.cons_append, List.all_cons, List.all_nil, cell_str, cell_int, cell_bool, cell_ptr, cell_iptr, cell_nilptr, cell_nilslice, cell_slice, cell_imm, cell_func, cell_nilfunc, Bool.and_true, Bool.true_and, Bool.and_false, Bool.false_and, Bool.or_true, Bool.true_or, Bool.or_false, Bool.false_or, Bool.not_true, Bool.not_false, Bool.false_eq_true, Bool.true_eq_false, and_true, true_and, and_false, false_and, or_true, true_or, or_false, false_or, not_true_eq_false, not_false_eq_true, decide_true, decide_false, decide_eq_true_eq, if_true, if_false, ite_true, ite_false, ↓reduceIte, Nat.reduceAdd, Nat.reduceSub, Nat.reduceMul, Nat.reduceEqDiff, Nat.reduceLeDiff, Nat.reduceLT, Nat.succ_ne_zero, Nat.zero_add, Nat.add_zero, Nat.zero_mul, Nat.mul_one, Nat.one_mul, Nat.le_refl, Nat.sub_zero, Int.reduceLT, Int.reduceLE, Int.reduceEq, Int.reduceNe, Int.reduceToNat, Int.reduceAdd, Int.reduceSub, Int.toNat_zero, reduceCtorEq, eq_self, ne_eq, beq_self_eq_true, Nat.reduceBEq, Nat.reduceBNe, List.mem_cons, List.not_mem_nil, false_implies, true_implies, implies_true, forall_const, List.drop_zero, List.drop_nil, List.take_zero, List.drop_length, List.length_append, cast_zero, cast_one, Int.cast_ofNat_Int, List.replicate_zero, List.replicate_succ, List.flatten_cons, List.flatten_nil, wrap_one, loopR_exit, loopR_ret, h0, h1, h8, h9, h11, strs_len, lenOf_imm, lenOf_sl, rws_len]
    refine ⟨ss, false, false, .inr ⟨rfl, ?_⟩⟩
    simp only [C3_app, y3, x3_0, r3_0, x3_1, r3_1, x3_2, r3_2, x3_3, x3_4, x3_5, x3_6, r3_6, x3_7, r3_7, x3_8, r3_8, x3_9, x3_10, x3_11, r3_11, x3_12, r3_12, x3_13, x3_14, x3_15, r3_15, x3_16, x3_17, x3_19, x3_20, x3_21, r3_21, x3_22, r3_22, x3_23, x3_24, x3_25, x3_26, r3_26, x3_27, r3_27, x3_28, r3_28, x3_29, r3_29, x3_30, x3_31, x3_32, x3_33, r3_33, x3_34, r3_34, x3_35, x3_36, x3_37, x3_38, r3_38, x3_39, r3_39, x3_40, x3_41, x3_42, t3_42, x3_43, r3_43, x3_44, x3_45, x3_46, x3_47, x3_48, r3_48, x3_49, x3_50, x3_52, x3_53, x3_54, r3_54, x3_55, r3_55, x3_56, r3_56, x3_57, r3_57, x3_58, x3_59, x3_60, x3_61, x3_62, x3_63, x3_64, x3_65, x3_66, x3_67, x3_68, x3_69, x3_70, x3_71, sC_skip, sC_exit, sC_ret, condK_true, condK_false, unw_seq_normal, unw_seq_exit, unw_seq_ret, unw_block_normal, unw_block_exit, unw_block_ret, unw_lp_exit, unw_lp_ret, unw_fin, retQ_ret, retQ_normal, retQ_exit, nxt_app, nxtQ_app, nxtL_app, guardK_tt, guardK_ff, guardK_tf, guardK_ft, guardK_u, guardQ_tt, guardQ_ff, guardQ_tf, guardQ_ft, guardQ_u, guardL_tt, guardL_ff, guardL_tf, guardL_ft, guardL_u, sOps_nil, sOps_cons, sOps_guard, sTree_leaf, sTree_stop, sTree_quiet, sTree_loud, sTree_quietG, sTree_loudG, goO_some, goO_none, sOp_call, callvP_func, sOp_callv, putD_some, putD_none, still_nil, still_none, still_cons, sOp_move, sOp_nilCheck, sOp_pick, sOp_alloc, sOp_box, sOp_build, sOp_buildSlice, sOp_load1, sOp_loadN, sOp_store, sOp_bin, sOp_un, sOp_convInt, sOp_convSame, sOp_resame, sOp_toBytes, sOp_ofBytes, sOp_mkfunc, sOp_makeSlice, sOp_sliceStr, sOp_slice, sOp_sliceArr, sOp_fieldAddr, sOp_field1, sOp_fieldN, sOp_indexAddr, sOp_indexArrAddr, sOp_indexStr, sOp_indexArr1, sOp_indexArrN, sOp_extract, sOp_lenStr, sOp_lenSl, sOp_lenArr, sOp_append, sOp_copy, sOp_minmax, sOp_capOf, ev_t, ev_c, argEnv_nil, argEnv_cons, envL_nil, envL_cons, abin_add, abin_sub, abin_mul, abin_quo, abin_rem, abin_eql, abin_neq, abin_lss, abin_leq, abin_gtr, abin_geq, abin_shl, abin_shr, abin_sadd, abin_seql, abin_sneq, abin_slss, abin_sleq, abin_sgtr, abin_sgeq, abin_beql, abin_bneq, abin_p1, abin_p2, abin_p3, abin_p4, abin_p5, abin_p6, abin_s3, abin_s4, abin_s5, abin_s6, abin_f1, abin_f2, abin_f3, abin_f4, abin_feq, abin_fne, cellsEq_nil, cellsEq_s, cellsEq_i, cellsEq_b, aun_not, aun_neg, hget_nil, hget_cons, hset_cons, hkill_cons, hpush_nil, hpush_cons, idx_nil, idx_cons, sub_cons, take_cons, take_nil', put_cons, drop_cons, cells_agg, cells_str, cells_int, cells_bool, cells_ptr, cells_nilptr, cells_nilslice, cells_slice, cells_imm, cells_func, resVals_nil, resVals_t, resVals_cN, resVals_c1, retOf_one, retOf_two, retOf_nil, evOp, isRead, fixOp, ldCell, ldCells, fAddr, iAddr_slice, iAddr_imm, aAddr_ptr, aAddr_iptr, inRange_int, bound_none, bound_int, mayGrow, fillParts, lenSl, topOf, rowF_eq, rowQ_eq, Option.map_some, Option.map_none, Option.bind_some, Option.bind_none, Option.isSome_some, Option.isSome_none, List.map_cons, List.map_nil, List.length_cons, List.length_nil, List.append_nil, List.nil_append, List.cons_append, List.all_cons, List.all_nil, cell_str, cell_int, cell_bool, cell_ptr, cell_iptr, cell_nilptr, cell_nilslice, cell_slice, cell_imm, cell_func, cell_nilfunc, Bool.and_true, Bool.true_and, Bool.and_false, Bool.false_and, Bool.or_true, Bool.true_or, Bool.or_false, Bool.false_or, Bool.not_true, Bool.not_false, Bool.false_eq_true, Bool.true_eq_false, and_true, true_and, and_false, false_and, or_true, true_or, or_false, false_or, not_true_eq_false, not_false_eq_true, decide_true, decide_false, decide_eq_true_eq, if_true, if_false, ite_true, ite_false, ↓reduceIte, Nat.reduceAdd, Nat.reduceSub, Nat.reduceMul, Nat.reduceEqDiff, Nat.reduceLeDiff, Nat.reduceLT, Nat.succ_ne_zero, Nat.zero_add, Nat.add_zero, Nat.zero_mul, Nat.mul_one, Nat.one_mul, Nat.le_refl, Nat.sub_zero, Int.reduceLT, Int.reduceLE, Int.reduceEq, Int.reduceNe, Int.reduceToNat, Int.reduceAdd, Int.reduceSub, Int.toNat_zero, reduceCtorEq, eq_self, ne_eq, beq_self_eq_true, Nat.reduceBEq, Nat.reduceBNe, List.mem_cons, List.not_mem_nil, false_implies, true_implies, implies_true, forall_const, List.drop_zero, List.drop_nil, List.take_zero, List.drop_length, List.length_append, cast_zero, cast_one, Int.cast_ofNat_Int, List.replicate_zero, List.replicate_succ, List.flatten_cons, List.flatten_nil, wrap_one, loopR_exit, loopR_ret, h0, h1, h8, h9, h11, strs_len, lenOf_imm, lenOf_sl, lenOf_nil, rws_len]
    exact yes_true
theorem rest (ss : List (List UInt8)) (cut : Int) (hc0 : 0 ≤ cut) (hc1 : cut ≤ 65535) (v : Int) (b : Bool) (hv : ss.length ≤ 200 → v = sumS ss ∧ b = fineS ss) (e : Env) (h0 : e 0 = .imm (strs ss) false false) (h1 : e 1 = .int .u16 cut) (h5 : e 5 = .int .i64 v) (h6 : e 6 = .bool b) :
    sC C3 0 b3_67 (unw C3 0 (RetQ [MRes.t 4] Yes) .fin) e [] := by
  cases hl2 : decide ((200 : Int) < (ss.length : Int))
  rotate_left
  · simp only [C3_app, y3, x3_0, r3_0, x3_1, r3_1, x3_2, r3_2, x3_3, x3_4, x3_5, x3_6, r3_6, x3_7, r3_7, x3_8, r3_8, x3_9, x3_10, x3_11, r3_11, x3_12, r3_12, x3_13, x3_14, x3_15, r3_15, x3_16, x3_17, x3_19, x3_20, x3_21, r3_21, x3_22, r3_22, x3_23, x3_24, x3_25, x3_26, r3_26, x3_27, r3_27, x3_28, r3_28, x3_29, r3_29, x3_30, x3_31, x3_32, x3_33, r3_33, x3_34, r3_34, x3_35, x3_36, x3_37, x3_38, r3_38, x3_39, r3_39, x3_40, x3_41, x3_42, t3_42, x3_43, r3_43, x3_44, x3_45, x3_46, x3_47, x3_48, r3_48, x3_49, x3_50, x3_52, x3_53, x3_54, r3_54, x3_55, r3_55, x3_56, r3_56, x3_57, r3_57, x3_58, x3_59, x3_60, x3_61, x3_62, x3_63, x3_64, x3_65, x3_66, x3_67, x3_68, x3_69, x3_70, x3_71, sC_skip, sC_exit, sC_ret, condK_true, condK_false, unw_seq_normal, unw_seq_exit, unw_seq_ret, unw_block_normal, unw_block_exit, unw_block_ret, unw_lp_exit, unw_lp_ret, unw_fin, retQ_ret, retQ_normal, retQ_exit, nxt_app, nxtQ_app, nxtL_app, guardK_tt, guardK_ff, guardK_tf, guardK_ft, guardK_u, guardQ_tt, guardQ_ff, guardQ_tf, guardQ_ft, guardQ_u, guardL_tt, guardL_ff, guardL_tf, guardL_ft, guardL_u, sOps_nil, sOps_cons, sOps_guard, sTree_leaf, sTree_stop, sTree_quiet, sTree_loud, sTree_quietG, sTree_loudG, goO_some, goO_none, sOp_call, callvP_func, sOp_callv, putD_some, putD_none, still_nil, still_none, still_cons, sOp_move, sOp_nilCheck, sOp_pick, sOp_alloc, sOp_box, sOp_build, sOp_buildSlice, sOp_load1, sOp_loadN, sOp_store, sOp_bin, sOp_un, sOp_convInt, sOp_convSame, sOp_resame, sOp_toBytes, sOp_ofBytes, sOp_mkfunc, sOp_makeSlice, sOp_sliceStr, sOp_slice, sOp_sliceArr, sOp_fieldAddr, sOp_field1, sOp_fieldN, sOp_indexAddr, sOp_indexArrAddr, sOp_indexStr, sOp_indexArr1, sOp_indexArrN, sOp_extract, sOp_lenStr, sOp_lenSl, sOp_lenArr, sOp_append, sOp_copy, sOp_minmax, sOp_capOf, ev_t, ev_c, argEnv_nil, argEnv_cons, envL_nil, envL_cons, abin_add, abin_sub, abin_mul, abin_quo, abin_rem, abin_eql, abin_neq, abin_lss, abin_leq, abin_gtr, abin_geq, abin_shl, abin_shr, abin_sadd, abin_seql, abin_sneq, abin_slss, abin_sleq, abin_sgtr, abin_sgeq, abin_beql, abin_bneq, abin_p1, abin_p2, abin_p3, abin_p4, abin_p5, abin_p6, abin_s3, abin_s4, abin_s5, abin_s6, abin_f1, abin_f2, abin_f3, abin_f4, abin_feq, abin_fne, cellsEq_nil, cellsEq_s, cellsEq_i, cellsEq_b, aun_not, aun_neg, hget_nil, hget_cons, hset_cons, hkill_cons, hpush_nil, hpush_cons, idx_nil, idx_cons, sub_cons, take_cons, take_nil', put_cons, drop_cons, cells_agg, cells_str, cells_int, cells_bool, cells_ptr, cells_nilptr, cells_nilslice, cells_slice, cells_imm, cells_func, resVals_nil, resVals_t, resVals_cN, resVals_c1, retOf_one, retOf_two, retOf_nil, evOp, isRead, fixOp, ldCell, ldCells, fAddr, iAddr_slice, iAddr_imm, aAddr_ptr, aAddr_iptr, inRange_int, bound_none, bound_int, mayGrow, fillParts, lenSl, topOf, rowF_eq, rowQ_eq, Option.map_some, Option.map_none, Option.bind_some, Option.bind_none, Option.isSome_some, Option.isSome_none, List.map_cons, List.map_nil, List.length_cons, List.length_nil, List.append_nil, List.nil_append, List.cons_append, List.all_cons, List.all_nil, cell_str, cell_int, cell_bool, cell_ptr, cell_iptr, cell_nilptr, cell_nilslice, cell_slice, cell_imm, cell_func, cell_nilfunc, Bool.and_true, Bool.true_and, Bool.and_false, Bool.false_and, Bool.or_true, Bool.true_or, Bool.or_false, Bool.false_or, Bool.not_true, Bool.not_false, Bool.false_eq_true, Bool.true_eq_false, and_true, true_and, and_false, false_and, or_true, true_or, or_false, false_or, not_true_eq_false, not_false_eq_true, decide_true, decide_false, decide_eq_true_eq, if_true, if_false, ite_true, ite_false, ↓reduceIte, Nat.reduceAdd, Nat.reduceSub, Nat.reduceMul, Nat.reduceEqDiff, Nat.reduceLeDiff, Nat.reduceLT, Nat.succ_ne_zero, Nat.zero_add, Nat.add_zero, Nat.zero_mul, Nat.mul_one, Nat.one_mul, Nat.le_refl, Nat.sub_zero, Int.reduceLT, Int.reduceLE, Int.reduceEq, Int.reduceNe, Int.reduceToNat, Int.reduceAdd, Int.reduceSub, Int.toNat_zero, reduceCtorEq, eq_self, ne_eq, beq_self_eq_true, Nat.reduceBEq, Nat.reduceBNe, List.mem_cons, List.not_mem_nil, false_implies, true_implies, implies_true, forall_const, List.drop_zero, List.drop_nil, List.take_zero, List.drop_length, List.length_append, cast_zero, cast_one, Int.cast_ofNat_Int, List.replicate_zero, List.replicate_succ, List.flatten_cons, List.flatten_nil, wrap_one, h0, h1, h5, h6, hl2, lenOf_imm, strs_len]
    exact yes_true
  cases hs2 : decide ((5000 : Int) < v)
  rotate_left
  · simp only [C3_app, y3, x3_0, r3_0, x3_1, r3_1, x3_2, r3_2, x3_3, x3_4, x3_5, x3_6, r3_6, x3_7, r3_7, x3_8, r3_8, x3_9, x3_10, x3_11, r3_11, x3_12, r3_12, x3_13, x3_14, x3_15, r3_15, x3_16, x3_17, x3_19, x3_20, x3_21, r3_21, x3_22, r3_22, x3_23, x3_24, x3_25, x3_26, r3_26, x3_27, r3_27, x3_28, r3_28, x3_29, r3_29, x3_30, x3_31, x3_32, x3_33, r3_33, x3_34, r3_34, x3_35, x3_36, x3_37, x3_38, r3_38, x3_39, r3_39, x3_40, x3_41, x3_42, t3_42, x3_43, r3_43, x3_44, x3_45, x3_46, x3_47, x3_48, r3_48, x3_49, x3_50, x3_52, x3_53, x3_54, r3_54, x3_55, r3_55, x3_56, r3_56, x3_57, r3_57, x3_58, x3_59, x3_60, x3_61, x3_62, x3_63, x3_64, x3_65, x3_66, x3_67, x3_68, x3_69, x3_70, x3_71, sC_skip, sC_exit, sC_ret, condK_true, condK_false, unw_seq_normal, unw_seq_exit, unw_seq_ret, unw_block_normal, unw_block_exit, unw_block_ret, unw_lp_exit, unw_lp_ret, unw_fin, retQ_ret, retQ_normal, retQ_exit, nxt_app, nxtQ_app, nxtL_app, guardK_tt, guardK_ff, guardK_tf, guardK_ft, guardK_u, guardQ_tt, guardQ_ff, guardQ_tf, guardQ_ft, guardQ_u, guardL_tt, guardL_ff, guardL_tf, guardL_ft, guardL_u, sOps_nil, sOps_cons, sOps_guard, sTree_leaf, sTree_stop, sTree_quiet, sTree_loud, sTree_quietG, sTree_loudG, goO_some, goO_none, sOp_call, callvP_func, sOp_callv, putD_some, putD_none, still_nil, still_none, still_cons, sOp_move, sOp_nilCheck, sOp_pick, sOp_alloc, sOp_box, sOp_build, sOp_buildSlice, sOp_load1, sOp_loadN, sOp_store, sOp_bin, sOp_un, sOp_convInt, sOp_convSame, sOp_resame, sOp_toBytes, sOp_ofBytes, sOp_mkfunc, sOp_makeSlice, sOp_sliceStr, sOp_slice, sOp_sliceArr, sOp_fieldAddr, sOp_field1, sOp_fieldN, sOp_indexAddr, sOp_indexArrAddr, sOp_indexStr, sOp_indexArr1, sOp_indexArrN, sOp_extract, sOp_lenStr, sOp_lenSl, sOp_lenArr, sOp_append, sOp_copy, sOp_minmax, sOp_capOf, ev_t, ev_c, argEnv_nil, argEnv_cons, envL_nil, envL_cons, abin_add, abin_sub, abin_mul, abin_quo, abin_rem, abin_eql, abin_neq, abin_lss, abin_leq, abin_gtr, abin_geq, abin_shl, abin_shr, abin_sadd, abin_seql, abin_sneq, abin_slss, abin_sleq, abin_sgtr, abin_sgeq, abin_beql, abin_bneq, abin_p1, abin_p2, abin_p3, abin_p4, abin_p5, abin_p6, abin_s3, abin_s4, abin_s5, abin_s6, abin_f1, abin_f2, abin_f3, abin_f4, abin_feq, abin_fne, cellsEq_nil, cellsEq_s, cellsEq_i, cellsEq_b, aun_not, aun_neg, hget_nil, hget_cons, hset_cons, hkill_cons, hpush_nil, hpush_cons, idx_nil, idx_cons, sub_cons, take_cons, take_nil', put_cons, drop_cons, cells_agg, cells_str, cells_int, cells_bool, cells_ptr, cells_nilptr, cells_nilslice, cells_slice, cells_imm, cells_func, resVals_nil, resVals_t, resVals_cN, resVals_c1, retOf_one, retOf_two, retOf_nil, evOp, isRead, fixOp, ldCell, ldCells, fAddr, iAddr_slice, iAddr_imm, aAddr_ptr, aAddr_iptr, inRange_int, bound_none, bound_int, mayGrow, fillParts, lenSl, topOf, rowF_eq, rowQ_eq, Option.map_some, Option.map_none, Option.bind_some, Option.bind_none, Option.isSome_some, Option.isSome_none, List.map_cons, List.map_nil, List.length_cons, List.length_nil, List.append_nil, List.nil_append, List.cons_append, List.all_cons, List.all_nil, cell_str, cell_int, cell_bool, cell_ptr, cell_iptr, cell_nilptr, cell_nilslice, cell_slice, cell_imm, cell_func, cell_nilfunc, Bool.and_true, Bool.true_and, Bool.and_false, Bool.false_and, Bool.or_true, Bool.true_or, Bool.or_false, Bool.false_or, Bool.not_true, Bool.not_false, Bool.false_eq_true, Bool.true_eq_false, and_true, true_and, and_false, false_and, or_true, true_or, or_false, false_or, not_true_eq_false, not_false_eq_true, decide_true, decide_false, decide_eq_true_eq, if_true, if_false, ite_true, ite_false, ↓reduceIte, Nat.reduceAdd, Nat.reduceSub, Nat.reduceMul, Nat.reduceEqDiff, Nat.reduceLeDiff, Nat.reduceLT, Nat.succ_ne_zero, Nat.zero_add, Nat.add_zero, Nat.zero_mul, Nat.mul_one, Nat.one_mul, Nat.le_refl, Nat.sub_zero, Int.reduceLT, Int.reduceLE, Int.reduceEq, Int.reduceNe, Int.reduceToNat, Int.reduceAdd, Int.reduceSub, Int.toNat_zero, reduceCtorEq, eq_self, ne_eq, beq_self_eq_true, Nat.reduceBEq, Nat.reduceBNe, List.mem_cons, List.not_mem_nil, false_implies, true_implies, implies_true, forall_const, List.drop_zero, List.drop_nil, List.take_zero, List.drop_length, List.length_append, cast_zero, cast_one, Int.cast_ofNat_Int, List.replicate_zero, List.replicate_succ, List.flatten_cons, List.flatten_nil, wrap_one, h0, h1, h5, h6, hl2, hs2, lenOf_imm, strs_len]
    exact yes_true
  have hl : ss.length ≤ 200 := by rw [decide_eq_false_iff_not] at hl2; omega
  obtain ⟨rfl, rfl⟩ := hv hl
  have hs : sumS ss ≤ 5000 := by rw [decide_eq_false_iff_not] at hs2; omega
  have htot := tot_eq ss
  have hw1 : IntKind.wrap .i64 (4 * (ss.length : Int)) = 4 * (ss.length : Int) := Gz.wrap64 (by omega)
  have hw2 : IntKind.wrap .i64 (4 + 4 * (ss.length : Int)) = 4 + 4 * (ss.length : Int) := Gz.wrap64 (by omega)
  have hsn := sumS_nonneg ss
  have hw3 : IntKind.wrap .i64 (4 + 4 * (ss.length : Int) + sumS ss) = ((lstB ss).length : Int) := by
    have e1 : ((lstB ss).length : Int) = 4 + 4 * (ss.length : Int) + sumS ss := by simp only [lstB, List.length_append, u32_len]; omega
    rw [e1]; exact Gz.wrap64 (by omega)
  simp only [C3_app, y3, x3_0, r3_0, x3_1, r3_1, x3_2, r3_2, x3_3, x3_4, x3_5, x3_6, r3_6, x3_7, r3_7, x3_8, r3_8, x3_9, x3_10, x3_11, r3_11, x3_12, r3_12, x3_13, x3_14, x3_15, r3_15, x3_16, x3_17, x3_19, x3_20, x3_21, r3_21, x3_22, r3_22, x3_23, x3_24, x3_25, x3_26, r3_26, x3_27, r3_27, x3_28, r3_28, x3_29, r3_29, x3_30, x3_31, x3_32, x3_33, r3_33, x3_34, r3_34, x3_35, x3_36, x3_37, x3_38, r3_38, x3_39, r3_39, x3_40, x3_41, x3_42, t3_42, x3_43, r3_43, x3_44, x3_45, x3_46, x3_47, x3_48, r3_48, x3_49, x3_50, x3_52, x3_53, x3_54, r3_54, x3_55, r3_55, x3_56, r3_56, x3_57, r3_57, x3_58, x3_59, x3_60, x3_61, x3_62, x3_63, x3_64, x3_65, x3_66, x3_67, x3_68, x3_69, x3_70, x3_71, sC_skip, sC_exit, sC_ret, condK_true, condK_false, unw_seq_normal, unw_seq_exit, unw_seq_ret, unw_block_normal, unw_block_exit, unw_block_ret, unw_lp_exit, unw_lp_ret, unw_fin, retQ_ret, retQ_normal, retQ_exit, nxt_app, nxtQ_app, nxtL_app, guardK_tt, guardK_ff, guardK_tf, guardK_ft, guardK_u, guardQ_tt, guardQ_ff, guardQ_tf, guardQ_ft, guardQ_u, guardL_tt, guardL_ff, guardL_tf, guardL_ft, guardL_u, sOps_nil, sOps_cons, sOps_guard, sTree_leaf, sTree_stop, sTree_quiet, sTree_loud, sTree_quietG, sTree_loudG, goO_some, goO_none, sOp_call, callvP_func, sOp_callv, putD_some, putD_none, still_nil, still_none, still_cons, sOp_move, sOp_nilCheck, sOp_pick, sOp_alloc, sOp_box, sOp_build, sOp_buildSlice, sOp_load1, sOp_loadN, sOp_store, sOp_bin, sOp_un, sOp_convInt, sOp_convSame, sOp_resame, sOp_toBytes, sOp_ofBytes, sOp_mkfunc, sOp_makeSlice, sOp_sliceStr, sOp_slice, sOp_sliceArr, sOp_fieldAddr, sOp_field1, sOp_fieldN, sOp_indexAddr, sOp_indexArrAddr, sOp_indexStr, sOp_indexArr1, sOp_indexArrN, sOp_extract, sOp_lenStr, sOp_lenSl, sOp_lenArr, sOp_append, sOp_copy, sOp_minmax, sOp_capOf, ev_t, ev_c, argEnv_nil, argEnv_cons, envL_nil, envL_cons, abin_add, abin_sub, abin_mul, abin_quo, abin_rem, abin_eql, abin_neq, abin_lss, abin_leq, abin_gtr, abin_geq, abin_shl, abin_shr, abin_sadd, abin_seql, abin_sneq, abin_slss, abin_sleq, abin_sgtr, abin_sgeq, abin_beql, abin_bneq, abin_p1, abin_p2, abin_p3, abin_p4, abin_p5, abin_p6, abin_s3, abin_s4, abin_s5, abin_s6, abin_f1, abin_f2, abin_f3, abin_f4, abin_feq, abin_fne, cellsEq_nil, cellsEq_s, cellsEq_i, cellsEq_b, aun_not, aun_neg, hget_nil, hget_cons, hset_cons, hkill_cons, hpush_nil, hpush_cons, idx_nil, idx_cons, sub_cons, take_cons, take_nil', put_cons, drop_cons, cells_agg, cells_str, cells_int, cells_bool, cells_ptr, cells_nilptr, cells_nilslice, cells_slice, cells_imm, cells_func, resVals_nil, resVals_t, resVals_cN, resVals_c1, retOf_one, retOf_two, retOf_nil, evOp, isRead, fixOp, ldCell, ldCells, fAddr, iAddr_slice, iAddr_imm, aAddr_ptr, aAddr_iptr, inRange_int, bound_none, bound_int, mayGrow, fillParts, lenSl, topOf, rowF_eq, rowQ_eq, Option.map_some, Option.map_none, Option.bind_some, Option.bind_none, Option.isSome_some, Option.isSome_none, List.map_cons, List.map_nil, List.length_cons, List.length_nil, List.append_nil, List.nil_append, List.cons_append, List.all_cons, List.all_nil, cell_str, cell_int, cell_bool, cell_ptr, cell_iptr, cell_nilptr, cell_nilslice, cell_slice, cell_imm, cell_func, cell_nilfunc, Bool.and_true, Bool.true_and, Bool.and_false, Bool.false_and, Bool.or_true, Bool.true_or, Bool.or_false, Bool.false_or, Bool.not_true, Bool.not_false, Bool.false_eq_true, Bool.true_eq_false, and_true, true_and, and_false, false_and, or_true, true_or, or_false, false_or, not_true_eq_false, not_false_eq_true, decide_true, decide_false, decide_eq_true_eq, if_true, if_false, ite_true, ite_false, ↓reduceIte, Nat.reduceAdd, Nat.reduceSub, Nat.reduceMul, Nat.reduceEqDiff, Nat.reduceLeDiff, Nat.reduceLT, Nat.succ_ne_zero, Nat.zero_add, Nat.add_zero, Nat.zero_mul, Nat.mul_one, Nat.one_mul, Nat.le_refl, Nat.sub_zero, Int.reduceLT, Int.reduceLE, Int.reduceEq, Int.reduceNe, Int.reduceToNat, Int.reduceAdd, Int.reduceSub, Int.toNat_zero, reduceCtorEq, eq_self, ne_eq, beq_self_eq_true, Nat.reduceBEq, Nat.reduceBNe, List.mem_cons, List.not_mem_nil, false_implies, true_implies, implies_true, forall_const, List.drop_zero, List.drop_nil, List.take_zero, List.drop_length, List.length_append, cast_zero, cast_one, Int.cast_ofNat_Int, List.replicate_zero, List.replicate_succ, List.flatten_cons, List.flatten_nil, wrap_one, h0, h1, h5, h6, hl2, hs2, lenOf_imm, strs_len]
  refine ⟨ss, false, false, .inl ⟨rfl, by unfold total; omega, by omega, ?_⟩⟩
  simp only [C3_app, y3, x3_0, r3_0, x3_1, r3_1, x3_2, r3_2, x3_3, x3_4, x3_5, x3_6, r3_6, x3_7, r3_7, x3_8, r3_8, x3_9, x3_10, x3_11, r3_11, x3_12, r3_12, x3_13, x3_14, x3_15, r3_15, x3_16, x3_17, x3_19, x3_20, x3_21, r3_21, x3_22, r3_22, x3_23, x3_24, x3_25, x3_26, r3_26, x3_27, r3_27, x3_28, r3_28, x3_29, r3_29, x3_30, x3_31, x3_32, x3_33, r3_33, x3_34, r3_34, x3_35, x3_36, x3_37, x3_38, r3_38, x3_39, r3_39, x3_40, x3_41, x3_42, t3_42, x3_43, r3_43, x3_44, x3_45, x3_46, x3_47, x3_48, r3_48, x3_49, x3_50, x3_52, x3_53, x3_54, r3_54, x3_55, r3_55, x3_56, r3_56, x3_57, r3_57, x3_58, x3_59, x3_60, x3_61, x3_62, x3_63, x3_64, x3_65, x3_66, x3_67, x3_68, x3_69, x3_70, x3_71, sC_skip, sC_exit, sC_ret, condK_true, condK_false, unw_seq_normal, unw_seq_exit, unw_seq_ret, unw_block_normal, unw_block_exit, unw_block_ret, unw_lp_exit, unw_lp_ret, unw_fin, retQ_ret, retQ_normal, retQ_exit, nxt_app, nxtQ_app, nxtL_app, guardK_tt, guardK_ff, guardK_tf, guardK_ft, guardK_u, guardQ_tt, guardQ_ff, guardQ_tf, guardQ_ft, guardQ_u, guardL_tt, guardL_ff, guardL_tf, guardL_ft, guardL_u, sOps_nil, sOps_cons, sOps_guard, sTree_leaf, sTree_stop, sTree_quiet, sTree_loud, sTree_quietG, sTree_loudG, goO_some, goO_none, sOp_call, callvP_func, sOp_callv, putD_some, putD_none, still_nil, still_none, still_cons, sOp_move, sOp_nilCheck, sOp_pick, sOp_alloc, sOp_box, sOp_build, sOp_buildSlice, sOp_load1, sOp_loadN, sOp_store, sOp_bin, sOp_un, sOp_convInt, sOp_convSame, sOp_resame, sOp_toBytes, sOp_ofBytes, sOp_mkfunc, sOp_makeSlice, sOp_sliceStr, sOp_slice, sOp_sliceArr, sOp_fieldAddr, sOp_field1, sOp_fieldN, sOp_indexAddr, sOp_indexArrAddr, sOp_indexStr, sOp_indexArr1, sOp_indexArrN, sOp_extract, sOp_lenStr, sOp_lenSl, sOp_lenArr, sOp_append, sOp_copy, sOp_minmax, sOp_capOf, ev_t, ev_c, argEnv_nil, argEnv_cons, envL_nil, envL_cons, abin_add, abin_sub, abin_mul, abin_quo, abin_rem, abin_eql, abin_neq, abin_lss, abin_leq, abin_gtr, abin_geq, abin_shl, abin_shr, abin_sadd, abin_seql, abin_sneq, abin_slss, abin_sleq, abin_sgtr, abin_sgeq, abin_beql, abin_bneq, abin_p1, abin_p2, abin_p3, abin_p4, abin_p5, abin_p6, abin_s3, abin_s4, abin_s5, abin_s6, abin_f1, abin_f2, abin_f3, abin_f4, abin_feq, abin_fne, cellsEq_nil, cellsEq_s, cellsEq_i, cellsEq_b, aun_not, aun_neg, hget_nil, hget_cons, hset_cons, hkill_cons, hpush_nil, hpush_cons, idx_nil, idx_cons, sub_cons, take_cons, take_nil', put_cons, drop_cons, cells_agg, cells_str, cells_int, cells_bool, cells_ptr, cells_nilptr, cells_nilslice, cells_slice, cells_imm, cells_func, resVals_nil, resVals_t, resVals_cN, resVals_c1, retOf_one, retOf_two, retOf_nil, evOp, isRead, fixOp, ldCell, ldCells, fAddr, iAddr_slice, iAddr_imm, aAddr_ptr, aAddr_iptr, inRange_int, bound_none, bound_int, mayGrow, fillParts, lenSl, topOf, rowF_eq, rowQ_eq, Option.map_some, Option.map_none, Option.bind_some, Option.bind_none, Option.isSome_some, Option.isSome_none, List.map_cons, List.map_nil, List.length_cons, List.length_nil, List.append_nil, List.nil_append, List.cons_append, List.all_cons, List.all_nil, cell_str, cell_int, cell_bool, cell_ptr, cell_iptr, cell_nilptr, cell_nilslice, cell_slice, cell_imm, cell_func, cell_nilfunc, Bool.and_true, Bool.true_and, Bool.and_false, Bool.false_and, Bool.or_true, Bool.true_or, Bool.or_false, Bool.false_or, Bool.not_true, Bool.not_false, Bool.false_eq_true, Bool.true_eq_false, and_true, true_and, and_false, false_and, or_true, true_or, or_false, false_or, not_true_eq_false, not_false_eq_true, decide_true, decide_false, decide_eq_true_eq, if_true, if_false, ite_true, ite_false, ↓reduceIte, Nat.reduceAdd, Nat.reduceSub, Nat.reduceMul, Nat.reduceEqDiff, Nat.reduceLeDiff, Nat.reduceLT, Nat.succ_ne_zero, Nat.zero_add, Nat.add_zero, Nat.zero_mul, Nat.mul_one, Nat.one_mul, Nat.le_refl, Nat.sub_zero, Int.reduceLT, Int.reduceLE, Int.reduceEq, Int.reduceNe, Int.reduceToNat, Int.reduceAdd, Int.reduceSub, Int.toNat_zero, reduceCtorEq, eq_self, ne_eq, beq_self_eq_true, Nat.reduceBEq, Nat.reduceBNe, List.mem_cons, List.not_mem_nil, false_implies, true_implies, implies_true, forall_const, List.drop_zero, List.drop_nil, List.take_zero, List.drop_length, List.length_append, cast_zero, cast_one, Int.cast_ofNat_Int, List.replicate_zero, List.replicate_succ, List.flatten_cons, List.flatten_nil, wrap_one, h0, h1, h5, h6, lenOf_imm, strs_len]
  refine ⟨_, lstB ss, wv_imm, .inl ⟨rfl, ?_⟩⟩
  cases hf : fineS ss
  · rw [read_bad hf (by omega) fun s hs' => badT_small (by have := mem_sum hs'; omega)]
    rw [hf] at h6
    simp only [C3_app, y3, x3_0, r3_0, x3_1, r3_1, x3_2, r3_2, x3_3, x3_4, x3_5, x3_6, r3_6, x3_7, r3_7, x3_8, r3_8, x3_9, x3_10, x3_11, r3_11, x3_12, r3_12, x3_13, x3_14, x3_15, r3_15, x3_16, x3_17, x3_19, x3_20, x3_21, r3_21, x3_22, r3_22, x3_23, x3_24, x3_25, x3_26, r3_26, x3_27, r3_27, x3_28, r3_28, x3_29, r3_29, x3_30, x3_31, x3_32, x3_33, r3_33, x3_34, r3_34, x3_35, x3_36, x3_37, x3_38, r3_38, x3_39, r3_39, x3_40, x3_41, x3_42, t3_42, x3_43, r3_43, x3_44, x3_45, x3_46, x3_47, x3_48, r3_48, x3_49, x3_50, x3_52, x3_53, x3_54, r3_54, x3_55, r3_55, x3_56, r3_56, x3_57, r3_57, x3_58, x3_59, x3_60, x3_61, x3_62, x3_63, x3_64, x3_65, x3_66, x3_67, x3_68, x3_69, x3_70, x3_71, sC_skip, sC_exit, sC_ret, condK_true, condK_false, unw_seq_normal, unw_seq_exit, unw_seq_ret, unw_block_normal, unw_block_exit, unw_block_ret, unw_lp_exit, unw_lp_ret, unw_fin, retQ_ret, retQ_normal, retQ_exit, nxt_app, nxtQ_app, nxtL_app, guardK_tt, guardK_ff, guardK_tf, guardK_ft, guardK_u, guardQ_tt, guardQ_ff, guardQ_tf, guardQ_ft, guardQ_u, guardL_tt, guardL_ff, guardL_tf, guardL_ft, guardL_u, sOps_nil, sOps_cons, sOps_guard, sTree_leaf, sTree_stop, sTree_quiet, sTree_loud, sTree_quietG, sTree_loudG, goO_some, goO_none, sOp_call, callvP_func, sOp_callv, putD_some, putD_none, still_nil, still_none, still_cons, sOp_move, sOp_nilCheck, sOp_pick, sOp_alloc, sOp_box, sOp_build, sOp_buildSlice, sOp_load1, sOp_loadN, sOp_store, sOp_bin, sOp_un, sOp_convInt, sOp_convSame, sOp_resame, sOp_toBytes, sOp_ofBytes, sOp_mkfunc, sOp_makeSlice, sOp_sliceStr, sOp_slice, sOp_sliceArr, sOp_fieldAddr, sOp_field1, sOp_fieldN, sOp_indexAddr, sOp_indexArrAddr, sOp_indexStr, sOp_indexArr1, sOp_indexArrN, sOp_extract, sOp_lenStr, sOp_lenSl, sOp_lenArr, sOp_append, sOp_copy, sOp_minmax, sOp_capOf, ev_t, ev_c, argEnv_nil, argEnv_cons, envL_nil, envL_cons, abin_add, abin_sub, abin_mul, abin_quo, abin_rem, abin_eql, abin_neq, abin_lss, abin_leq, abin_gtr, abin_geq, abin_shl, abin_shr, abin_sadd, abin_seql, abin_sneq, abin_slss, abin_sleq, abin_sgtr, abin_sgeq, abin_beql, abin_bneq, abin_p1, abin_p2, abin_p3, abin_p4, abin_p5, abin_p6, abin_s3, abin_s4, abin_s5, abin_s6, abin_f1, abin_f2, abin_f3, abin_f4, abin_feq, abin_fne, cellsEq_nil, cellsEq_s, cellsEq_i, cellsEq_b, aun_not, aun_neg, hget_nil, hget_cons, hset_cons, hkill_cons, hpush_nil, hpush_cons, idx_nil, idx_cons, sub_cons, take_cons, take_nil', put_cons, drop_cons, cells_agg, cells_str, cells_int, cells_bool, cells_ptr, cells_nilptr, cells_nilslice, cells_slice, cells_imm, cells_func, resVals_nil, resVals_t, resVals_cN, resVals_c1, retOf_one, retOf_two, retOf_nil, evOp, isRead, fixOp, ldCell, ldCells, fAddr, iAddr_slice, iAddr_imm, aAddr_ptr, aAddr_iptr, inRange_int, bound_none, bound_int, mayGrow, fillParts, lenSl, topOf, rowF_eq, rowQ_eq, Option.map_some, Option.map_none, Option.bind_some, Option.bind_none, Option.isSome_some, Option.isSome_none, List.map_cons, List.map_nil, List.length_cons, List.length_nil, List.append_nil, List.nil_append, List.cons_append, List.all_cons, List.all_nil, cell_str, cell_int, cell_bool, cell_ptr, cell_iptr, cell_nilptr, cell_nilslice, cell_slice, cell_imm, cell_func, cell_nilfunc, Bool.and_true, Bool.true_and, Bool.and_false, Bool.false_and, Bool.or_true, Bool.true_or, Bool.or_false, Bool.false_or, Bool.not_true, Bool.not_false, Bool.false_eq_true, Bool.true_eq_false, and_true, true_and, and_false, false_and, or_true, true_or, or_false, false_or, not_true_eq_false, not_false_eq_true, decide_true, decide_false, decide_eq_true_eq, if_true, if_false, ite_true, ite_false, ↓reduceIte, Nat.reduceAdd, Nat.reduceSub, Nat.reduceMul, Nat.reduceEqDiff, Nat.reduceLeDiff, Nat.reduceLT, Nat.succ_ne_zero, Nat.zero_add, Nat.add_zero, Nat.zero_mul, Nat.mul_one, Nat.one_mul, Nat.le_refl, Nat.sub_zero, Int.reduceLT, Int.reduceLE, Int.reduceEq, Int.reduceNe, Int.reduceToNat, Int.reduceAdd, Int.reduceSub, Int.toNat_zero, reduceCtorEq, eq_self, ne_eq, beq_self_eq_true, Nat.reduceBEq, Nat.reduceBNe, List.mem_cons, List.not_mem_nil, false_implies, true_implies, implies_true, forall_const, List.drop_zero, List.drop_nil, List.take_zero, List.drop_length, List.length_append, cast_zero, cast_one, Int.cast_ofNat_Int, List.replicate_zero, List.replicate_succ, List.flatten_cons, List.flatten_nil, wrap_one, h0, h1, h5, h6, lenOf_imm, lenOf_sl, strs_len]
    exact yes_true
  · rw [read_good hf (by omega)]
    rw [hf] at h6
    simp only [C3_app, y3, x3_0, r3_0, x3_1, r3_1, x3_2, r3_2, x3_3, x3_4, x3_5, x3_6, r3_6, x3_7, r3_7, x3_8, r3_8, x3_9, x3_10, x3_11, r3_11, x3_12, r3_12, x3_13, x3_14, x3_15, r3_15, x3_16, x3_17, x3_19, x3_20, x3_21, r3_21, x3_22, r3_22, x3_23, x3_24, x3_25, x3_26, r3_26, x3_27, r3_27, x3_28, r3_28, x3_29, r3_29, x3_30, x3_31, x3_32, x3_33, r3_33, x3_34, r3_34, x3_35, x3_36, x3_37, x3_38, r3_38, x3_39, r3_39, x3_40, x3_41, x3_42, t3_42, x3_43, r3_43, x3_44, x3_45, x3_46, x3_47, x3_48, r3_48, x3_49, x3_50, x3_52, x3_53, x3_54, r3_54, x3_55, r3_55, x3_56, r3_56, x3_57, r3_57, x3_58, x3_59, x3_60, x3_61, x3_62, x3_63, x3_64, x3_65, x3_66, x3_67, x3_68, x3_69, x3_70, x3_71, sC_skip, sC_exit, sC_ret, condK_true, condK_false, unw_seq_normal, unw_seq_exit, unw_seq_ret, unw_block_normal, unw_block_exit, unw_block_ret, unw_lp_exit, unw_lp_ret, unw_fin, retQ_ret, retQ_normal, retQ_exit, nxt_app, nxtQ_app, nxtL_app, guardK_tt, guardK_ff, guardK_tf, guardK_ft, guardK_u, guardQ_tt, guardQ_ff, guardQ_tf, guardQ_ft, guardQ_u, guardL_tt, guardL_ff, guardL_tf, guardL_ft, guardL_u, sOps_nil, sOps_cons, sOps_guard, sTree_leaf, sTree_stop, sTree_quiet, sTree_loud, sTree_quietG, sTree_loudG, goO_some, goO_none, sOp_call, callvP_func, sOp_callv, putD_some, putD_none, still_nil, still_none, still_cons, sOp_move, sOp_nilCheck, sOp_pick, sOp_alloc, sOp_box, sOp_build, sOp_buildSlice, sOp_load1, sOp_loadN, sOp_store, sOp_bin, sOp_un, sOp_convInt, sOp_convSame, sOp_resame, sOp_toBytes, sOp_ofBytes, sOp_mkfunc, sOp_makeSlice, sOp_sliceStr, sOp_slice, sOp_sliceArr, sOp_fieldAddr, sOp_field1, sOp_fieldN, sOp_indexAddr, sOp_indexArrAddr, sOp_indexStr, sOp_indexArr1, sOp_indexArrN, sOp_extract, sOp_lenStr, sOp_lenSl, sOp_lenArr, sOp_append, sOp_copy, sOp_minmax, sOp_capOf, ev_t, ev_c, argEnv_nil, argEnv_cons, envL_nil, envL_cons, abin_add, abin_sub, abin_mul, abin_quo, abin_rem, abin_eql, abin_neq, abin_lss, abin_leq, abin_gtr, abin_geq, abin_shl, abin_shr, abin_sadd, abin_seql, abin_sneq, abin_slss, abin_sleq, abin_sgtr, abin_sgeq, abin_beql, abin_bneq, abin_p1, abin_p2, abin_p3, abin_p4, abin_p5, abin_p6, abin_s3, abin_s4, abin_s5, abin_s6, abin_f1, abin_f2, abin_f3, abin_f4, abin_feq, abin_fne, cellsEq_nil, cellsEq_s, cellsEq_i, cellsEq_b, aun_not, aun_neg, hget_nil, hget_cons, hset_cons, hkill_cons, hpush_nil, hpush_cons, idx_nil, idx_cons, sub_cons, take_cons, take_nil', put_cons, drop_cons, cells_agg, cells_str, cells_int, cells_bool, cells_ptr, cells_nilptr, cells_nilslice, cells_slice, cells_imm, cells_func, resVals_nil, resVals_t, resVals_cN, resVals_c1, retOf_one, retOf_two, retOf_nil, evOp, isRead, fixOp, ldCell, ldCells, fAddr, iAddr_slice, iAddr_imm, aAddr_ptr, aAddr_iptr, inRange_int, bound_none, bound_int, mayGrow, fillParts, lenSl, topOf, rowF_eq, rowQ_eq, Option.map_some, Option.map_none, Option.bind_some, Option.bind_none, Option.isSome_some, Option.isSome_none, List.map_cons, List.map_nil, List.length_cons, List.length_nil, List.append_nil, List.nil_append, List.cons_append, List.all_cons, List.all_nil, cell_str, cell_int, cell_bool, cell_ptr, cell_iptr, cell_nilptr, cell_nilslice, cell_slice, cell_imm, cell_func, cell_nilfunc, Bool.and_true, Bool.true_and, Bool.and_false, Bool.false_and, Bool.or_true, Bool.true_or, Bool.or_false, Bool.false_or, Bool.not_true, Bool.not_false, Bool.false_eq_true, Bool.true_eq_false, and_true, true_and, and_false, false_and, or_true, true_or, or_false, false_or, not_true_eq_false, not_false_eq_true, decide_true, decide_false, decide_eq_true_eq, if_true, if_false, ite_true, ite_false, ↓reduceIte, Nat.reduceAdd, Nat.reduceSub, Nat.reduceMul, Nat.reduceEqDiff, Nat.reduceLeDiff, Nat.reduceLT, Nat.succ_ne_zero, Nat.zero_add, Nat.add_zero, Nat.zero_mul, Nat.mul_one, Nat.one_mul, Nat.le_refl, Nat.sub_zero, Int.reduceLT, Int.reduceLE, Int.reduceEq, Int.reduceNe, Int.reduceToNat, Int.reduceAdd, Int.reduceSub, Int.toNat_zero, reduceCtorEq, eq_self, ne_eq, beq_self_eq_true, Nat.reduceBEq, Nat.reduceBNe, List.mem_cons, List.not_mem_nil, false_implies, true_implies, implies_true, forall_const, List.drop_zero, List.drop_nil, List.take_zero, List.drop_length, List.length_append, cast_zero, cast_one, Int.cast_ofNat_Int, List.replicate_zero, List.replicate_succ, List.flatten_cons, List.flatten_nil, wrap_one, h0, h1, h5, h6, lenOf_imm, lenOf_sl, strs_len, rws_len, hw1, hw2, hw3]
    exact sC_inv (a := b3_50) (cmpI ss cut) ss.length _ _ (.refl _ _ _) ⟨0, Nat.zero_le _, rfl, rfl, h0, h1, rfl, rfl, rfl⟩ (cmp_step ss cut hc0 hc1 hl hs hf)
def smI (ss : List (List UInt8)) (cut : Int) (n : Nat) (e : Env) (σ : AHeap) : Prop :=
  ∃ i : Nat, i ≤ ss.length ∧ i ≤ 300 ∧ n = ss.length - i ∧ σ = [] ∧ e 0 = .imm (strs ss) false false ∧ e 1 = .int .u16 cut ∧ e 5 = .int .i64 (sumS (ss.take i)) ∧ e 6 = .bool (fineS (ss.take i)) ∧ e 7 = .int .i64 (i : Int)
theorem sum_le {ss : List (List UInt8)} (h : ∀ s ∈ ss, s.length ≤ 140737488351232) : sumS ss ≤ ss.length * 140737488351232 := by
  induction ss with
  | nil => simp [sumS]
  | cons s ss ih =>
    have h1 := ih fun x hx => h x (by simp [hx])
    have h2 := h s (by simp)
    rw [sumS_cons]
    have : (((s :: ss).length : Nat) : Int) = (ss.length : Int) + 1 := by simp
    rw [this]; omega
theorem sm_step (ss : List (List UInt8)) (cut : Int) (hc0 : 0 ≤ cut) (hc1 : cut ≤ 65535) (hok : Okn ss) (n : Nat) (e : Env) (σ : AHeap) (h : smI ss cut n e σ) :
    sC C3 0 b3_17 (unw C3 0 (loopR C3 0 (RetQ [MRes.t 4] Yes) (.block 0 (.seq b3_67 .fin)) (smI ss cut) n) .fin) e σ := by
  obtain ⟨i, hi, hi3, hn, rfl, h0, h1, h5, h6, h7⟩ := h
  obtain ⟨o1, o2⟩ := hok
  rcases Nat.lt_or_ge i ss.length with hlt | hge
  · have hlt' : (i : Int) < (ss.length : Int) := by omega
    have hge0 : (0 : Int) ≤ (i : Int) := by omega
    rcases Nat.lt_or_ge i 300 with h300 | h300
    · have h300' : (i : Int) < 300 := by omega
      obtain ⟨x, hx⟩ : ∃ x, ss[i]? = some x := ⟨_, List.getElem?_eq_getElem hlt⟩
      have hxx : (strs ss)[i]? = some [.str x] := by simp [strs, hx]
      have hw : IntKind.wrap .i64 ((i : Int) + 1) = ((i + 1 : Nat) : Int) := by rw [Gz.wrap64 (by omega)]; omega
      have htk : ss.take (i + 1) = ss.take i ++ [x] := by rw [List.take_add_one, hx]; rfl
      have b1 := sumS_nonneg (ss.take i)
      have b2 := sum_le (ss := ss.take i) fun s hs => o2 s (List.mem_of_mem_take hs)
      have b3 := o2 x (List.mem_of_getElem? hx)
      have b5 : (ss.take i).length ≤ 300 := by rw [List.length_take]; omega
      have b6 : ((ss.take i).length : Int) * 140737488351232 ≤ 300 * 140737488351232 := by omega
      have hw2 : IntKind.wrap .i64 (sumS (ss.take i) + (x.length : Int)) = sumS (ss.take (i + 1)) := by
        rw [Gz.wrap64 (by omega), htk]; simp [sumS, List.sum_append]
      have hfb : fineS (ss.take (i + 1)) = (fineS (ss.take i) && decide ((x.length : Int) ≤ 3)) := by
        rw [htk]
        have : decide ((x.length : Int) ≤ 3) = decide (x.length ≤ 3) := by
          by_cases h : x.length ≤ 3
          · rw [decide_eq_true h, decide_eq_true (by omega)]
          · rw [decide_eq_false h, decide_eq_false (by omega)]
        rw [this]
        simp [fineS]
      generalize sumS (ss.take i) = V at *
      cases hB : fineS (ss.take i)
      · rw [hB] at h6 hfb
        rw [Bool.false_and] at hfb
        simp only [C3_app, y3, x3_0, r3_0, x3_1, r3_1, x3_2, r3_2, x3_3, x3_4, x3_5, x3_6, r3_6, x3_7, r3_7, x3_8, r3_8, x3_9, x3_10, x3_11, r3_11, x3_12, r3_12, x3_13, x3_14, x3_15, r3_15, x3_16, x3_17, x3_19, x3_20, x3_21, r3_21, x3_22, r3_22, x3_23, x3_24, x3_25, x3_26, r3_26, x3_27, r3_27, x3_28, r3_28, x3_29, r3_29, x3_30, x3_31, x3_32, x3_33, r3_33, x3_34, r3_34, x3_35, x3_36, x3_37, x3_38, r3_38, x3_39, r3_39, x3_40, x3_41, x3_42, t3_42, x3_43, r3_43, x3_44, x3_45, x3_46, x3_47, x3_48, r3_48, x3_49, x3_50, x3_52, x3_53, x3_54, r3_54, x3_55, r3_55, x3_56, r3_56, x3_57, r3_57, x3_58, x3_59, x3_60, x3_61, x3_62, x3_63, x3_64, x3_65, x3_66, x3_68, x3_69, x3_70, x3_71, sC_skip, sC_exit, sC_ret, condK_true, condK_false, unw_seq_normal, unw_seq_exit, unw_seq_ret, unw_block_normal, unw_block_exit, unw_block_ret, unw_lp_exit, unw_lp_ret, unw_fin, retQ_ret, retQ_normal, retQ_exit, nxt_app, nxtQ_app, nxtL_app, guardK_tt, guardK_ff, guardK_tf, guardK_ft, guardK_u, guardQ_tt, guardQ_ff, guardQ_tf, guardQ_ft, guardQ_u, guardL_tt, guardL_ff, guardL_tf, guardL_ft, guardL_u, sOps_nil, sOps_cons, sOps_guard, sTree_leaf, sTree_stop, sTree_quiet, sTree_loud, sTree_quietG, sTree_loudG, goO_some, goO_none, sOp_call, callvP_func, sOp_callv, putD_some, putD_none, still_nil, still_none, still_cons, sOp_move, sOp_nilCheck, sOp_pick, sOp_alloc, sOp_box, sOp_build, sOp_buildSlice, sOp_load1, sOp_loadN, sOp_store, sOp_bin, sOp_un, sOp_convInt, sOp_convSame, sOp_resame, sOp_toBytes, sOp_ofBytes, sOp_mkfunc, sOp_makeSlice, sOp_sliceStr, sOp_slice, sOp_sliceArr, sOp_fieldAddr, sOp_field1, sOp_fieldN, sOp_indexAddr, sOp_indexArrAddr, sOp_indexStr, sOp_indexArr1, sOp_indexArrN, sOp_extract, sOp_lenStr, sOp_lenSl, sOp_lenArr, sOp_append, sOp_copy, sOp_minmax, sOp_capOf, ev_t, ev_c, argEnv_nil, argEnv_cons, envL_nil, envL_cons, abin_add, abin_sub, abin_mul, abin_quo, abin_rem, abin_eql, abin_neq, abin_lss, abin_leq, abin_gtr, abin_geq, abin_shl, abin_shr, abin_sadd, abin_seql, abin_sneq, abin_slss, abin_sleq, abin_sgtr, abin_sgeq, abin_beql, abin_bneq, abin_p1, abin_p2, abin_p3, abin_p4, abin_p5, abin_p6, abin_s3, abin_s4, abin_s5, abin_s6, abin_f1, abin_f2, abin_f3, abin_f4, abin_feq, abin_fne, cellsEq_nil, cellsEq_s, cellsEq_i, cellsEq_b, aun_not, aun_neg, hget_nil, hget_cons, hset_cons, hkill_cons, hpush_nil, hpush_cons, idx_nil, idx_cons, sub_cons, take_cons, take_nil', put_cons, drop_cons, cells_agg, cells_str, cells_int, cells_bool, cells_ptr, cells_nilptr, cells_nilslice, cells_slice, cells_imm, cells_func, resVals_nil, resVals_t, resVals_cN, resVals_c1, retOf_one, retOf_two, retOf_nil, evOp, isRead, fixOp, ldCell, ldCells, fAddr, iAddr_slice, iAddr_imm, aAddr_ptr, aAddr_iptr, inRange_int, bound_none, bound_int, mayGrow, fillParts, lenOf, lenSl, evSlice, topOf, evAppend, elemsOf, grown, rowF_eq, rowQ_eq, Option.map_some, Option.map_none, Option.bind_some, Option.bind_none, Option.isSome_some, Option.isSome_none, List.map_cons, List.map_nil, List.length_cons, List.length_nil, List.append_nil, List.nil_append, List.cons_append, List.all_cons, List.all_nil, cell_str, cell_int, cell_bool, cell_ptr, cell_iptr, cell_nilptr, cell_nilslice, cell_slice, cell_imm, cell_func, cell_nilfunc, Bool.and_true, Bool.true_and, Bool.and_false, Bool.false_and, Bool.or_true, Bool.true_or, Bool.or_false, Bool.false_or, Bool.not_true, Bool.not_false, Bool.false_eq_true, Bool.true_eq_false, and_true, true_and, and_false, false_and, or_true, true_or, or_false, false_or, not_true_eq_false, not_false_eq_true, decide_true, decide_false, decide_eq_true_eq, if_true, if_false, ite_true, ite_false, ↓reduceIte, Nat.reduceAdd, Nat.reduceSub, Nat.reduceMul, Nat.reduceEqDiff, Nat.reduceLeDiff, Nat.reduceLT, Nat.succ_ne_zero, Nat.zero_add, Nat.add_zero, Nat.zero_mul, Nat.mul_one, Nat.one_mul, Nat.le_refl, Nat.sub_zero, Int.reduceLT, Int.reduceLE, Int.reduceEq, Int.reduceNe, Int.reduceToNat, Int.reduceAdd, Int.reduceSub, Int.toNat_zero, reduceCtorEq, eq_self, ne_eq, beq_self_eq_true, Nat.reduceBEq, Nat.reduceBNe, List.mem_cons, List.not_mem_nil, false_implies, true_implies, implies_true, forall_const, List.drop_zero, List.drop_nil, List.take_zero, List.drop_length, List.length_append, cast_zero, cast_one, Int.cast_ofNat_Int, List.replicate_zero, List.replicate_succ, List.flatten_cons, List.flatten_nil, wrap_one, loopR_exit, loopR_ret, h0, h1, h5, h6, h7, hlt', h300', hlt, hge0, hxx, strs_len, hw, hw2, Int.toNat_natCast]
        rw [loopR_normal]
        refine ⟨ss.length - (i + 1), _, _, by omega, .refl _ _ _, i + 1, hlt, by omega, rfl, rfl, ?_, ?_, ?_, ?_, ?_⟩
        all_goals simp only [putD_some, putD_none, Nat.reduceEqDiff, ↓reduceIte, h0, h1, h5, h6, h7, hw, hfb]
      · rw [hB] at h6 hfb
        rw [Bool.true_and] at hfb
        simp only [C3_app, y3, x3_0, r3_0, x3_1, r3_1, x3_2, r3_2, x3_3, x3_4, x3_5, x3_6, r3_6, x3_7, r3_7, x3_8, r3_8, x3_9, x3_10, x3_11, r3_11, x3_12, r3_12, x3_13, x3_14, x3_15, r3_15, x3_16, x3_17, x3_19, x3_20, x3_21, r3_21, x3_22, r3_22, x3_23, x3_24, x3_25, x3_26, r3_26, x3_27, r3_27, x3_28, r3_28, x3_29, r3_29, x3_30, x3_31, x3_32, x3_33, r3_33, x3_34, r3_34, x3_35, x3_36, x3_37, x3_38, r3_38, x3_39, r3_39, x3_40, x3_41, x3_42, t3_42, x3_43, r3_43, x3_44, x3_45, x3_46, x3_47, x3_48, r3_48, x3_49, x3_50, x3_52, x3_53, x3_54, r3_54, x3_55, r3_55, x3_56, r3_56, x3_57, r3_57, x3_58, x3_59, x3_60, x3_61, x3_62, x3_63, x3_64, x3_65, x3_66, x3_68, x3_69, x3_70, x3_71, sC_skip, sC_exit, sC_ret, condK_true, condK_false, unw_seq_normal, unw_seq_exit, unw_seq_ret, unw_block_normal, unw_block_exit, unw_block_ret, unw_lp_exit, unw_lp_ret, unw_fin, retQ_ret, retQ_normal, retQ_exit, nxt_app, nxtQ_app, nxtL_app, guardK_tt, guardK_ff, guardK_tf, guardK_ft, guardK_u, guardQ_tt, guardQ_ff, guardQ_tf, guardQ_ft, guardQ_u, guardL_tt, guardL_ff, guardL_tf, guardL_ft, guardL_u, sOps_nil, sOps_cons, sOps_guard, sTree_leaf, sTree_stop, sTree_quiet, sTree_loud, sTree_quietG, sTree_loudG, goO_some, goO_none, sOp_call, callvP_func, sOp_callv, putD_some, putD_none, still_nil, still_none, still_cons, sOp_move, sOp_nilCheck, sOp_pick, sOp_alloc, sOp_box, sOp_build, sOp_buildSlice, sOp_load1, sOp_loadN, sOp_store, sOp_bin, sOp_un, sOp_convInt, sOp_convSame, sOp_resame, sOp_toBytes, sOp_ofBytes, sOp_mkfunc, sOp_makeSlice, sOp_sliceStr, sOp_slice, sOp_sliceArr, sOp_fieldAddr, sOp_field1, sOp_fieldN, sOp_indexAddr, sOp_indexArrAddr, sOp_indexStr, sOp_indexArr1, sOp_indexArrN, sOp_extract, sOp_lenStr, sOp_lenSl, sOp_lenArr, sOp_append, sOp_copy, sOp_minmax, sOp_capOf, ev_t, ev_c, argEnv_nil, argEnv_cons, envL_nil, envL_cons, abin_add, abin_sub, abin_mul, abin_quo, abin_rem, abin_eql, abin_neq, abin_lss, abin_leq, abin_gtr, abin_geq, abin_shl, abin_shr, abin_sadd, abin_seql, abin_sneq, abin_slss, abin_sleq, abin_sgtr, abin_sgeq, abin_beql, abin_bneq, abin_p1, abin_p2, abin_p3, abin_p4, abin_p5, abin_p6, abin_s3, abin_s4, abin_s5, abin_s6, abin_f1, abin_f2, abin_f3, abin_f4, abin_feq, abin_fne, cellsEq_nil, cellsEq_s, cellsEq_i, cellsEq_b, aun_not, aun_neg, hget_nil, hget_cons, hset_cons, hkill_cons, hpush_nil, hpush_cons, idx_nil, idx_cons, sub_cons, take_cons, take_nil', put_cons, drop_cons, cells_agg, cells_str, cells_int, cells_bool, cells_ptr, cells_nilptr, cells_nilslice, cells_slice, cells_imm, cells_func, resVals_nil, resVals_t, resVals_cN, resVals_c1, retOf_one, retOf_two, retOf_nil, evOp, isRead, fixOp, ldCell, ldCells, fAddr, iAddr_slice, iAddr_imm, aAddr_ptr, aAddr_iptr, inRange_int, bound_none, bound_int, mayGrow, fillParts, lenOf, lenSl, evSlice, topOf, evAppend, elemsOf, grown, rowF_eq, rowQ_eq, Option.map_some, Option.map_none, Option.bind_some, Option.bind_none, Option.isSome_some, Option.isSome_none, List.map_cons, List.map_nil, List.length_cons, List.length_nil, List.append_nil, List.nil_append, List.cons_append, List.all_cons, List.all_nil, cell_str, cell_int, cell_bool, cell_ptr, cell_iptr, cell_nilptr, cell_nilslice, cell_slice, cell_imm, cell_func, cell_nilfunc, Bool.and_true, Bool.true_and, Bool.and_false, Bool.false_and, Bool.or_true, Bool.true_or, Bool.or_false, Bool.false_or, Bool.not_true, Bool.not_false, Bool.false_eq_true, Bool.true_eq_false, and_true, true_and, and_false, false_and, or_true, true_or, or_false, false_or, not_true_eq_false, not_false_eq_true, decide_true, decide_false, decide_eq_true_eq, if_true, if_false, ite_true, ite_false, ↓reduceIte, Nat.reduceAdd, Nat.reduceSub, Nat.reduceMul, Nat.reduceEqDiff, Nat.reduceLeDiff, Nat.reduceLT, Nat.succ_ne_zero, Nat.zero_add, Nat.add_zero, Nat.zero_mul, Nat.mul_one, Nat.one_mul, Nat.le_refl, Nat.sub_zero, Int.reduceLT, Int.reduceLE, Int.reduceEq, Int.reduceNe, Int.reduceToNat, Int.reduceAdd, Int.reduceSub, Int.toNat_zero, reduceCtorEq, eq_self, ne_eq, beq_self_eq_true, Nat.reduceBEq, Nat.reduceBNe, List.mem_cons, List.not_mem_nil, false_implies, true_implies, implies_true, forall_const, List.drop_zero, List.drop_nil, List.take_zero, List.drop_length, List.length_append, cast_zero, cast_one, Int.cast_ofNat_Int, List.replicate_zero, List.replicate_succ, List.flatten_cons, List.flatten_nil, wrap_one, loopR_exit, loopR_ret, h0, h1, h5, h6, h7, hlt', h300', hlt, hge0, hxx, strs_len, hw, hw2, Int.toNat_natCast]
        rw [loopR_normal]
        refine ⟨ss.length - (i + 1), _, _, by omega, .refl _ _ _, i + 1, hlt, by omega, rfl, rfl, ?_, ?_, ?_, ?_, ?_⟩
        all_goals simp only [putD_some, putD_none, Nat.reduceEqDiff, ↓reduceIte, h0, h1, h5, h6, h7, hw, hfb]
    · have h300' : ¬ (i : Int) < 300 := by omega
      simp only [C3_app, y3, x3_0, r3_0, x3_1, r3_1, x3_2, r3_2, x3_3, x3_4, x3_5, x3_6, r3_6, x3_7, r3_7, x3_8, r3_8, x3_9, x3_10, x3_11, r3_11, x3_12, r3_12, x3_13, x3_14, x3_15, r3_15, x3_16, x3_17, x3_19, x3_20, x3_21, r3_21, x3_22, r3_22, x3_23, x3_24, x3_25, x3_26, r3_26, x3_27, r3_27, x3_28, r3_28, x3_29, r3_29, x3_30, x3_31, x3_32, x3_33, r3_33, x3_34, r3_34, x3_35, x3_36, x3_37, x3_38, r3_38, x3_39, r3_39, x3_40, x3_41, x3_42, t3_42, x3_43, r3_43, x3_44, x3_45, x3_46, x3_47, x3_48, r3_48, x3_49, x3_50, x3_52, x3_53, x3_54, r3_54, x3_55, r3_55, x3_56, r3_56, x3_57, r3_57, x3_58, x3_59, x3_60, x3_61, x3_62, x3_63, x3_64, x3_65, x3_66, x3_68, x3_69, x3_70, x3_71, sC_skip, sC_exit, sC_ret, condK_true, condK_false, unw_seq_normal, unw_seq_exit, unw_seq_ret, unw_block_normal, unw_block_exit, unw_block_ret, unw_lp_exit, unw_lp_ret, unw_fin, retQ_ret, retQ_normal, retQ_exit, nxt_app, nxtQ_app, nxtL_app, guardK_tt, guardK_ff, guardK_tf, guardK_ft, guardK_u, guardQ_tt, guardQ_ff, guardQ_tf, guardQ_ft, guardQ_u, guardL_tt, guardL_ff, guardL_tf, guardL_ft, guardL_u, sOps_nil, sOps_cons, sOps_guard, sTree_leaf, sTree_stop, sTree_quiet, sTree_loud, sTree_quietG, sTree_loudG, goO_some, goO_none, sOp_call, callvP_func, sOp_callv, putD_some, putD_none, still_nil, still_none, still_cons, sOp_move, sOp_nilCheck, sOp_pick, sOp_alloc, sOp_box, sOp_build, sOp_buildSlice, sOp_load1, sOp_loadN, sOp_store, sOp_bin, sOp_un, sOp_convInt, sOp_convSame, sOp_resame, sOp_toBytes, sOp_ofBytes, sOp_mkfunc, sOp_makeSlice, sOp_sliceStr, sOp_slice, sOp_sliceArr, sOp_fieldAddr, sOp_field1, sOp_fieldN, sOp_indexAddr, sOp_indexArrAddr, sOp_indexStr, sOp_indexArr1, sOp_indexArrN, sOp_extract, sOp_lenStr, sOp_lenSl, sOp_lenArr, sOp_append, sOp_copy, sOp_minmax, sOp_capOf, ev_t, ev_c, argEnv_nil, argEnv_cons, envL_nil, envL_cons, abin_add, abin_sub, abin_mul, abin_quo, abin_rem, abin_eql, abin_neq, abin_lss, abin_leq, abin_gtr, abin_geq, abin_shl, abin_shr, abin_sadd, abin_seql, abin_sneq, abin_slss, abin_sleq, abin_sgtr, abin_sgeq, abin_beql, abin_bneq, abin_p1, abin_p2, abin_p3, abin_p4, abin_p5, abin_p6, abin_s3, abin_s4, abin_s5, abin_s6, abin_f1, abin_f2, abin_f3, abin_f4, abin_feq, abin_fne, cellsEq_nil, cellsEq_s, cellsEq_i, cellsEq_b, aun_not, aun_neg, hget_nil, hget_cons, hset_cons, hkill_cons, hpush_nil, hpush_cons, idx_nil, idx_cons, sub_cons, take_cons, take_nil', put_cons, drop_cons, cells_agg, cells_str, cells_int, cells_bool, cells_ptr, cells_nilptr, cells_nilslice, cells_slice, cells_imm, cells_func, resVals_nil, resVals_t, resVals_cN, resVals_c1, retOf_one, retOf_two, retOf_nil, evOp, isRead, fixOp, ldCell, ldCells, fAddr, iAddr_slice, iAddr_imm, aAddr_ptr, aAddr_iptr, inRange_int, bound_none, bound_int, mayGrow, fillParts, lenOf, lenSl, evSlice, topOf, evAppend, elemsOf, grown, rowF_eq, rowQ_eq, Option.map_some, Option.map_none, Option.bind_some, Option.bind_none, Option.isSome_some, Option.isSome_none, List.map_cons, List.map_nil, List.length_cons, List.length_nil, List.append_nil, List.nil_append, List.cons_append, List.all_cons, List.all_nil, cell_str, cell_int, cell_bool, cell_ptr, cell_iptr, cell_nilptr, cell_nilslice, cell_slice, cell_imm, cell_func, cell_nilfunc, Bool.and_true, Bool.true_and, Bool.and_false, Bool.false_and, Bool.or_true, Bool.true_or, Bool.or_false, Bool.false_or, Bool.not_true, Bool.not_false, Bool.false_eq_true, Bool.true_eq_false, and_true, true_and, and_false, false_and, or_true, true_or, or_false, false_or, not_true_eq_false, not_false_eq_true, decide_true, decide_false, decide_eq_true_eq, if_true, if_false, ite_true, ite_false, ↓reduceIte, Nat.reduceAdd, Nat.reduceSub, Nat.reduceMul, Nat.reduceEqDiff, Nat.reduceLeDiff, Nat.reduceLT, Nat.succ_ne_zero, Nat.zero_add, Nat.add_zero, Nat.zero_mul, Nat.mul_one, Nat.one_mul, Nat.le_refl, Nat.sub_zero, Int.reduceLT, Int.reduceLE, Int.reduceEq, Int.reduceNe, Int.reduceToNat, Int.reduceAdd, Int.reduceSub, Int.toNat_zero, reduceCtorEq, eq_self, ne_eq, beq_self_eq_true, Nat.reduceBEq, Nat.reduceBNe, List.mem_cons, List.not_mem_nil, false_implies, true_implies, implies_true, forall_const, List.drop_zero, List.drop_nil, List.take_zero, List.drop_length, List.length_append, cast_zero, cast_one, Int.cast_ofNat_Int, List.replicate_zero, List.replicate_succ, List.flatten_cons, List.flatten_nil, wrap_one, loopR_exit, loopR_ret, h0, h1, h5, h6, h7, hlt', h300', strs_len]
      exact rest ss cut hc0 hc1 _ _ (fun h => by omega) _ h0 h1 h5 h6
  · have hlt' : ¬ (i : Int) < (ss.length : Int) := by omega
    have hie : i = ss.length := by omega
    subst hie
    rw [List.take_length] at h5 h6
    simp only [C3_app, y3, x3_0, r3_0, x3_1, r3_1, x3_2, r3_2, x3_3, x3_4, x3_5, x3_6, r3_6, x3_7, r3_7, x3_8, r3_8, x3_9, x3_10, x3_11, r3_11, x3_12, r3_12, x3_13, x3_14, x3_15, r3_15, x3_16, x3_17, x3_19, x3_20, x3_21, r3_21, x3_22, r3_22, x3_23, x3_24, x3_25, x3_26, r3_26, x3_27, r3_27, x3_28, r3_28, x3_29, r3_29, x3_30, x3_31, x3_32, x3_33, r3_33, x3_34, r3_34, x3_35, x3_36, x3_37, x3_38, r3_38, x3_39, r3_39, x3_40, x3_41, x3_42, t3_42, x3_43, r3_43, x3_44, x3_45, x3_46, x3_47, x3_48, r3_48, x3_49, x3_50, x3_52, x3_53, x3_54, r3_54, x3_55, r3_55, x3_56, r3_56, x3_57, r3_57, x3_58, x3_59, x3_60, x3_61, x3_62, x3_63, x3_64, x3_65, x3_66, x3_68, x3_69, x3_70, x3_71, sC_skip, sC_exit, sC_ret, condK_true, condK_false, unw_seq_normal, unw_seq_exit, unw_seq_ret, unw_block_normal, unw_block_exit, unw_block_ret, unw_lp_exit, unw_lp_ret, unw_fin, retQ_ret, retQ_normal, retQ_exit, nxt_app, nxtQ_app, nxtL_app, guardK_tt, guardK_ff, guardK_tf, guardK_ft, guardK_u, guardQ_tt, guardQ_ff, guardQ_tf, guardQ_ft, guardQ_u, guardL_tt, guardL_ff, guardL_tf, guardL_ft, guardL_u, sOps_nil, sOps_cons, sOps_guard, sTree_leaf, sTree_stop, sTree_quiet, sTree_loud, sTree_quietG, sTree_loudG, goO_some, goO_none, sOp_call, callvP_func, sOp_callv, putD_some, putD_none, still_nil, still_none, still_cons, sOp_move, sOp_nilCheck, sOp_pick, sOp_alloc, sOp_box, sOp_build, sOp_buildSlice, sOp_load1, sOp_loadN, sOp_store, sOp_bin, sOp_un, sOp_convInt, sOp_convSame, sOp_resame, sOp_toBytes, sOp_ofBytes, sOp_mkfunc, sOp_makeSlice, sOp_sliceStr, sOp_slice, sOp_sliceArr, sOp_fieldAddr, sOp_field1, sOp_fieldN, sOp_indexAddr, sOp_indexArrAddr, sOp_indexStr, sOp_indexArr1, sOp_indexArrN, sOp_extract, sOp_lenStr, sOp_lenSl, sOp_lenArr, sOp_append, sOp_copy, sOp_minmax, sOp_capOf, ev_t, ev_c, argEnv_nil, argEnv_cons, envL_nil, envL_cons, abin_add, abin_sub, abin_mul, abin_quo, abin_rem, abin_eql, abin_neq, abin_lss, abin_leq, abin_gtr, abin_geq, abin_shl, abin_shr, abin_sadd, abin_seql, abin_sneq, abin_slss, abin_sleq, abin_sgtr, abin_sgeq, abin_beql, abin_bneq, abin_p1, abin_p2, abin_p3, abin_p4, abin_p5, abin_p6, abin_s3, abin_s4, abin_s5, abin_s6, abin_f1, abin_f2, abin_f3, abin_f4, abin_feq, abin_fne, cellsEq_nil, cellsEq_s, cellsEq_i, cellsEq_b, aun_not, aun_neg, hget_nil, hget_cons, hset_cons, hkill_cons, hpush_nil, hpush_cons, idx_nil, idx_cons, sub_cons, take_cons, take_nil', put_cons, drop_cons, cells_agg, cells_str, cells_int, cells_bool, cells_ptr, cells_nilptr, cells_nilslice, cells_slice, cells_imm, cells_func, resVals_nil, resVals_t, resVals_cN, resVals_c1, retOf_one, retOf_two, retOf_nil, evOp, isRead, fixOp, ldCell, ldCells, fAddr, iAddr_slice, iAddr_imm, aAddr_ptr, aAddr_iptr, inRange_int, bound_none, bound_int, mayGrow, fillParts, lenOf, lenSl, evSlice, topOf, evAppend, elemsOf, grown, rowF_eq, rowQ_eq, Option.map_some, Option.map_none, Option.bind_some, Option.bind_none, Option.isSome_some, Option.isSome_none, List.map_cons, List.map_nil, List.length_cons, List.length_nil, List.append_nil, List.nil_append, List.cons_append, List.all_cons, List.all_nil, cell_str, cell_int, cell_bool, cell_ptr, cell_iptr, cell_nilptr, cell_nilslice, cell_slice, cell_imm, cell_func, cell_nilfunc, Bool.and_true, Bool.true_and, Bool.and_false, Bool.false_and, Bool.or_true, Bool.true_or, Bool.or_false, Bool.false_or, Bool.not_true, Bool.not_false, Bool.false_eq_true, Bool.true_eq_false, and_true, true_and, and_false, false_and, or_true, true_or, or_false, false_or, not_true_eq_false, not_false_eq_true, decide_true, decide_false, decide_eq_true_eq, if_true, if_false, ite_true, ite_false, ↓reduceIte, Nat.reduceAdd, Nat.reduceSub, Nat.reduceMul, Nat.reduceEqDiff, Nat.reduceLeDiff, Nat.reduceLT, Nat.succ_ne_zero, Nat.zero_add, Nat.add_zero, Nat.zero_mul, Nat.mul_one, Nat.one_mul, Nat.le_refl, Nat.sub_zero, Int.reduceLT, Int.reduceLE, Int.reduceEq, Int.reduceNe, Int.reduceToNat, Int.reduceAdd, Int.reduceSub, Int.toNat_zero, reduceCtorEq, eq_self, ne_eq, beq_self_eq_true, Nat.reduceBEq, Nat.reduceBNe, List.mem_cons, List.not_mem_nil, false_implies, true_implies, implies_true, forall_const, List.drop_zero, List.drop_nil, List.take_zero, List.drop_length, List.length_append, cast_zero, cast_one, Int.cast_ofNat_Int, List.replicate_zero, List.replicate_succ, List.flatten_cons, List.flatten_nil, wrap_one, loopR_exit, loopR_ret, h0, h1, h5, h6, h7, hlt', strs_len]
    exact rest ss cut hc0 hc1 _ _ (fun h => ⟨rfl, rfl⟩) _ h0 h1 h5 h6
theorem law (ss : List (List UInt8)) (cut : Int) (hc0 : 0 ≤ cut) (hc1 : cut ≤ 65535) (hok : Okn ss) : sF C3 s3 [.imm (strs ss) false false, .int .u16 cut] [] Yes := by
  simp only [C3_app, awakeD_eq, y3, x3_0, r3_0, x3_1, r3_1, x3_2, r3_2, x3_3, x3_4, x3_5, x3_6, r3_6, x3_7, r3_7, x3_8, r3_8, x3_9, x3_10, x3_11, r3_11, x3_12, r3_12, x3_13, x3_14, x3_15, r3_15, x3_16, x3_17, x3_19, x3_20, x3_21, r3_21, x3_22, r3_22, x3_23, x3_24, x3_25, x3_26, r3_26, x3_27, r3_27, x3_28, r3_28, x3_29, r3_29, x3_30, x3_31, x3_32, x3_33, r3_33, x3_34, r3_34, x3_35, x3_36, x3_37, x3_38, r3_38, x3_39, r3_39, x3_40, x3_41, x3_42, t3_42, x3_43, r3_43, x3_44, x3_45, x3_46, x3_47, x3_48, r3_48, x3_49, x3_50, x3_52, x3_53, x3_54, r3_54, x3_55, r3_55, x3_56, r3_56, x3_57, r3_57, x3_58, x3_59, x3_60, x3_61, x3_62, x3_63, x3_64, x3_65, x3_66, x3_68, x3_69, x3_70, x3_71, sC_skip, sC_exit, sC_ret, condK_true, condK_false, unw_seq_normal, unw_seq_exit, unw_seq_ret, unw_block_normal, unw_block_exit, unw_block_ret, unw_lp_exit, unw_lp_ret, unw_fin, retQ_ret, retQ_normal, retQ_exit, nxt_app, nxtQ_app, nxtL_app, guardK_tt, guardK_ff, guardK_tf, guardK_ft, guardK_u, guardQ_tt, guardQ_ff, guardQ_tf, guardQ_ft, guardQ_u, guardL_tt, guardL_ff, guardL_tf, guardL_ft, guardL_u, sOps_nil, sOps_cons, sOps_guard, sTree_leaf, sTree_stop, sTree_quiet, sTree_loud, sTree_quietG, sTree_loudG, goO_some, goO_none, sOp_call, callvP_func, sOp_callv, putD_some, putD_none, still_nil, still_none, still_cons, sOp_move, sOp_nilCheck, sOp_pick, sOp_alloc, sOp_box, sOp_build, sOp_buildSlice, sOp_load1, sOp_loadN, sOp_store, sOp_bin, sOp_un, sOp_convInt, sOp_convSame, sOp_resame, sOp_toBytes, sOp_ofBytes, sOp_mkfunc, sOp_makeSlice, sOp_sliceStr, sOp_slice, sOp_sliceArr, sOp_fieldAddr, sOp_field1, sOp_fieldN, sOp_indexAddr, sOp_indexArrAddr, sOp_indexStr, sOp_indexArr1, sOp_indexArrN, sOp_extract, sOp_lenStr, sOp_lenSl, sOp_lenArr, sOp_append, sOp_copy, sOp_minmax, sOp_capOf, ev_t, ev_c, argEnv_nil, argEnv_cons, envL_nil, envL_cons, abin_add, abin_sub, abin_mul, abin_quo, abin_rem, abin_eql, abin_neq, abin_lss, abin_leq, abin_gtr, abin_geq, abin_shl, abin_shr, abin_sadd, abin_seql, abin_sneq, abin_slss, abin_sleq, abin_sgtr, abin_sgeq, abin_beql, abin_bneq, abin_p1, abin_p2, abin_p3, abin_p4, abin_p5, abin_p6, abin_s3, abin_s4, abin_s5, abin_s6, abin_f1, abin_f2, abin_f3, abin_f4, abin_feq, abin_fne, cellsEq_nil, cellsEq_s, cellsEq_i, cellsEq_b, aun_not, aun_neg, hget_nil, hget_cons, hset_cons, hkill_cons, hpush_nil, hpush_cons, idx_nil, idx_cons, sub_cons, take_cons, take_nil', put_cons, drop_cons, cells_agg, cells_str, cells_int, cells_bool, cells_ptr, cells_nilptr, cells_nilslice, cells_slice, cells_imm, cells_func, resVals_nil, resVals_t, resVals_cN, resVals_c1, retOf_one, retOf_two, retOf_nil, evOp, isRead, fixOp, ldCell, ldCells, fAddr, iAddr_slice, iAddr_imm, aAddr_ptr, aAddr_iptr, inRange_int, bound_none, bound_int, mayGrow, fillParts, lenOf, lenSl, evSlice, topOf, evAppend, elemsOf, grown, rowF_eq, rowQ_eq, Option.map_some, Option.map_none, Option.bind_some, Option.bind_none, Option.isSome_some, Option.isSome_none, List.map_cons, List.map_nil, List.length_cons, List.length_nil, List.append_nil, List.nil_append, List.cons_append, List.all_cons, List.all_nil, cell_str, cell_int, cell_bool, cell_ptr, cell_iptr, cell_nilptr, cell_nilslice, cell_slice, cell_imm, cell_func, cell_nilfunc, Bool.and_true, Bool.true_and, Bool.and_false, Bool.false_and, Bool.or_true, Bool.true_or, Bool.or_false, Bool.false_or, Bool.not_true, Bool.not_false, Bool.false_eq_true, Bool.true_eq_false, and_true, true_and, and_false, false_and, or_true, true_or, or_false, false_or, not_true_eq_false, not_false_eq_true, decide_true, decide_false, decide_eq_true_eq, if_true, if_false, ite_true, ite_false, ↓reduceIte, Nat.reduceAdd, Nat.reduceSub, Nat.reduceMul, Nat.reduceEqDiff, Nat.reduceLeDiff, Nat.reduceLT, Nat.succ_ne_zero, Nat.zero_add, Nat.add_zero, Nat.zero_mul, Nat.mul_one, Nat.one_mul, Nat.le_refl, Nat.sub_zero, Int.reduceLT, Int.reduceLE, Int.reduceEq, Int.reduceNe, Int.reduceToNat, Int.reduceAdd, Int.reduceSub, Int.toNat_zero, reduceCtorEq, eq_self, ne_eq, beq_self_eq_true, Nat.reduceBEq, Nat.reduceBNe, List.mem_cons, List.not_mem_nil, false_implies, true_implies, implies_true, forall_const, List.drop_zero, List.drop_nil, List.take_zero, List.drop_length, List.length_append, cast_zero, cast_one, Int.cast_ofNat_Int, List.replicate_zero, List.replicate_succ, List.flatten_cons, List.flatten_nil, wrap_one]
  exact sC_inv (a := b3_17) (smI ss cut) ss.length _ _ (.refl _ _ _) ⟨0, Nat.zero_le _, Nat.zero_le _, rfl, rfl, rfl, rfl, rfl, rfl, rfl⟩ (sm_step ss cut hc0 hc1 hok)
abbrev Inp := List (List UInt8) × (Int × Unit)
def avs (p : Inp) : List AV := [.imm (p.1.map fun s => [.str s]) false false, .int .u16 p.2.1]
def oks (p : Inp) : Prop := (p.1.length * Try.prog.bytesOf 9 ≤ reachBytes ∧ ∀ y ∈ p.1, y.length ≤ reachBytes) ∧ ((IntKind.min .u16 ≤ p.2.1 ∧ p.2.1 ≤ IntKind.max .u16) ∧ True)
theorem args : Args Try.prog Try.f3.params.toList avs oks := by
  have hp : Try.f3.params.toList = [22, 23] := by kernel_rfl
  rw [hp]
  exact .cons (arg_slice (e := 9) (by kernel_rfl) (by decide +kernel) (rd_str (by kernel_rfl))) (.cons (arg_int (by kernel_rfl)) .nil)
theorem comes (y : Inp) (hy : oks y) : Tri Try.prog 3 (avs y) [] Yes := by
  obtain ⟨ss, c, u⟩ := y
  obtain ⟨⟨ha, hb⟩, ⟨h1, h2⟩, _⟩ := hy
  have h1' : (0 : Int) ≤ c := h1
  have h2' : c ≤ (65535 : Int) := h2
  have hbo : Try.prog.bytesOf 9 = 16 := by kernel_rfl
  rw [hbo] at ha
  have ha' : ss.length * 16 ≤ 140737488351232 := ha
  exact Tri.of_s c3 C3_sound (law ss c h1' h2' ⟨by omega, hb⟩)
theorem own : ownKnob Try.prog.godebug = none := by kernel_rfl
theorem laidOut : laidOutB Try.prog = true := by kernel_rfl
theorem lifted (os : Os) (started : os.Started) (H : Type) (enc : TypeId × Value → H) :
    ReturnsInHanded {} Try.checked os 3 .any (Rows.parcelListsSpec.pre6 enc Try.prog Try.f3 Rows.parcelListsRow.domain false) (Rows.parcelListsSpec.post enc Try.prog Try.f3 false true false false) := by
  refine returnsInHanded_of_change_sized (C := Try.checked) own started (by kernel_rfl) Try.func3
    (ChangeSpec.witness6 (enc := enc) (C := Try.checked) false ⟨#[], #[.slice none 0 0, .int .u16 0], []⟩ 8 (by kernel_rfl) (by kernel_rfl) (by kernel_rfl) (by kernel_rfl)) ?_
  intro W base args0 ds gs before hval hW _ hz _
  have hp : Try.f3.params.toList = [22, 23] := by kernel_rfl
  refine calls_post (avs := avs) (oks := oks) laidOut ?_ (by kernel_rfl) (tb := 4) (by kernel_rfl) rfl ?_ args comes hval hW hz
  · rw [hp]; intro t ht
    have h3 : ([22, 23].all fun t => Try.prog.readableRec t && Nat.blt t Try.prog.types.size) = true := by kernel_rfl
    have := List.all_eq_true.1 h3 t ht
    rw [Bool.and_eq_true, Nat.blt_eq] at this
    exact this
  · intro ds h
    rw [hp] at h
    match ds, h with
    | [_, _], _ => rfl
end Go.Proofs.Ytmjnmnhpmbbmgab.parcelLists
namespace Go.Proofs.Ytmjnmnhpmbbmgab
open Go.ChangeShapes Go.WideShapes Go.ChangeAt Go.RowKit
theorem parcelLists_holds : Rows.ParcelListsSaid :=
  OpenClaim.holds_of_wide 3 Try.f3 rfl rfl rfl rfl rfl rfl rfl ⟨rfl, rfl, rfl, rfl, rfl⟩ rfl rfl rfl rfl rfl (by kernel_rfl) Try.func3 (by kernel_rfl)
    (of_decide_eq_true (by kernel_rfl)) (by unfold Func.isWrapper; first | (rw [if_pos (by decide +kernel)]; kernel_rfl) | (rw [if_neg (by decide +kernel)]; exact ⟨rfl, rfl⟩))
    (fun os started H enc _ => parcelLists.lifted os started H enc)
end Go.Proofs.Ytmjnmnhpmbbmgab
