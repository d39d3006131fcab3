/- The law gazetteerlaw16.NoteReads returns true for every input: any bytes are a note that may be, whose bytes they are, or none. No condition. -/
import Derived.Test.YtndlgmciplckjaaNRd
import Derived.Test.YtndlgmciplckjaaNAwake
import Derived.Test.YtndlgmciplckjaaNPackS
import Derived.Test.YtndlgmciplckjaaNReadP
set_option linter.unusedVariables false
set_option linter.unusedSimpArgs false
namespace Go.Proofs.Ytndlgmciplckjaa.noteReads
open Go.ChangeShapes Go.WideShapes Go.ChangeAt Go.RowKit Go.Gz Go.Proofs.Ytndlgmciplckjaa.note
abbrev r3_0 : List MOper := [⟨(some 3), .box (.t 1), none⟩,
  ⟨(some 4), .move (.c (.bool false)), none⟩]
def b3_0 : SCode := .region r3_0
abbrev r3_1 : List MOper := [⟨(some 16), .call 9 [], none⟩,
  ⟨(some 17), .un .not (.t 16), none⟩]
def b3_1 : SCode := .region r3_1
abbrev r3_2 : List MOper := [⟨(some 4), .move (.c (.bool false)), none⟩]
def b3_2 : SCode := .region r3_2
def b3_3 : SCode := .seq b3_2 .ret
def b3_4 : SCode := .cond (.t 17) b3_3 .skip
def b3_5 : SCode := .seq b3_1 b3_4
abbrev r3_6 : List MOper := [⟨(some 18), .move (.t 0), none⟩,
  ⟨(some 19), .lenSl (.t 18), none⟩,
  ⟨(some 20), .bin .gtr .num (.t 19) (.c (.int .i64 20000)), none⟩,
  ⟨(some 21), .move (.t 20), none⟩,
  ⟨(some 22), .loadN 27 (.t 3), (some (21, false))⟩,
  ⟨(some 23), .call 10 [(.t 22)], (some (21, false))⟩,
  ⟨(some 24), .un .not (.t 23), (some (21, false))⟩,
  ⟨(some 25), .pick (.t 21) (.c (.bool true)) (.t 24), none⟩]
def b3_6 : SCode := .region r3_6
abbrev r3_7 : List MOper := [⟨(some 4), .move (.c (.bool true)), none⟩]
def b3_7 : SCode := .region r3_7
def b3_8 : SCode := .seq b3_7 .ret
def b3_9 : SCode := .cond (.t 25) b3_8 .skip
def b3_10 : SCode := .seq b3_6 b3_9
abbrev r3_11 : List MOper := [⟨(some 27), .move (.t 0), none⟩,
  ⟨(some 28), .call 11 [(.t 27)], none⟩,
  ⟨(some 26), .move (.t 28), none⟩,
  ⟨(some 29), .extract (.t 26) 0, none⟩,
  ⟨(some 30), .extract (.t 26) 1, none⟩,
  ⟨(some 5), .alloc [.int .i64 0, .int .i64 0, .int .i64 0, .int .i64 0, .int .i64 0, .int .i64 0, .int .i64 0, .int .i64 0, .str [], .str [], .str [], .str [], .int .i64 0, .int .i64 0, .int .i64 0, .int .i64 0, .bool false, .str [], .nilslice, .str [], .bool false, .str [], .str [], .nilslice, .nilslice, .int .i64 0, .nilslice], none⟩,
  ⟨none, .store 27 (.t 5) (.t 29), none⟩,
  ⟨(some 6), .move (.t 30), none⟩]
def b3_11 : SCode := .region r3_11
abbrev r3_12 : List MOper := [⟨(some 31), .move (.t 6), none⟩,
  ⟨(some 32), .bin .eql .num (.t 31) (.c (.int .i64 0)), none⟩]
def b3_12 : SCode := .region r3_12
abbrev r3_13 : List MOper := [⟨(some 34), .loadN 27 (.t 5), none⟩,
  ⟨(some 35), .call 12 [(.t 34)], none⟩,
  ⟨(some 33), .move (.t 35), none⟩,
  ⟨(some 36), .extract (.t 33) 0, none⟩,
  ⟨(some 37), .extract (.t 33) 1, none⟩,
  ⟨(some 7), .move (.t 36), none⟩,
  ⟨(some 8), .move (.t 37), none⟩]
def b3_13 : SCode := .region r3_13
abbrev r3_14 : List MOper := [⟨(some 38), .move (.t 8), none⟩,
  ⟨(some 39), .bin .neq .num (.t 38) (.c (.int .i64 0)), none⟩,
  ⟨(some 40), .move (.t 39), none⟩,
  ⟨(some 41), .move (.t 7), (some (40, false))⟩,
  ⟨(some 42), .ofBytes (.t 41), (some (40, false))⟩,
  ⟨(some 43), .move (.t 0), (some (40, false))⟩,
  ⟨(some 44), .ofBytes (.t 43), (some (40, false))⟩,
  ⟨(some 45), .bin .neq .num (.t 42) (.t 44), (some (40, false))⟩,
  ⟨(some 46), .pick (.t 40) (.c (.bool true)) (.t 45), none⟩,
  ⟨(some 47), .move (.t 46), none⟩,
  ⟨(some 48), .loadN 27 (.t 5), (some (47, false))⟩,
  ⟨(some 49), .call 13 [(.t 48)], (some (47, false))⟩,
  ⟨(some 50), .un .not (.t 49), (some (47, false))⟩,
  ⟨(some 51), .pick (.t 47) (.c (.bool true)) (.t 50), none⟩]
def b3_14 : SCode := .region r3_14
abbrev r3_15 : List MOper := [⟨(some 4), .move (.c (.bool false)), none⟩]
def b3_15 : SCode := .region r3_15
def b3_16 : SCode := .seq b3_15 .ret
def b3_17 : SCode := .cond (.t 51) b3_16 .skip
def b3_18 : SCode := .seq b3_14 b3_17
def b3_19 : SCode := .seq b3_13 b3_18
def b3_20 : SCode := .cond (.t 32) b3_19 .skip
def b3_21 : SCode := .seq b3_12 b3_20
abbrev r3_22 : List MOper := [⟨(some 53), .loadN 27 (.t 3), none⟩,
  ⟨(some 54), .call 14 [(.t 53)], none⟩,
  ⟨(some 55), .call 12 [(.t 54)], none⟩,
  ⟨(some 52), .move (.t 55), none⟩,
  ⟨(some 56), .extract (.t 52) 0, none⟩,
  ⟨(some 57), .extract (.t 52) 1, none⟩,
  ⟨(some 9), .move (.t 56), none⟩,
  ⟨(some 10), .move (.t 57), none⟩]
def b3_22 : SCode := .region r3_22
abbrev r3_23 : List MOper := [⟨(some 58), .move (.t 10), none⟩,
  ⟨(some 59), .bin .neq .num (.t 58) (.c (.int .i64 0)), none⟩]
def b3_23 : SCode := .region r3_23
abbrev r3_24 : List MOper := [⟨(some 60), .move (.t 6), none⟩,
  ⟨(some 61), .bin .eql .num (.t 60) (.c (.int .i64 0)), none⟩,
  ⟨(some 62), .move (.t 61), none⟩,
  ⟨(some 63), .move (.t 6), (some (62, false))⟩,
  ⟨(some 64), .bin .eql .num (.t 63) (.c (.int .i64 5)), (some (62, false))⟩,
  ⟨(some 65), .pick (.t 62) (.c (.bool true)) (.t 64), none⟩,
  ⟨(some 4), .move (.t 65), none⟩]
def b3_24 : SCode := .region r3_24
def b3_25 : SCode := .seq b3_24 .ret
def b3_26 : SCode := .cond (.t 59) b3_25 .skip
def b3_27 : SCode := .seq b3_23 b3_26
abbrev r3_28 : List MOper := [⟨(some 11), .move (.c (.int .i64 0)), none⟩]
def b3_28 : SCode := .region r3_28
abbrev r3_29 : List MOper := [⟨(some 66), .move (.t 11), none⟩,
  ⟨(some 67), .move (.t 0), none⟩,
  ⟨(some 68), .lenSl (.t 67), none⟩,
  ⟨(some 69), .bin .lss .num (.t 66) (.t 68), none⟩,
  ⟨(some 70), .move (.t 69), none⟩,
  ⟨(some 71), .move (.t 11), (some (70, true))⟩,
  ⟨(some 72), .move (.t 9), (some (70, true))⟩,
  ⟨(some 73), .lenSl (.t 72), (some (70, true))⟩,
  ⟨(some 74), .bin .lss .num (.t 71) (.t 73), (some (70, true))⟩,
  ⟨(some 75), .pick (.t 70) (.t 74) (.c (.bool false)), none⟩]
def b3_29 : SCode := .region r3_29
def b3_30 : SCode := .cond (.t 75) .skip (.exit 0)
def b3_31 : SCode := .seq b3_29 b3_30
abbrev r3_32 : List MOper := [⟨(some 78), .move (.t 0), none⟩,
  ⟨(some 79), .move (.t 11), none⟩,
  ⟨(some 80), .indexAddr 1 (.t 78) (.t 79), none⟩,
  ⟨(some 81), .load1 (.t 80), none⟩,
  ⟨(some 82), .bin .and .num (.t 81) (.c (.int .u8 7)), none⟩,
  ⟨(some 83), .bin .eql .num (.t 82) (.c (.int .u8 7)), none⟩]
def b3_32 : SCode := .region r3_32
abbrev t3_33 : LTree := (.quiet ⟨(some 84), .move (.t 9), none⟩ 0
  (.quiet ⟨(some 85), .move (.t 11), none⟩ 1
  (.quiet ⟨(some 86), .indexAddr 1 (.t 84) (.t 85), none⟩ 2
  (.quiet ⟨(some 87), .load1 (.t 86), none⟩ 3
  (.quiet ⟨(some 88), .move (.t 0), none⟩ 4
  (.quiet ⟨(some 89), .move (.t 11), none⟩ 5
  (.quiet ⟨(some 90), .indexAddr 1 (.t 88) (.t 89), none⟩ 6
  (.quiet ⟨(some 91), .load1 (.t 90), none⟩ 7
  (.quiet ⟨(some 92), .bin .xor .num (.t 87) (.t 91), none⟩ 8
  (.quiet ⟨(some 93), .indexAddr 1 (.t 84) (.t 85), none⟩ 9
  (.loud ⟨none, .store 1 (.t 93) (.t 92), none⟩ []
  .leaf .stop)))))))))))
def b3_33 : SCode := .draw t3_33
def b3_34 : SCode := .cond (.t 83) b3_33 .skip
def b3_35 : SCode := .seq b3_32 b3_34
def b3_36 : SCode := .block 1 b3_35
abbrev r3_37 : List MOper := [⟨(some 76), .move (.t 11), none⟩,
  ⟨(some 77), .bin .add .num (.t 76) (.c (.int .i64 1)), none⟩,
  ⟨(some 11), .move (.t 77), none⟩]
def b3_37 : SCode := .region r3_37
def b3_38 : SCode := .seq b3_36 b3_37
def b3_39 : SCode := .seq b3_31 b3_38
def b3_40 : SCode := .loop b3_39
def b3_41 : SCode := .block 0 b3_40
def b3_42 : SCode := .seq b3_28 b3_41
abbrev r3_43 : List MOper := [⟨(some 95), .move (.t 9), none⟩,
  ⟨(some 96), .call 11 [(.t 95)], none⟩,
  ⟨(some 94), .move (.t 96), none⟩,
  ⟨(some 97), .extract (.t 94) 0, none⟩,
  ⟨(some 98), .extract (.t 94) 1, none⟩,
  ⟨(some 12), .alloc [.int .i64 0, .int .i64 0, .int .i64 0, .int .i64 0, .int .i64 0, .int .i64 0, .int .i64 0, .int .i64 0, .str [], .str [], .str [], .str [], .int .i64 0, .int .i64 0, .int .i64 0, .int .i64 0, .bool false, .str [], .nilslice, .str [], .bool false, .str [], .str [], .nilslice, .nilslice, .int .i64 0, .nilslice], none⟩,
  ⟨none, .store 27 (.t 12) (.t 97), none⟩,
  ⟨(some 13), .move (.t 98), none⟩]
def b3_43 : SCode := .region r3_43
abbrev r3_44 : List MOper := [⟨(some 99), .move (.t 13), none⟩,
  ⟨(some 100), .bin .eql .num (.t 99) (.c (.int .i64 0)), none⟩]
def b3_44 : SCode := .region r3_44
abbrev r3_45 : List MOper := [⟨(some 102), .loadN 27 (.t 12), none⟩,
  ⟨(some 103), .call 12 [(.t 102)], none⟩,
  ⟨(some 101), .move (.t 103), none⟩,
  ⟨(some 104), .extract (.t 101) 0, none⟩,
  ⟨(some 105), .extract (.t 101) 1, none⟩,
  ⟨(some 14), .move (.t 104), none⟩,
  ⟨(some 15), .move (.t 105), none⟩]
def b3_45 : SCode := .region r3_45
abbrev r3_46 : List MOper := [⟨(some 106), .move (.t 15), none⟩,
  ⟨(some 107), .bin .neq .num (.t 106) (.c (.int .i64 0)), none⟩,
  ⟨(some 108), .move (.t 107), none⟩,
  ⟨(some 109), .move (.t 14), (some (108, false))⟩,
  ⟨(some 110), .ofBytes (.t 109), (some (108, false))⟩,
  ⟨(some 111), .move (.t 9), (some (108, false))⟩,
  ⟨(some 112), .ofBytes (.t 111), (some (108, false))⟩,
  ⟨(some 113), .bin .neq .num (.t 110) (.t 112), (some (108, false))⟩,
  ⟨(some 114), .pick (.t 108) (.c (.bool true)) (.t 113), none⟩]
def b3_46 : SCode := .region r3_46
abbrev r3_47 : List MOper := [⟨(some 4), .move (.c (.bool false)), none⟩]
def b3_47 : SCode := .region r3_47
def b3_48 : SCode := .seq b3_47 .ret
def b3_49 : SCode := .cond (.t 114) b3_48 .skip
def b3_50 : SCode := .seq b3_46 b3_49
def b3_51 : SCode := .seq b3_45 b3_50
def b3_52 : SCode := .cond (.t 100) b3_51 .skip
def b3_53 : SCode := .seq b3_44 b3_52
abbrev r3_54 : List MOper := [⟨(some 115), .move (.t 6), none⟩,
  ⟨(some 116), .bin .eql .num (.t 115) (.c (.int .i64 0)), none⟩,
  ⟨(some 117), .move (.t 116), none⟩,
  ⟨(some 118), .move (.t 6), (some (117, false))⟩,
  ⟨(some 119), .bin .eql .num (.t 118) (.c (.int .i64 5)), (some (117, false))⟩,
  ⟨(some 120), .pick (.t 117) (.c (.bool true)) (.t 119), none⟩,
  ⟨(some 121), .move (.t 120), none⟩,
  ⟨(some 122), .move (.t 13), (some (121, true))⟩,
  ⟨(some 123), .bin .eql .num (.t 122) (.c (.int .i64 0)), (some (121, true))⟩,
  ⟨(some 124), .move (.t 123), (some (121, true))⟩,
  ⟨(some 125), .move (.t 13), (some (124, false))⟩,
  ⟨(some 126), .bin .eql .num (.t 125) (.c (.int .i64 5)), (some (124, false))⟩,
  ⟨(some 127), .pick (.t 124) (.c (.bool true)) (.t 126), (some (121, true))⟩,
  ⟨(some 128), .pick (.t 121) (.t 127) (.c (.bool false)), none⟩,
  ⟨(some 4), .move (.t 128), none⟩]
def b3_54 : SCode := .region r3_54
def b3_55 : SCode := .seq b3_54 .ret
def b3_56 : SCode := .seq b3_53 b3_55
def b3_57 : SCode := .seq b3_43 b3_56
def b3_58 : SCode := .seq b3_42 b3_57
def b3_59 : SCode := .seq b3_27 b3_58
def b3_60 : SCode := .seq b3_22 b3_59
def b3_61 : SCode := .seq b3_21 b3_60
def b3_62 : SCode := .seq b3_11 b3_61
def b3_63 : SCode := .seq b3_10 b3_62
def b3_64 : SCode := .seq b3_5 b3_63
def b3_65 : SCode := .seq b3_0 b3_64
def s3 : SFunc := ⟨129, [.t 4], b3_65⟩
theorem c3 : sFn Try.prog 3 = some s3 := by kernel_rfl
theorem x3_57 : XS b3_57 b3_43 b3_56 := rfl
theorem x3_60 : XS b3_60 b3_22 b3_59 := rfl
theorem Z3 : XR b3_0 r3_0 ∧ XR b3_1 r3_1 ∧ XR b3_2 r3_2 ∧ XS b3_3 b3_2 .ret ∧ XC b3_4 (.t 17) b3_3 .skip ∧ XS b3_5 b3_1 b3_4 ∧ XR b3_6 r3_6 ∧ XR b3_7 r3_7 ∧ XS b3_8 b3_7 .ret ∧ XC b3_9 (.t 25) b3_8 .skip ∧ XS b3_10 b3_6 b3_9 ∧ XR b3_11 r3_11 ∧ XR b3_12 r3_12 ∧ XR b3_13 r3_13 ∧ XR b3_14 r3_14 ∧ XR b3_15 r3_15 ∧ XS b3_16 b3_15 .ret ∧ XC b3_17 (.t 51) b3_16 .skip ∧ XS b3_18 b3_14 b3_17 ∧ XS b3_19 b3_13 b3_18 ∧ XC b3_20 (.t 32) b3_19 .skip ∧ XS b3_21 b3_12 b3_20 ∧ XR b3_22 r3_22 ∧ XR b3_23 r3_23 ∧ XR b3_24 r3_24 ∧ XS b3_25 b3_24 .ret ∧ XC b3_26 (.t 59) b3_25 .skip ∧ XS b3_27 b3_23 b3_26 ∧ XR b3_28 r3_28 ∧ XR b3_29 r3_29 ∧ XC b3_30 (.t 75) .skip (.exit 0) ∧ XS b3_31 b3_29 b3_30 ∧ XR b3_32 r3_32 ∧ XT b3_33 t3_33 ∧ XC b3_34 (.t 83) b3_33 .skip ∧ XS b3_35 b3_32 b3_34 ∧ XB b3_36 1 b3_35 ∧ XR b3_37 r3_37 ∧ XS b3_38 b3_36 b3_37 ∧ XS b3_39 b3_31 b3_38 ∧ XB b3_41 0 b3_40 ∧ XS b3_42 b3_28 b3_41 ∧ XR b3_43 r3_43 ∧ XR b3_44 r3_44 ∧ XR b3_45 r3_45 ∧ XR b3_46 r3_46 ∧ XR b3_47 r3_47 ∧ XS b3_48 b3_47 .ret ∧ XC b3_49 (.t 114) b3_48 .skip ∧ XS b3_50 b3_46 b3_49 ∧ XS b3_51 b3_45 b3_50 ∧ XC b3_52 (.t 100) b3_51 .skip ∧ XS b3_53 b3_44 b3_52 ∧ XR b3_54 r3_54 ∧ XS b3_55 b3_54 .ret ∧ XS b3_56 b3_53 b3_55 ∧ XS b3_58 b3_42 b3_57 ∧ XS b3_59 b3_27 b3_58 ∧ XS b3_61 b3_21 b3_60 ∧ XS b3_62 b3_11 b3_61 ∧ XS b3_63 b3_10 b3_62 ∧ XS b3_64 b3_5 b3_63 ∧ XS b3_65 b3_0 b3_64 ∧ XY s3 129 b3_65 [.t 4] := ⟨rfl, rfl, rfl, rfl, sC_cond, rfl, rfl, rfl, rfl, sC_cond, rfl, rfl, rfl, rfl, rfl, rfl, rfl, sC_cond, rfl, rfl, sC_cond, rfl, rfl, rfl, rfl, rfl, sC_cond, rfl, rfl, rfl, sC_cond, rfl, rfl, rfl, sC_cond, rfl, rfl, rfl, rfl, rfl, rfl, rfl, rfl, rfl, rfl, rfl, rfl, rfl, sC_cond, rfl, rfl, sC_cond, rfl, rfl, rfl, rfl, rfl, rfl, rfl, rfl, rfl, rfl, rfl, rfl⟩

set_option maxHeartbeats 4000000
set_option maxRecDepth 10000
def packXD (args : List AV) (σ : AHeap) (K : AV → AHeap → Prop) : Prop := packD args σ K ∨ packSD args σ K
theorem packXD_ok (args : List AV) (σ : AHeap) (K : AV → AHeap → Prop) (h : packXD args σ K) : Tri Try.prog 12 args σ K := h.elim (packD_ok args σ K) (packSD_ok args σ K)
def T3 : PCall := rowQ 9 awakeD (rowQ 10 smallD (rowQ 11 readD (rowQ 12 packXD (rowQ 13 mayD (rowQ 14 madeD noCall)))))
theorem T3_app {f : FuncId} {args : List AV} {σ : AHeap} {K : AV → AHeap → Prop} : T3 f args σ K = rowQ 9 awakeD (rowQ 10 smallD (rowQ 11 readD (rowQ 12 packXD (rowQ 13 mayD (rowQ 14 madeD noCall))))) f args σ K := _root_.id rfl
theorem T3_sound : Sound Try.prog T3 := rowQ_sound awakeD_ok (rowQ_sound smallD_ok (rowQ_sound readD_ok (rowQ_sound packXD_ok (rowQ_sound mayD_ok (rowQ_sound madeD_ok (noCall_sound _))))))
theorem yes_true {σ : AHeap} : Yes (.bool true) σ := rfl
/-! How long the bytes of a small row's note are. -/
theorem rec_sum (l : List (List UInt8 × List UInt8)) : ((l.flatMap fun x => txt (txt2 x)).length : Int) = 12 * l.length + sumL l := by
  have h := list_tot l
  have : ∀ l : List (List UInt8 × List UInt8), (l.flatMap fun x => txt (txt2 x)).length = 4 * l.length + (l.flatMap txt2).length := by
    intro l
    induction l with
    | nil => rfl
    | cons p l ih => simp only [List.flatMap_cons, List.length_append, txt_len, List.length_cons, ih]; omega
  have := this l
  omega
theorem sh_sum (l : List ShV) : ((l.flatMap fun x => txt x.bytes).length : Int) = 20 * l.length + sumL (l.map ShV.span) := by
  induction l with
  | nil => rfl
  | cons p l ih =>
    have e : sumL ((p :: l).map ShV.span) = (p.from_.length : Int) + p.to.length + sumL (l.map ShV.span) := by simp [sumL, ShV.span]
    rw [e]
    simp only [List.flatMap_cons, List.length_append, txt_len, sh_len, List.length_cons]; omega
theorem made_len {r : RowV} (h : r.smallP) : (made r).bytes.length ≤ 4000000 := by
  have h0 := h.sum
  have h1 := sum_nonneg r.l
  have h2 := sum_nonneg (r.sh.map ShV.span)
  have h3 := h.sh
  have h4 := h.l
  have h5 := h.lal
  have h6 := h.shl
  simp only [RowV.base] at h0
  have r1 := rec_sum r.l
  have s1 := sh_sum r.sh
  have l1 : ((r.last.map mkLa).flatMap fun x => txt x.bytes).length ≤ 2000000 := by
    have := flat_le (f := fun x : LaV => txt x.bytes) (c := 60014) (l := r.last.map mkLa) fun x hx => by
      obtain ⟨y, hy, rfl⟩ := List.mem_map.1 hx
      rw [txt_len]; have := la_len (x := mkLa y) (h.last y hy); omega
    rw [List.length_map] at this
    omega
  have rp := rep_small_len h.rep
  have ab : r.ask.bytes.length ≤ 30000 := by
    simp only [AskV.bytes, AskV.nums, AskV.texts, List.flatMap_cons, List.flatMap_nil, List.append_nil, List.length_append, txt_len, u32_len, List.length_nil]; omega
  have hd : (made r).head.length = 20 := rfl
  have hb : (made r).body.length ≤ 3000000 := by
    unfold NoteV.body
    split
    · show (txt r.ask.bytes ++ []).length ≤ _; rw [List.append_nil, txt_len]; omega
    split
    · show (txt r.rep.bytes ++ []).length ≤ _; rw [List.append_nil, txt_len]; omega
    split
    · show ([r.aep].flatMap u32 ++ [bytesSh r.sh].flatMap txt).length ≤ _
      simp only [bytesSh, List.flatMap_cons, List.flatMap_nil, List.append_nil, List.length_append, txt_len, u32_len, List.length_nil]; omega
    split
    · simp
    · show ([r.sf, r.st].flatMap txt ++ [bytesRec r.l, bytesLa (r.last.map mkLa)].flatMap txt).length ≤ _
      simp only [bytesRec, bytesLa, List.flatMap_cons, List.flatMap_nil, List.append_nil, List.length_append, txt_len, u32_len, List.length_nil]; omega
  rw [NoteV.bytes, List.length_append]; omega
/-! The bytes that are turned. -/
theorem rws_ff (bs : List UInt8) : flatLL (rws bs) := by
  intro r hr x hx
  obtain ⟨b, _, rfl⟩ := List.mem_map.1 hr
  simp at hx; subst hx; rfl
theorem and8 {x y : Int} : abin .and .num (.int .u8 x) (.int .u8 y) = some (.int .u8 (IntKind.wrap .u8 ((BitVec.ofInt IntKind.u8.bits x &&& BitVec.ofInt IntKind.u8.bits y).toNat : Int))) := rfl
theorem xor8 {x y : Int} : abin .xor .num (.int .u8 x) (.int .u8 y) = some (.int .u8 (IntKind.wrap .u8 ((BitVec.ofInt IntKind.u8.bits x ^^^ BitVec.ofInt IntKind.u8.bits y).toNat : Int))) := rfl
theorem condK_case {C : PCall} {n0 : Nat} {R : MExit → Env → AHeap → Prop} {q : Bool} {a b : SCode} {k : Cont} {e : Env} {σ : AHeap} (h1 : sC C n0 a (unw C n0 R k) e σ) (h2 : sC C n0 b (unw C n0 R k) e σ) : condK C n0 R (.bool q) a b k e σ := by
  cases q
  · exact h2
  · exact h1
theorem byteAV_wrap (x : Int) : AV.int .u8 (IntKind.wrap .u8 x) = byteAV (bOf x) := (byteAV_bOf x).symm
theorem put_byte {ys : List UInt8} {i : Nat} (hi : i < ys.length) (b : UInt8) : put (ys.map byteAV) i [byteAV b] = some ((ys.set i b).map byteAV) := by
  unfold put
  rw [if_pos (by simp; omega)]
  congr 1
  apply List.ext_getElem?
  intro j
  simp only [List.map_set, List.getElem?_set]
  by_cases hj : i = j
  · subst hj
    rw [if_pos rfl, if_pos (by simpa using hi)]
    rw [List.getElem?_append_left (by simp; omega), List.getElem?_append_right (by simp; omega)]
    simp [Nat.min_eq_left (Nat.le_of_lt hi)]
  · rw [if_neg hj]
    by_cases hlt : j < i
    · rw [List.getElem?_append_left (by simp; omega), List.getElem?_append_left (by simp; omega), List.getElem?_take_of_lt hlt]
    · rw [List.getElem?_append_right (by simp; omega), List.getElem?_drop]
      congr 1
      simp; omega
theorem put_wrap {ys : List UInt8} {i : Nat} (hi : i < ys.length) (z : Int) : put (ys.map byteAV) i [.int .u8 (IntKind.wrap .u8 z)] = some ((ys.set i (bOf z)).map byteAV) := by rw [byteAV_wrap]; exact put_byte hi _
def tnI (bs : List UInt8) (N X : Nat) (ev : Int) (m : Nat) (e : Env) (σ : AHeap) : Prop :=
  ∃ (i : Nat) (ys : List UInt8), i ≤ min bs.length N ∧ m = min bs.length N - i ∧ ys.length = N ∧ e 0 = .imm (rws bs) false false ∧ e 6 = .int .i64 ev ∧ e 11 = .int .i64 (i : Int) ∧
    ((i < min bs.length N ∧ e 9 = .slice X 0 N none 1 ∧ hget σ X = some (ys.map byteAV)) ∨ (i = min bs.length N ∧ e 9 = .imm (rws ys) false false))
theorem tn_freeze {bs ys : List UInt8} {N X : Nat} {ev : Int} {i : Nat} {e : Env} {σ : AHeap} (hi : i = min bs.length N) (hy : ys.length = N) (e0 : e 0 = .imm (rws bs) false false) (e6 : e 6 = .int .i64 ev) (e9 : e 9 = .slice X 0 N none 1) (e11 : e 11 = .int .i64 (i : Int)) (hx : hget σ X = some (ys.map byteAV)) :
    ∃ e1 σ1, WkR 0 e σ e1 σ1 ∧ tnI bs N X ev 0 e1 σ1 := by
  refine ⟨envL [(0, .imm (rws bs) false false), (6, .int .i64 ev), (9, .imm (rws ys) false false), (11, .int .i64 (i : Int))], [], .inr (wkS_of [] rfl (by unfold blksP; trivial) ?_), i, ys, by omega, by omega, hy, rfl, rfl, rfl, .inr ⟨hi, rfl⟩⟩
  unfold wvE wvE wvE wvE wvE
  rw [e0, e6, e9, e11]
  refine ⟨?_, ?_, ?_, ?_, trivial⟩
  · unfold wv; exact ⟨rfl, rfl, rfl, rws_ff bs⟩
  · unfold wv; exact ⟨rfl, rfl⟩
  · unfold wv
    refine ⟨by simp, ⟨_, hx, ?_⟩, by rw [rws_len]; exact hy, ?_, by simp, by simp, rws_ff ys⟩
    · unfold rws; rw [rows_flat, Nat.mul_one]; exact sub_all (by simp [hy])
    · intro r hr
      obtain ⟨b, _, rfl⟩ := List.mem_map.1 hr
      rfl
  · unfold wv; exact ⟨rfl, rfl⟩
theorem tn_next {bs ys : List UInt8} {N X : Nat} {ev : Int} {i m : Nat} {e : Env} {σ : AHeap} (hi : i < min bs.length N) (hm : m = min bs.length N - i) (hy : ys.length = N) (e0 : e 0 = .imm (rws bs) false false) (e6 : e 6 = .int .i64 ev) (e9 : e 9 = .slice X 0 N none 1) (e11 : e 11 = .int .i64 ((i + 1 : Nat) : Int)) (hx : hget σ X = some (ys.map byteAV)) :
    ∃ m' e1 σ1, m' < m ∧ WkR 0 e σ e1 σ1 ∧ tnI bs N X ev m' e1 σ1 := by
  by_cases h : i + 1 = min bs.length N
  · obtain ⟨e1, σ1, h1, h2⟩ := tn_freeze h hy e0 e6 e9 e11 hx
    exact ⟨0, e1, σ1, by omega, h1, h2⟩
  · exact ⟨min bs.length N - (i + 1), e, σ, by omega, .refl _ _ _, i + 1, ys, by omega, rfl, hy, e0, e6, e11, .inl ⟨by omega, e9, hx⟩⟩
theorem row_at {bs : List UInt8} {i : Nat} (h : i < bs.length) : (rws bs)[i]? = some [byteAV bs[i]] := by simp [rws, h]
theorem cell_at {ys : List UInt8} {i : Nat} (h : i < ys.length) : (ys.map byteAV)[i]? = some (byteAV ys[i]) := by simp [h]
theorem last3 (bs ys : List UInt8) (hy : ys.length ≤ 4000000) (ev : Int) (hev : ev = 0 ∨ ev = 5) (e : Env) (σ : AHeap) (e6 : e 6 = .int .i64 ev) (e9 : e 9 = .imm (rws ys) false false) :
    sC T3 0 b3_57 (unw T3 0 (RetQ [.t 4] Yes) .fin) e σ := by
  have pn : ∀ c : List AV, hget (hpush σ c) σ.length = some c := fun c => push_new rfl
  have sn : ∀ c c' : List AV, hget (hset (hpush σ c) σ.length c') σ.length = some c' := fun c c' => set_same (pn c)
  simp only [T3_app, Z3, x3_57, x3_60, base1, ↓reduceIte, Nat.reduceAdd, Nat.reduceSub, Nat.reduceMul, Nat.reduceEqDiff, Nat.reduceLeDiff, Nat.reduceLT, Int.reduceLT, Int.reduceLE, Int.reduceEq, Int.reduceNe, Int.reduceToNat, Int.reduceAdd, Int.reduceSub, reduceCtorEq, Nat.reduceBEq, Nat.reduceBNe, lenOf_imm, e6, e9]
  refine ⟨ys, rfl, hy, ?_⟩
  rcases read_back hy with ⟨h1, h2, h3, h4⟩ | h0
  · generalize readNote ys = p at h1 h2 h3 h4 ⊢
    obtain ⟨n, z⟩ := p
    have h1 : z = 0 := h1
    have h2 : mayB n = true := h2
    have h3 : n.sz := h3
    have h4 : n.bytes = ys := h4
    subst h1
    simp only [T3_app, Z3, x3_57, x3_60, base1, ↓reduceIte, Nat.reduceAdd, Nat.reduceSub, Nat.reduceMul, Nat.reduceEqDiff, Nat.reduceLeDiff, Nat.reduceLT, Int.reduceLT, Int.reduceLE, Int.reduceEq, Int.reduceNe, Int.reduceToNat, Int.reduceAdd, Int.reduceSub, reduceCtorEq, Nat.reduceBEq, Nat.reduceBNe, lenOf_imm, e6, e9, ansN, pn, sn, nc_len, nc_cell, put_note, sub_note]
    refine .inl ⟨n, rfl, h3, ?_⟩
    rcases hev with rfl | rfl <;> simp only [T3_app, Z3, x3_57, x3_60, base1, ↓reduceIte, Nat.reduceAdd, Nat.reduceSub, Nat.reduceMul, Nat.reduceEqDiff, Nat.reduceLeDiff, Nat.reduceLT, Int.reduceLT, Int.reduceLE, Int.reduceEq, Int.reduceNe, Int.reduceToNat, Int.reduceAdd, Int.reduceSub, reduceCtorEq, Nat.reduceBEq, Nat.reduceBNe, lenOf_imm, e6, e9, packN, h2, h4, ofRws] <;> exact yes_true
  · rw [h0]
    rcases hev with rfl | rfl <;> simp only [T3_app, Z3, x3_57, x3_60, base1, ↓reduceIte, Nat.reduceAdd, Nat.reduceSub, Nat.reduceMul, Nat.reduceEqDiff, Nat.reduceLeDiff, Nat.reduceLT, Int.reduceLT, Int.reduceLE, Int.reduceEq, Int.reduceNe, Int.reduceToNat, Int.reduceAdd, Int.reduceSub, reduceCtorEq, Nat.reduceBEq, Nat.reduceBNe, lenOf_imm, e6, e9, ansN, pn, sn, nc_len, nc_cell, put_note, sub_note] <;> exact yes_true
theorem tn_step (bs : List UInt8) (N X : Nat) (hN : N ≤ 4000000) (hb : bs.length ≤ 20000) (ev : Int) (hev : ev = 0 ∨ ev = 5) (m : Nat) (e : Env) (σ : AHeap) (h : tnI bs N X ev m e σ) :
    sC T3 0 b3_39 (unw T3 0 (loopR T3 0 (RetQ [.t 4] Yes) (.block 0 (.seq b3_57 .fin)) (tnI bs N X ev) m) .fin) e σ := by
  obtain ⟨i, ys, hi, hm, hy, e0, e6, e11, hc⟩ := h
  rcases hc with ⟨hlt, e9, hx⟩ | ⟨he, e9⟩
  · have i1 : i < bs.length := by omega
    have i2 : i < N := by omega
    have i3 : i < ys.length := by omega
    have i1' : (i : Int) < (bs.length : Int) := by omega
    have i2' : (i : Int) < (N : Int) := by omega
    have i0 : (0 : Int) ≤ (i : Int) := by omega
    have hw : IntKind.wrap .i64 ((i : Int) + 1) = ((i + 1 : Nat) : Int) := by rw [Gz.wrap64 (by omega)]; omega
    have l9 : lenOf (.slice X 0 N none 1) = some N := rfl
    have hp := fun z => put_wrap i3 z
    simp only [T3_app, Z3, x3_57, x3_60, base1, ↓reduceIte, Nat.reduceAdd, Nat.reduceSub, Nat.reduceMul, Nat.reduceEqDiff, Nat.reduceLeDiff, Nat.reduceLT, Int.reduceLT, Int.reduceLE, Int.reduceEq, Int.reduceNe, Int.reduceToNat, Int.reduceAdd, Int.reduceSub, reduceCtorEq, Nat.reduceBEq, Nat.reduceBNe, lenOf_imm, l9, rws_len, loopR_exit, loopR_ret, e0, e6, e9, e11, i1, i1', i2, i2', i3, i0, hw, row_at i1, Int.toNat_natCast, byteAV_eq, and8]
    refine condK_case ?_ ?_
    · simp only [T3_app, Z3, x3_57, x3_60, base1, ↓reduceIte, Nat.reduceAdd, Nat.reduceSub, Nat.reduceMul, Nat.reduceEqDiff, Nat.reduceLeDiff, Nat.reduceLT, Int.reduceLT, Int.reduceLE, Int.reduceEq, Int.reduceNe, Int.reduceToNat, Int.reduceAdd, Int.reduceSub, reduceCtorEq, Nat.reduceBEq, Nat.reduceBNe, lenOf_imm, l9, rws_len, loopR_exit, loopR_ret, e0, e6, e9, e11, i1, i1', i2, i2', i3, i0, hw, hx, row_at i1, cell_at i3, Int.toNat_natCast, byteAV_eq, xor8, hp]
      rw [loopR_normal]
      exact tn_next hlt hm (by simpa using hy) e0 e6 e9 rfl (set_same hx)
    · simp only [T3_app, Z3, x3_57, x3_60, base1, ↓reduceIte, Nat.reduceAdd, Nat.reduceSub, Nat.reduceMul, Nat.reduceEqDiff, Nat.reduceLeDiff, Nat.reduceLT, Int.reduceLT, Int.reduceLE, Int.reduceEq, Int.reduceNe, Int.reduceToNat, Int.reduceAdd, Int.reduceSub, reduceCtorEq, Nat.reduceBEq, Nat.reduceBNe, lenOf_imm, l9, rws_len, loopR_exit, loopR_ret, e0, e6, e9, e11, i1, i1', i2, i2', i3, i0, hw, Int.toNat_natCast]
      rw [loopR_normal]
      exact tn_next hlt hm hy e0 e6 e9 rfl hx
  · by_cases h1 : (i : Int) < (bs.length : Int)
    · have h2 : ¬ (i : Int) < (ys.length : Int) := by omega
      simp only [T3_app, Z3, x3_60, base1, ↓reduceIte, Nat.reduceAdd, Nat.reduceSub, Nat.reduceMul, Nat.reduceEqDiff, Nat.reduceLeDiff, Nat.reduceLT, Int.reduceLT, Int.reduceLE, Int.reduceEq, Int.reduceNe, Int.reduceToNat, Int.reduceAdd, Int.reduceSub, reduceCtorEq, Nat.reduceBEq, Nat.reduceBNe, lenOf_imm, rws_len, loopR_exit, loopR_ret, e0, e6, e9, e11, h1, h2]
      exact last3 bs ys (by omega) ev hev _ _ e6 e9
    · simp only [T3_app, Z3, x3_60, base1, ↓reduceIte, Nat.reduceAdd, Nat.reduceSub, Nat.reduceMul, Nat.reduceEqDiff, Nat.reduceLeDiff, Nat.reduceLT, Int.reduceLT, Int.reduceLE, Int.reduceEq, Int.reduceNe, Int.reduceToNat, Int.reduceAdd, Int.reduceSub, reduceCtorEq, Nat.reduceBEq, Nat.reduceBNe, lenOf_imm, rws_len, loopR_exit, loopR_ret, e0, e6, e9, e11, h1]
      exact last3 bs ys (by omega) ev hev _ _ e6 e9
theorem loop3 (bs xs : List UInt8) (X : Nat) (hN : xs.length ≤ 4000000) (hb : bs.length ≤ 20000) (ev : Int) (hev : ev = 0 ∨ ev = 5) (e : Env) (σ : AHeap) (e0 : e 0 = .imm (rws bs) false false) (e6 : e 6 = .int .i64 ev) (e9 : e 9 = .slice X 0 xs.length none 1) (e11 : e 11 = .int .i64 ((0 : Nat) : Int)) (gx : hget σ X = some (xs.map byteAV)) :
    sC T3 0 b3_40 (unw T3 0 (RetQ [.t 4] Yes) (.block 0 (.seq b3_57 .fin))) e σ := by
  by_cases h0 : 0 = min bs.length xs.length
  · obtain ⟨e1, σ1, h1, h2⟩ := tn_freeze (i := 0) (ev := ev) h0 rfl e0 e6 e9 e11 gx
    exact sC_inv (a := b3_39) (tnI bs xs.length X ev) 0 e1 σ1 h1 h2 (tn_step bs _ _ hN hb ev hev)
  · exact sC_inv (a := b3_39) (tnI bs xs.length X ev) (min bs.length xs.length - 0) _ _ (.refl _ _ _) ⟨0, xs, by omega, rfl, rfl, e0, e6, e11, .inl ⟨by omega, e9, gx⟩⟩ (tn_step bs _ _ hN hb ev hev)
theorem rest3 (bs : List UInt8) (hb : bs.length ≤ 20000) (r : RowV) (pr : r.smallP) (ev : Int) (hev : ev = 0 ∨ ev = 5) (X0 : Nat) (e : Env) (σ : AHeap) (e0 : e 0 = .imm (rws bs) false false) (e3 : e 3 = .ptr X0 0) (e6 : e 6 = .int .i64 ev) (g3 : hget σ X0 = some r.cells) :
    sC T3 0 b3_60 (unw T3 0 (RetQ [.t 4] Yes) .fin) e σ := by
  have la : r.last.length ≤ 1000000 := by have := pr.lal; omega
  have sa : r.sh.length ≤ 1000000 := by have := pr.shl; omega
  have hN := made_len pr
  simp only [T3_app, Z3, x3_57, x3_60, base1, ↓reduceIte, Nat.reduceAdd, Nat.reduceSub, Nat.reduceMul, Nat.reduceEqDiff, Nat.reduceLeDiff, Nat.reduceLT, Int.reduceLT, Int.reduceLE, Int.reduceEq, Int.reduceNe, Int.reduceToNat, Int.reduceAdd, Int.reduceSub, reduceCtorEq, Nat.reduceBEq, Nat.reduceBNe, e0, e3, e6, g3, sub_row, madeD_eq, la, sa, true_and]
  refine .inr ⟨made r, rfl, made_sz pr, fun hm => ?_, fun hm => ?_⟩
  · rcases hev with rfl | rfl <;> simp only [T3_app, Z3, x3_57, x3_60, base1, ↓reduceIte, Nat.reduceAdd, Nat.reduceSub, Nat.reduceMul, Nat.reduceEqDiff, Nat.reduceLeDiff, Nat.reduceLT, Int.reduceLT, Int.reduceLE, Int.reduceEq, Int.reduceNe, Int.reduceToNat, Int.reduceAdd, Int.reduceSub, reduceCtorEq, Nat.reduceBEq, Nat.reduceBNe, e0, e3, e6] <;> exact yes_true
  · have gx : hget (σ ++ [some ((made r).bytes.map byteAV)]) σ.length = some ((made r).bytes.map byteAV) := by simp [hget]
    simp only [T3_app, Z3, x3_57, x3_60, base1, ↓reduceIte, Nat.reduceAdd, Nat.reduceSub, Nat.reduceMul, Nat.reduceEqDiff, Nat.reduceLeDiff, Nat.reduceLT, Int.reduceLT, Int.reduceLE, Int.reduceEq, Int.reduceNe, Int.reduceToNat, Int.reduceAdd, Int.reduceSub, reduceCtorEq, Nat.reduceBEq, Nat.reduceBNe, e0, e3, e6]
    exact loop3 bs (made r).bytes σ.length hN hb ev hev _ _ e0 e6 rfl rfl gx
theorem law (bs : List UInt8) (r : RowV) (hr : r.okS) : sF T3 s3 [.imm (rws bs) false false, .agg r.cells] [] Yes := by
  by_cases hlt : (20000 : Int) < (bs.length : Int)
  · simp only [T3_app, awakeD_eq, Z3, x3_57, x3_60, base1, ↓reduceIte, Nat.reduceAdd, Nat.reduceSub, Nat.reduceMul, Nat.reduceEqDiff, Nat.reduceLeDiff, Nat.reduceLT, Int.reduceLT, Int.reduceLE, Int.reduceEq, Int.reduceNe, Int.reduceToNat, Int.reduceAdd, Int.reduceSub, reduceCtorEq, Nat.reduceBEq, Nat.reduceBNe, lenOf_imm, rws_len, sub_row, hlt]
    exact yes_true
  · have hb : bs.length ≤ 20000 := by omega
    simp only [T3_app, awakeD_eq, Z3, x3_57, x3_60, base1, ↓reduceIte, Nat.reduceAdd, Nat.reduceSub, Nat.reduceMul, Nat.reduceEqDiff, Nat.reduceLeDiff, Nat.reduceLT, Int.reduceLT, Int.reduceLE, Int.reduceEq, Int.reduceNe, Int.reduceToNat, Int.reduceAdd, Int.reduceSub, reduceCtorEq, Nat.reduceBEq, Nat.reduceBNe, lenOf_imm, rws_len, sub_row, hlt]
    refine ⟨r, rfl, hr, fun p hp => ?_⟩
    cases p with
    | false =>
      simp only [T3_app, awakeD_eq, Z3, x3_57, x3_60, base1, ↓reduceIte, Nat.reduceAdd, Nat.reduceSub, Nat.reduceMul, Nat.reduceEqDiff, Nat.reduceLeDiff, Nat.reduceLT, Int.reduceLT, Int.reduceLE, Int.reduceEq, Int.reduceNe, Int.reduceToNat, Int.reduceAdd, Int.reduceSub, reduceCtorEq, Nat.reduceBEq, Nat.reduceBNe, lenOf_imm, rws_len]
      exact yes_true
    | true =>
      have pr := hp rfl
      simp only [T3_app, awakeD_eq, Z3, x3_57, x3_60, base1, ↓reduceIte, Nat.reduceAdd, Nat.reduceSub, Nat.reduceMul, Nat.reduceEqDiff, Nat.reduceLeDiff, Nat.reduceLT, Int.reduceLT, Int.reduceLE, Int.reduceEq, Int.reduceNe, Int.reduceToNat, Int.reduceAdd, Int.reduceSub, reduceCtorEq, Nat.reduceBEq, Nat.reduceBNe, lenOf_imm, rws_len]
      refine ⟨bs, rfl, by omega, ?_⟩
      rcases read_back (bs := bs) (by omega) with ⟨h1, h2, h3, h4⟩ | h0
      · generalize readNote bs = p at h1 h2 h3 h4 ⊢
        obtain ⟨n, z⟩ := p
        have h1 : z = 0 := h1
        have h2 : mayB n = true := h2
        have h3 : n.sz := h3
        have h4 : n.bytes = bs := h4
        subst h1
        simp only [T3_app, Z3, x3_57, x3_60, base1, ↓reduceIte, Nat.reduceAdd, Nat.reduceSub, Nat.reduceMul, Nat.reduceEqDiff, Nat.reduceLeDiff, Nat.reduceLT, Int.reduceLT, Int.reduceLE, Int.reduceEq, Int.reduceNe, Int.reduceToNat, Int.reduceAdd, Int.reduceSub, reduceCtorEq, Nat.reduceBEq, Nat.reduceBNe, lenOf_imm, ansN, nc_len, nc_cell, put_note, sub_note]
        refine .inl ⟨n, rfl, h3, ?_⟩
        simp only [T3_app, Z3, x3_57, x3_60, base1, ↓reduceIte, Nat.reduceAdd, Nat.reduceSub, Nat.reduceMul, Nat.reduceEqDiff, Nat.reduceLeDiff, Nat.reduceLT, Int.reduceLT, Int.reduceLE, Int.reduceEq, Int.reduceNe, Int.reduceToNat, Int.reduceAdd, Int.reduceSub, reduceCtorEq, Nat.reduceBEq, Nat.reduceBNe, lenOf_imm, packN, h2, h4, ofRws, sub_note]
        refine ⟨n, rfl, h3, ?_⟩
        simp only [T3_app, Z3, x3_57, base1, ↓reduceIte, Nat.reduceAdd, Nat.reduceSub, Nat.reduceMul, Nat.reduceEqDiff, Nat.reduceLeDiff, Nat.reduceLT, Int.reduceLT, Int.reduceLE, Int.reduceEq, Int.reduceNe, Int.reduceToNat, Int.reduceAdd, Int.reduceSub, reduceCtorEq, Nat.reduceBEq, Nat.reduceBNe, h2]
        exact rest3 bs hb r pr 0 (.inl rfl) 0 _ _ rfl rfl rfl rfl
      · rw [h0]
        simp only [T3_app, Z3, x3_57, base1, ↓reduceIte, Nat.reduceAdd, Nat.reduceSub, Nat.reduceMul, Nat.reduceEqDiff, Nat.reduceLeDiff, Nat.reduceLT, Int.reduceLT, Int.reduceLE, Int.reduceEq, Int.reduceNe, Int.reduceToNat, Int.reduceAdd, Int.reduceSub, reduceCtorEq, Nat.reduceBEq, Nat.reduceBNe, lenOf_imm, ansN, nc_len, nc_cell, put_note, sub_note]
        exact rest3 bs hb r pr 5 (.inr rfl) 0 _ _ rfl rfl rfl rfl
/-! Bytes, read as data. -/
theorem rd_byte {t : TypeId} (ht : Try.prog.underlying t = some (.int .u8)) : Rd Try.prog t (fun b : UInt8 => [byteAV b]) (fun _ => True) := by
  intro H enc W fuel cs x h hz
  obtain ⟨n, ⟨h1, h2⟩, hr⟩ := rd_int (k := .u8) ht H enc W fuel cs x h hz
  have h1 : 0 ≤ n := h1
  have h2 : n ≤ 255 := h2
  refine ⟨bOf n, trivial, fun C hC hO => ?_⟩
  have e : byteAV (bOf n) = .int .u8 n := by
    rw [byteAV_bOf]
    have : IntKind.wrap .u8 n = n % 256 := IntKind.wrap_u8 n
    rw [this]; congr 1; omega
  show LRel C [byteAV (bOf n)] cs
  rw [e]; exact hr C hC hO
abbrev Inp := List UInt8 × (RowV × Unit)
def avs (p : Inp) : List AV := [.imm (rws p.1) false false, .agg p.2.1.cells]
def oks (p : Inp) : Prop := (p.1.length * Try.prog.bytesOf 5 ≤ reachBytes ∧ ∀ y ∈ p.1, True) ∧ (p.2.1.okS ∧ True)
theorem args : Args Try.prog Try.f3.params.toList avs oks := by
  have hp : Try.f3.params.toList = [22, 36] := by kernel_rfl
  rw [hp]
  have hu : Try.prog.underlying 36 = some (.struct (Try.prog.fieldsOf 36)) := by kernel_rfl
  exact .cons (arg_slice (P := Try.prog) (t := 22) (e := 5) (by kernel_rfl) (by decide +kernel) (rd_byte (t := 5) (by kernel_rfl))) (.cons (arg_agg rdRow (.inl ⟨_, hu⟩)) .nil)
theorem comes (y : Inp) (hy : oks y) : Tri Try.prog 3 (avs y) [] Yes := by
  obtain ⟨a, b, u⟩ := y
  obtain ⟨ha, hb, _⟩ := hy
  exact Tri.of_s c3 T3_sound (law a b hb)
theorem own : ownKnob Try.prog.godebug = none := by kernel_rfl
theorem laidOut : laidOutB Try.prog = true := by kernel_rfl
theorem lifted (os : Os) (started : os.Started) (H : Type) (enc : TypeId × Value → H) :
    ReturnsInHanded {} Try.checked os 3 .any (Rows.noteReadsSpec.pre6 enc Try.prog Try.f3 Rows.noteReadsRow.domain false) (Rows.noteReadsSpec.post enc Try.prog Try.f3 false true false false) := by
  refine returnsInHanded_of_change_sized (C := Try.checked) own started (by kernel_rfl) Try.func3
    (ChangeSpec.witness6 (enc := enc) (C := Try.checked) false ⟨#[], #[.slice none 0 0, .agg #[.int .i64 0, .int .i64 0, .int .i64 0, .int .i64 0, .int .i64 0, .int .i64 0, .int .i64 0, .int .i64 0, .string ⟨#[]⟩, .string ⟨#[]⟩, .string ⟨#[]⟩, .string ⟨#[]⟩, .int .i64 0, .int .i64 0, .int .i64 0, .int .i64 0, .bool false, .string ⟨#[]⟩, .slice none 0 0, .string ⟨#[]⟩, .bool false, .string ⟨#[]⟩, .string ⟨#[]⟩, .slice none 0 0, .slice none 0 0, .int .i64 0, .slice none 0 0]], []⟩ 8 (by kernel_rfl) (by kernel_rfl) (by kernel_rfl) (by kernel_rfl)) ?_
  intro W base args0 ds gs before hval hW _ hz _
  have hp : Try.f3.params.toList = [22, 36] := by kernel_rfl
  refine calls_post (avs := avs) (oks := oks) laidOut ?_ (by kernel_rfl) (tb := 4) (by kernel_rfl) rfl ?_ args comes hval hW hz
  · rw [hp]; intro t ht
    have h3 : ([22, 36].all fun t => Try.prog.readableRec t && Nat.blt t Try.prog.types.size) = true := by kernel_rfl
    have := List.all_eq_true.1 h3 t ht
    rw [Bool.and_eq_true, Nat.blt_eq] at this
    exact this
  · intro ds h
    rw [hp] at h
    match ds, h with
    | [_, _], _ => rfl
end Go.Proofs.Ytndlgmciplckjaa.noteReads
namespace Go.Proofs.Ytndlgmciplckjaa
open Go.ChangeShapes Go.WideShapes Go.ChangeAt Go.RowKit
theorem noteReads_holds : Rows.NoteReadsSaid :=
  OpenClaim.holds_of_wide 3 Try.f3 rfl rfl rfl rfl rfl rfl rfl ⟨rfl, rfl, rfl, rfl, rfl⟩ rfl rfl rfl rfl rfl (by kernel_rfl) Try.func3 (by kernel_rfl)
    (of_decide_eq_true (by kernel_rfl)) (by unfold Func.isWrapper; first | (rw [if_pos (by decide +kernel)]; kernel_rfl) | (rw [if_neg (by decide +kernel)]; exact ⟨rfl, rfl⟩))
    (fun os started H enc _ => noteReads.lifted os started H enc)
end Go.Proofs.Ytndlgmciplckjaa
