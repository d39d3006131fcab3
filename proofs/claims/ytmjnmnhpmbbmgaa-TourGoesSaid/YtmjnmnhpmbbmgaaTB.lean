/- What a text is read as. No condition. -/
import Derived.Test.YtmjnmnhpmbbmgaaTA
import Derived.Test.YtmjnmnhpmbbmgaaK30
set_option linter.unusedVariables false
set_option linter.unusedSimpArgs false
namespace Go.Proofs.Ytmjnmnhpmbbmgaa.tour
open Go.ChangeShapes Go.WideShapes Go.ChangeAt Go.RowKit Go.Gz Go.Gz.H
abbrev r49_0 : List MOper := [⟨(some 2), .move (.c (.nilslice)), none⟩,
  ⟨(some 3), .move (.c (.int .i64 0)), none⟩]
def b49_0 : SCode := .region r49_0
abbrev r49_1 : List MOper := [⟨(some 4), .move (.c (.nilslice)), none⟩]
def b49_1 : SCode := .region r49_1
abbrev r49_2 : List MOper := [⟨(some 5), .move (.c (.int .i64 0)), none⟩]
def b49_2 : SCode := .region r49_2
abbrev r49_3 : List MOper := [⟨(some 10), .move (.t 5), none⟩,
  ⟨(some 11), .move (.t 0), none⟩,
  ⟨(some 12), .lenStr (.t 11), none⟩,
  ⟨(some 13), .bin .lss .num (.t 10) (.t 12), none⟩]
def b49_3 : SCode := .region r49_3
def b49_4 : SCode := .cond (.t 13) .skip (.exit 0)
def b49_5 : SCode := .seq b49_3 b49_4
abbrev r49_6 : List MOper := [⟨(some 14), .move (.t 0), none⟩,
  ⟨(some 15), .move (.t 5), none⟩,
  ⟨(some 16), .indexStr (.t 14) (.t 15), none⟩,
  ⟨(some 6), .move (.t 16), none⟩]
def b49_6 : SCode := .region r49_6
abbrev r49_7 : List MOper := [⟨(some 17), .move (.t 6), none⟩,
  ⟨(some 18), .convInt .i32 (.t 17), none⟩,
  ⟨(some 7), .move (.c (.int .i64 0)), none⟩,
  ⟨(some 8), .move (.t 18), none⟩]
def b49_7 : SCode := .region r49_7
abbrev r49_8 : List MOper := [⟨(some 20), .move (.t 6), none⟩,
  ⟨(some 21), .bin .lss .num (.t 20) (.c (.int .u8 128)), none⟩,
  ⟨(some 19), .move (.t 21), none⟩]
def b49_8 : SCode := .region r49_8
abbrev r49_9 : List MOper := [⟨(some 7), .move (.c (.int .i64 1)), none⟩]
def b49_9 : SCode := .region r49_9
abbrev r49_10 : List MOper := [⟨(some 23), .move (.t 6), none⟩,
  ⟨(some 24), .bin .geq .num (.t 23) (.c (.int .u8 194)), none⟩,
  ⟨(some 25), .move (.t 24), none⟩,
  ⟨(some 26), .move (.t 6), (some (25, true))⟩,
  ⟨(some 27), .bin .lss .num (.t 26) (.c (.int .u8 224)), (some (25, true))⟩,
  ⟨(some 28), .pick (.t 25) (.t 27) (.c (.bool false)), none⟩,
  ⟨(some 22), .move (.t 28), none⟩]
def b49_10 : SCode := .region r49_10
abbrev r49_11 : List MOper := [⟨(some 29), .move (.t 6), none⟩,
  ⟨(some 30), .bin .and .num (.t 29) (.c (.int .u8 31)), none⟩,
  ⟨(some 31), .convInt .i32 (.t 30), none⟩,
  ⟨(some 7), .move (.c (.int .i64 2)), none⟩,
  ⟨(some 8), .move (.t 31), none⟩]
def b49_11 : SCode := .region r49_11
abbrev r49_12 : List MOper := [⟨(some 33), .move (.t 6), none⟩,
  ⟨(some 34), .bin .geq .num (.t 33) (.c (.int .u8 224)), none⟩,
  ⟨(some 35), .move (.t 34), none⟩,
  ⟨(some 36), .move (.t 6), (some (35, true))⟩,
  ⟨(some 37), .bin .lss .num (.t 36) (.c (.int .u8 240)), (some (35, true))⟩,
  ⟨(some 38), .pick (.t 35) (.t 37) (.c (.bool false)), none⟩,
  ⟨(some 32), .move (.t 38), none⟩]
def b49_12 : SCode := .region r49_12
abbrev r49_13 : List MOper := [⟨(some 39), .move (.t 6), none⟩,
  ⟨(some 40), .bin .and .num (.t 39) (.c (.int .u8 15)), none⟩,
  ⟨(some 41), .convInt .i32 (.t 40), none⟩,
  ⟨(some 7), .move (.c (.int .i64 3)), none⟩,
  ⟨(some 8), .move (.t 41), none⟩]
def b49_13 : SCode := .region r49_13
abbrev r49_14 : List MOper := [⟨(some 43), .move (.t 6), none⟩,
  ⟨(some 44), .bin .geq .num (.t 43) (.c (.int .u8 240)), none⟩,
  ⟨(some 45), .move (.t 44), none⟩,
  ⟨(some 46), .move (.t 6), (some (45, true))⟩,
  ⟨(some 47), .bin .lss .num (.t 46) (.c (.int .u8 245)), (some (45, true))⟩,
  ⟨(some 48), .pick (.t 45) (.t 47) (.c (.bool false)), none⟩,
  ⟨(some 42), .move (.t 48), none⟩]
def b49_14 : SCode := .region r49_14
abbrev r49_15 : List MOper := [⟨(some 49), .move (.t 6), none⟩,
  ⟨(some 50), .bin .and .num (.t 49) (.c (.int .u8 7)), none⟩,
  ⟨(some 51), .convInt .i32 (.t 50), none⟩,
  ⟨(some 7), .move (.c (.int .i64 4)), none⟩,
  ⟨(some 8), .move (.t 51), none⟩]
def b49_15 : SCode := .region r49_15
def b49_16 : SCode := .cond (.t 42) b49_15 .skip
def b49_17 : SCode := .seq b49_14 b49_16
def b49_18 : SCode := .cond (.t 32) b49_13 b49_17
def b49_19 : SCode := .seq b49_12 b49_18
def b49_20 : SCode := .cond (.t 22) b49_11 b49_19
def b49_21 : SCode := .seq b49_10 b49_20
def b49_22 : SCode := .cond (.t 19) b49_9 b49_21
def b49_23 : SCode := .seq b49_8 b49_22
def b49_24 : SCode := .block 2 b49_23
abbrev r49_25 : List MOper := [⟨(some 52), .move (.t 7), none⟩,
  ⟨(some 53), .bin .eql .num (.t 52) (.c (.int .i64 0)), none⟩,
  ⟨(some 54), .move (.t 53), none⟩,
  ⟨(some 55), .move (.t 0), (some (54, false))⟩,
  ⟨(some 56), .lenStr (.t 55), (some (54, false))⟩,
  ⟨(some 57), .move (.t 5), (some (54, false))⟩,
  ⟨(some 58), .bin .sub .num (.t 56) (.t 57), (some (54, false))⟩,
  ⟨(some 59), .move (.t 7), (some (54, false))⟩,
  ⟨(some 60), .bin .lss .num (.t 58) (.t 59), (some (54, false))⟩,
  ⟨(some 61), .pick (.t 54) (.c (.bool true)) (.t 60), none⟩]
def b49_25 : SCode := .region r49_25
abbrev r49_26 : List MOper := [⟨(some 2), .move (.c (.nilslice)), none⟩,
  ⟨(some 3), .move (.c (.int .i64 2)), none⟩]
def b49_26 : SCode := .region r49_26
def b49_27 : SCode := .seq b49_26 .ret
def b49_28 : SCode := .cond (.t 61) b49_27 .skip
def b49_29 : SCode := .seq b49_25 b49_28
abbrev r49_30 : List MOper := [⟨(some 9), .move (.c (.int .i64 1)), none⟩]
def b49_30 : SCode := .region r49_30
abbrev r49_31 : List MOper := [⟨(some 62), .move (.t 9), none⟩,
  ⟨(some 63), .move (.t 7), none⟩,
  ⟨(some 64), .bin .lss .num (.t 62) (.t 63), none⟩]
def b49_31 : SCode := .region r49_31
def b49_32 : SCode := .cond (.t 64) .skip (.exit 3)
def b49_33 : SCode := .seq b49_31 b49_32
abbrev r49_34 : List MOper := [⟨(some 67), .move (.t 0), none⟩,
  ⟨(some 68), .move (.t 5), none⟩,
  ⟨(some 69), .move (.t 9), none⟩,
  ⟨(some 70), .bin .add .num (.t 68) (.t 69), none⟩,
  ⟨(some 71), .indexStr (.t 67) (.t 70), none⟩,
  ⟨(some 72), .bin .and .num (.t 71) (.c (.int .u8 192)), none⟩,
  ⟨(some 73), .bin .neq .num (.t 72) (.c (.int .u8 128)), none⟩]
def b49_34 : SCode := .region r49_34
abbrev r49_35 : List MOper := [⟨(some 2), .move (.c (.nilslice)), none⟩,
  ⟨(some 3), .move (.c (.int .i64 2)), none⟩]
def b49_35 : SCode := .region r49_35
def b49_36 : SCode := .seq b49_35 .ret
def b49_37 : SCode := .cond (.t 73) b49_36 .skip
def b49_38 : SCode := .seq b49_34 b49_37
abbrev r49_39 : List MOper := [⟨(some 74), .move (.t 8), none⟩,
  ⟨(some 75), .bin .shl .num (.t 74) (.c (.int .u64 6)), none⟩,
  ⟨(some 76), .move (.t 0), none⟩,
  ⟨(some 77), .move (.t 5), none⟩,
  ⟨(some 78), .move (.t 9), none⟩,
  ⟨(some 79), .bin .add .num (.t 77) (.t 78), none⟩,
  ⟨(some 80), .indexStr (.t 76) (.t 79), none⟩,
  ⟨(some 81), .bin .and .num (.t 80) (.c (.int .u8 63)), none⟩,
  ⟨(some 82), .convInt .i32 (.t 81), none⟩,
  ⟨(some 83), .bin .or .num (.t 75) (.t 82), none⟩,
  ⟨(some 8), .move (.t 83), none⟩]
def b49_39 : SCode := .region r49_39
def b49_40 : SCode := .seq b49_38 b49_39
def b49_41 : SCode := .block 4 b49_40
abbrev r49_42 : List MOper := [⟨(some 65), .move (.t 9), none⟩,
  ⟨(some 66), .bin .add .num (.t 65) (.c (.int .i64 1)), none⟩,
  ⟨(some 9), .move (.t 66), none⟩]
def b49_42 : SCode := .region r49_42
def b49_43 : SCode := .seq b49_41 b49_42
def b49_44 : SCode := .seq b49_33 b49_43
def b49_45 : SCode := .loop b49_44
def b49_46 : SCode := .block 3 b49_45
def b49_47 : SCode := .seq b49_30 b49_46
abbrev r49_48 : List MOper := [⟨(some 84), .move (.t 7), none⟩,
  ⟨(some 85), .bin .eql .num (.t 84) (.c (.int .i64 3)), none⟩,
  ⟨(some 86), .move (.t 85), none⟩,
  ⟨(some 87), .move (.t 8), (some (86, true))⟩,
  ⟨(some 88), .bin .lss .num (.t 87) (.c (.int .i32 2048)), (some (86, true))⟩,
  ⟨(some 89), .pick (.t 86) (.t 88) (.c (.bool false)), none⟩,
  ⟨(some 90), .move (.t 89), none⟩,
  ⟨(some 91), .move (.t 7), (some (90, false))⟩,
  ⟨(some 92), .bin .eql .num (.t 91) (.c (.int .i64 4)), (some (90, false))⟩,
  ⟨(some 93), .move (.t 92), (some (90, false))⟩,
  ⟨(some 94), .move (.t 8), (some (93, true))⟩,
  ⟨(some 95), .bin .lss .num (.t 94) (.c (.int .i32 65536)), (some (93, true))⟩,
  ⟨(some 96), .pick (.t 93) (.t 95) (.c (.bool false)), (some (90, false))⟩,
  ⟨(some 97), .pick (.t 90) (.c (.bool true)) (.t 96), none⟩,
  ⟨(some 98), .move (.t 97), none⟩,
  ⟨(some 99), .move (.t 8), (some (98, false))⟩,
  ⟨(some 100), .call 63 [(.t 99)], (some (98, false))⟩,
  ⟨(some 101), .un .not (.t 100), (some (98, false))⟩,
  ⟨(some 102), .pick (.t 98) (.c (.bool true)) (.t 101), none⟩]
def b49_48 : SCode := .region r49_48
abbrev r49_49 : List MOper := [⟨(some 2), .move (.c (.nilslice)), none⟩,
  ⟨(some 3), .move (.c (.int .i64 2)), none⟩]
def b49_49 : SCode := .region r49_49
def b49_50 : SCode := .seq b49_49 .ret
def b49_51 : SCode := .cond (.t 102) b49_50 .skip
def b49_52 : SCode := .seq b49_48 b49_51
abbrev r49_53 : List MOper := [⟨(some 103), .move (.t 4), none⟩,
  ⟨(some 104), .move (.t 8), none⟩,
  ⟨(some 105), .buildSlice [.int .i32 0] 1 1 [(0, 1, (.t 104))], none⟩,
  ⟨(some 106), .append 1 4 (.t 103) (.t 105), none⟩,
  ⟨(some 107), .move (.t 5), none⟩,
  ⟨(some 108), .move (.t 7), none⟩,
  ⟨(some 109), .bin .add .num (.t 107) (.t 108), none⟩,
  ⟨(some 4), .move (.t 106), none⟩,
  ⟨(some 5), .move (.t 109), none⟩]
def b49_53 : SCode := .region r49_53
def b49_54 : SCode := .seq b49_52 b49_53
def b49_55 : SCode := .seq b49_47 b49_54
def b49_56 : SCode := .seq b49_29 b49_55
def b49_57 : SCode := .seq b49_24 b49_56
def b49_58 : SCode := .seq b49_7 b49_57
def b49_59 : SCode := .seq b49_6 b49_58
def b49_60 : SCode := .block 1 b49_59
def b49_61 : SCode := .seq b49_5 b49_60
def b49_62 : SCode := .loop b49_61
def b49_63 : SCode := .block 0 b49_62
def b49_64 : SCode := .seq b49_2 b49_63
abbrev r49_65 : List MOper := [⟨(some 110), .move (.t 4), none⟩,
  ⟨(some 2), .move (.t 110), none⟩,
  ⟨(some 3), .move (.c (.int .i64 0)), none⟩]
def b49_65 : SCode := .region r49_65
def b49_66 : SCode := .seq b49_65 .ret
def b49_67 : SCode := .seq b49_64 b49_66
def b49_68 : SCode := .seq b49_1 b49_67
def b49_69 : SCode := .seq b49_0 b49_68
def s49 : SFunc := ⟨111, [.t 2, .t 3], b49_69⟩
theorem c49 : sFn Try.prog 49 = some s49 := by kernel_rfl
theorem x49_53 : XR b49_53 r49_53 := rfl
theorem x49_54 : XS b49_54 b49_52 b49_53 := rfl
theorem x49_55 : XS b49_55 b49_47 b49_54 := rfl
theorem x49_56 : XS b49_56 b49_29 b49_55 := rfl
theorem x49_61 : XS b49_61 b49_5 b49_60 := rfl
theorem Z49 : XR b49_0 r49_0 ∧ XR b49_1 r49_1 ∧ XR b49_2 r49_2 ∧ XR b49_3 r49_3 ∧ XC b49_4 (.t 13) .skip (.exit 0) ∧ XS b49_5 b49_3 b49_4 ∧ XR b49_6 r49_6 ∧ XR b49_7 r49_7 ∧ XR b49_8 r49_8 ∧ XR b49_9 r49_9 ∧ XR b49_10 r49_10 ∧ XR b49_11 r49_11 ∧ XR b49_12 r49_12 ∧ XR b49_13 r49_13 ∧ XR b49_14 r49_14 ∧ XR b49_15 r49_15 ∧ XC b49_16 (.t 42) b49_15 .skip ∧ XS b49_17 b49_14 b49_16 ∧ XC b49_18 (.t 32) b49_13 b49_17 ∧ XS b49_19 b49_12 b49_18 ∧ XC b49_20 (.t 22) b49_11 b49_19 ∧ XS b49_21 b49_10 b49_20 ∧ XC b49_22 (.t 19) b49_9 b49_21 ∧ XS b49_23 b49_8 b49_22 ∧ XB b49_24 2 b49_23 ∧ XR b49_25 r49_25 ∧ XR b49_26 r49_26 ∧ XS b49_27 b49_26 .ret ∧ XC b49_28 (.t 61) b49_27 .skip ∧ XS b49_29 b49_25 b49_28 ∧ XR b49_30 r49_30 ∧ XR b49_31 r49_31 ∧ XC b49_32 (.t 64) .skip (.exit 3) ∧ XS b49_33 b49_31 b49_32 ∧ XR b49_34 r49_34 ∧ XR b49_35 r49_35 ∧ XS b49_36 b49_35 .ret ∧ XC b49_37 (.t 73) b49_36 .skip ∧ XS b49_38 b49_34 b49_37 ∧ XR b49_39 r49_39 ∧ XS b49_40 b49_38 b49_39 ∧ XB b49_41 4 b49_40 ∧ XR b49_42 r49_42 ∧ XS b49_43 b49_41 b49_42 ∧ XS b49_44 b49_33 b49_43 ∧ XB b49_46 3 b49_45 ∧ XS b49_47 b49_30 b49_46 ∧ XR b49_48 r49_48 ∧ XR b49_49 r49_49 ∧ XS b49_50 b49_49 .ret ∧ XC b49_51 (.t 102) b49_50 .skip ∧ XS b49_52 b49_48 b49_51 ∧ XS b49_57 b49_24 b49_56 ∧ XS b49_58 b49_7 b49_57 ∧ XS b49_59 b49_6 b49_58 ∧ XB b49_60 1 b49_59 ∧ XB b49_63 0 b49_62 ∧ XS b49_64 b49_2 b49_63 ∧ XR b49_65 r49_65 ∧ XS b49_66 b49_65 .ret ∧ XS b49_67 b49_64 b49_66 ∧ XS b49_68 b49_1 b49_67 ∧ XS b49_69 b49_0 b49_68 ∧ XY s49 111 b49_69 [.t 2, .t 3] := ⟨rfl, rfl, rfl, rfl, sC_cond, rfl, rfl, rfl, rfl, rfl, rfl, rfl, rfl, rfl, rfl, rfl, sC_cond, rfl, sC_cond, rfl, sC_cond, rfl, sC_cond, rfl, rfl, rfl, rfl, rfl, sC_cond, rfl, rfl, rfl, sC_cond, rfl, rfl, rfl, rfl, sC_cond, rfl, rfl, rfl, rfl, rfl, rfl, rfl, rfl, rfl, rfl, rfl, rfl, sC_cond, rfl, rfl, rfl, rfl, rfl, rfl, rfl, rfl, rfl, rfl, rfl, rfl, rfl⟩

set_option maxHeartbeats 4000000
set_option maxRecDepth 10000
abbrev ReadI := {p : Option (List Int) // ∀ l, p = some l → l.length ≤ 64}
def ansRd : Option (List Int) → AV
  | some l => .tuple [.imm (rnC l) false false, .int .i64 0]
  | none => .tuple [.nilslice, .int .i64 2]
theorem ansRd_pure (p : Option (List Int)) : (ansRd p).pure = true := by
  cases p with
  | none => rfl
  | some l => simp only [ansRd, AV.pure, pureL, rn_pure, Bool.and_self]
def RdQ (p : ReadI) (r : AV) (σ : AHeap) : Prop := Frz σ r (ansRd p.1)
abbrev RdA : MExit → Env → AHeap → Prop := RetQ [.t 2, .t 3] fun r σ => ∃ p, RdQ p r σ
theorem rd_err (σ : AHeap) : ∃ p, RdQ p (.tuple [.nilslice, .int .i64 2]) σ := ⟨⟨none, fun l h => by cases h⟩, .pure rfl⟩
def U49 : PCall := rowQ 63 myD noCall
theorem U49_app {f : FuncId} {args : List AV} {σ : AHeap} {K : AV → AHeap → Prop} : U49 f args σ K = rowQ 63 myD noCall f args σ K := _root_.id rfl
theorem U49_sound : Sound Try.prog U49 := rowQ_sound myD_ok (noCall_sound _)
theorem U49_one : OneC U49 := one_row myD_one one_none
def rd49 (s : List UInt8) (m : Nat) (e : Env) (σ : AHeap) : Prop := ∃ (at_ : Nat) (l : List Int) (Lv : AV), at_ ≤ s.length ∧ l.length ≤ at_ ∧ m = s.length - at_ ∧ Grow σ Lv 1 (rnC l) ∧ e 0 = .str s ∧ e 4 = Lv ∧ e 5 = .int .i64 (at_ : Int)
abbrev LR49 (s : List UInt8) (m : Nat) : MExit → Env → AHeap → Prop := loopR U49 0 RdA (.block 0 (.seq b49_66 .fin)) (rd49 s) m
theorem rd_next {s : List UInt8} (hs : s.length ≤ 64) {m at_ n : Nat} {l : List Int} {Lv : AV} {r : Int} {e : Env} {σ : AHeap} (hn : 1 ≤ n) (hle : at_ + n ≤ s.length) (hl : l.length ≤ at_) (hm : m = s.length - at_) (hg : Grow σ Lv 1 (rnC l)) (e0 : e 0 = .str s) (e4 : e 4 = Lv) (e5 : e 5 = .int .i64 (at_ : Int)) (e7 : e 7 = .int .i64 (n : Int)) (e8 : e 8 = .int .i32 r) :
    sC U49 0 b49_53 (unw U49 0 (LR49 s m) (.block 1 .fin)) e σ := by
  have hwr : IntKind.wrap .i64 ((at_ : Int) + (n : Int)) = ((at_ + n : Nat) : Int) := by rw [Gz.wrap64 (by omega)]; omega
  obtain ⟨v, τ, a1, a2, a3, a4, a5⟩ := grow_one (b := 4) (by decide) hg (by simp; omega) [.int .i32 r] rfl rfl
  simp only [U49_app, Z49, x49_53, x49_54, x49_55, x49_56, x49_61, base1, ↓reduceIte, Nat.reduceAdd, Nat.reduceSub, Nat.reduceMul, Nat.reduceEqDiff, Nat.reduceLeDiff, Nat.reduceLT, Int.reduceLT, Int.reduceLE, Int.reduceEq, Int.reduceNe, Int.reduceToNat, Int.reduceAdd, Int.reduceSub, reduceCtorEq, Nat.reduceBEq, Nat.reduceBNe, LR49, loopR_exit, loopR_ret, e0, e4, e5, e7, e8, a1, a2, a3, hwr]
  rw [loopR_normal]
  exact ⟨s.length - (at_ + n), _, _, by omega, .refl _ _ _, at_ + n, l ++ [r], v, hle, by simp; omega, rfl, by rw [rnC, List.map_append]; exact a5, e0, rfl, rfl⟩
theorem rd_chk {s : List UInt8} (hs : s.length ≤ 64) {m at_ n : Nat} {l : List Int} {Lv : AV} {r : Int} {e : Env} {σ : AHeap} (hn : 1 ≤ n) (hle : at_ + n ≤ s.length) (hl : l.length ≤ at_) (hm : m = s.length - at_) (hg : Grow σ Lv 1 (rnC l)) (e0 : e 0 = .str s) (e4 : e 4 = Lv) (e5 : e 5 = .int .i64 (at_ : Int)) (e7 : e 7 = .int .i64 (n : Int)) (e8 : e 8 = .int .i32 r) :
    sC U49 0 b49_54 (unw U49 0 (LR49 s m) (.block 1 .fin)) e σ := by
  simp only [U49_app, Z49, x49_54, x49_55, x49_56, x49_61, base1, ↓reduceIte, Nat.reduceAdd, Nat.reduceSub, Nat.reduceMul, Nat.reduceEqDiff, Nat.reduceLeDiff, Nat.reduceLT, Int.reduceLT, Int.reduceLE, Int.reduceEq, Int.reduceNe, Int.reduceToNat, Int.reduceAdd, Int.reduceSub, reduceCtorEq, Nat.reduceBEq, Nat.reduceBNe, LR49, loopR_exit, loopR_ret, e7, e8]
  repeat' first
    | exact rd_err _
    | exact rd_next hs hn hle hl hm hg e0 e4 e5 e7 e8
    | (refine ⟨r, rfl, ?_⟩; simp only [U49_app, Z49, x49_54, x49_55, x49_56, x49_61, base1, ↓reduceIte, Nat.reduceAdd, Nat.reduceSub, Nat.reduceMul, Nat.reduceEqDiff, Nat.reduceLeDiff, Nat.reduceLT, Int.reduceLT, Int.reduceLE, Int.reduceEq, Int.reduceNe, Int.reduceToNat, Int.reduceAdd, Int.reduceSub, reduceCtorEq, Nat.reduceBEq, Nat.reduceBNe, LR49, loopR_exit, loopR_ret, e7, e8])
    | (refine guardK_case (fun h => ?_) (fun h => ?_) <;> simp only [U49_app, Z49, x49_54, x49_55, x49_56, x49_61, base1, ↓reduceIte, Nat.reduceAdd, Nat.reduceSub, Nat.reduceMul, Nat.reduceEqDiff, Nat.reduceLeDiff, Nat.reduceLT, Int.reduceLT, Int.reduceLE, Int.reduceEq, Int.reduceNe, Int.reduceToNat, Int.reduceAdd, Int.reduceSub, reduceCtorEq, Nat.reduceBEq, Nat.reduceBNe, LR49, loopR_exit, loopR_ret, e7, e8, h])
    | (refine condK_split (fun h => ?_) (fun h => ?_) <;> simp only [U49_app, Z49, x49_54, x49_55, x49_56, x49_61, base1, ↓reduceIte, Nat.reduceAdd, Nat.reduceSub, Nat.reduceMul, Nat.reduceEqDiff, Nat.reduceLeDiff, Nat.reduceLT, Int.reduceLT, Int.reduceLE, Int.reduceEq, Int.reduceNe, Int.reduceToNat, Int.reduceAdd, Int.reduceSub, reduceCtorEq, Nat.reduceBEq, Nat.reduceBNe, LR49, loopR_exit, loopR_ret, e7, e8, h])
/-! The bytes behind the first one. -/
theorem and8 (b : UInt8) (n : Int) : ∃ q, abin .and .num (byteAV b) (.int .u8 n) = some (.int .u8 q) := ⟨_, rfl⟩
theorem or32 (x y : Int) : ∃ q, abin .or .num (.int .i32 x) (.int .i32 y) = some (.int .i32 q) := ⟨_, rfl⟩
def rdB (s : List UInt8) (at_ n : Nat) (l : List Int) (Lv : AV) (σ0 : AHeap) (m : Nat) (e : Env) (σ : AHeap) : Prop := ∃ (k : Nat) (r : Int), 1 ≤ k ∧ k ≤ n ∧ m = n - k ∧ σ = σ0 ∧ e 0 = .str s ∧ e 4 = Lv ∧ e 5 = .int .i64 (at_ : Int) ∧ e 7 = .int .i64 (n : Int) ∧ e 8 = .int .i32 r ∧ e 9 = .int .i64 (k : Int)
theorem rd_in {s : List UInt8} (hs : s.length ≤ 64) {m at_ n : Nat} {l : List Int} {Lv : AV} {r : Int} {e : Env} {σ : AHeap} (hn : 1 ≤ n) (hle : at_ + n ≤ s.length) (hl : l.length ≤ at_) (hm : m = s.length - at_) (hg : Grow σ Lv 1 (rnC l)) (e0 : e 0 = .str s) (e4 : e 4 = Lv) (e5 : e 5 = .int .i64 (at_ : Int)) (e7 : e 7 = .int .i64 (n : Int)) (e8 : e 8 = .int .i32 r) :
    sC U49 0 b49_55 (unw U49 0 (LR49 s m) (.block 1 .fin)) e σ := by
  simp only [U49_app, Z49, x49_55, x49_56, x49_61, base1, ↓reduceIte, Nat.reduceAdd, Nat.reduceSub, Nat.reduceMul, Nat.reduceEqDiff, Nat.reduceLeDiff, Nat.reduceLT, Int.reduceLT, Int.reduceLE, Int.reduceEq, Int.reduceNe, Int.reduceToNat, Int.reduceAdd, Int.reduceSub, reduceCtorEq, Nat.reduceBEq, Nat.reduceBNe, LR49, loopR_exit, loopR_ret]
  refine sC_inv (a := b49_44) (rdB s at_ n l Lv σ) (n - 1) _ _ (.refl _ _ _) ⟨1, r, by omega, hn, rfl, rfl, e0, e4, e5, e7, e8, rfl⟩ ?_
  rintro m' e' σ' ⟨k, r', hk1, hk, hm', rfl, f0, f4, f5, f7, f8, f9⟩
  have hwr : IntKind.wrap .i64 ((at_ : Int) + (k : Int)) = ((at_ + k : Nat) : Int) := by rw [Gz.wrap64 (by omega)]; omega
  have hwk : IntKind.wrap .i64 ((k : Int) + 1) = ((k + 1 : Nat) : Int) := by rw [Gz.wrap64 (by omega)]; omega
  by_cases hlt : (k : Int) < (n : Int)
  · have k1 : at_ + k < s.length := by omega
    have k1' : ((at_ + k : Nat) : Int) < (s.length : Int) := by omega
    have k0 : (0 : Int) ≤ ((at_ + k : Nat) : Int) := by omega
    obtain ⟨b, hb⟩ : ∃ b, s[at_ + k]? = some b := ⟨_, List.getElem?_eq_getElem k1⟩
    obtain ⟨q, hq⟩ := and8 b 192
    obtain ⟨p, hp⟩ := and8 b 63
    by_cases h1 : q = 128
    · obtain ⟨w, hw⟩ := or32 (IntKind.wrap .i32 (r' * (2 : Int) ^ (min 6 (IntKind.bits .i32)))) (IntKind.wrap .i32 p)
      simp only [U49_app, Z49, x49_55, x49_56, x49_61, base1, ↓reduceIte, Nat.reduceAdd, Nat.reduceSub, Nat.reduceMul, Nat.reduceEqDiff, Nat.reduceLeDiff, Nat.reduceLT, Int.reduceLT, Int.reduceLE, Int.reduceEq, Int.reduceNe, Int.reduceToNat, Int.reduceAdd, Int.reduceSub, reduceCtorEq, Nat.reduceBEq, Nat.reduceBNe, LR49, loopR_exit, loopR_ret, f0, f4, f5, f7, f8, f9, hlt, hwr, k1, k1', k0, Int.toNat_natCast, hb, hq, hp, h1, hw, hwk]
      rw [loopR_normal]
      exact ⟨n - (k + 1), _, _, by omega, .refl _ _ _, k + 1, w, by omega, by omega, rfl, rfl, f0, f4, f5, f7, rfl, rfl⟩
    · simp only [U49_app, Z49, x49_55, x49_56, x49_61, base1, ↓reduceIte, Nat.reduceAdd, Nat.reduceSub, Nat.reduceMul, Nat.reduceEqDiff, Nat.reduceLeDiff, Nat.reduceLT, Int.reduceLT, Int.reduceLE, Int.reduceEq, Int.reduceNe, Int.reduceToNat, Int.reduceAdd, Int.reduceSub, reduceCtorEq, Nat.reduceBEq, Nat.reduceBNe, LR49, loopR_exit, loopR_ret, f0, f4, f5, f7, f8, f9, hlt, hwr, k1, k1', k0, Int.toNat_natCast, hb, hq, h1, ne_eq]
      exact rd_err _
  · simp only [U49_app, Z49, x49_55, x49_56, x49_61, base1, ↓reduceIte, Nat.reduceAdd, Nat.reduceSub, Nat.reduceMul, Nat.reduceEqDiff, Nat.reduceLeDiff, Nat.reduceLT, Int.reduceLT, Int.reduceLE, Int.reduceEq, Int.reduceNe, Int.reduceToNat, Int.reduceAdd, Int.reduceSub, reduceCtorEq, Nat.reduceBEq, Nat.reduceBNe, LR49, loopR_exit, loopR_ret, f0, f4, f5, f7, f8, f9, hlt]
    exact rd_chk hs hn hle hl hm hg f0 f4 f5 f7 f8
/-! How many bytes a rune has. -/
theorem rd_len {s : List UInt8} (hs : s.length ≤ 64) {m at_ n : Nat} {l : List Int} {Lv : AV} {r : Int} {e : Env} {σ : AHeap} (hle : at_ < s.length) (hl : l.length ≤ at_) (hm : m = s.length - at_) (hg : Grow σ Lv 1 (rnC l)) (e0 : e 0 = .str s) (e4 : e 4 = Lv) (e5 : e 5 = .int .i64 (at_ : Int)) (e7 : e 7 = .int .i64 (n : Int)) (e8 : e 8 = .int .i32 r) :
    sC U49 0 b49_56 (unw U49 0 (LR49 s m) (.block 1 .fin)) e σ := by
  have hwr : IntKind.wrap .i64 ((s.length : Int) - (at_ : Int)) = (s.length : Int) - (at_ : Int) := Gz.wrap64 (by omega)
  by_cases h0 : (n : Int) = 0
  · simp only [U49_app, Z49, x49_56, x49_61, base1, ↓reduceIte, Nat.reduceAdd, Nat.reduceSub, Nat.reduceMul, Nat.reduceEqDiff, Nat.reduceLeDiff, Nat.reduceLT, Int.reduceLT, Int.reduceLE, Int.reduceEq, Int.reduceNe, Int.reduceToNat, Int.reduceAdd, Int.reduceSub, reduceCtorEq, Nat.reduceBEq, Nat.reduceBNe, LR49, loopR_exit, loopR_ret, e0, e5, e7, h0]
    exact rd_err _
  · by_cases h1 : (s.length : Int) - (at_ : Int) < (n : Int)
    · simp only [U49_app, Z49, x49_56, x49_61, base1, ↓reduceIte, Nat.reduceAdd, Nat.reduceSub, Nat.reduceMul, Nat.reduceEqDiff, Nat.reduceLeDiff, Nat.reduceLT, Int.reduceLT, Int.reduceLE, Int.reduceEq, Int.reduceNe, Int.reduceToNat, Int.reduceAdd, Int.reduceSub, reduceCtorEq, Nat.reduceBEq, Nat.reduceBNe, LR49, loopR_exit, loopR_ret, e0, e5, e7, h0, hwr, h1]
      exact rd_err _
    · simp only [U49_app, Z49, x49_56, x49_61, base1, ↓reduceIte, Nat.reduceAdd, Nat.reduceSub, Nat.reduceMul, Nat.reduceEqDiff, Nat.reduceLeDiff, Nat.reduceLT, Int.reduceLT, Int.reduceLE, Int.reduceEq, Int.reduceNe, Int.reduceToNat, Int.reduceAdd, Int.reduceSub, reduceCtorEq, Nat.reduceBEq, Nat.reduceBNe, LR49, loopR_exit, loopR_ret, e0, e5, e7, h0, hwr, h1]
      exact rd_in hs (by omega) (by omega) hl hm hg e0 e4 e5 e7 e8
theorem rd_step (s : List UInt8) (hs : s.length ≤ 64) (m : Nat) (e : Env) (σ : AHeap) (h : rd49 s m e σ) : sC U49 0 b49_61 (unw U49 0 (LR49 s m) .fin) e σ := by
  obtain ⟨at_, l, Lv, ha, hl, hm, hg, e0, e4, e5⟩ := h
  by_cases hlt' : (at_ : Int) < (s.length : Int)
  · have hlt : at_ < s.length := by omega
    have h0 : (0 : Int) ≤ (at_ : Int) := by omega
    obtain ⟨b, hb⟩ : ∃ b, s[at_]? = some b := ⟨_, List.getElem?_eq_getElem hlt⟩
    obtain ⟨q1, h31⟩ := and8 b 31
    obtain ⟨q2, h15⟩ := and8 b 15
    obtain ⟨q3, h7⟩ := and8 b 7
    have hbb : byteAV b = .int .u8 (b.toNat : Int) := rfl
    rw [hbb] at h31 h15 h7
    simp only [U49_app, Z49, x49_61, base1, ↓reduceIte, Nat.reduceAdd, Nat.reduceSub, Nat.reduceMul, Nat.reduceEqDiff, Nat.reduceLeDiff, Nat.reduceLT, Int.reduceLT, Int.reduceLE, Int.reduceEq, Int.reduceNe, Int.reduceToNat, Int.reduceAdd, Int.reduceSub, reduceCtorEq, Nat.reduceBEq, Nat.reduceBNe, LR49, loopR_exit, loopR_ret, e0, e4, e5, hlt', hlt, h0, Int.toNat_natCast, hb, hbb]
    repeat' first
      | exact rd_len hs (n := 0) hlt hl hm hg e0 e4 e5 rfl rfl
      | exact rd_len hs (n := 1) hlt hl hm hg e0 e4 e5 rfl rfl
      | exact rd_len hs (n := 2) hlt hl hm hg e0 e4 e5 rfl rfl
      | exact rd_len hs (n := 3) hlt hl hm hg e0 e4 e5 rfl rfl
      | exact rd_len hs (n := 4) hlt hl hm hg e0 e4 e5 rfl rfl
      | (refine guardK_case (fun h => ?_) (fun h => ?_) <;> simp only [U49_app, Z49, x49_61, base1, ↓reduceIte, Nat.reduceAdd, Nat.reduceSub, Nat.reduceMul, Nat.reduceEqDiff, Nat.reduceLeDiff, Nat.reduceLT, Int.reduceLT, Int.reduceLE, Int.reduceEq, Int.reduceNe, Int.reduceToNat, Int.reduceAdd, Int.reduceSub, reduceCtorEq, Nat.reduceBEq, Nat.reduceBNe, LR49, loopR_exit, loopR_ret, h31, h15, h7, h])
      | (refine condK_split (fun h => ?_) (fun h => ?_) <;> simp only [U49_app, Z49, x49_61, base1, ↓reduceIte, Nat.reduceAdd, Nat.reduceSub, Nat.reduceMul, Nat.reduceEqDiff, Nat.reduceLeDiff, Nat.reduceLT, Int.reduceLT, Int.reduceLE, Int.reduceEq, Int.reduceNe, Int.reduceToNat, Int.reduceAdd, Int.reduceSub, reduceCtorEq, Nat.reduceBEq, Nat.reduceBNe, LR49, loopR_exit, loopR_ret, h31, h15, h7, h])
  · have hie : at_ = s.length := by omega
    simp only [U49_app, Z49, x49_61, base1, ↓reduceIte, Nat.reduceAdd, Nat.reduceSub, Nat.reduceMul, Nat.reduceEqDiff, Nat.reduceLeDiff, Nat.reduceLT, Int.reduceLT, Int.reduceLE, Int.reduceEq, Int.reduceNe, Int.reduceToNat, Int.reduceAdd, Int.reduceSub, reduceCtorEq, Nat.reduceBEq, Nat.reduceBNe, LR49, loopR_exit, loopR_ret, e0, e4, e5, hlt']
    refine ⟨⟨some l, fun l' h => by cases h; omega⟩, .tuple rfl (fun i y z hy hz => ?_)⟩
    match i with
    | 0 => simp at hy hz; subst hy; subst hz; exact grow_frz hg (rn_pure l)
    | 1 => simp at hy hz; subst hy; subst hz; exact .pure rfl
    | n + 2 => simp at hy
theorem read_ex (s : List UInt8) : ∃ p : ReadI, s.length ≤ 64 → Tri Try.prog 49 [.str s] [] (RdQ p) := by
  by_cases h : s.length ≤ 64
  · obtain ⟨v, hv⟩ := Tri.one (Q := RdQ) c49 U49_sound U49_one (by kernel_rfl) (args := [.str s]) (σ := []) (by
      simp only [U49_app, Z49, x49_53, x49_54, x49_55, x49_56, base1, ↓reduceIte, Nat.reduceAdd, Nat.reduceSub, Nat.reduceMul, Nat.reduceEqDiff, Nat.reduceLeDiff, Nat.reduceLT, Int.reduceLT, Int.reduceLE, Int.reduceEq, Int.reduceNe, Int.reduceToNat, Int.reduceAdd, Int.reduceSub, reduceCtorEq, Nat.reduceBEq, Nat.reduceBNe]
      exact sC_inv (a := b49_61) (rd49 s) s.length _ _ (.refl _ _ _) ⟨0, [], .nilslice, Nat.zero_le _, Nat.le_refl _, rfl, .inl ⟨rfl, rfl⟩, rfl, rfl, rfl⟩ (rd_step s h))
    exact ⟨v, fun _ => hv⟩
  · exact ⟨⟨none, fun l h => by cases h⟩, fun h1 => absurd h1 h⟩
noncomputable def readS (s : List UInt8) : ReadI := Classical.choose (read_ex s)
theorem read_ok (s : List UInt8) (hs : s.length ≤ 64) : Tri Try.prog 49 [.str s] [] fun r _ => r.pure = true ∧ r = ansRd (readS s).1 :=
  Tri.frozen (Classical.choose_spec (read_ex s) hs) fun r σ h => ⟨_, h, ansRd_pure _, rfl⟩
def readD (args : List AV) (σ : AHeap) (K : AV → AHeap → Prop) : Prop := ∃ s : List UInt8, args = [.str s] ∧ s.length ≤ 64 ∧ K (ansRd (readS s).1) σ
theorem readD_ok (args : List AV) (σ : AHeap) (K : AV → AHeap → Prop) (h : readD args σ K) : Tri Try.prog 49 args σ K := by
  obtain ⟨s, rfl, hs, h⟩ := h
  exact (Tri.pureD rfl (read_ok s hs) σ).mono fun x σ' hr => by rw [hr.1, hr.2]; exact h
theorem readD_one : OneD readD := ⟨fun args σ K K' hk ⟨s, h1, h2, h⟩ => ⟨s, h1, h2, hk _ _ h⟩, fun ι args σ K ⟨s, h1, h2, i, h⟩ => ⟨i, s, h1, h2, h⟩⟩
end Go.Proofs.Ytmjnmnhpmbbmgaa.tour

/- What runes are taken apart into, and how they are ordered. No condition. -/
set_option linter.unusedVariables false
set_option linter.unusedSimpArgs false
namespace Go.Proofs.Ytmjnmnhpmbbmgaa.tour
open Go.ChangeShapes Go.WideShapes Go.ChangeAt Go.RowKit Go.Gz Go.Gz.H
abbrev r72_0 : List MOper := [⟨(some 4), .move (.c (.nilslice)), none⟩]
def b72_0 : SCode := .region r72_0
abbrev r72_1 : List MOper := [⟨(some 5), .move (.c (.nilslice)), none⟩]
def b72_1 : SCode := .region r72_1
abbrev r72_2 : List MOper := [⟨(some 6), .move (.c (.int .i64 0)), none⟩]
def b72_2 : SCode := .region r72_2
abbrev r72_3 : List MOper := [⟨(some 8), .move (.t 6), none⟩,
  ⟨(some 9), .move (.t 1), none⟩,
  ⟨(some 10), .lenSl (.t 9), none⟩,
  ⟨(some 11), .bin .lss .num (.t 8) (.t 10), none⟩]
def b72_3 : SCode := .region r72_3
def b72_4 : SCode := .cond (.t 11) .skip (.exit 0)
def b72_5 : SCode := .seq b72_3 b72_4
abbrev r72_6 : List MOper := [⟨(some 14), .move (.t 0), none⟩,
  ⟨(some 15), .move (.t 1), none⟩,
  ⟨(some 16), .move (.t 6), none⟩,
  ⟨(some 17), .indexAddr 1 (.t 15) (.t 16), none⟩,
  ⟨(some 18), .load1 (.t 17), none⟩,
  ⟨(some 19), .call 62 [(.t 14), (.t 18)], none⟩,
  ⟨(some 7), .move (.t 19), none⟩]
def b72_6 : SCode := .region r72_6
abbrev r72_7 : List MOper := [⟨(some 20), .move (.t 7), none⟩,
  ⟨(some 21), .bin .geq .num (.t 20) (.c (.int .i64 0)), none⟩,
  ⟨(some 22), .move (.t 21), none⟩,
  ⟨(some 23), .move (.t 0), (some (22, true))⟩,
  ⟨(some 24), .move (.t 7), (some (22, true))⟩,
  ⟨(some 25), .indexAddr 3 (.t 23) (.t 24), (some (22, true))⟩,
  ⟨(some 26), .fieldAddr 2 (.t 25), (some (22, true))⟩,
  ⟨(some 27), .load1 (.t 26), (some (22, true))⟩,
  ⟨(some 28), .lenSl (.t 27), (some (22, true))⟩,
  ⟨(some 29), .bin .gtr .num (.t 28) (.c (.int .i64 0)), (some (22, true))⟩,
  ⟨(some 30), .pick (.t 22) (.t 29) (.c (.bool false)), none⟩]
def b72_7 : SCode := .region r72_7
abbrev r72_8 : List MOper := [⟨(some 31), .move (.t 5), none⟩,
  ⟨(some 32), .move (.t 0), none⟩,
  ⟨(some 33), .move (.t 7), none⟩,
  ⟨(some 34), .indexAddr 3 (.t 32) (.t 33), none⟩,
  ⟨(some 35), .fieldAddr 2 (.t 34), none⟩,
  ⟨(some 36), .load1 (.t 35), none⟩,
  ⟨(some 37), .append 1 4 (.t 31) (.t 36), none⟩,
  ⟨(some 5), .move (.t 37), none⟩]
def b72_8 : SCode := .region r72_8
abbrev r72_9 : List MOper := [⟨(some 38), .move (.t 5), none⟩,
  ⟨(some 39), .move (.t 1), none⟩,
  ⟨(some 40), .move (.t 6), none⟩,
  ⟨(some 41), .indexAddr 1 (.t 39) (.t 40), none⟩,
  ⟨(some 42), .load1 (.t 41), none⟩,
  ⟨(some 43), .buildSlice [.int .i32 0] 1 1 [(0, 1, (.t 42))], none⟩,
  ⟨(some 44), .append 1 4 (.t 38) (.t 43), none⟩,
  ⟨(some 5), .move (.t 44), none⟩]
def b72_9 : SCode := .region r72_9
def b72_10 : SCode := .cond (.t 30) b72_8 b72_9
def b72_11 : SCode := .seq b72_7 b72_10
def b72_12 : SCode := .seq b72_6 b72_11
def b72_13 : SCode := .block 1 b72_12
abbrev r72_14 : List MOper := [⟨(some 12), .move (.t 6), none⟩,
  ⟨(some 13), .bin .add .num (.t 12) (.c (.int .i64 1)), none⟩,
  ⟨(some 6), .move (.t 13), none⟩]
def b72_14 : SCode := .region r72_14
def b72_15 : SCode := .seq b72_13 b72_14
def b72_16 : SCode := .seq b72_5 b72_15
def b72_17 : SCode := .loop b72_16
def b72_18 : SCode := .block 0 b72_17
def b72_19 : SCode := .seq b72_2 b72_18
abbrev r72_20 : List MOper := [⟨(some 45), .move (.t 5), none⟩,
  ⟨(some 4), .move (.t 45), none⟩]
def b72_20 : SCode := .region r72_20
def b72_21 : SCode := .seq b72_20 .ret
def b72_22 : SCode := .seq b72_19 b72_21
def b72_23 : SCode := .seq b72_1 b72_22
def b72_24 : SCode := .seq b72_0 b72_23
def s72 : SFunc := ⟨46, [.t 4], b72_24⟩
theorem c72 : sFn Try.prog 72 = some s72 := by kernel_rfl
theorem Z72 : XR b72_0 r72_0 ∧ XR b72_1 r72_1 ∧ XR b72_2 r72_2 ∧ XR b72_3 r72_3 ∧ XC b72_4 (.t 11) .skip (.exit 0) ∧ XS b72_5 b72_3 b72_4 ∧ XR b72_6 r72_6 ∧ XR b72_7 r72_7 ∧ XR b72_8 r72_8 ∧ XR b72_9 r72_9 ∧ XC b72_10 (.t 30) b72_8 b72_9 ∧ XS b72_11 b72_7 b72_10 ∧ XS b72_12 b72_6 b72_11 ∧ XB b72_13 1 b72_12 ∧ XR b72_14 r72_14 ∧ XS b72_15 b72_13 b72_14 ∧ XS b72_16 b72_5 b72_15 ∧ XB b72_18 0 b72_17 ∧ XS b72_19 b72_2 b72_18 ∧ XR b72_20 r72_20 ∧ XS b72_21 b72_20 .ret ∧ XS b72_22 b72_19 b72_21 ∧ XS b72_23 b72_1 b72_22 ∧ XS b72_24 b72_0 b72_23 ∧ XY s72 46 b72_24 [.t 4] := ⟨rfl, rfl, rfl, rfl, sC_cond, rfl, rfl, rfl, rfl, rfl, sC_cond, rfl, rfl, rfl, rfl, rfl, rfl, rfl, rfl, rfl, rfl, rfl, rfl, rfl, rfl⟩
abbrev r71_0 : List MOper := [⟨(some 4), .move (.c (.nilslice)), none⟩]
def b71_0 : SCode := .region r71_0
abbrev r71_1 : List MOper := [⟨(some 8), .move (.t 1), none⟩,
  ⟨(some 9), .append 1 4 (.c (.nilslice)) (.t 8), none⟩,
  ⟨(some 5), .move (.t 9), none⟩]
def b71_1 : SCode := .region r71_1
abbrev r71_2 : List MOper := [⟨(some 6), .move (.c (.int .i64 1)), none⟩]
def b71_2 : SCode := .region r71_2
abbrev r71_3 : List MOper := [⟨(some 10), .move (.t 6), none⟩,
  ⟨(some 11), .move (.t 5), none⟩,
  ⟨(some 12), .lenSl (.t 11), none⟩,
  ⟨(some 13), .bin .lss .num (.t 10) (.t 12), none⟩]
def b71_3 : SCode := .region r71_3
def b71_4 : SCode := .cond (.t 13) .skip (.exit 0)
def b71_5 : SCode := .seq b71_3 b71_4
abbrev r71_6 : List MOper := [⟨(some 16), .move (.t 6), none⟩,
  ⟨(some 7), .move (.t 16), none⟩]
def b71_6 : SCode := .region r71_6
abbrev t71_7 : LTree := (.quiet ⟨(some 17), .move (.t 7), none⟩ 0
  (.quiet ⟨(some 18), .bin .gtr .num (.t 17) (.c (.int .i64 0)), none⟩ 1
  (.quiet ⟨(some 19), .move (.t 18), none⟩ 2
  (.quiet ⟨(some 20), .move (.t 0), (some (19, true))⟩ 3
  (.quiet ⟨(some 21), .move (.t 5), (some (19, true))⟩ 4
  (.quiet ⟨(some 22), .move (.t 7), (some (19, true))⟩ 5
  (.quiet ⟨(some 23), .indexAddr 1 (.t 21) (.t 22), (some (19, true))⟩ 6
  (.quiet ⟨(some 24), .load1 (.t 23), (some (19, true))⟩ 7
  (.loud ⟨(some 25), .call 68 [(.t 20), (.t 24)], (some (19, true))⟩ []
  (.quiet ⟨(some 26), .bin .gtr .num (.t 25) (.c (.int .i64 0)), (some (19, true))⟩ 9
  (.quiet ⟨(some 27), .pick (.t 19) (.t 26) (.c (.bool false)), none⟩ 10
  (.quiet ⟨(some 28), .move (.t 27), none⟩ 11
  (.quiet ⟨(some 29), .move (.t 0), (some (28, true))⟩ 12
  (.quiet ⟨(some 30), .move (.t 5), (some (28, true))⟩ 13
  (.quiet ⟨(some 31), .move (.t 7), (some (28, true))⟩ 14
  (.quiet ⟨(some 32), .bin .sub .num (.t 31) (.c (.int .i64 1)), (some (28, true))⟩ 15
  (.quiet ⟨(some 33), .indexAddr 1 (.t 30) (.t 32), (some (28, true))⟩ 16
  (.quiet ⟨(some 34), .load1 (.t 33), (some (28, true))⟩ 17
  (.quiet ⟨(some 36), .move (.t 0), (some (28, true))⟩ 19
  (.quiet ⟨(some 37), .move (.t 5), (some (28, true))⟩ 20
  (.quiet ⟨(some 38), .move (.t 7), (some (28, true))⟩ 21
  (.quiet ⟨(some 39), .indexAddr 1 (.t 37) (.t 38), (some (28, true))⟩ 22
  (.quiet ⟨(some 40), .load1 (.t 39), (some (28, true))⟩ 23
  (.loud ⟨(some 35), .call 68 [(.t 29), (.t 34)], (some (28, true))⟩ [23]
  (.loud ⟨(some 41), .call 68 [(.t 36), (.t 40)], (some (28, true))⟩ []
  (.quiet ⟨(some 42), .bin .gtr .num (.t 35) (.t 41), (some (28, true))⟩ 25
  (.quiet ⟨(some 43), .pick (.t 28) (.t 42) (.c (.bool false)), none⟩ 26
  .leaf)) .stop) .stop))))))))))))))) .stop)))))))))
def b71_7 : SCode := .draw t71_7
def b71_8 : SCode := .cond (.t 43) .skip (.exit 2)
def b71_9 : SCode := .seq b71_7 b71_8
abbrev t71_10 : LTree := (.quiet ⟨(some 46), .move (.t 5), none⟩ 0
  (.quiet ⟨(some 47), .move (.t 7), none⟩ 1
  (.quiet ⟨(some 48), .bin .sub .num (.t 47) (.c (.int .i64 1)), none⟩ 2
  (.quiet ⟨(some 49), .move (.t 5), none⟩ 3
  (.quiet ⟨(some 50), .move (.t 7), none⟩ 4
  (.quiet ⟨(some 51), .move (.t 5), none⟩ 5
  (.quiet ⟨(some 52), .move (.t 7), none⟩ 6
  (.quiet ⟨(some 53), .indexAddr 1 (.t 51) (.t 52), none⟩ 7
  (.quiet ⟨(some 54), .load1 (.t 53), none⟩ 8
  (.quiet ⟨(some 55), .move (.t 5), none⟩ 9
  (.quiet ⟨(some 56), .move (.t 7), none⟩ 10
  (.quiet ⟨(some 57), .bin .sub .num (.t 56) (.c (.int .i64 1)), none⟩ 11
  (.quiet ⟨(some 58), .indexAddr 1 (.t 55) (.t 57), none⟩ 12
  (.quiet ⟨(some 59), .load1 (.t 58), none⟩ 13
  (.quiet ⟨(some 60), .indexAddr 1 (.t 46) (.t 48), none⟩ 14
  (.loud ⟨none, .store 1 (.t 60) (.t 54), none⟩ []
  (.quiet ⟨(some 61), .indexAddr 1 (.t 49) (.t 50), none⟩ 16
  (.loud ⟨none, .store 1 (.t 61) (.t 59), none⟩ []
  .leaf .stop)) .stop))))))))))))))))
def b71_10 : SCode := .draw t71_10
def b71_11 : SCode := .block 3 b71_10
abbrev r71_12 : List MOper := [⟨(some 44), .move (.t 7), none⟩,
  ⟨(some 45), .bin .sub .num (.t 44) (.c (.int .i64 1)), none⟩,
  ⟨(some 7), .move (.t 45), none⟩]
def b71_12 : SCode := .region r71_12
def b71_13 : SCode := .seq b71_11 b71_12
def b71_14 : SCode := .seq b71_9 b71_13
def b71_15 : SCode := .loop b71_14
def b71_16 : SCode := .block 2 b71_15
def b71_17 : SCode := .seq b71_6 b71_16
def b71_18 : SCode := .block 1 b71_17
abbrev r71_19 : List MOper := [⟨(some 14), .move (.t 6), none⟩,
  ⟨(some 15), .bin .add .num (.t 14) (.c (.int .i64 1)), none⟩,
  ⟨(some 6), .move (.t 15), none⟩]
def b71_19 : SCode := .region r71_19
def b71_20 : SCode := .seq b71_18 b71_19
def b71_21 : SCode := .seq b71_5 b71_20
def b71_22 : SCode := .loop b71_21
def b71_23 : SCode := .block 0 b71_22
def b71_24 : SCode := .seq b71_2 b71_23
abbrev r71_25 : List MOper := [⟨(some 62), .move (.t 5), none⟩,
  ⟨(some 4), .move (.t 62), none⟩]
def b71_25 : SCode := .region r71_25
def b71_26 : SCode := .seq b71_25 .ret
def b71_27 : SCode := .seq b71_24 b71_26
def b71_28 : SCode := .seq b71_1 b71_27
def b71_29 : SCode := .seq b71_0 b71_28
def s71 : SFunc := ⟨63, [.t 4], b71_29⟩
theorem c71 : sFn Try.prog 71 = some s71 := by kernel_rfl
theorem Z71 : XR b71_0 r71_0 ∧ XR b71_1 r71_1 ∧ XR b71_2 r71_2 ∧ XR b71_3 r71_3 ∧ XC b71_4 (.t 13) .skip (.exit 0) ∧ XS b71_5 b71_3 b71_4 ∧ XR b71_6 r71_6 ∧ XT b71_7 t71_7 ∧ XC b71_8 (.t 43) .skip (.exit 2) ∧ XS b71_9 b71_7 b71_8 ∧ XT b71_10 t71_10 ∧ XB b71_11 3 b71_10 ∧ XR b71_12 r71_12 ∧ XS b71_13 b71_11 b71_12 ∧ XS b71_14 b71_9 b71_13 ∧ XB b71_16 2 b71_15 ∧ XS b71_17 b71_6 b71_16 ∧ XB b71_18 1 b71_17 ∧ XR b71_19 r71_19 ∧ XS b71_20 b71_18 b71_19 ∧ XS b71_21 b71_5 b71_20 ∧ XB b71_23 0 b71_22 ∧ XS b71_24 b71_2 b71_23 ∧ XR b71_25 r71_25 ∧ XS b71_26 b71_25 .ret ∧ XS b71_27 b71_24 b71_26 ∧ XS b71_28 b71_1 b71_27 ∧ XS b71_29 b71_0 b71_28 ∧ XY s71 63 b71_29 [.t 4] := ⟨rfl, rfl, rfl, rfl, sC_cond, rfl, rfl, rfl, sC_cond, rfl, rfl, rfl, rfl, rfl, rfl, rfl, rfl, rfl, rfl, rfl, rfl, rfl, rfl, rfl, rfl, rfl, rfl, rfl, rfl⟩
abbrev r65_0 : List MOper := [⟨(some 4), .move (.c (.nilslice)), none⟩,
  ⟨(some 5), .move (.c (.int .i64 0)), none⟩]
def b65_0 : SCode := .region r65_0
abbrev r65_1 : List MOper := [⟨(some 7), .move (.t 0), none⟩,
  ⟨(some 8), .call 60 [(.t 7)], none⟩,
  ⟨(some 9), .un .not (.t 8), none⟩]
def b65_1 : SCode := .region r65_1
abbrev r65_2 : List MOper := [⟨(some 4), .move (.c (.nilslice)), none⟩,
  ⟨(some 5), .move (.c (.int .i64 4)), none⟩]
def b65_2 : SCode := .region r65_2
def b65_3 : SCode := .seq b65_2 .ret
def b65_4 : SCode := .cond (.t 9) b65_3 .skip
def b65_5 : SCode := .seq b65_1 b65_4
abbrev r65_6 : List MOper := [⟨(some 6), .move (.c (.int .i64 0)), none⟩]
def b65_6 : SCode := .region r65_6
abbrev r65_7 : List MOper := [⟨(some 10), .move (.t 6), none⟩,
  ⟨(some 11), .move (.t 1), none⟩,
  ⟨(some 12), .lenSl (.t 11), none⟩,
  ⟨(some 13), .bin .lss .num (.t 10) (.t 12), none⟩]
def b65_7 : SCode := .region r65_7
def b65_8 : SCode := .cond (.t 13) .skip (.exit 0)
def b65_9 : SCode := .seq b65_7 b65_8
abbrev r65_10 : List MOper := [⟨(some 16), .move (.t 1), none⟩,
  ⟨(some 17), .move (.t 6), none⟩,
  ⟨(some 18), .indexAddr 1 (.t 16) (.t 17), none⟩,
  ⟨(some 19), .load1 (.t 18), none⟩,
  ⟨(some 20), .call 63 [(.t 19)], none⟩,
  ⟨(some 21), .un .not (.t 20), none⟩]
def b65_10 : SCode := .region r65_10
abbrev r65_11 : List MOper := [⟨(some 4), .move (.c (.nilslice)), none⟩,
  ⟨(some 5), .move (.c (.int .i64 2)), none⟩]
def b65_11 : SCode := .region r65_11
def b65_12 : SCode := .seq b65_11 .ret
def b65_13 : SCode := .cond (.t 21) b65_12 .skip
def b65_14 : SCode := .seq b65_10 b65_13
def b65_15 : SCode := .block 1 b65_14
abbrev r65_16 : List MOper := [⟨(some 14), .move (.t 6), none⟩,
  ⟨(some 15), .bin .add .num (.t 14) (.c (.int .i64 1)), none⟩,
  ⟨(some 6), .move (.t 15), none⟩]
def b65_16 : SCode := .region r65_16
def b65_17 : SCode := .seq b65_15 b65_16
def b65_18 : SCode := .seq b65_9 b65_17
def b65_19 : SCode := .loop b65_18
def b65_20 : SCode := .block 0 b65_19
def b65_21 : SCode := .seq b65_6 b65_20
abbrev r65_22 : List MOper := [⟨(some 22), .move (.t 0), none⟩,
  ⟨(some 23), .move (.t 0), none⟩,
  ⟨(some 24), .move (.t 1), none⟩,
  ⟨(some 25), .call 72 [(.t 23), (.t 24)], none⟩,
  ⟨(some 26), .call 71 [(.t 22), (.t 25)], none⟩,
  ⟨(some 4), .move (.t 26), none⟩,
  ⟨(some 5), .move (.c (.int .i64 0)), none⟩]
def b65_22 : SCode := .region r65_22
def b65_23 : SCode := .seq b65_22 .ret
def b65_24 : SCode := .seq b65_21 b65_23
def b65_25 : SCode := .seq b65_5 b65_24
def b65_26 : SCode := .seq b65_0 b65_25
def s65 : SFunc := ⟨27, [.t 4, .t 5], b65_26⟩
theorem c65 : sFn Try.prog 65 = some s65 := by kernel_rfl
theorem Z65 : XR b65_0 r65_0 ∧ XR b65_1 r65_1 ∧ XR b65_2 r65_2 ∧ XS b65_3 b65_2 .ret ∧ XC b65_4 (.t 9) b65_3 .skip ∧ XS b65_5 b65_1 b65_4 ∧ XR b65_6 r65_6 ∧ XR b65_7 r65_7 ∧ XC b65_8 (.t 13) .skip (.exit 0) ∧ XS b65_9 b65_7 b65_8 ∧ XR b65_10 r65_10 ∧ XR b65_11 r65_11 ∧ XS b65_12 b65_11 .ret ∧ XC b65_13 (.t 21) b65_12 .skip ∧ XS b65_14 b65_10 b65_13 ∧ XB b65_15 1 b65_14 ∧ XR b65_16 r65_16 ∧ XS b65_17 b65_15 b65_16 ∧ XS b65_18 b65_9 b65_17 ∧ XB b65_20 0 b65_19 ∧ XS b65_21 b65_6 b65_20 ∧ XR b65_22 r65_22 ∧ XS b65_23 b65_22 .ret ∧ XS b65_24 b65_21 b65_23 ∧ XS b65_25 b65_5 b65_24 ∧ XS b65_26 b65_0 b65_25 ∧ XY s65 27 b65_26 [.t 4, .t 5] := ⟨rfl, rfl, rfl, rfl, sC_cond, rfl, rfl, rfl, sC_cond, rfl, rfl, rfl, rfl, sC_cond, rfl, rfl, rfl, rfl, rfl, rfl, rfl, rfl, rfl, rfl, rfl, rfl, rfl⟩

set_option maxHeartbeats 4000000
set_option maxRecDepth 10000
/-! Apart. -/
abbrev UpTo (n : Nat) := {l : List Int // l.length ≤ n}
def RnQ {n : Nat} (p : UpTo n) (r : AV) (σ : AHeap) : Prop := Frz σ r (.imm (rnC p.1) false false)
def U72 : PCall := rowQ 62 findD noCall
theorem U72_app {f : FuncId} {args : List AV} {σ : AHeap} {K : AV → AHeap → Prop} : U72 f args σ K = rowQ 62 findD noCall f args σ K := _root_.id rfl
theorem U72_sound : Sound Try.prog U72 := rowQ_sound findD_ok (noCall_sound _)
theorem U72_one : OneC U72 := one_row findD_one one_none
def apI (s : List Int) (m : Nat) (e : Env) (σ : AHeap) : Prop := ∃ (i : Nat) (out : List Int) (Lv : AV), i ≤ s.length ∧ out.length ≤ 2 * i ∧ m = s.length - i ∧ Grow σ Lv 1 (rnC out) ∧ e 0 = loreV ∧ e 1 = .imm (rnC s) false false ∧ e 5 = Lv ∧ e 6 = .int .i64 (i : Int)
theorem apart_some (s : List Int) (hs : s.length ≤ 1000) : sF U72 s72 [loreV, .imm (rnC s) false false] [] fun r σ => ∃ p : UpTo (2 * s.length), RnQ p r σ := by
  have ls : (rnC s).length = s.length := by simp
  simp only [U72_app, Z72, base1, ↓reduceIte, Nat.reduceAdd, Nat.reduceSub, Nat.reduceMul, Nat.reduceEqDiff, Nat.reduceLeDiff, Nat.reduceLT, Int.reduceLT, Int.reduceLE, Int.reduceEq, Int.reduceNe, Int.reduceToNat, Int.reduceAdd, Int.reduceSub, reduceCtorEq, Nat.reduceBEq, Nat.reduceBNe]
  refine sC_inv (a := b72_16) (apI s) s.length _ _ (.refl _ _ _) ⟨0, [], .nilslice, Nat.zero_le _, Nat.zero_le _, rfl, .inl ⟨rfl, rfl⟩, rfl, rfl, rfl, rfl⟩ ?_
  rintro m e σ ⟨i, out, Lv, hi, ho, hm, hg, e0, e1, e5, e6⟩
  rcases Nat.lt_or_ge i s.length with hlt | hge
  · have hlt' : (i : Int) < (s.length : Int) := by omega
    have hge0 : (0 : Int) ≤ (i : Int) := by omega
    have hwr : IntKind.wrap .i64 ((i : Int) + 1) = ((i + 1 : Nat) : Int) := by rw [Gz.wrap64 (by omega)]; omega
    obtain ⟨n, hn⟩ : ∃ n, s[i]? = some n := ⟨_, List.getElem?_eq_getElem hlt⟩
    have hnn : (rnC s)[i]? = some [.int .i32 n] := by rw [rnC, List.getElem?_map, hn]; rfl
    simp only [U72_app, Z72, base1, ↓reduceIte, Nat.reduceAdd, Nat.reduceSub, Nat.reduceMul, Nat.reduceEqDiff, Nat.reduceLeDiff, Nat.reduceLT, Int.reduceLT, Int.reduceLE, Int.reduceEq, Int.reduceNe, Int.reduceToNat, Int.reduceAdd, Int.reduceSub, reduceCtorEq, Nat.reduceBEq, Nat.reduceBNe, lenOf_imm, loopR_exit, loopR_ret, e0, e1, e5, e6, ls, hlt, hlt', hge0, Int.toNat_natCast, hnn]
    refine ⟨n, rfl, ?_⟩
    rcases fd_cases n with h | h | h
    · have he : elemsOf σ 1 (.imm [[.int .i32 101], [.int .i32 769]] false false) = some ([[AV.int .i32 101], [AV.int .i32 769]] : List (List AV)).flatten := rfl
      obtain ⟨v, τ, a1, a2, a3, a4, a5⟩ := grow_any (b := 4) (by decide) hg (ys := [[.int .i32 101], [.int .i32 769]]) (by simp; omega) he rfl (rn_len1 [101, 769]) rfl
      rw [h]
      simp only [U72_app, Z72, base1, ↓reduceIte, Nat.reduceAdd, Nat.reduceSub, Nat.reduceMul, Nat.reduceEqDiff, Nat.reduceLeDiff, Nat.reduceLT, Int.reduceLT, Int.reduceLE, Int.reduceEq, Int.reduceNe, Int.reduceToNat, Int.reduceAdd, Int.reduceSub, reduceCtorEq, Nat.reduceBEq, Nat.reduceBNe, lenOf_imm, loopR_exit, loopR_ret, e0, e1, e5, e6, a1, a2, a3, hwr]
      rw [loopR_normal]
      exact ⟨s.length - (i + 1), _, _, by omega, .refl _ _ _, i + 1, out ++ [101, 769], v, hlt, by simp; omega, rfl, by rw [rnC, List.map_append]; exact a5, e0, e1, rfl, rfl⟩
    all_goals
      obtain ⟨v, τ, a1, a2, a3, a4, a5⟩ := grow_one (b := 4) (by decide) hg (by simp; omega) [.int .i32 n] rfl rfl
      rw [h]
      simp only [U72_app, Z72, base1, ↓reduceIte, Nat.reduceAdd, Nat.reduceSub, Nat.reduceMul, Nat.reduceEqDiff, Nat.reduceLeDiff, Nat.reduceLT, Int.reduceLT, Int.reduceLE, Int.reduceEq, Int.reduceNe, Int.reduceToNat, Int.reduceAdd, Int.reduceSub, reduceCtorEq, Nat.reduceBEq, Nat.reduceBNe, lenOf_imm, lenOf_nilS, loopR_exit, loopR_ret, e0, e1, e5, e6, ls, hlt, hlt', hge0, Int.toNat_natCast, hnn, a1, a2, a3, hwr]
      rw [loopR_normal]
      exact ⟨s.length - (i + 1), _, _, by omega, .refl _ _ _, i + 1, out ++ [n], v, hlt, by simp; omega, rfl, by rw [rnC, List.map_append]; exact a5, e0, e1, rfl, rfl⟩
  · have hlt' : ¬ (i : Int) < (s.length : Int) := by omega
    simp only [U72_app, Z72, base1, ↓reduceIte, Nat.reduceAdd, Nat.reduceSub, Nat.reduceMul, Nat.reduceEqDiff, Nat.reduceLeDiff, Nat.reduceLT, Int.reduceLT, Int.reduceLE, Int.reduceEq, Int.reduceNe, Int.reduceToNat, Int.reduceAdd, Int.reduceSub, reduceCtorEq, Nat.reduceBEq, Nat.reduceBNe, lenOf_imm, loopR_exit, loopR_ret, e0, e1, e5, e6, ls, hlt']
    exact ⟨⟨out, by omega⟩, grow_frz hg (rn_pure out)⟩
theorem apart_ex (s : List Int) : ∃ p : UpTo (2 * s.length), s.length ≤ 1000 → Tri Try.prog 72 [loreV, .imm (rnC s) false false] [] (RnQ p) := by
  by_cases h : s.length ≤ 1000
  · obtain ⟨v, hv⟩ := Tri.one c72 U72_sound U72_one (by kernel_rfl) (apart_some s h)
    exact ⟨v, fun _ => hv⟩
  · exact ⟨⟨[], by simp⟩, fun h1 => absurd h1 h⟩
noncomputable def apartS (s : List Int) : UpTo (2 * s.length) := Classical.choose (apart_ex s)
theorem imm_pureR (l : List Int) : (AV.imm (rnC l) false false).pure = true := by simp only [AV.pure, rn_pure]
theorem apart_ok (s : List Int) (hs : s.length ≤ 1000) : Tri Try.prog 72 [loreV, .imm (rnC s) false false] [] fun r _ => r.pure = true ∧ r = .imm (rnC (apartS s).1) false false :=
  Tri.frozen (Classical.choose_spec (apart_ex s) hs) fun r σ h => ⟨_, h, imm_pureR _, rfl⟩
def apartD (args : List AV) (σ : AHeap) (K : AV → AHeap → Prop) : Prop := ∃ s : List Int, args = [loreV, .imm (rnC s) false false] ∧ s.length ≤ 1000 ∧ K (.imm (rnC (apartS s).1) false false) σ
theorem apartD_ok (args : List AV) (σ : AHeap) (K : AV → AHeap → Prop) (h : apartD args σ K) : Tri Try.prog 72 args σ K := by
  obtain ⟨s, rfl, hs, h⟩ := h
  exact (Tri.pureD (by simp only [pureL, AV.pure, rn_pure, pureLL, Bool.and_self]) (apart_ok s hs) σ).mono fun x σ' hr => by rw [hr.1, hr.2]; exact h
theorem apartD_one : OneD apartD := ⟨fun args σ K K' hk ⟨s, h1, h2, h⟩ => ⟨s, h1, h2, hk _ _ h⟩, fun ι args σ K ⟨s, h1, h2, i, h⟩ => ⟨i, s, h1, h2, h⟩⟩
/-! Order. -/
def U71 : PCall := rowQ 68 classD noCall
theorem U71_app {f : FuncId} {args : List AV} {σ : AHeap} {K : AV → AHeap → Prop} : U71 f args σ K = rowQ 68 classD noCall f args σ K := _root_.id rfl
theorem U71_sound : Sound Try.prog U71 := rowQ_sound classD_ok (noCall_sound _)
theorem U71_one : OneC U71 := one_row classD_one one_none
def orI (n : Nat) (m : Nat) (e : Env) (σ : AHeap) : Prop := ∃ (i : Nat) (out : List Int) (Lv : AV), 1 ≤ i ∧ out.length = n ∧ m = n + 1 - i ∧ i ≤ n + 1 ∧ Grow σ Lv 1 (rnC out) ∧ e 0 = loreV ∧ e 5 = Lv ∧ e 6 = .int .i64 (i : Int)
abbrev OrA (n : Nat) : MExit → Env → AHeap → Prop := RetQ [.t 4] fun r σ => ∃ p : UpTo n, RnQ p r σ
abbrev LR71 (n m : Nat) : MExit → Env → AHeap → Prop := loopR U71 0 (OrA n) (.block 0 (.seq b71_26 .fin)) (orI n) m
/-- Within: from a place on to the front. -/
def orJ (n i d : Nat) (m : Nat) (e : Env) (σ : AHeap) : Prop := ∃ (k : Nat) (out : List Int), k ≤ i ∧ m = k ∧ out.length = n ∧ hget σ d = some (rnC out).flatten ∧ e 0 = loreV ∧ e 5 = .slice d 0 n none 1 ∧ e 6 = .int .i64 (i : Int) ∧ e 7 = .int .i64 (k : Int)
theorem or_in (n i d : Nat) (hn : n ≤ 10000) (hi1 : 1 ≤ i) (hi : i < n) (m0 : Nat) (hm0 : m0 = n + 1 - i) (m : Nat) (e : Env) (σ : AHeap) (h : orJ n i d m e σ) :
    sC U71 0 b71_14 (unw U71 0 (loopR U71 0 (LR71 n m0) (.block 2 (.block 1 (.seq b71_19 .fin))) (orJ n i d) m) .fin) e σ := by
  obtain ⟨k, out, hk, hm, ho, hd, e0, e5, e6, e7⟩ := h
  have hwi : IntKind.wrap .i64 ((i : Int) + 1) = ((i + 1 : Nat) : Int) := by rw [Gz.wrap64 (by omega)]; omega
  have hdone : ∀ e' : Env, e' 0 = loreV → e' 5 = .slice d 0 n none 1 → e' 6 = .int .i64 (((i + 1 : Nat)) : Int) → ∃ m e1 σ1, m < m0 ∧ WkR 0 e' σ e1 σ1 ∧ orI n m e1 σ1 := fun e' g0 g5 g6 =>
    ⟨n + 1 - (i + 1), _, _, by omega, .refl _ _ _, i + 1, out, _, by omega, ho, rfl, by omega, .inr ⟨d, by rw [show (rnC out).length = n by simp [ho]], hd, rn_len1 out, rn_cell out⟩, g0, g5, g6⟩
  by_cases hk0 : (0 : Int) < (k : Int)
  · have hkn : k < n := by omega
    have hkn' : (k : Int) < (n : Int) := by omega
    have hge0 : (0 : Int) ≤ (k : Int) := by omega
    have hw1 : IntKind.wrap .i64 ((k : Int) - 1) = ((k - 1 : Nat) : Int) := by rw [Gz.wrap64 (by omega)]; omega
    have k1 : k - 1 < n := by omega
    have k1' : ((k - 1 : Nat) : Int) < (n : Int) := by omega
    have k10 : (0 : Int) ≤ ((k - 1 : Nat) : Int) := by omega
    obtain ⟨x, hx⟩ : ∃ x, out[k]? = some x := ⟨_, List.getElem?_eq_getElem (by omega)⟩
    obtain ⟨y, hy⟩ : ∃ y, out[k - 1]? = some y := ⟨_, List.getElem?_eq_getElem (by omega)⟩
    have hfx : (rnC out).flatten[k]? = some (.int .i32 x) := by rw [rn_flat, List.getElem?_map, hx]; rfl
    have hfy : (rnC out).flatten[k - 1]? = some (.int .i32 y) := by rw [rn_flat, List.getElem?_map, hy]; rfl
    have p1 : put (rnC out).flatten (k - 1) [.int .i32 x] = some (rnC (out.set (k - 1) x)).flatten := by
      rw [put_one1 (by rw [rn_flat]; simp; omega), rn_flat, rn_flat]; simp only [List.map_set]
    have p2 : put (rnC (out.set (k - 1) x)).flatten k [.int .i32 y] = some (rnC ((out.set (k - 1) x).set k y)).flatten := by
      rw [put_one1 (by rw [rn_flat]; simp; omega), rn_flat, rn_flat]; simp only [List.map_set]
    have g1 : hget (hset σ d (rnC (out.set (k - 1) x)).flatten) d = some (rnC (out.set (k - 1) x)).flatten := set_same hd
    simp only [U71_app, Z71, base1, ↓reduceIte, Nat.reduceAdd, Nat.reduceSub, Nat.reduceMul, Nat.reduceEqDiff, Nat.reduceLeDiff, Nat.reduceLT, Int.reduceLT, Int.reduceLE, Int.reduceEq, Int.reduceNe, Int.reduceToNat, Int.reduceAdd, Int.reduceSub, reduceCtorEq, Nat.reduceBEq, Nat.reduceBNe, LR71, loopR_exit, loopR_ret, e0, e5, e6, e7, hk0, hkn, hkn', hge0, Int.toNat_natCast, hd, hfx]
    refine ⟨x, rfl, ?_⟩
    by_cases hc : (0 : Int) < clS x
    · simp only [U71_app, Z71, base1, ↓reduceIte, Nat.reduceAdd, Nat.reduceSub, Nat.reduceMul, Nat.reduceEqDiff, Nat.reduceLeDiff, Nat.reduceLT, Int.reduceLT, Int.reduceLE, Int.reduceEq, Int.reduceNe, Int.reduceToNat, Int.reduceAdd, Int.reduceSub, reduceCtorEq, Nat.reduceBEq, Nat.reduceBNe, LR71, loopR_exit, loopR_ret, e0, e5, e6, e7, hc, hw1, k1, k1', k10, hkn, hkn', hge0, Int.toNat_natCast, hd, hfx, hfy]
      refine ⟨y, rfl, ?_⟩
      simp only [U71_app, Z71, base1, ↓reduceIte, Nat.reduceAdd, Nat.reduceSub, Nat.reduceMul, Nat.reduceEqDiff, Nat.reduceLeDiff, Nat.reduceLT, Int.reduceLT, Int.reduceLE, Int.reduceEq, Int.reduceNe, Int.reduceToNat, Int.reduceAdd, Int.reduceSub, reduceCtorEq, Nat.reduceBEq, Nat.reduceBNe, LR71, loopR_exit, loopR_ret, e0, e5, e6, e7, hc, hw1, k1, k1', k10, hkn, hkn', hge0, Int.toNat_natCast, hd, hfx, hfy]
      refine ⟨x, rfl, ?_⟩
      by_cases hgt : clS x < clS y
      · simp only [U71_app, Z71, base1, ↓reduceIte, Nat.reduceAdd, Nat.reduceSub, Nat.reduceMul, Nat.reduceEqDiff, Nat.reduceLeDiff, Nat.reduceLT, Int.reduceLT, Int.reduceLE, Int.reduceEq, Int.reduceNe, Int.reduceToNat, Int.reduceAdd, Int.reduceSub, reduceCtorEq, Nat.reduceBEq, Nat.reduceBNe, LR71, loopR_exit, loopR_ret, e0, e5, e6, e7, hgt, hw1, k1, k1', k10, hkn, hkn', hge0, Int.toNat_natCast, hd, hfx, hfy, p1, p2, g1, set_set]
        rw [loopR_normal]
        exact ⟨k - 1, _, _, by omega, .refl _ _ _, k - 1, (out.set (k - 1) x).set k y, by omega, rfl, by simp; exact ho, set_same hd, e0, e5, e6, rfl⟩
      · simp only [U71_app, Z71, base1, ↓reduceIte, Nat.reduceAdd, Nat.reduceSub, Nat.reduceMul, Nat.reduceEqDiff, Nat.reduceLeDiff, Nat.reduceLT, Int.reduceLT, Int.reduceLE, Int.reduceEq, Int.reduceNe, Int.reduceToNat, Int.reduceAdd, Int.reduceSub, reduceCtorEq, Nat.reduceBEq, Nat.reduceBNe, LR71, loopR_exit, loopR_ret, e0, e5, e6, e7, hgt, hwi]
        rw [loopR_normal]
        exact hdone _ e0 e5 rfl
    · simp only [U71_app, Z71, base1, ↓reduceIte, Nat.reduceAdd, Nat.reduceSub, Nat.reduceMul, Nat.reduceEqDiff, Nat.reduceLeDiff, Nat.reduceLT, Int.reduceLT, Int.reduceLE, Int.reduceEq, Int.reduceNe, Int.reduceToNat, Int.reduceAdd, Int.reduceSub, reduceCtorEq, Nat.reduceBEq, Nat.reduceBNe, LR71, loopR_exit, loopR_ret, e0, e5, e6, e7, hc, hwi]
      rw [loopR_normal]
      exact hdone _ e0 e5 rfl
  · simp only [U71_app, Z71, base1, ↓reduceIte, Nat.reduceAdd, Nat.reduceSub, Nat.reduceMul, Nat.reduceEqDiff, Nat.reduceLeDiff, Nat.reduceLT, Int.reduceLT, Int.reduceLE, Int.reduceEq, Int.reduceNe, Int.reduceToNat, Int.reduceAdd, Int.reduceSub, reduceCtorEq, Nat.reduceBEq, Nat.reduceBNe, LR71, loopR_exit, loopR_ret, e0, e5, e6, e7, hk0, hwi]
    rw [loopR_normal]
    exact hdone _ e0 e5 rfl
theorem order_some (s : List Int) (hs : s.length ≤ 10000) : sF U71 s71 [loreV, .imm (rnC s) false false] [] fun r σ => ∃ p : UpTo s.length, RnQ p r σ := by
  have ls : (rnC s).length = s.length := by simp
  have hrw : ((rnC s).all fun r => r.length == 1) = true := by rw [List.all_eq_true]; intro r hr; rw [rn_len1 s r hr]; rfl
  obtain ⟨v, τ, a1, a2, a3, a4, a5⟩ := grow_any (σ := ([] : AHeap)) (Lv := .nilslice) (w := 1) (b := 4) (rows := []) (by decide) (.inl ⟨rfl, rfl⟩) (ys := rnC s) (x := .imm (rnC s) false false) (by simp; omega) (by simp only [elemsOf, hrw, if_true]) (by rw [lenOf_imm]) (rn_len1 s) (rn_cell s)
  rw [List.nil_append] at a5
  simp only [U71_app, Z71, base1, ↓reduceIte, Nat.reduceAdd, Nat.reduceSub, Nat.reduceMul, Nat.reduceEqDiff, Nat.reduceLeDiff, Nat.reduceLT, Int.reduceLT, Int.reduceLE, Int.reduceEq, Int.reduceNe, Int.reduceToNat, Int.reduceAdd, Int.reduceSub, reduceCtorEq, Nat.reduceBEq, Nat.reduceBNe, a1, a2, a3]
  refine sC_inv (a := b71_21) (orI s.length) s.length _ _ (.refl _ _ _) ⟨1, s, v, Nat.le_refl _, rfl, rfl, by omega, a5, rfl, rfl, rfl⟩ ?_
  rintro m e σ ⟨i, out, Lv, hi1, ho, hm, hi, hg, e0, e5, e6⟩
  have lo : (rnC out).length = out.length := by simp
  have hls : lenSl Lv = some s.length := grow_lenS ⟨hg, by rw [lo, ho]⟩
  by_cases hlt : (i : Int) < (s.length : Int)
  · rcases hg with ⟨_, h0⟩ | ⟨d, rfl, hd, h1, hc⟩
    · have := congrArg List.length h0
      rw [lo, List.length_nil] at this
      omega
    rw [lo, ho] at e5
    have l0 : lenOf (.slice d 0 s.length none 1) = some s.length := rfl
    simp only [U71_app, Z71, base1, ↓reduceIte, Nat.reduceAdd, Nat.reduceSub, Nat.reduceMul, Nat.reduceEqDiff, Nat.reduceLeDiff, Nat.reduceLT, Int.reduceLT, Int.reduceLE, Int.reduceEq, Int.reduceNe, Int.reduceToNat, Int.reduceAdd, Int.reduceSub, reduceCtorEq, Nat.reduceBEq, Nat.reduceBNe, loopR_exit, loopR_ret, e0, e5, e6, l0, hlt]
    exact sC_inv (a := b71_14) (orJ s.length i d) i _ _ (.refl _ _ _) ⟨i, out, Nat.le_refl _, rfl, ho, hd, e0, e5, e6, rfl⟩ (or_in s.length i d hs hi1 (by omega) m hm)
  · simp only [U71_app, Z71, base1, ↓reduceIte, Nat.reduceAdd, Nat.reduceSub, Nat.reduceMul, Nat.reduceEqDiff, Nat.reduceLeDiff, Nat.reduceLT, Int.reduceLT, Int.reduceLE, Int.reduceEq, Int.reduceNe, Int.reduceToNat, Int.reduceAdd, Int.reduceSub, reduceCtorEq, Nat.reduceBEq, Nat.reduceBNe, loopR_exit, loopR_ret, e0, e5, e6, hls, Option.map_some, hlt]
    exact ⟨⟨out, by omega⟩, grow_frz hg (rn_pure out)⟩
theorem order_ex (s : List Int) : ∃ p : UpTo s.length, s.length ≤ 10000 → Tri Try.prog 71 [loreV, .imm (rnC s) false false] [] (RnQ p) := by
  by_cases h : s.length ≤ 10000
  · obtain ⟨v, hv⟩ := Tri.one c71 U71_sound U71_one (by kernel_rfl) (order_some s h)
    exact ⟨v, fun _ => hv⟩
  · exact ⟨⟨[], by simp⟩, fun h1 => absurd h1 h⟩
noncomputable def orderS (s : List Int) : UpTo s.length := Classical.choose (order_ex s)
theorem order_ok (s : List Int) (hs : s.length ≤ 10000) : Tri Try.prog 71 [loreV, .imm (rnC s) false false] [] fun r _ => r.pure = true ∧ r = .imm (rnC (orderS s).1) false false :=
  Tri.frozen (Classical.choose_spec (order_ex s) hs) fun r σ h => ⟨_, h, imm_pureR _, rfl⟩
def orderD (args : List AV) (σ : AHeap) (K : AV → AHeap → Prop) : Prop := ∃ s : List Int, args = [loreV, .imm (rnC s) false false] ∧ s.length ≤ 10000 ∧ K (.imm (rnC (orderS s).1) false false) σ
theorem orderD_ok (args : List AV) (σ : AHeap) (K : AV → AHeap → Prop) (h : orderD args σ K) : Tri Try.prog 71 args σ K := by
  obtain ⟨s, rfl, hs, h⟩ := h
  exact (Tri.pureD (by simp only [pureL, AV.pure, rn_pure, pureLL, Bool.and_self]) (order_ok s hs) σ).mono fun x σ' hr => by rw [hr.1, hr.2]; exact h
theorem orderD_one : OneD orderD := ⟨fun args σ K K' hk ⟨s, h1, h2, h⟩ => ⟨s, h1, h2, hk _ _ h⟩, fun ι args σ K ⟨s, h1, h2, i, h⟩ => ⟨i, s, h1, h2, h⟩⟩
/-! The table may be. -/
noncomputable def yesZ (v : AV) : Bool := AV.rec (motive_1 := fun _ => Bool) (motive_2 := fun _ => Unit) (motive_3 := fun _ => Unit) (fun b => b) (fun _ _ => false) (fun _ => false) false (fun _ _ => false) (fun _ _ => false) false (fun _ _ _ _ _ => false) (fun _ _ _ _ => false) (fun _ _ _ => false) false (fun _ _ => false) (fun _ _ => false) false () (fun _ _ _ _ => ()) () (fun _ _ _ _ => ()) v
theorem yesZ_ok {v : AV} (h : yesZ v = true) : v = .bool true := by
  cases v <;> first | (cases h; done) | (have h : _ = true := h; subst h; rfl)
theorem loreRun : @Bool.rec (fun _ => Bool) false true ((zF (cFn Try.prog) 100 20 60).r [loreV] TH.new (fun v _ => yesZ v)) = true := by kernel_rfl
theorem lore_ok : Tri Try.prog 60 [loreV] [] fun r _ => r.pure = true ∧ r = .bool true := (Tri.runZ 100 20 yesZ loreRun).mono fun r σ h => by rw [yesZ_ok h]; exact ⟨rfl, rfl⟩
def loreD (args : List AV) (σ : AHeap) (K : AV → AHeap → Prop) : Prop := args = [loreV] ∧ K (.bool true) σ
theorem loreD_ok (args : List AV) (σ : AHeap) (K : AV → AHeap → Prop) (h : loreD args σ K) : Tri Try.prog 60 args σ K := by
  obtain ⟨rfl, h⟩ := h
  exact (Tri.pureD rfl lore_ok σ).mono fun x σ' hr => by rw [hr.1, hr.2]; exact h
theorem loreD_one : OneD loreD := ⟨fun args σ K K' hk ⟨h1, h⟩ => ⟨h1, hk _ _ h⟩, fun ι args σ K ⟨h1, i, h⟩ => ⟨i, h1, h⟩⟩
theorem tab_pure1 : pureL [AV.agg tabC] = true := by kernel_rfl
theorem tabRun : @Bool.rec (fun _ => Bool) false true ((zF (cFn Try.prog) 100 20 48).r [.agg tabC] TH.new (fun v _ => yesZ v)) = true := by kernel_rfl
theorem tab_ok : Tri Try.prog 48 [.agg tabC] [] fun r _ => r.pure = true ∧ r = .bool true := (Tri.runZ 100 20 yesZ tabRun).mono fun r σ h => by rw [yesZ_ok h]; exact ⟨rfl, rfl⟩
def tabD (args : List AV) (σ : AHeap) (K : AV → AHeap → Prop) : Prop := args = [.agg tabC] ∧ K (.bool true) σ
theorem tabD_ok (args : List AV) (σ : AHeap) (K : AV → AHeap → Prop) (h : tabD args σ K) : Tri Try.prog 48 args σ K := by
  obtain ⟨rfl, h⟩ := h
  exact (Tri.pureD tab_pure1 tab_ok σ).mono fun x σ' hr => by rw [hr.1, hr.2]; exact h
theorem tabD_one : OneD tabD := ⟨fun args σ K K' hk ⟨h1, h⟩ => ⟨h1, hk _ _ h⟩, fun ι args σ K ⟨h1, i, h⟩ => ⟨i, h1, h⟩⟩
/-! Normal. -/
def U65 : PCall := rowQ 60 loreD (rowQ 63 myD (rowQ 72 apartD (rowQ 71 orderD noCall)))
theorem U65_app {f : FuncId} {args : List AV} {σ : AHeap} {K : AV → AHeap → Prop} : U65 f args σ K = rowQ 60 loreD (rowQ 63 myD (rowQ 72 apartD (rowQ 71 orderD noCall))) f args σ K := _root_.id rfl
theorem U65_sound : Sound Try.prog U65 := rowQ_sound loreD_ok (rowQ_sound myD_ok (rowQ_sound apartD_ok (rowQ_sound orderD_ok (noCall_sound _))))
theorem U65_one : OneC U65 := one_row loreD_one (one_row myD_one (one_row apartD_one (one_row orderD_one one_none)))
abbrev NormI (n : Nat) := {p : Option (List Int) // ∀ l, p = some l → l.length ≤ 2 * n}
def NrQ {n : Nat} (p : NormI n) (r : AV) (_ : AHeap) : Prop := r.pure = true ∧ r = ansRd p.1
def nrI (s : List Int) (m : Nat) (e : Env) (σ : AHeap) : Prop := ∃ i : Nat, i ≤ s.length ∧ m = s.length - i ∧ e 0 = loreV ∧ e 1 = .imm (rnC s) false false ∧ e 6 = .int .i64 (i : Int)
theorem norm_some (s : List Int) (hs : s.length ≤ 1000) : sF U65 s65 [loreV, .imm (rnC s) false false] [] fun r σ => ∃ p : NormI s.length, NrQ p r σ := by
  have ls : (rnC s).length = s.length := by simp
  simp only [U65_app, Z65, base1, ↓reduceIte, Nat.reduceAdd, Nat.reduceSub, Nat.reduceMul, Nat.reduceEqDiff, Nat.reduceLeDiff, Nat.reduceLT, Int.reduceLT, Int.reduceLE, Int.reduceEq, Int.reduceNe, Int.reduceToNat, Int.reduceAdd, Int.reduceSub, reduceCtorEq, Nat.reduceBEq, Nat.reduceBNe]
  refine ⟨rfl, ?_⟩
  simp only [U65_app, Z65, base1, ↓reduceIte, Nat.reduceAdd, Nat.reduceSub, Nat.reduceMul, Nat.reduceEqDiff, Nat.reduceLeDiff, Nat.reduceLT, Int.reduceLT, Int.reduceLE, Int.reduceEq, Int.reduceNe, Int.reduceToNat, Int.reduceAdd, Int.reduceSub, reduceCtorEq, Nat.reduceBEq, Nat.reduceBNe]
  refine sC_inv (a := b65_18) (nrI s) s.length _ _ (.refl _ _ _) ⟨0, Nat.zero_le _, rfl, rfl, rfl, rfl⟩ ?_
  rintro m e σ ⟨i, hi, hm, e0, e1, e6⟩
  rcases Nat.lt_or_ge i s.length with hlt | hge
  · have hlt' : (i : Int) < (s.length : Int) := by omega
    have hge0 : (0 : Int) ≤ (i : Int) := by omega
    have hwr : IntKind.wrap .i64 ((i : Int) + 1) = ((i + 1 : Nat) : Int) := by rw [Gz.wrap64 (by omega)]; omega
    obtain ⟨n, hn⟩ : ∃ n, s[i]? = some n := ⟨_, List.getElem?_eq_getElem hlt⟩
    have hnn : (rnC s)[i]? = some [.int .i32 n] := by rw [rnC, List.getElem?_map, hn]; rfl
    simp only [U65_app, Z65, base1, ↓reduceIte, Nat.reduceAdd, Nat.reduceSub, Nat.reduceMul, Nat.reduceEqDiff, Nat.reduceLeDiff, Nat.reduceLT, Int.reduceLT, Int.reduceLE, Int.reduceEq, Int.reduceNe, Int.reduceToNat, Int.reduceAdd, Int.reduceSub, reduceCtorEq, Nat.reduceBEq, Nat.reduceBNe, lenOf_imm, loopR_exit, loopR_ret, e0, e1, e6, ls, hlt, hlt', hge0, Int.toNat_natCast, hnn]
    refine ⟨n, rfl, ?_⟩
    cases myS n with
    | true =>
      simp only [U65_app, Z65, base1, ↓reduceIte, Nat.reduceAdd, Nat.reduceSub, Nat.reduceMul, Nat.reduceEqDiff, Nat.reduceLeDiff, Nat.reduceLT, Int.reduceLT, Int.reduceLE, Int.reduceEq, Int.reduceNe, Int.reduceToNat, Int.reduceAdd, Int.reduceSub, reduceCtorEq, Nat.reduceBEq, Nat.reduceBNe, lenOf_imm, loopR_exit, loopR_ret, e0, e1, e6, hwr]
      rw [loopR_normal]
      exact ⟨s.length - (i + 1), _, _, by omega, .refl _ _ _, i + 1, hlt, rfl, e0, e1, rfl⟩
    | false =>
      simp only [U65_app, Z65, base1, ↓reduceIte, Nat.reduceAdd, Nat.reduceSub, Nat.reduceMul, Nat.reduceEqDiff, Nat.reduceLeDiff, Nat.reduceLT, Int.reduceLT, Int.reduceLE, Int.reduceEq, Int.reduceNe, Int.reduceToNat, Int.reduceAdd, Int.reduceSub, reduceCtorEq, Nat.reduceBEq, Nat.reduceBNe, lenOf_imm, loopR_exit, loopR_ret, e0, e1, e6]
      exact ⟨⟨none, fun l h => by cases h⟩, rfl, rfl⟩
  · have hlt' : ¬ (i : Int) < (s.length : Int) := by omega
    simp only [U65_app, Z65, base1, ↓reduceIte, Nat.reduceAdd, Nat.reduceSub, Nat.reduceMul, Nat.reduceEqDiff, Nat.reduceLeDiff, Nat.reduceLT, Int.reduceLT, Int.reduceLE, Int.reduceEq, Int.reduceNe, Int.reduceToNat, Int.reduceAdd, Int.reduceSub, reduceCtorEq, Nat.reduceBEq, Nat.reduceBNe, lenOf_imm, loopR_exit, loopR_ret, e0, e1, e6, ls, hlt']
    refine ⟨s, rfl, hs, ?_⟩
    simp only [U65_app, Z65, base1, ↓reduceIte, Nat.reduceAdd, Nat.reduceSub, Nat.reduceMul, Nat.reduceEqDiff, Nat.reduceLeDiff, Nat.reduceLT, Int.reduceLT, Int.reduceLE, Int.reduceEq, Int.reduceNe, Int.reduceToNat, Int.reduceAdd, Int.reduceSub, reduceCtorEq, Nat.reduceBEq, Nat.reduceBNe, lenOf_imm, loopR_exit, loopR_ret, e0, e1, e6]
    refine ⟨(apartS s).1, rfl, by have := (apartS s).2; omega, ?_⟩
    simp only [U65_app, Z65, base1, ↓reduceIte, Nat.reduceAdd, Nat.reduceSub, Nat.reduceMul, Nat.reduceEqDiff, Nat.reduceLeDiff, Nat.reduceLT, Int.reduceLT, Int.reduceLE, Int.reduceEq, Int.reduceNe, Int.reduceToNat, Int.reduceAdd, Int.reduceSub, reduceCtorEq, Nat.reduceBEq, Nat.reduceBNe, lenOf_imm, loopR_exit, loopR_ret, e0, e1, e6]
    exact ⟨⟨some (orderS (apartS s).1).1, fun l h => by cases h; have := (orderS (apartS s).1).2; have := (apartS s).2; omega⟩, ansRd_pure (some _), rfl⟩
theorem norm_ex (s : List Int) : ∃ p : NormI s.length, s.length ≤ 1000 → Tri Try.prog 65 [loreV, .imm (rnC s) false false] [] (NrQ p) := by
  by_cases h : s.length ≤ 1000
  · obtain ⟨v, hv⟩ := Tri.one c65 U65_sound U65_one (by kernel_rfl) (norm_some s h)
    exact ⟨v, fun _ => hv⟩
  · exact ⟨⟨none, fun l h => by cases h⟩, fun h1 => absurd h1 h⟩
noncomputable def normS (s : List Int) : NormI s.length := Classical.choose (norm_ex s)
def normD (args : List AV) (σ : AHeap) (K : AV → AHeap → Prop) : Prop := ∃ s : List Int, args = [loreV, .imm (rnC s) false false] ∧ s.length ≤ 1000 ∧ K (ansRd (normS s).1) σ
theorem normD_ok (args : List AV) (σ : AHeap) (K : AV → AHeap → Prop) (h : normD args σ K) : Tri Try.prog 65 args σ K := by
  obtain ⟨s, rfl, hs, h⟩ := h
  exact (Tri.pureD (by simp only [pureL, AV.pure, rn_pure, pureLL, Bool.and_self]) (Classical.choose_spec (norm_ex s) hs) σ).mono fun x σ' hr => by rw [hr.1, hr.2]; exact h
theorem normD_one : OneD normD := ⟨fun args σ K K' hk ⟨s, h1, h2, h⟩ => ⟨s, h1, h2, hk _ _ h⟩, fun ι args σ K ⟨s, h1, h2, i, h⟩ => ⟨i, s, h1, h2, h⟩⟩
end Go.Proofs.Ytmjnmnhpmbbmgaa.tour
