/- What ReadList reads: records, shards, last replies, or why there are none, as functions of the bytes. No condition. -/
import Derived.Test.YtndlgmciplckjaaNList
set_option linter.unusedVariables false
set_option linter.unusedSimpArgs false
namespace Go.Proofs.Ytndlgmciplckjaa.note
open Go.ChangeShapes Go.WideShapes Go.ChangeAt Go.RowKit Go.Gz
section
variable {C : PCall} {n0 : Nat} {R : MExit → Env → AHeap → Prop} {k : Cont} {e : Env} {σ : AHeap}
abbrev r82_0 : List MOper := [⟨(some 4), .move (.c (.nilslice)), none⟩,
  ⟨(some 5), .move (.c (.int .i64 0)), none⟩]
def b82_0 : SCode := .region r82_0
abbrev r82_1 : List MOper := [⟨(some 13), .move (.t 1), none⟩,
  ⟨(some 14), .bin .eql .nilf (.t 13) (.c (.nilfunc)), none⟩]
def b82_1 : SCode := .region r82_1
abbrev r82_2 : List MOper := [⟨(some 4), .move (.c (.nilslice)), none⟩,
  ⟨(some 5), .move (.c (.int .i64 1)), none⟩]
def b82_2 : SCode := .region r82_2
def b82_3 : SCode := .seq b82_2 .ret
def b82_4 : SCode := .cond (.t 14) b82_3 .skip
def b82_5 : SCode := .seq b82_1 b82_4
abbrev r82_6 : List MOper := [⟨(some 15), .move (.t 0), none⟩,
  ⟨(some 16), .build [.nilslice, .int .i64 0] [(0, 1, (.t 15))], none⟩,
  ⟨(some 17), .box (.t 16), none⟩,
  ⟨(some 6), .move (.t 17), none⟩]
def b82_6 : SCode := .region r82_6
abbrev r82_7 : List MOper := [⟨(some 7), .move (.c (.nilslice)), none⟩]
def b82_7 : SCode := .region r82_7
abbrev r82_8 : List MOper := [⟨(some 18), .move (.t 6), none⟩,
  ⟨(some 19), .call 27 [(.t 18)], none⟩,
  ⟨(some 8), .move (.t 19), none⟩]
def b82_8 : SCode := .region r82_8
abbrev r82_9 : List MOper := [⟨(some 20), .move (.t 8), none⟩,
  ⟨(some 21), .bin .gtr .num (.t 20) (.c (.int .i64 0)), none⟩,
  ⟨(some 22), .move (.t 21), none⟩,
  ⟨(some 23), .move (.t 6), (some (22, true))⟩,
  ⟨(some 24), .nilCheck (.t 23), (some (22, true))⟩,
  ⟨(some 25), .fieldAddr 1 (.t 24), (some (22, true))⟩,
  ⟨(some 26), .load1 (.t 25), (some (22, true))⟩,
  ⟨(some 27), .bin .eql .num (.t 26) (.c (.int .i64 0)), (some (22, true))⟩,
  ⟨(some 28), .pick (.t 22) (.t 27) (.c (.bool false)), none⟩]
def b82_9 : SCode := .region r82_9
def b82_10 : SCode := .cond (.t 28) .skip (.exit 0)
def b82_11 : SCode := .seq b82_9 b82_10
abbrev r82_12 : List MOper := [⟨(some 31), .move (.t 6), none⟩,
  ⟨(some 32), .call 60 [(.t 31)], none⟩,
  ⟨(some 9), .move (.t 32), none⟩]
def b82_12 : SCode := .region r82_12
abbrev r82_13 : List MOper := [⟨(some 33), .move (.t 6), none⟩,
  ⟨(some 34), .nilCheck (.t 33), none⟩,
  ⟨(some 35), .fieldAddr 1 (.t 34), none⟩,
  ⟨(some 36), .load1 (.t 35), none⟩,
  ⟨(some 37), .bin .neq .num (.t 36) (.c (.int .i64 0)), none⟩]
def b82_13 : SCode := .region r82_13
def b82_14 : SCode := .cond (.t 37) (.exit 0) .skip
def b82_15 : SCode := .seq b82_13 b82_14
abbrev r82_16 : List MOper := [⟨(some 39), .move (.t 1), none⟩,
  ⟨(some 40), .move (.t 9), none⟩,
  ⟨(some 41), .toBytes (.t 40), none⟩,
  ⟨(some 42), .callv (.t 39) [(.t 41)], none⟩,
  ⟨(some 38), .move (.t 42), none⟩,
  ⟨(some 43), .extract (.t 38) 0, none⟩,
  ⟨(some 44), .extract (.t 38) 1, none⟩,
  ⟨(some 10), .alloc [.str [], .str [], .int .i64 0, .int .i64 0], none⟩,
  ⟨none, .store 4 (.t 10) (.t 43), none⟩,
  ⟨(some 11), .move (.t 44), none⟩]
def b82_16 : SCode := .region r82_16
abbrev r82_17 : List MOper := [⟨(some 45), .move (.t 11), none⟩,
  ⟨(some 46), .bin .neq .num (.t 45) (.c (.int .i64 0)), none⟩]
def b82_17 : SCode := .region r82_17
abbrev r82_18 : List MOper := [⟨(some 47), .move (.t 11), none⟩,
  ⟨(some 4), .move (.c (.nilslice)), none⟩,
  ⟨(some 5), .move (.t 47), none⟩]
def b82_18 : SCode := .region r82_18
def b82_19 : SCode := .seq b82_18 .ret
def b82_20 : SCode := .cond (.t 46) b82_19 .skip
def b82_21 : SCode := .seq b82_17 b82_20
abbrev r82_22 : List MOper := [⟨(some 48), .move (.t 7), none⟩,
  ⟨(some 49), .loadN 4 (.t 10), none⟩,
  ⟨(some 50), .buildSlice [.str [], .str [], .int .i64 0, .int .i64 0] 4 1 [(0, 4, (.t 49))], none⟩,
  ⟨(some 51), .append 4 48 (.t 48) (.t 50), none⟩,
  ⟨(some 7), .move (.t 51), none⟩]
def b82_22 : SCode := .region r82_22
def b82_23 : SCode := .seq b82_21 b82_22
def b82_24 : SCode := .seq b82_16 b82_23
def b82_25 : SCode := .seq b82_15 b82_24
def b82_26 : SCode := .seq b82_12 b82_25
def b82_27 : SCode := .block 1 b82_26
abbrev r82_28 : List MOper := [⟨(some 29), .move (.t 8), none⟩,
  ⟨(some 30), .bin .sub .num (.t 29) (.c (.int .i64 1)), none⟩,
  ⟨(some 8), .move (.t 30), none⟩]
def b82_28 : SCode := .region r82_28
def b82_29 : SCode := .seq b82_27 b82_28
def b82_30 : SCode := .seq b82_11 b82_29
def b82_31 : SCode := .loop b82_30
def b82_32 : SCode := .block 0 b82_31
def b82_33 : SCode := .seq b82_8 b82_32
abbrev r82_34 : List MOper := [⟨(some 52), .move (.t 6), none⟩,
  ⟨(some 53), .call 28 [(.t 52)], none⟩,
  ⟨(some 12), .move (.t 53), none⟩]
def b82_34 : SCode := .region r82_34
abbrev r82_35 : List MOper := [⟨(some 54), .move (.t 12), none⟩,
  ⟨(some 55), .bin .neq .num (.t 54) (.c (.int .i64 0)), none⟩]
def b82_35 : SCode := .region r82_35
abbrev r82_36 : List MOper := [⟨(some 56), .move (.t 12), none⟩,
  ⟨(some 4), .move (.c (.nilslice)), none⟩,
  ⟨(some 5), .move (.t 56), none⟩]
def b82_36 : SCode := .region r82_36
def b82_37 : SCode := .seq b82_36 .ret
def b82_38 : SCode := .cond (.t 55) b82_37 .skip
def b82_39 : SCode := .seq b82_35 b82_38
def b82_40 : SCode := .seq b82_34 b82_39
abbrev r82_41 : List MOper := [⟨(some 57), .move (.t 7), none⟩,
  ⟨(some 4), .move (.t 57), none⟩,
  ⟨(some 5), .move (.c (.int .i64 0)), none⟩]
def b82_41 : SCode := .region r82_41
def b82_42 : SCode := .seq b82_41 .ret
def b82_43 : SCode := .seq b82_40 b82_42
def b82_44 : SCode := .seq b82_33 b82_43
def b82_45 : SCode := .seq b82_7 b82_44
def b82_46 : SCode := .seq b82_6 b82_45
def b82_47 : SCode := .seq b82_5 b82_46
def b82_48 : SCode := .seq b82_0 b82_47
def s82 : SFunc := ⟨58, [.t 4, .t 5], b82_48⟩
theorem c82 : sFn Try.prog 82 = some s82 := by kernel_rfl
theorem x82_40 : XS b82_40 b82_34 b82_39 := rfl
theorem x82_43 : XS b82_43 b82_40 b82_42 := rfl
theorem Z82 : XR b82_0 r82_0 ∧ XR b82_1 r82_1 ∧ XR b82_2 r82_2 ∧ XS b82_3 b82_2 .ret ∧ XC b82_4 (.t 14) b82_3 .skip ∧ XS b82_5 b82_1 b82_4 ∧ XR b82_6 r82_6 ∧ XR b82_7 r82_7 ∧ XR b82_8 r82_8 ∧ XR b82_9 r82_9 ∧ XC b82_10 (.t 28) .skip (.exit 0) ∧ XS b82_11 b82_9 b82_10 ∧ XR b82_12 r82_12 ∧ XR b82_13 r82_13 ∧ XC b82_14 (.t 37) (.exit 0) .skip ∧ XS b82_15 b82_13 b82_14 ∧ XR b82_16 r82_16 ∧ XR b82_17 r82_17 ∧ XR b82_18 r82_18 ∧ XS b82_19 b82_18 .ret ∧ XC b82_20 (.t 46) b82_19 .skip ∧ XS b82_21 b82_17 b82_20 ∧ XR b82_22 r82_22 ∧ XS b82_23 b82_21 b82_22 ∧ XS b82_24 b82_16 b82_23 ∧ XS b82_25 b82_15 b82_24 ∧ XS b82_26 b82_12 b82_25 ∧ XB b82_27 1 b82_26 ∧ XR b82_28 r82_28 ∧ XS b82_29 b82_27 b82_28 ∧ XS b82_30 b82_11 b82_29 ∧ XB b82_32 0 b82_31 ∧ XS b82_33 b82_8 b82_32 ∧ XR b82_34 r82_34 ∧ XR b82_35 r82_35 ∧ XR b82_36 r82_36 ∧ XS b82_37 b82_36 .ret ∧ XC b82_38 (.t 55) b82_37 .skip ∧ XS b82_39 b82_35 b82_38 ∧ XR b82_41 r82_41 ∧ XS b82_42 b82_41 .ret ∧ XS b82_44 b82_33 b82_43 ∧ XS b82_45 b82_7 b82_44 ∧ XS b82_46 b82_6 b82_45 ∧ XS b82_47 b82_5 b82_46 ∧ XS b82_48 b82_0 b82_47 ∧ XY s82 58 b82_48 [.t 4, .t 5] := ⟨rfl, rfl, rfl, rfl, sC_cond, rfl, rfl, rfl, rfl, rfl, sC_cond, rfl, rfl, rfl, sC_cond, rfl, rfl, rfl, rfl, rfl, sC_cond, rfl, rfl, rfl, rfl, rfl, rfl, rfl, rfl, rfl, rfl, rfl, rfl, rfl, rfl, rfl, rfl, sC_cond, rfl, rfl, rfl, rfl, rfl, rfl, rfl, rfl, rfl⟩
abbrev r83_0 : List MOper := [⟨(some 2), .alloc [.str [], .str [], .int .i64 0, .int .i64 0], none⟩,
  ⟨(some 3), .move (.c (.int .i64 0)), none⟩]
def b83_0 : SCode := .region r83_0
abbrev r83_1 : List MOper := [⟨(some 6), .move (.t 0), none⟩,
  ⟨(some 7), .build [.nilslice, .int .i64 0] [(0, 1, (.t 6))], none⟩,
  ⟨(some 8), .box (.t 7), none⟩,
  ⟨(some 4), .move (.t 8), none⟩]
def b83_1 : SCode := .region r83_1
abbrev r83_2 : List MOper := [⟨(some 9), .move (.t 4), none⟩,
  ⟨(some 10), .call 60 [(.t 9)], none⟩,
  ⟨(some 11), .move (.t 4), none⟩,
  ⟨(some 12), .call 60 [(.t 11)], none⟩,
  ⟨(some 13), .build [.str [], .str []] [(0, 1, (.t 10)), (1, 1, (.t 12))], none⟩,
  ⟨(some 14), .move (.t 4), none⟩,
  ⟨(some 15), .call 27 [(.t 14)], none⟩,
  ⟨(some 16), .move (.t 4), none⟩,
  ⟨(some 17), .call 27 [(.t 16)], none⟩,
  ⟨(some 18), .build [.str [], .str [], .int .i64 0, .int .i64 0] [(0, 2, (.t 13)), (2, 1, (.t 15)), (3, 1, (.t 17))], none⟩,
  ⟨(some 5), .alloc [.str [], .str [], .int .i64 0, .int .i64 0], none⟩,
  ⟨none, .store 4 (.t 5) (.t 18), none⟩]
def b83_2 : SCode := .region r83_2
abbrev t83_3 : LTree := (.quiet ⟨(some 19), .loadN 4 (.t 5), none⟩ 0
  (.quiet ⟨(some 20), .move (.t 4), none⟩ 1
  (.loud ⟨(some 21), .call 28 [(.t 20)], none⟩ [0]
  (.loud ⟨none, .store 4 (.t 2) (.t 19), none⟩ []
  (.quiet ⟨(some 3), .move (.t 21), none⟩ 4
  .leaf) .stop) .stop)))
def b83_3 : SCode := .draw t83_3
def b83_4 : SCode := .seq b83_3 .ret
def b83_5 : SCode := .seq b83_2 b83_4
def b83_6 : SCode := .seq b83_1 b83_5
def b83_7 : SCode := .seq b83_0 b83_6
def s83 : SFunc := ⟨22, [.cN 2 4, .t 3], b83_7⟩
theorem c83 : sFn Try.prog 83 = some s83 := by kernel_rfl
theorem Z83 : XR b83_0 r83_0 ∧ XR b83_1 r83_1 ∧ XR b83_2 r83_2 ∧ XT b83_3 t83_3 ∧ XS b83_4 b83_3 .ret ∧ XS b83_5 b83_2 b83_4 ∧ XS b83_6 b83_1 b83_5 ∧ XS b83_7 b83_0 b83_6 ∧ XY s83 22 b83_7 [.cN 2 4, .t 3] := ⟨rfl, rfl, rfl, rfl, rfl, rfl, rfl, rfl, rfl⟩
abbrev r84_0 : List MOper := [⟨(some 4), .move (.c (.nilslice)), none⟩,
  ⟨(some 5), .move (.c (.int .i64 0)), none⟩]
def b84_0 : SCode := .region r84_0
abbrev r84_1 : List MOper := [⟨(some 13), .move (.t 1), none⟩,
  ⟨(some 14), .bin .eql .nilf (.t 13) (.c (.nilfunc)), none⟩]
def b84_1 : SCode := .region r84_1
abbrev r84_2 : List MOper := [⟨(some 4), .move (.c (.nilslice)), none⟩,
  ⟨(some 5), .move (.c (.int .i64 1)), none⟩]
def b84_2 : SCode := .region r84_2
def b84_3 : SCode := .seq b84_2 .ret
def b84_4 : SCode := .cond (.t 14) b84_3 .skip
def b84_5 : SCode := .seq b84_1 b84_4
abbrev r84_6 : List MOper := [⟨(some 15), .move (.t 0), none⟩,
  ⟨(some 16), .build [.nilslice, .int .i64 0] [(0, 1, (.t 15))], none⟩,
  ⟨(some 17), .box (.t 16), none⟩,
  ⟨(some 6), .move (.t 17), none⟩]
def b84_6 : SCode := .region r84_6
abbrev r84_7 : List MOper := [⟨(some 7), .move (.c (.nilslice)), none⟩]
def b84_7 : SCode := .region r84_7
abbrev r84_8 : List MOper := [⟨(some 18), .move (.t 6), none⟩,
  ⟨(some 19), .call 27 [(.t 18)], none⟩,
  ⟨(some 8), .move (.t 19), none⟩]
def b84_8 : SCode := .region r84_8
abbrev r84_9 : List MOper := [⟨(some 20), .move (.t 8), none⟩,
  ⟨(some 21), .bin .gtr .num (.t 20) (.c (.int .i64 0)), none⟩,
  ⟨(some 22), .move (.t 21), none⟩,
  ⟨(some 23), .move (.t 6), (some (22, true))⟩,
  ⟨(some 24), .nilCheck (.t 23), (some (22, true))⟩,
  ⟨(some 25), .fieldAddr 1 (.t 24), (some (22, true))⟩,
  ⟨(some 26), .load1 (.t 25), (some (22, true))⟩,
  ⟨(some 27), .bin .eql .num (.t 26) (.c (.int .i64 0)), (some (22, true))⟩,
  ⟨(some 28), .pick (.t 22) (.t 27) (.c (.bool false)), none⟩]
def b84_9 : SCode := .region r84_9
def b84_10 : SCode := .cond (.t 28) .skip (.exit 0)
def b84_11 : SCode := .seq b84_9 b84_10
abbrev r84_12 : List MOper := [⟨(some 31), .move (.t 6), none⟩,
  ⟨(some 32), .call 60 [(.t 31)], none⟩,
  ⟨(some 9), .move (.t 32), none⟩]
def b84_12 : SCode := .region r84_12
abbrev r84_13 : List MOper := [⟨(some 33), .move (.t 6), none⟩,
  ⟨(some 34), .nilCheck (.t 33), none⟩,
  ⟨(some 35), .fieldAddr 1 (.t 34), none⟩,
  ⟨(some 36), .load1 (.t 35), none⟩,
  ⟨(some 37), .bin .neq .num (.t 36) (.c (.int .i64 0)), none⟩]
def b84_13 : SCode := .region r84_13
def b84_14 : SCode := .cond (.t 37) (.exit 0) .skip
def b84_15 : SCode := .seq b84_13 b84_14
abbrev r84_16 : List MOper := [⟨(some 39), .move (.t 1), none⟩,
  ⟨(some 40), .move (.t 9), none⟩,
  ⟨(some 41), .toBytes (.t 40), none⟩,
  ⟨(some 42), .callv (.t 39) [(.t 41)], none⟩,
  ⟨(some 38), .move (.t 42), none⟩,
  ⟨(some 43), .extract (.t 38) 0, none⟩,
  ⟨(some 44), .extract (.t 38) 1, none⟩,
  ⟨(some 10), .alloc [.str [], .str []], none⟩,
  ⟨none, .store 2 (.t 10) (.t 43), none⟩,
  ⟨(some 11), .move (.t 44), none⟩]
def b84_16 : SCode := .region r84_16
abbrev r84_17 : List MOper := [⟨(some 45), .move (.t 11), none⟩,
  ⟨(some 46), .bin .neq .num (.t 45) (.c (.int .i64 0)), none⟩]
def b84_17 : SCode := .region r84_17
abbrev r84_18 : List MOper := [⟨(some 47), .move (.t 11), none⟩,
  ⟨(some 4), .move (.c (.nilslice)), none⟩,
  ⟨(some 5), .move (.t 47), none⟩]
def b84_18 : SCode := .region r84_18
def b84_19 : SCode := .seq b84_18 .ret
def b84_20 : SCode := .cond (.t 46) b84_19 .skip
def b84_21 : SCode := .seq b84_17 b84_20
abbrev r84_22 : List MOper := [⟨(some 48), .move (.t 7), none⟩,
  ⟨(some 49), .loadN 2 (.t 10), none⟩,
  ⟨(some 50), .buildSlice [.str [], .str []] 2 1 [(0, 2, (.t 49))], none⟩,
  ⟨(some 51), .append 2 32 (.t 48) (.t 50), none⟩,
  ⟨(some 7), .move (.t 51), none⟩]
def b84_22 : SCode := .region r84_22
def b84_23 : SCode := .seq b84_21 b84_22
def b84_24 : SCode := .seq b84_16 b84_23
def b84_25 : SCode := .seq b84_15 b84_24
def b84_26 : SCode := .seq b84_12 b84_25
def b84_27 : SCode := .block 1 b84_26
abbrev r84_28 : List MOper := [⟨(some 29), .move (.t 8), none⟩,
  ⟨(some 30), .bin .sub .num (.t 29) (.c (.int .i64 1)), none⟩,
  ⟨(some 8), .move (.t 30), none⟩]
def b84_28 : SCode := .region r84_28
def b84_29 : SCode := .seq b84_27 b84_28
def b84_30 : SCode := .seq b84_11 b84_29
def b84_31 : SCode := .loop b84_30
def b84_32 : SCode := .block 0 b84_31
def b84_33 : SCode := .seq b84_8 b84_32
abbrev r84_34 : List MOper := [⟨(some 52), .move (.t 6), none⟩,
  ⟨(some 53), .call 28 [(.t 52)], none⟩,
  ⟨(some 12), .move (.t 53), none⟩]
def b84_34 : SCode := .region r84_34
abbrev r84_35 : List MOper := [⟨(some 54), .move (.t 12), none⟩,
  ⟨(some 55), .bin .neq .num (.t 54) (.c (.int .i64 0)), none⟩]
def b84_35 : SCode := .region r84_35
abbrev r84_36 : List MOper := [⟨(some 56), .move (.t 12), none⟩,
  ⟨(some 4), .move (.c (.nilslice)), none⟩,
  ⟨(some 5), .move (.t 56), none⟩]
def b84_36 : SCode := .region r84_36
def b84_37 : SCode := .seq b84_36 .ret
def b84_38 : SCode := .cond (.t 55) b84_37 .skip
def b84_39 : SCode := .seq b84_35 b84_38
def b84_40 : SCode := .seq b84_34 b84_39
abbrev r84_41 : List MOper := [⟨(some 57), .move (.t 7), none⟩,
  ⟨(some 4), .move (.t 57), none⟩,
  ⟨(some 5), .move (.c (.int .i64 0)), none⟩]
def b84_41 : SCode := .region r84_41
def b84_42 : SCode := .seq b84_41 .ret
def b84_43 : SCode := .seq b84_40 b84_42
def b84_44 : SCode := .seq b84_33 b84_43
def b84_45 : SCode := .seq b84_7 b84_44
def b84_46 : SCode := .seq b84_6 b84_45
def b84_47 : SCode := .seq b84_5 b84_46
def b84_48 : SCode := .seq b84_0 b84_47
def s84 : SFunc := ⟨58, [.t 4, .t 5], b84_48⟩
theorem c84 : sFn Try.prog 84 = some s84 := by kernel_rfl
theorem x84_40 : XS b84_40 b84_34 b84_39 := rfl
theorem x84_43 : XS b84_43 b84_40 b84_42 := rfl
theorem Z84 : XR b84_0 r84_0 ∧ XR b84_1 r84_1 ∧ XR b84_2 r84_2 ∧ XS b84_3 b84_2 .ret ∧ XC b84_4 (.t 14) b84_3 .skip ∧ XS b84_5 b84_1 b84_4 ∧ XR b84_6 r84_6 ∧ XR b84_7 r84_7 ∧ XR b84_8 r84_8 ∧ XR b84_9 r84_9 ∧ XC b84_10 (.t 28) .skip (.exit 0) ∧ XS b84_11 b84_9 b84_10 ∧ XR b84_12 r84_12 ∧ XR b84_13 r84_13 ∧ XC b84_14 (.t 37) (.exit 0) .skip ∧ XS b84_15 b84_13 b84_14 ∧ XR b84_16 r84_16 ∧ XR b84_17 r84_17 ∧ XR b84_18 r84_18 ∧ XS b84_19 b84_18 .ret ∧ XC b84_20 (.t 46) b84_19 .skip ∧ XS b84_21 b84_17 b84_20 ∧ XR b84_22 r84_22 ∧ XS b84_23 b84_21 b84_22 ∧ XS b84_24 b84_16 b84_23 ∧ XS b84_25 b84_15 b84_24 ∧ XS b84_26 b84_12 b84_25 ∧ XB b84_27 1 b84_26 ∧ XR b84_28 r84_28 ∧ XS b84_29 b84_27 b84_28 ∧ XS b84_30 b84_11 b84_29 ∧ XB b84_32 0 b84_31 ∧ XS b84_33 b84_8 b84_32 ∧ XR b84_34 r84_34 ∧ XR b84_35 r84_35 ∧ XR b84_36 r84_36 ∧ XS b84_37 b84_36 .ret ∧ XC b84_38 (.t 55) b84_37 .skip ∧ XS b84_39 b84_35 b84_38 ∧ XR b84_41 r84_41 ∧ XS b84_42 b84_41 .ret ∧ XS b84_44 b84_33 b84_43 ∧ XS b84_45 b84_7 b84_44 ∧ XS b84_46 b84_6 b84_45 ∧ XS b84_47 b84_5 b84_46 ∧ XS b84_48 b84_0 b84_47 ∧ XY s84 58 b84_48 [.t 4, .t 5] := ⟨rfl, rfl, rfl, rfl, sC_cond, rfl, rfl, rfl, rfl, rfl, sC_cond, rfl, rfl, rfl, sC_cond, rfl, rfl, rfl, rfl, rfl, sC_cond, rfl, rfl, rfl, rfl, rfl, rfl, rfl, rfl, rfl, rfl, rfl, rfl, rfl, rfl, rfl, rfl, sC_cond, rfl, rfl, rfl, rfl, rfl, rfl, rfl, rfl, rfl⟩
abbrev r85_0 : List MOper := [⟨(some 2), .alloc [.str [], .str []], none⟩,
  ⟨(some 3), .move (.c (.int .i64 0)), none⟩]
def b85_0 : SCode := .region r85_0
abbrev r85_1 : List MOper := [⟨(some 6), .move (.t 0), none⟩,
  ⟨(some 7), .build [.nilslice, .int .i64 0] [(0, 1, (.t 6))], none⟩,
  ⟨(some 8), .box (.t 7), none⟩,
  ⟨(some 4), .move (.t 8), none⟩]
def b85_1 : SCode := .region r85_1
abbrev r85_2 : List MOper := [⟨(some 9), .move (.t 4), none⟩,
  ⟨(some 10), .call 60 [(.t 9)], none⟩,
  ⟨(some 11), .move (.t 4), none⟩,
  ⟨(some 12), .call 60 [(.t 11)], none⟩,
  ⟨(some 13), .build [.str [], .str []] [(0, 1, (.t 10)), (1, 1, (.t 12))], none⟩,
  ⟨(some 5), .alloc [.str [], .str []], none⟩,
  ⟨none, .store 2 (.t 5) (.t 13), none⟩]
def b85_2 : SCode := .region r85_2
abbrev t85_3 : LTree := (.quiet ⟨(some 14), .loadN 2 (.t 5), none⟩ 0
  (.quiet ⟨(some 15), .move (.t 4), none⟩ 1
  (.loud ⟨(some 16), .call 28 [(.t 15)], none⟩ [0]
  (.loud ⟨none, .store 2 (.t 2) (.t 14), none⟩ []
  (.quiet ⟨(some 3), .move (.t 16), none⟩ 4
  .leaf) .stop) .stop)))
def b85_3 : SCode := .draw t85_3
def b85_4 : SCode := .seq b85_3 .ret
def b85_5 : SCode := .seq b85_2 b85_4
def b85_6 : SCode := .seq b85_1 b85_5
def b85_7 : SCode := .seq b85_0 b85_6
def s85 : SFunc := ⟨17, [.cN 2 2, .t 3], b85_7⟩
theorem c85 : sFn Try.prog 85 = some s85 := by kernel_rfl
theorem Z85 : XR b85_0 r85_0 ∧ XR b85_1 r85_1 ∧ XR b85_2 r85_2 ∧ XT b85_3 t85_3 ∧ XS b85_4 b85_3 .ret ∧ XS b85_5 b85_2 b85_4 ∧ XS b85_6 b85_1 b85_5 ∧ XS b85_7 b85_0 b85_6 ∧ XY s85 17 b85_7 [.cN 2 2, .t 3] := ⟨rfl, rfl, rfl, rfl, rfl, rfl, rfl, rfl, rfl⟩
abbrev r86_0 : List MOper := [⟨(some 4), .move (.c (.nilslice)), none⟩,
  ⟨(some 5), .move (.c (.int .i64 0)), none⟩]
def b86_0 : SCode := .region r86_0
abbrev r86_1 : List MOper := [⟨(some 13), .move (.t 1), none⟩,
  ⟨(some 14), .bin .eql .nilf (.t 13) (.c (.nilfunc)), none⟩]
def b86_1 : SCode := .region r86_1
abbrev r86_2 : List MOper := [⟨(some 4), .move (.c (.nilslice)), none⟩,
  ⟨(some 5), .move (.c (.int .i64 1)), none⟩]
def b86_2 : SCode := .region r86_2
def b86_3 : SCode := .seq b86_2 .ret
def b86_4 : SCode := .cond (.t 14) b86_3 .skip
def b86_5 : SCode := .seq b86_1 b86_4
abbrev r86_6 : List MOper := [⟨(some 15), .move (.t 0), none⟩,
  ⟨(some 16), .build [.nilslice, .int .i64 0] [(0, 1, (.t 15))], none⟩,
  ⟨(some 17), .box (.t 16), none⟩,
  ⟨(some 6), .move (.t 17), none⟩]
def b86_6 : SCode := .region r86_6
abbrev r86_7 : List MOper := [⟨(some 7), .move (.c (.nilslice)), none⟩]
def b86_7 : SCode := .region r86_7
abbrev r86_8 : List MOper := [⟨(some 18), .move (.t 6), none⟩,
  ⟨(some 19), .call 27 [(.t 18)], none⟩,
  ⟨(some 8), .move (.t 19), none⟩]
def b86_8 : SCode := .region r86_8
abbrev r86_9 : List MOper := [⟨(some 20), .move (.t 8), none⟩,
  ⟨(some 21), .bin .gtr .num (.t 20) (.c (.int .i64 0)), none⟩,
  ⟨(some 22), .move (.t 21), none⟩,
  ⟨(some 23), .move (.t 6), (some (22, true))⟩,
  ⟨(some 24), .nilCheck (.t 23), (some (22, true))⟩,
  ⟨(some 25), .fieldAddr 1 (.t 24), (some (22, true))⟩,
  ⟨(some 26), .load1 (.t 25), (some (22, true))⟩,
  ⟨(some 27), .bin .eql .num (.t 26) (.c (.int .i64 0)), (some (22, true))⟩,
  ⟨(some 28), .pick (.t 22) (.t 27) (.c (.bool false)), none⟩]
def b86_9 : SCode := .region r86_9
def b86_10 : SCode := .cond (.t 28) .skip (.exit 0)
def b86_11 : SCode := .seq b86_9 b86_10
abbrev r86_12 : List MOper := [⟨(some 31), .move (.t 6), none⟩,
  ⟨(some 32), .call 60 [(.t 31)], none⟩,
  ⟨(some 9), .move (.t 32), none⟩]
def b86_12 : SCode := .region r86_12
abbrev r86_13 : List MOper := [⟨(some 33), .move (.t 6), none⟩,
  ⟨(some 34), .nilCheck (.t 33), none⟩,
  ⟨(some 35), .fieldAddr 1 (.t 34), none⟩,
  ⟨(some 36), .load1 (.t 35), none⟩,
  ⟨(some 37), .bin .neq .num (.t 36) (.c (.int .i64 0)), none⟩]
def b86_13 : SCode := .region r86_13
def b86_14 : SCode := .cond (.t 37) (.exit 0) .skip
def b86_15 : SCode := .seq b86_13 b86_14
abbrev r86_16 : List MOper := [⟨(some 39), .move (.t 1), none⟩,
  ⟨(some 40), .move (.t 9), none⟩,
  ⟨(some 41), .toBytes (.t 40), none⟩,
  ⟨(some 42), .callv (.t 39) [(.t 41)], none⟩,
  ⟨(some 38), .move (.t 42), none⟩,
  ⟨(some 43), .extract (.t 38) 0, none⟩,
  ⟨(some 44), .extract (.t 38) 1, none⟩,
  ⟨(some 10), .alloc [.int .i64 0, .int .i64 0, .int .i64 0, .int .i64 0, .bool false, .str [], .nilslice, .str [], .bool false], none⟩,
  ⟨none, .store 9 (.t 10) (.t 43), none⟩,
  ⟨(some 11), .move (.t 44), none⟩]
def b86_16 : SCode := .region r86_16
abbrev r86_17 : List MOper := [⟨(some 45), .move (.t 11), none⟩,
  ⟨(some 46), .bin .neq .num (.t 45) (.c (.int .i64 0)), none⟩]
def b86_17 : SCode := .region r86_17
abbrev r86_18 : List MOper := [⟨(some 47), .move (.t 11), none⟩,
  ⟨(some 4), .move (.c (.nilslice)), none⟩,
  ⟨(some 5), .move (.t 47), none⟩]
def b86_18 : SCode := .region r86_18
def b86_19 : SCode := .seq b86_18 .ret
def b86_20 : SCode := .cond (.t 46) b86_19 .skip
def b86_21 : SCode := .seq b86_17 b86_20
abbrev r86_22 : List MOper := [⟨(some 48), .move (.t 7), none⟩,
  ⟨(some 49), .loadN 9 (.t 10), none⟩,
  ⟨(some 50), .buildSlice [.int .i64 0, .int .i64 0, .int .i64 0, .int .i64 0, .bool false, .str [], .nilslice, .str [], .bool false] 9 1 [(0, 9, (.t 49))], none⟩,
  ⟨(some 51), .append 9 104 (.t 48) (.t 50), none⟩,
  ⟨(some 7), .move (.t 51), none⟩]
def b86_22 : SCode := .region r86_22
def b86_23 : SCode := .seq b86_21 b86_22
def b86_24 : SCode := .seq b86_16 b86_23
def b86_25 : SCode := .seq b86_15 b86_24
def b86_26 : SCode := .seq b86_12 b86_25
def b86_27 : SCode := .block 1 b86_26
abbrev r86_28 : List MOper := [⟨(some 29), .move (.t 8), none⟩,
  ⟨(some 30), .bin .sub .num (.t 29) (.c (.int .i64 1)), none⟩,
  ⟨(some 8), .move (.t 30), none⟩]
def b86_28 : SCode := .region r86_28
def b86_29 : SCode := .seq b86_27 b86_28
def b86_30 : SCode := .seq b86_11 b86_29
def b86_31 : SCode := .loop b86_30
def b86_32 : SCode := .block 0 b86_31
def b86_33 : SCode := .seq b86_8 b86_32
abbrev r86_34 : List MOper := [⟨(some 52), .move (.t 6), none⟩,
  ⟨(some 53), .call 28 [(.t 52)], none⟩,
  ⟨(some 12), .move (.t 53), none⟩]
def b86_34 : SCode := .region r86_34
abbrev r86_35 : List MOper := [⟨(some 54), .move (.t 12), none⟩,
  ⟨(some 55), .bin .neq .num (.t 54) (.c (.int .i64 0)), none⟩]
def b86_35 : SCode := .region r86_35
abbrev r86_36 : List MOper := [⟨(some 56), .move (.t 12), none⟩,
  ⟨(some 4), .move (.c (.nilslice)), none⟩,
  ⟨(some 5), .move (.t 56), none⟩]
def b86_36 : SCode := .region r86_36
def b86_37 : SCode := .seq b86_36 .ret
def b86_38 : SCode := .cond (.t 55) b86_37 .skip
def b86_39 : SCode := .seq b86_35 b86_38
def b86_40 : SCode := .seq b86_34 b86_39
abbrev r86_41 : List MOper := [⟨(some 57), .move (.t 7), none⟩,
  ⟨(some 4), .move (.t 57), none⟩,
  ⟨(some 5), .move (.c (.int .i64 0)), none⟩]
def b86_41 : SCode := .region r86_41
def b86_42 : SCode := .seq b86_41 .ret
def b86_43 : SCode := .seq b86_40 b86_42
def b86_44 : SCode := .seq b86_33 b86_43
def b86_45 : SCode := .seq b86_7 b86_44
def b86_46 : SCode := .seq b86_6 b86_45
def b86_47 : SCode := .seq b86_5 b86_46
def b86_48 : SCode := .seq b86_0 b86_47
def s86 : SFunc := ⟨58, [.t 4, .t 5], b86_48⟩
theorem c86 : sFn Try.prog 86 = some s86 := by kernel_rfl
theorem x86_40 : XS b86_40 b86_34 b86_39 := rfl
theorem x86_43 : XS b86_43 b86_40 b86_42 := rfl
theorem Z86 : XR b86_0 r86_0 ∧ XR b86_1 r86_1 ∧ XR b86_2 r86_2 ∧ XS b86_3 b86_2 .ret ∧ XC b86_4 (.t 14) b86_3 .skip ∧ XS b86_5 b86_1 b86_4 ∧ XR b86_6 r86_6 ∧ XR b86_7 r86_7 ∧ XR b86_8 r86_8 ∧ XR b86_9 r86_9 ∧ XC b86_10 (.t 28) .skip (.exit 0) ∧ XS b86_11 b86_9 b86_10 ∧ XR b86_12 r86_12 ∧ XR b86_13 r86_13 ∧ XC b86_14 (.t 37) (.exit 0) .skip ∧ XS b86_15 b86_13 b86_14 ∧ XR b86_16 r86_16 ∧ XR b86_17 r86_17 ∧ XR b86_18 r86_18 ∧ XS b86_19 b86_18 .ret ∧ XC b86_20 (.t 46) b86_19 .skip ∧ XS b86_21 b86_17 b86_20 ∧ XR b86_22 r86_22 ∧ XS b86_23 b86_21 b86_22 ∧ XS b86_24 b86_16 b86_23 ∧ XS b86_25 b86_15 b86_24 ∧ XS b86_26 b86_12 b86_25 ∧ XB b86_27 1 b86_26 ∧ XR b86_28 r86_28 ∧ XS b86_29 b86_27 b86_28 ∧ XS b86_30 b86_11 b86_29 ∧ XB b86_32 0 b86_31 ∧ XS b86_33 b86_8 b86_32 ∧ XR b86_34 r86_34 ∧ XR b86_35 r86_35 ∧ XR b86_36 r86_36 ∧ XS b86_37 b86_36 .ret ∧ XC b86_38 (.t 55) b86_37 .skip ∧ XS b86_39 b86_35 b86_38 ∧ XR b86_41 r86_41 ∧ XS b86_42 b86_41 .ret ∧ XS b86_44 b86_33 b86_43 ∧ XS b86_45 b86_7 b86_44 ∧ XS b86_46 b86_6 b86_45 ∧ XS b86_47 b86_5 b86_46 ∧ XS b86_48 b86_0 b86_47 ∧ XY s86 58 b86_48 [.t 4, .t 5] := ⟨rfl, rfl, rfl, rfl, sC_cond, rfl, rfl, rfl, rfl, rfl, sC_cond, rfl, rfl, rfl, sC_cond, rfl, rfl, rfl, rfl, rfl, sC_cond, rfl, rfl, rfl, rfl, rfl, rfl, rfl, rfl, rfl, rfl, rfl, rfl, rfl, rfl, rfl, rfl, sC_cond, rfl, rfl, rfl, rfl, rfl, rfl, rfl, rfl, rfl⟩
abbrev r87_0 : List MOper := [⟨(some 2), .alloc [.int .i64 0, .int .i64 0, .int .i64 0, .int .i64 0, .bool false, .str [], .nilslice, .str [], .bool false], none⟩,
  ⟨(some 3), .move (.c (.int .i64 0)), none⟩]
def b87_0 : SCode := .region r87_0
abbrev r87_1 : List MOper := [⟨(some 9), .move (.t 0), none⟩,
  ⟨(some 10), .build [.nilslice, .int .i64 0] [(0, 1, (.t 9))], none⟩,
  ⟨(some 11), .box (.t 10), none⟩,
  ⟨(some 4), .move (.t 11), none⟩]
def b87_1 : SCode := .region r87_1
abbrev r87_2 : List MOper := [⟨(some 12), .move (.t 4), none⟩,
  ⟨(some 13), .call 27 [(.t 12)], none⟩,
  ⟨(some 14), .build [.int .i64 0, .int .i64 0, .int .i64 0, .int .i64 0, .bool false, .str [], .nilslice, .str [], .bool false] [(0, 1, (.t 13))], none⟩,
  ⟨(some 5), .alloc [.int .i64 0, .int .i64 0, .int .i64 0, .int .i64 0, .bool false, .str [], .nilslice, .str [], .bool false], none⟩,
  ⟨none, .store 9 (.t 5) (.t 14), none⟩]
def b87_2 : SCode := .region r87_2
abbrev r87_3 : List MOper := [⟨(some 15), .move (.t 4), none⟩,
  ⟨(some 16), .call 60 [(.t 15)], none⟩,
  ⟨(some 6), .move (.t 16), none⟩]
def b87_3 : SCode := .region r87_3
abbrev r87_4 : List MOper := [⟨(some 17), .move (.t 4), none⟩,
  ⟨(some 18), .call 28 [(.t 17)], none⟩,
  ⟨(some 7), .move (.t 18), none⟩]
def b87_4 : SCode := .region r87_4
abbrev r87_5 : List MOper := [⟨(some 19), .move (.t 7), none⟩,
  ⟨(some 20), .bin .neq .num (.t 19) (.c (.int .i64 0)), none⟩]
def b87_5 : SCode := .region r87_5
abbrev r87_6 : List MOper := [⟨(some 21), .build [.int .i64 0, .int .i64 0, .int .i64 0, .int .i64 0, .bool false, .str [], .nilslice, .str [], .bool false] [], none⟩,
  ⟨(some 22), .move (.t 7), none⟩,
  ⟨none, .store 9 (.t 2) (.t 21), none⟩,
  ⟨(some 3), .move (.t 22), none⟩]
def b87_6 : SCode := .region r87_6
def b87_7 : SCode := .seq b87_6 .ret
def b87_8 : SCode := .cond (.t 20) b87_7 .skip
def b87_9 : SCode := .seq b87_5 b87_8
def b87_10 : SCode := .seq b87_4 b87_9
abbrev r87_11 : List MOper := [⟨(some 8), .move (.c (.int .i64 0)), none⟩]
def b87_11 : SCode := .region r87_11
abbrev r87_12 : List MOper := [⟨(some 24), .move (.t 6), none⟩,
  ⟨(some 25), .toBytes (.t 24), none⟩,
  ⟨(some 26), .call 61 [(.t 25)], none⟩,
  ⟨(some 23), .move (.t 26), none⟩,
  ⟨(some 27), .extract (.t 23) 0, none⟩,
  ⟨(some 28), .extract (.t 23) 1, none⟩,
  ⟨(some 29), .fieldAddr 1 (.t 5), none⟩,
  ⟨none, .store 8 (.t 29) (.t 27), none⟩,
  ⟨(some 8), .move (.t 28), none⟩]
def b87_12 : SCode := .region r87_12
abbrev r87_13 : List MOper := [⟨(some 30), .loadN 9 (.t 5), none⟩,
  ⟨(some 31), .move (.t 8), none⟩,
  ⟨none, .store 9 (.t 2) (.t 30), none⟩,
  ⟨(some 3), .move (.t 31), none⟩]
def b87_13 : SCode := .region r87_13
def b87_14 : SCode := .seq b87_13 .ret
def b87_15 : SCode := .seq b87_12 b87_14
def b87_16 : SCode := .seq b87_11 b87_15
def b87_17 : SCode := .seq b87_10 b87_16
def b87_18 : SCode := .seq b87_3 b87_17
def b87_19 : SCode := .seq b87_2 b87_18
def b87_20 : SCode := .seq b87_1 b87_19
def b87_21 : SCode := .seq b87_0 b87_20
def s87 : SFunc := ⟨32, [.cN 2 9, .t 3], b87_21⟩
theorem c87 : sFn Try.prog 87 = some s87 := by kernel_rfl
theorem Z87 : XR b87_0 r87_0 ∧ XR b87_1 r87_1 ∧ XR b87_2 r87_2 ∧ XR b87_3 r87_3 ∧ XR b87_4 r87_4 ∧ XR b87_5 r87_5 ∧ XR b87_6 r87_6 ∧ XS b87_7 b87_6 .ret ∧ XC b87_8 (.t 20) b87_7 .skip ∧ XS b87_9 b87_5 b87_8 ∧ XS b87_10 b87_4 b87_9 ∧ XR b87_11 r87_11 ∧ XR b87_12 r87_12 ∧ XR b87_13 r87_13 ∧ XS b87_14 b87_13 .ret ∧ XS b87_15 b87_12 b87_14 ∧ XS b87_16 b87_11 b87_15 ∧ XS b87_17 b87_10 b87_16 ∧ XS b87_18 b87_3 b87_17 ∧ XS b87_19 b87_2 b87_18 ∧ XS b87_20 b87_1 b87_19 ∧ XS b87_21 b87_0 b87_20 ∧ XY s87 32 b87_21 [.cN 2 9, .t 3] := ⟨rfl, rfl, rfl, rfl, rfl, rfl, rfl, rfl, sC_cond, rfl, rfl, rfl, rfl, rfl, rfl, rfl, rfl, rfl, rfl, rfl, rfl, rfl, rfl⟩

end
set_option maxHeartbeats 4000000
set_option maxRecDepth 10000
theorem given_bytes {σ : AHeap} {d : Nat} {bs : List UInt8} (h : hget σ d = some (bs.map byteAV)) : Given σ d (.slice d 0 bs.length none 1) (.imm (rws bs) false false) := by
  refine .inr (.inr ⟨0, bs.length, none, 1, _, rws bs, rfl, rfl, h, ?_, by simp [rws], ?_, rws_pure bs⟩)
  · unfold rws
    rw [rows_flat, Nat.mul_one]
    exact sub_all (by simp)
  · intro r hr
    obtain ⟨b, _, rfl⟩ := List.mem_map.1 hr
    rfl
theorem give_bytes {f : FuncId} {bs : List UInt8} {σ : AHeap} {d : Nat} {Q : AV → Prop} (hd : hget σ d = some (bs.map byteAV)) (h : Tri Try.prog f [.imm (rws bs) false false] [] fun r _ => r.pure = true ∧ Q r) :
    Tri Try.prog f [.slice d 0 bs.length none 1] σ fun r σ' => Q r ∧ σ' = hkill σ d := Tri.give (args := [.slice d 0 bs.length none 1]) (args1 := [.imm (rws bs) false false]) d rfl (given1 (given_bytes hd)) h
theorem give_bytes2 {f : FuncId} {bs : List UInt8} {σ : AHeap} {d : Nat} {y : AV} {Q : AV → Prop} (hd : hget σ d = some (bs.map byteAV)) (hy : y.pure = true) (h : Tri Try.prog f [.imm (rws bs) false false, y] [] fun r _ => r.pure = true ∧ Q r) :
    Tri Try.prog f [.slice d 0 bs.length none 1, y] σ fun r σ' => Q r ∧ σ' = hkill σ d := Tri.give (args := [.slice d 0 bs.length none 1, y]) (args1 := [.imm (rws bs) false false, y]) d rfl (given2 (given_bytes hd) (.inl ⟨rfl, hy⟩)) h
theorem Fr1.kill {σ : AHeap} {c : List AV} {id : Nat} : Fr1 σ (hkill (hpush σ c) σ.length) id := fun j d hj _ => by
  have := hget_lt hj
  rw [kill_other (by omega)]; exact push_old hj
theorem Fr1.get {σ σ' : AHeap} {id : Nat} {rem : List UInt8} {e : Int} (h : ∀ j c, hget σ j = some c → hget σ' j = some c) (hr : RdS σ id rem e) : RdS σ' id rem e := by
  obtain ⟨f, nn, hg⟩ := hr
  exact ⟨f, nn, h _ _ hg⟩
/-! One item. -/
def ShV.zero : ShV := ⟨[], [], 0, 0⟩
def LaV.zero : LaV := ⟨0, RepV.zero⟩
def ansRec (p : (List UInt8 × List UInt8) × Int) : AV := .tuple [.agg (recC p.1), .int .i64 p.2]
def ansSh (p : ShV × Int) : AV := .tuple [.agg p.1.cells, .int .i64 p.2]
def ansLa (p : LaV × Int) : AV := .tuple [.agg p.1.cells, .int .i64 p.2]
theorem ansRec_pure (p : (List UInt8 × List UInt8) × Int) : (ansRec p).pure = true := rfl
theorem ansSh_pure (p : ShV × Int) : (ansSh p).pure = true := rfl
theorem la_pure (l : LaV) : (AV.agg l.cells).pure = true := by have := rep_pure l.rep; simp only [AV.pure] at this; simp only [AV.pure, LaV.cells, pureL, this, Bool.and_self]
theorem ansLa_pure (p : LaV × Int) : (ansLa p).pure = true := by have := la_pure p.1; simp only [AV.pure] at this; simp only [ansLa, AV.pure, pureL, this, Bool.and_self]
def unrecG (s0 s1 s2 : St) : (List UInt8 × List UInt8) × Int := ((vT s0, vT s1), rdEnd s2.1 s2.2)
def unrec (bs : List UInt8) : (List UInt8 × List UInt8) × Int := unrecG (bs, 0) (stT (bs, 0)) (stT (stT (bs, 0)))
theorem unrecord_ok (bs : List UInt8) : Tri Try.prog 85 [.imm (rws bs) false false] [] fun r _ => r.pure = true ∧ r = ansRec (unrec bs) := by
  refine Tri.frozen (Q := fun r _ => r = ansRec (unrec bs)) (Tri.of_s c85 F3_sound ?_) (fun r σ hr => ⟨r, .pure (by rw [hr]; exact ansRec_pure _), by rw [hr]; exact ansRec_pure _, hr⟩)
  generalize hK : (fun (r : AV) (_ : AHeap) => r = ansRec (unrec bs)) = K
  have hK : ∀ σ, K (ansRec (unrec bs)) σ := by intro σ; rw [← hK]
  simp only [F3_app, Z85, base1, baseE, ↓reduceIte, Nat.reduceAdd, Nat.reduceSub, Nat.reduceMul, Nat.reduceEqDiff, Nat.reduceLeDiff, Nat.reduceLT, Int.reduceLT, Int.reduceLE, Int.reduceEq, Int.reduceNe, Int.reduceToNat, Int.reduceAdd, Int.reduceSub, reduceCtorEq, Nat.reduceBEq, Nat.reduceBNe]
  refine ⟨1, bs, 0, rfl, ⟨false, false, rfl⟩, fun σ1 r1 f1 => ?_⟩
  have b1 := f1 0 _ rfl (by decide)
  have r1 : RdS σ1 1 (stT (bs, 0)).1 (stT (bs, 0)).2 := r1
  unfold unrec at hK
  have v0 : (rdText bs 0).1 = vT (bs, 0) := rfl
  rw [v0]
  generalize stT (bs, 0) = s1 at r1 hK ⊢
  generalize ((bs, 0) : St) = s0 at hK ⊢
  simp only [F3_app, Z85, base1, baseE, ↓reduceIte, Nat.reduceAdd, Nat.reduceSub, Nat.reduceMul, Nat.reduceEqDiff, Nat.reduceLeDiff, Nat.reduceLT, Int.reduceLT, Int.reduceLE, Int.reduceEq, Int.reduceNe, Int.reduceToNat, Int.reduceAdd, Int.reduceSub, reduceCtorEq, Nat.reduceBEq, Nat.reduceBNe]
  refine ⟨1, _, _, rfl, r1, fun σ2 r2 f2 => ?_⟩
  have b2 := f2 0 _ b1 (by decide)
  have r2 : RdS σ2 1 (stT s1).1 (stT s1).2 := r2
  generalize stT s1 = s2 at r2 hK ⊢
  have v1 : (rdText s1.1 s1.2).1 = vT s1 := rfl
  rw [v1]
  have l2 : 1 < σ2.length := by obtain ⟨f, nn, hg⟩ := r2; exact hget_lt hg
  have pn : ∀ c : List AV, hget (hpush σ2 c) σ2.length = some c := fun c => push_new rfl
  have sn : ∀ c c' : List AV, hget (hset (hpush σ2 c) σ2.length c') σ2.length = some c' := fun c c' => set_same (pn c)
  simp only [F3_app, Z85, base1, baseE, ↓reduceIte, Nat.reduceAdd, Nat.reduceSub, Nat.reduceMul, Nat.reduceEqDiff, Nat.reduceLeDiff, Nat.reduceLT, Int.reduceLT, Int.reduceLE, Int.reduceEq, Int.reduceNe, Int.reduceToNat, Int.reduceAdd, Int.reduceSub, reduceCtorEq, Nat.reduceBEq, Nat.reduceBNe, pn, sn]
  refine ⟨1, s2.1, s2.2, rfl, rd_alloc r2, fun σ3 f3 => ?_⟩
  have b3 := f3 0 _ (al_frame b2) (by decide)
  have c3 := f3 σ2.length _ (sn _ _) (by omega)
  have s0' : ∀ (d : List AV), hget (hset σ3 0 d) 0 = some d := fun d => set_same b3
  unfold unrecG at hK
  simp only [F3_app, Z85, base1, baseE, ↓reduceIte, Nat.reduceAdd, Nat.reduceSub, Nat.reduceMul, Nat.reduceEqDiff, Nat.reduceLeDiff, Nat.reduceLT, Int.reduceLT, Int.reduceLE, Int.reduceEq, Int.reduceNe, Int.reduceToNat, Int.reduceAdd, Int.reduceSub, reduceCtorEq, Nat.reduceBEq, Nat.reduceBNe, b3, c3, s0']
  exact hK _
def unshG (s0 s1 s2 s3 s4 : St) : ShV × Int := (⟨vT s0, vT s1, vN s2, vN s3⟩, rdEnd s4.1 s4.2)
def unsh (bs : List UInt8) : ShV × Int := unshG (bs, 0) (stT (bs, 0)) (stT (stT (bs, 0))) (stN (stT (stT (bs, 0)))) (stN (stN (stT (stT (bs, 0)))))
theorem unshard_ok (bs : List UInt8) : Tri Try.prog 83 [.imm (rws bs) false false] [] fun r _ => r.pure = true ∧ r = ansSh (unsh bs) := by
  refine Tri.frozen (Q := fun r _ => r = ansSh (unsh bs)) (Tri.of_s c83 F3_sound ?_) (fun r σ hr => ⟨r, .pure (by rw [hr]; exact ansSh_pure _), by rw [hr]; exact ansSh_pure _, hr⟩)
  generalize hK : (fun (r : AV) (_ : AHeap) => r = ansSh (unsh bs)) = K
  have hK : ∀ σ, K (ansSh (unsh bs)) σ := by intro σ; rw [← hK]
  simp only [F3_app, Z83, base1, baseE, ↓reduceIte, Nat.reduceAdd, Nat.reduceSub, Nat.reduceMul, Nat.reduceEqDiff, Nat.reduceLeDiff, Nat.reduceLT, Int.reduceLT, Int.reduceLE, Int.reduceEq, Int.reduceNe, Int.reduceToNat, Int.reduceAdd, Int.reduceSub, reduceCtorEq, Nat.reduceBEq, Nat.reduceBNe]
  refine ⟨1, bs, 0, rfl, ⟨false, false, rfl⟩, fun σ1 r1 f1 => ?_⟩
  have b1 := f1 0 _ rfl (by decide)
  have r1 : RdS σ1 1 (stT (bs, 0)).1 (stT (bs, 0)).2 := r1
  unfold unsh at hK
  have v0 : (rdText bs 0).1 = vT (bs, 0) := rfl
  rw [v0]
  generalize stT (bs, 0) = s1 at r1 hK ⊢
  generalize ((bs, 0) : St) = s0 at hK ⊢
  simp only [F3_app, Z83, base1, baseE, ↓reduceIte, Nat.reduceAdd, Nat.reduceSub, Nat.reduceMul, Nat.reduceEqDiff, Nat.reduceLeDiff, Nat.reduceLT, Int.reduceLT, Int.reduceLE, Int.reduceEq, Int.reduceNe, Int.reduceToNat, Int.reduceAdd, Int.reduceSub, reduceCtorEq, Nat.reduceBEq, Nat.reduceBNe]
  refine ⟨1, _, _, rfl, r1, fun σ2 r2 f2 => ?_⟩
  have b2 := f2 0 _ b1 (by decide)
  have r2 : RdS σ2 1 (stT s1).1 (stT s1).2 := r2
  generalize stT s1 = s2 at r2 hK ⊢
  have v1 : (rdText s1.1 s1.2).1 = vT s1 := rfl
  rw [v1]
  simp only [F3_app, Z83, base1, baseE, ↓reduceIte, Nat.reduceAdd, Nat.reduceSub, Nat.reduceMul, Nat.reduceEqDiff, Nat.reduceLeDiff, Nat.reduceLT, Int.reduceLT, Int.reduceLE, Int.reduceEq, Int.reduceNe, Int.reduceToNat, Int.reduceAdd, Int.reduceSub, reduceCtorEq, Nat.reduceBEq, Nat.reduceBNe]
  refine ⟨1, _, _, rfl, r2, fun σ3 r3 f3 => ?_⟩
  have b3 := f3 0 _ b2 (by decide)
  have r3 : RdS σ3 1 (stN s2).1 (stN s2).2 := r3
  generalize stN s2 = s3 at r3 hK ⊢
  have v2 : (rdNum s2.1 s2.2).1 = vN s2 := rfl
  rw [v2]
  simp only [F3_app, Z83, base1, baseE, ↓reduceIte, Nat.reduceAdd, Nat.reduceSub, Nat.reduceMul, Nat.reduceEqDiff, Nat.reduceLeDiff, Nat.reduceLT, Int.reduceLT, Int.reduceLE, Int.reduceEq, Int.reduceNe, Int.reduceToNat, Int.reduceAdd, Int.reduceSub, reduceCtorEq, Nat.reduceBEq, Nat.reduceBNe]
  refine ⟨1, _, _, rfl, r3, fun σ4 r4 f4 => ?_⟩
  have b4 := f4 0 _ b3 (by decide)
  have r4 : RdS σ4 1 (stN s3).1 (stN s3).2 := r4
  generalize stN s3 = s4 at r4 hK ⊢
  have v3 : (rdNum s3.1 s3.2).1 = vN s3 := rfl
  rw [v3]
  have l4 : 1 < σ4.length := by obtain ⟨f, nn, hg⟩ := r4; exact hget_lt hg
  have pn : ∀ c : List AV, hget (hpush σ4 c) σ4.length = some c := fun c => push_new rfl
  have sn : ∀ c c' : List AV, hget (hset (hpush σ4 c) σ4.length c') σ4.length = some c' := fun c c' => set_same (pn c)
  simp only [F3_app, Z83, base1, baseE, ↓reduceIte, Nat.reduceAdd, Nat.reduceSub, Nat.reduceMul, Nat.reduceEqDiff, Nat.reduceLeDiff, Nat.reduceLT, Int.reduceLT, Int.reduceLE, Int.reduceEq, Int.reduceNe, Int.reduceToNat, Int.reduceAdd, Int.reduceSub, reduceCtorEq, Nat.reduceBEq, Nat.reduceBNe, pn, sn]
  refine ⟨1, s4.1, s4.2, rfl, rd_alloc r4, fun σ5 f5 => ?_⟩
  have b5 := f5 0 _ (al_frame b4) (by decide)
  have c5 := f5 σ4.length _ (sn _ _) (by omega)
  have s0' : ∀ (d : List AV), hget (hset σ5 0 d) 0 = some d := fun d => set_same b5
  unfold unshG at hK
  simp only [F3_app, Z83, base1, baseE, ↓reduceIte, Nat.reduceAdd, Nat.reduceSub, Nat.reduceMul, Nat.reduceEqDiff, Nat.reduceLeDiff, Nat.reduceLT, Int.reduceLT, Int.reduceLE, Int.reduceEq, Int.reduceNe, Int.reduceToNat, Int.reduceAdd, Int.reduceSub, reduceCtorEq, Nat.reduceBEq, Nat.reduceBNe, b5, c5, s0']
  exact hK _
def replyRD (args : List AV) (σ : AHeap) (K : AV → AHeap → Prop) : Prop := ∃ (d : Nat) (bs : List UInt8), args = [.slice d 0 bs.length none 1] ∧ hget σ d = some (bs.map byteAV) ∧ K (ansR (readReply bs)) (hkill σ d)
theorem replyRD_ok (args : List AV) (σ : AHeap) (K : AV → AHeap → Prop) (h : replyRD args σ K) : Tri Try.prog 61 args σ K := by
  obtain ⟨d, bs, rfl, hd, h⟩ := h
  exact (give_bytes hd (readReply_ok bs)).mono fun r σ' hr => by rw [hr.1, hr.2]; exact h
def F4 : PCall := rowQ 61 replyRD (rowQ 27 numRD (rowQ 60 textRD (rowQ 28 endRD noCall)))
theorem F4_app {f : FuncId} {args : List AV} {σ : AHeap} {K : AV → AHeap → Prop} : F4 f args σ K = rowQ 61 replyRD (rowQ 27 numRD (rowQ 60 textRD (rowQ 28 endRD noCall))) f args σ K := _root_.id rfl
theorem F4_sound : Sound Try.prog F4 := rowQ_sound replyRD_ok (rowQ_sound numRD_ok (rowQ_sound textRD_ok (rowQ_sound endRD_ok (noCall_sound _))))
theorem frz_zeroLa (σ : AHeap) (E : Int) : Frz σ (.tuple [.agg [.int .i64 0, .int .i64 0, .int .i64 0, .int .i64 0, .bool false, .str [], .nilslice, .str [], .bool false], .int .i64 E]) (ansLa (LaV.zero, E)) := by
  refine .tuple rfl (fun i x y hx hy => ?_)
  match i with
  | 0 =>
    simp at hx hy
    subst hx; subst hy
    refine .agg rfl (fun i x y hx hy => ?_)
    match i with
    | 0 | 1 | 2 | 3 | 4 | 5 | 7 | 8 => simp [LaV.zero, LaV.cells, RepV.zero, RepV.cells] at hx hy; subst hx; subst hy; exact .pure rfl
    | 6 => simp [LaV.zero, LaV.cells, RepV.zero, RepV.cells, recs] at hx hy; subst hx; subst hy; exact .nil
    | n + 9 => simp at hx
  | 1 => simp at hx hy; subst hx; subst hy; exact .pure rfl
  | n + 2 => simp at hx
def unlaG (s0 s1 s2 : St) : LaV × Int := if rdEnd s2.1 s2.2 = 0 then (⟨vN s0, (readReply (vT s1)).1⟩, (readReply (vT s1)).2) else (LaV.zero, rdEnd s2.1 s2.2)
def unla (bs : List UInt8) : LaV × Int := unlaG (bs, 0) (stN (bs, 0)) (stT (stN (bs, 0)))
theorem unlast_ok (bs : List UInt8) : Tri Try.prog 87 [.imm (rws bs) false false] [] fun r _ => r.pure = true ∧ r = ansLa (unla bs) := by
  refine Tri.frozen (Q := fun r σ => Frz σ r (ansLa (unla bs))) (Tri.of_s c87 F4_sound ?_) (fun r σ hr => ⟨_, hr, ansLa_pure _, rfl⟩)
  generalize hK : (fun (r : AV) (σ : AHeap) => Frz σ r (ansLa (unla bs))) = K
  have hK : ∀ r σ, Frz σ r (ansLa (unla bs)) → K r σ := by intro r σ hr; rw [← hK]; exact hr
  simp only [F4_app, Z87, base1, baseE, ↓reduceIte, Nat.reduceAdd, Nat.reduceSub, Nat.reduceMul, Nat.reduceEqDiff, Nat.reduceLeDiff, Nat.reduceLT, Int.reduceLT, Int.reduceLE, Int.reduceEq, Int.reduceNe, Int.reduceToNat, Int.reduceAdd, Int.reduceSub, reduceCtorEq, Nat.reduceBEq, Nat.reduceBNe]
  refine ⟨1, bs, 0, rfl, ⟨false, false, rfl⟩, fun σ1 r1 f1 => ?_⟩
  have b1 := f1 0 _ rfl (by decide)
  have r1 : RdS σ1 1 (stN (bs, 0)).1 (stN (bs, 0)).2 := r1
  unfold unla at hK
  have v0 : (rdNum bs 0).1 = vN (bs, 0) := rfl
  rw [v0]
  generalize stN (bs, 0) = s1 at r1 hK ⊢
  generalize ((bs, 0) : St) = s0 at hK ⊢
  have l1 : 1 < σ1.length := by obtain ⟨f, nn, hg⟩ := r1; exact hget_lt hg
  have pn : ∀ c : List AV, hget (hpush σ1 c) σ1.length = some c := fun c => push_new rfl
  have sn : ∀ c c' : List AV, hget (hset (hpush σ1 c) σ1.length c') σ1.length = some c' := fun c c' => set_same (pn c)
  simp only [F4_app, Z87, base1, baseE, ↓reduceIte, Nat.reduceAdd, Nat.reduceSub, Nat.reduceMul, Nat.reduceEqDiff, Nat.reduceLeDiff, Nat.reduceLT, Int.reduceLT, Int.reduceLE, Int.reduceEq, Int.reduceNe, Int.reduceToNat, Int.reduceAdd, Int.reduceSub, reduceCtorEq, Nat.reduceBEq, Nat.reduceBNe, pn, sn]
  refine ⟨1, _, _, rfl, rd_alloc r1, fun σ2 r2 f2 => ?_⟩
  have b2 := f2 0 _ (al_frame b1) (by decide)
  have c2 := f2 σ1.length _ (sn _ _) (by omega)
  have r2 : RdS σ2 1 (stT s1).1 (stT s1).2 := r2
  generalize stT s1 = s2 at r2 hK ⊢
  have v1 : (rdText s1.1 s1.2).1 = vT s1 := rfl
  rw [v1]
  simp only [F4_app, Z87, base1, baseE, ↓reduceIte, Nat.reduceAdd, Nat.reduceSub, Nat.reduceMul, Nat.reduceEqDiff, Nat.reduceLeDiff, Nat.reduceLT, Int.reduceLT, Int.reduceLE, Int.reduceEq, Int.reduceNe, Int.reduceToNat, Int.reduceAdd, Int.reduceSub, reduceCtorEq, Nat.reduceBEq, Nat.reduceBNe]
  refine ⟨1, _, _, rfl, r2, fun σ3 f3 => ?_⟩
  have b3 := f3 0 _ b2 (by decide)
  have c3 := f3 σ1.length _ c2 (by omega)
  generalize σ1.length = L at c3 l1
  have hL0 : ¬ L = 0 := by omega
  unfold unlaG at hK
  have z0 : ∀ (d : List AV), hget (hset σ3 0 d) 0 = some d := fun d => set_same b3
  generalize rdEnd s2.1 s2.2 = E at hK ⊢
  by_cases hE : E = 0
  · subst hE
    simp only [if_true] at hK
    simp only [F4_app, Z87, base1, baseE, ↓reduceIte, Nat.reduceAdd, Nat.reduceSub, Nat.reduceMul, Nat.reduceEqDiff, Nat.reduceLeDiff, Nat.reduceLT, Int.reduceLT, Int.reduceLE, Int.reduceEq, Int.reduceNe, Int.reduceToNat, Int.reduceAdd, Int.reduceSub, reduceCtorEq, Nat.reduceBEq, Nat.reduceBNe, b3, c3, z0]
    refine ⟨σ3.length, vT s1, rfl, push_new rfl, ?_⟩
    have l3 := hget_lt c3
    have b4 : hget (hkill (hpush σ3 ((vT s1).map byteAV)) σ3.length) 0 = _ := Fr1.kill (id := σ3.length) 0 _ b3 (by omega)
    have c4 : hget (hkill (hpush σ3 ((vT s1).map byteAV)) σ3.length) L = _ := Fr1.kill (id := σ3.length) L _ c3 (by omega)
    generalize hkill (hpush σ3 ((vT s1).map byteAV)) σ3.length = σ4 at b4 c4 ⊢
    generalize readReply (vT s1) = w at hK ⊢
    obtain ⟨⟨client, seq, err, found, val, l, next, more⟩, e⟩ := w
    have sL : ∀ d : List AV, hget (hset σ4 L d) L = some d := fun d => set_same c4
    have b5 : ∀ d : List AV, hget (hset σ4 L d) 0 = _ := fun d => (set_other hL0).trans b4
    have z1 : ∀ (d c : List AV), hget (hset (hset σ4 L d) 0 c) 0 = some c := fun d c => set_same (b5 d)
    simp only [F4_app, Z87, base1, baseE, ↓reduceIte, Nat.reduceAdd, Nat.reduceSub, Nat.reduceMul, Nat.reduceEqDiff, Nat.reduceLeDiff, Nat.reduceLT, Int.reduceLT, Int.reduceLE, Int.reduceEq, Int.reduceNe, Int.reduceToNat, Int.reduceAdd, Int.reduceSub, reduceCtorEq, Nat.reduceBEq, Nat.reduceBNe, ansR, RepV.cells, b4, c4, sL, b5, z1]
    exact hK _ _ (.pure (ansLa_pure (⟨vN s0, ⟨client, seq, err, found, val, l, next, more⟩⟩, e)))
  · simp only [if_neg hE] at hK
    simp only [F4_app, Z87, base1, baseE, ↓reduceIte, Nat.reduceAdd, Nat.reduceSub, Nat.reduceMul, Nat.reduceEqDiff, Nat.reduceLeDiff, Nat.reduceLT, Int.reduceLT, Int.reduceLE, Int.reduceEq, Int.reduceNe, Int.reduceToNat, Int.reduceAdd, Int.reduceSub, reduceCtorEq, Nat.reduceBEq, Nat.reduceBNe, b3, c3, z0, hE]
    exact hK _ _ (frz_zeroLa _ E)
/-! Lists. -/
def finRec (s : St) (acc : List (List UInt8 × List UInt8)) : List (List UInt8 × List UInt8) × Int := if rdEnd s.1 s.2 = 0 then (acc, 0) else ([], rdEnd s.1 s.2)
def lstRec : Nat → St → List (List UInt8 × List UInt8) → List (List UInt8 × List UInt8) × Int
  | 0, s, acc => finRec s acc
  | k + 1, s, acc => if s.2 = 0 then (if (stT s).2 = 0 then (if (unrec (vT s)).2 = 0 then lstRec k (stT s) (acc ++ [(unrec (vT s)).1]) else ([], (unrec (vT s)).2)) else finRec (stT s) acc) else finRec s acc
def readRec (bs : List UInt8) : List (List UInt8 × List UInt8) × Int := lstRec (vN (bs, 0)).toNat (stN (bs, 0)) []
def unRecD (args : List AV) (σ : AHeap) (K : AV → AHeap → Prop) : Prop := ∃ (d : Nat) (bs : List UInt8), args = [.slice d 0 bs.length none 1] ∧ hget σ d = some (bs.map byteAV) ∧ K (ansRec (unrec bs)) (hkill σ d)
theorem unRecD_ok (args : List AV) (σ : AHeap) (K : AV → AHeap → Prop) (h : unRecD args σ K) : Tri Try.prog 85 args σ K := by
  obtain ⟨d, bs, rfl, hd, h⟩ := h
  exact (give_bytes hd (unrecord_ok bs)).mono fun r σ' hr => by rw [hr.1, hr.2]; exact h
def HRec : PCall := rowQ 85 unRecD (rowQ 27 numRD (rowQ 60 textRD (rowQ 28 endRD noCall)))
theorem HRec_app {f : FuncId} {args : List AV} {σ : AHeap} {K : AV → AHeap → Prop} : HRec f args σ K = rowQ 85 unRecD (rowQ 27 numRD (rowQ 60 textRD (rowQ 28 endRD noCall))) f args σ K := _root_.id rfl
theorem HRec_sound : Sound Try.prog HRec := rowQ_sound unRecD_ok (rowQ_sound numRD_ok (rowQ_sound textRD_ok (rowQ_sound endRD_ok (noCall_sound _))))
def rlRec (T : List (List UInt8 × List UInt8) × Int) (n : Nat) (e : Env) (σ : AHeap) : Prop :=
  ∃ (s : St) (m : Nat) (Lv : AV) (l : List (List UInt8 × List UInt8)), RdS σ 0 s.1 s.2 ∧ Grow σ Lv 2 (l.map recC) ∧ LvD Lv ≠ some 0 ∧ m + l.length ≤ 500000000 ∧ n = m ∧ lstRec m s l = T ∧ e 1 = .func 85 [] ∧ e 6 = .ptr 0 0 ∧ e 7 = Lv ∧ e 8 = .int .i64 (m : Int)
def LstRecQ (T : List (List UInt8 × List UInt8) × Int) (r : AV) (σ : AHeap) : Prop := ∃ Lv, Grow σ Lv 2 (T.1.map recC) ∧ r = .tuple [Lv, .int .i64 T.2]
theorem rlStepRec (T : List (List UInt8 × List UInt8) × Int) (Q : AV → AHeap → Prop) (hQ : ∀ r σ, LstRecQ T r σ → Q r σ) (n : Nat) (e : Env) (σ : AHeap) (h : rlRec T n e σ) :
    sC HRec 0 b84_30 (unw HRec 0 (loopR HRec 0 (RetQ [MRes.t 4, MRes.t 5] Q) (.block 0 (.seq b84_43 .fin)) (rlRec T) n) .fin) e σ := by
  obtain ⟨s, m, Lv, l, hr0, hLv, d0, hmk, hn, hT, e1, e6, e7, e8⟩ := h
  have go : ∀ (s : St) (e' : Env) (σ : AHeap), RdS σ 0 s.1 s.2 → Grow σ Lv 2 (l.map recC) → finRec s l = T → e' 6 = .ptr 0 0 → e' 7 = Lv → sC HRec 0 b84_43 (unw HRec 0 (RetQ [MRes.t 4, MRes.t 5] Q) .fin) e' σ := by
    intro s e' σ hr hv hT k6 k7
    have lc := grow_cell hv
    simp only [HRec_app, Z84, x84_40, x84_43, base1, ↓reduceIte, Nat.reduceAdd, Nat.reduceSub, Nat.reduceMul, Nat.reduceEqDiff, Nat.reduceLeDiff, Nat.reduceLT, Int.reduceLT, Int.reduceLE, Int.reduceEq, Int.reduceNe, Int.reduceToNat, Int.reduceAdd, Int.reduceSub, reduceCtorEq, Nat.reduceBEq, Nat.reduceBNe, k6, k7]
    refine ⟨0, s.1, s.2, rfl, hr, fun σ1 f1 => ?_⟩
    have v1 := grow_frame hv (τ := σ1) fun j c hj hd => f1 j c hj (fun e => d0 (by rw [hd, e]))
    unfold finRec at hT
    generalize rdEnd s.1 s.2 = E at hT ⊢
    by_cases hE : E = 0
    · subst hE
      rw [if_pos rfl] at hT
      subst hT
      simp only [HRec_app, Z84, x84_40, x84_43, base1, ↓reduceIte, Nat.reduceAdd, Nat.reduceSub, Nat.reduceMul, Nat.reduceEqDiff, Nat.reduceLeDiff, Nat.reduceLT, Int.reduceLT, Int.reduceLE, Int.reduceEq, Int.reduceNe, Int.reduceToNat, Int.reduceAdd, Int.reduceSub, reduceCtorEq, Nat.reduceBEq, Nat.reduceBNe, k6, k7, lc]
      exact hQ _ _ ⟨Lv, v1, rfl⟩
    · rw [if_neg hE] at hT
      subst hT
      simp only [HRec_app, Z84, x84_40, x84_43, base1, ↓reduceIte, Nat.reduceAdd, Nat.reduceSub, Nat.reduceMul, Nat.reduceEqDiff, Nat.reduceLeDiff, Nat.reduceLT, Int.reduceLT, Int.reduceLE, Int.reduceEq, Int.reduceNe, Int.reduceToNat, Int.reduceAdd, Int.reduceSub, reduceCtorEq, Nat.reduceBEq, Nat.reduceBNe, k6, k7, lc, hE]
      exact hQ _ _ ⟨.nilslice, .inl ⟨rfl, rfl⟩, rfl⟩
  have lc := grow_cell hLv
  cases m with
  | zero =>
    obtain ⟨f, nn, hr⟩ := hr0
    simp only [HRec_app, Z84, base1, ↓reduceIte, Nat.reduceAdd, Nat.reduceSub, Nat.reduceMul, Nat.reduceEqDiff, Nat.reduceLeDiff, Nat.reduceLT, Int.reduceLT, Int.reduceLE, Int.reduceEq, Int.reduceNe, Int.reduceToNat, Int.reduceAdd, Int.reduceSub, reduceCtorEq, Nat.reduceBEq, Nat.reduceBNe, loopR_exit, loopR_ret, e1, e6, e7, e8, cast_zero]
    exact go s _ _ ⟨f, nn, hr⟩ hLv hT e6 e7
  | succ m =>
    have hpos : (0 : Int) < ((m + 1 : Nat) : Int) := by omega
    by_cases hs : s.2 = 0
    · have hw : IntKind.wrap .i64 (((m + 1 : Nat) : Int) - 1) = (m : Int) := by rw [Gz.wrap64 (by omega)]; omega
      simp only [lstRec, hs, if_true] at hT
      obtain ⟨f, nn, hr⟩ := hr0
      simp only [HRec_app, Z84, x84_40, base1, ↓reduceIte, Nat.reduceAdd, Nat.reduceSub, Nat.reduceMul, Nat.reduceEqDiff, Nat.reduceLeDiff, Nat.reduceLT, Int.reduceLT, Int.reduceLE, Int.reduceEq, Int.reduceNe, Int.reduceToNat, Int.reduceAdd, Int.reduceSub, reduceCtorEq, Nat.reduceBEq, Nat.reduceBNe, loopR_exit, loopR_ret, e1, e6, e7, e8, hr, hs, hpos]
      refine ⟨0, s.1, 0, rfl, ⟨f, nn, by rw [hr, hs]⟩, fun σ1 r1 f1 => ?_⟩
      have v1 := grow_frame hLv (τ := σ1) fun j c hj hd => f1 j c hj (fun e => d0 (by rw [hd, e]))
      have hst : stT s = ((rdText s.1 0).2.1, (rdText s.1 0).2.2) := by simp [stT, hs]
      have hvt : vT s = (rdText s.1 0).1 := by simp [vT, hs]
      rw [hst, hvt] at hT
      generalize rdText s.1 0 = w at r1 hT ⊢
      obtain ⟨x, rem, ee⟩ := w
      simp only at r1 hT
      obtain ⟨f', nn', hg1⟩ := r1
      by_cases hee : ee = 0
      · subst hee
        simp only [if_true] at hT
        have hp1 : 0 < σ1.length := hget_lt hg1
        have hpn : hget (hpush σ1 (x.map byteAV)) σ1.length = some (x.map byteAV) := push_new rfl
        simp only [HRec_app, Z84, x84_40, base1, ↓reduceIte, Nat.reduceAdd, Nat.reduceSub, Nat.reduceMul, Nat.reduceEqDiff, Nat.reduceLeDiff, Nat.reduceLT, Int.reduceLT, Int.reduceLE, Int.reduceEq, Int.reduceNe, Int.reduceToNat, Int.reduceAdd, Int.reduceSub, reduceCtorEq, Nat.reduceBEq, Nat.reduceBNe, loopR_exit, loopR_ret, e1, e6, e7, e8, hg1, grown]
        refine ⟨σ1.length, x, rfl, hpn, ?_⟩
        have fk : ∀ j c, hget σ1 j = some c → hget (hkill (hpush σ1 (x.map byteAV)) σ1.length) j = some c := fun j c hj => Fr1.kill (id := σ1.length) j c hj (by have := hget_lt hj; omega)
        have v2 := grow_frame v1 (τ := hkill (hpush σ1 (x.map byteAV)) σ1.length) fun j c hj hd => fk j c hj
        have hg2 := fk _ _ hg1
        generalize hkill (hpush σ1 (x.map byteAV)) σ1.length = σ2 at v2 hg2 ⊢
        have hl2 := hget_lt hg2
        generalize unrec x = w at hT ⊢
        obtain ⟨y, e2⟩ := w
        simp only at hT
        have pn : ∀ c : List AV, hget (hpush σ2 c) σ2.length = some c := fun c => push_new rfl
        have sn : ∀ c c' : List AV, hget (hset (hpush σ2 c) σ2.length c') σ2.length = some c' := fun c c' => set_same (pn c)
        by_cases h3 : e2 = 0
        · subst h3
          simp only [if_true] at hT
          simp only [ansRec, recC]
          generalize hz : ([.str [], .str []] : List AV) = z
          have v3 := grow_frame v2 (τ := hset (hpush σ2 z) σ2.length (recC y)) fun j c hj hd => al_frame hj
          have hg3 : hget (hset (hpush σ2 z) σ2.length (recC y)) 0 = _ := al_frame hg2
          have hs3 : (hset (hpush σ2 z) σ2.length (recC y)).length = σ2.length + 1 := by rw [set_len, push_len]
          obtain ⟨v, τ, a1, a2, a3, a4, a5⟩ := grow_one (b := 32) (by decide) v3 (by simp; omega) (recC y) rfl rfl
          obtain ⟨g0, u0⟩ := a4 0 _ hg3 d0
          rw [hs3] at a1
          simp only [recC] at a1
          subst hz
          simp only [HRec_app, Z84, x84_40, base1, ↓reduceIte, Nat.reduceAdd, Nat.reduceSub, Nat.reduceMul, Nat.reduceEqDiff, Nat.reduceLeDiff, Nat.reduceLT, Int.reduceLT, Int.reduceLE, Int.reduceEq, Int.reduceNe, Int.reduceToNat, Int.reduceAdd, Int.reduceSub, reduceCtorEq, Nat.reduceBEq, Nat.reduceBNe, loopR_exit, loopR_ret, e1, e6, e7, e8, pn, sn, set_len, push_len, a1, a2, a3, hw]
          rw [loopR_normal]
          refine ⟨m, _, _, by omega, .refl _ _ _, (rem, 0), m, v, l ++ [y], ⟨f', nn', g0⟩, by simpa using a5, u0, by simp; omega, rfl, hT, ?_, ?_, ?_, ?_⟩
          all_goals simp only [putD_some, putD_none, Nat.reduceEqDiff, ↓reduceIte, e1, e6, e7, e8, hw]
        · rw [if_neg h3] at hT
          subst hT
          simp only [ansRec, recC, HRec_app, Z84, x84_40, base1, ↓reduceIte, Nat.reduceAdd, Nat.reduceSub, Nat.reduceMul, Nat.reduceEqDiff, Nat.reduceLeDiff, Nat.reduceLT, Int.reduceLT, Int.reduceLE, Int.reduceEq, Int.reduceNe, Int.reduceToNat, Int.reduceAdd, Int.reduceSub, reduceCtorEq, Nat.reduceBEq, Nat.reduceBNe, loopR_exit, loopR_ret, e1, e6, e7, e8, pn, sn, h3]
          exact hQ _ _ ⟨.nilslice, .inl ⟨rfl, rfl⟩, rfl⟩
      · rw [if_neg hee] at hT
        simp only [HRec_app, Z84, x84_40, base1, ↓reduceIte, Nat.reduceAdd, Nat.reduceSub, Nat.reduceMul, Nat.reduceEqDiff, Nat.reduceLeDiff, Nat.reduceLT, Int.reduceLT, Int.reduceLE, Int.reduceEq, Int.reduceNe, Int.reduceToNat, Int.reduceAdd, Int.reduceSub, reduceCtorEq, Nat.reduceBEq, Nat.reduceBNe, loopR_exit, loopR_ret, e1, e6, e7, e8, hg1, hee]
        exact go (rem, ee) _ _ ⟨f', nn', hg1⟩ v1 hT (by simp only [putD_some, putD_none, Nat.reduceEqDiff, ↓reduceIte, e6]) (by simp only [putD_some, putD_none, Nat.reduceEqDiff, ↓reduceIte, e7])
    · simp only [lstRec, if_neg hs] at hT
      obtain ⟨f, nn, hr⟩ := hr0
      simp only [HRec_app, Z84, x84_40, base1, ↓reduceIte, Nat.reduceAdd, Nat.reduceSub, Nat.reduceMul, Nat.reduceEqDiff, Nat.reduceLeDiff, Nat.reduceLT, Int.reduceLT, Int.reduceLE, Int.reduceEq, Int.reduceNe, Int.reduceToNat, Int.reduceAdd, Int.reduceSub, reduceCtorEq, Nat.reduceBEq, Nat.reduceBNe, loopR_exit, loopR_ret, e1, e6, e7, e8, hr, hs, hpos]
      exact go s _ _ ⟨f, nn, hr⟩ hLv hT e6 e7
theorem rowsRec_pure (l : List (List UInt8 × List UInt8)) : pureLL (l.map recC) = true := pureLL_of fun r hr => by
  obtain ⟨x, _, rfl⟩ := List.mem_map.1 hr
  rfl
def ansLRec (p : List (List UInt8 × List UInt8) × Int) : AV := .tuple [.imm (p.1.map recC) false false, .int .i64 p.2]
theorem ansLRec_pure (p : List (List UInt8 × List UInt8) × Int) : (ansLRec p).pure = true := by simp only [ansLRec, AV.pure, pureL, rowsRec_pure, Bool.and_self]
theorem readRec_ok (bs : List UInt8) : Tri Try.prog 84 [.imm (rws bs) false false, .func 85 []] [] fun r _ => r.pure = true ∧ r = ansLRec (readRec bs) := by
  refine Tri.frozen (Q := LstRecQ (readRec bs)) (Tri.of_s c84 HRec_sound ?_) (fun r σ hr => ?_)
  · generalize hK : LstRecQ (readRec bs) = K
    have hK : ∀ r σ, LstRecQ (readRec bs) r σ → K r σ := by intro r σ h; rw [← hK]; exact h
    simp only [HRec_app, Z84, x84_40, x84_43, base1, baseE, ↓reduceIte, Nat.reduceAdd, Nat.reduceSub, Nat.reduceMul, Nat.reduceEqDiff, Nat.reduceLeDiff, Nat.reduceLT, Int.reduceLT, Int.reduceLE, Int.reduceEq, Int.reduceNe, Int.reduceToNat, Int.reduceAdd, Int.reduceSub, reduceCtorEq, Nat.reduceBEq, Nat.reduceBNe, rws_len]
    refine ⟨0, bs, 0, rfl, ⟨false, false, rfl⟩, fun σ1 r1 f1 => ?_⟩
    have hnn := rdNum_nonneg bs 0
    have hle := rdNum_le bs 0
    have r1 : RdS σ1 0 (stN (bs, 0)).1 (stN (bs, 0)).2 := r1
    unfold readRec vN at hK
    simp only at hK
    generalize stN (bs, 0) = s1 at r1 hK ⊢
    generalize (rdNum bs 0).1 = m at hnn hle hK ⊢
    obtain ⟨m, rfl⟩ : ∃ k : Nat, m = (k : Int) := ⟨m.toNat, by omega⟩
    rw [Int.toNat_natCast] at hK
    simp only [HRec_app, Z84, x84_40, x84_43, base1, baseE, ↓reduceIte, Nat.reduceAdd, Nat.reduceSub, Nat.reduceMul, Nat.reduceEqDiff, Nat.reduceLeDiff, Nat.reduceLT, Int.reduceLT, Int.reduceLE, Int.reduceEq, Int.reduceNe, Int.reduceToNat, Int.reduceAdd, Int.reduceSub, reduceCtorEq, Nat.reduceBEq, Nat.reduceBNe]
    exact sC_inv (a := b84_30) (rlRec (lstRec m s1 [])) m _ _ (.refl _ _ _) ⟨s1, m, .nilslice, [], r1, .inl ⟨rfl, rfl⟩, by simp [LvD], by simp; omega, rfl, rfl, rfl, rfl, rfl, rfl⟩ (rlStepRec (lstRec m s1 []) _ fun r σ h => hK r σ h)
  · obtain ⟨Lv, hg, rfl⟩ := hr
    refine ⟨ansLRec (readRec bs), .tuple rfl (fun i x y hx hy => ?_), ansLRec_pure _, rfl⟩
    match i with
    | 0 => simp at hx hy; subst hx; subst hy; exact grow_frz hg (rowsRec_pure _)
    | 1 => simp at hx hy; subst hx; subst hy; exact .pure rfl
    | n + 2 => simp at hx
def finSh (s : St) (acc : List (ShV)) : List (ShV) × Int := if rdEnd s.1 s.2 = 0 then (acc, 0) else ([], rdEnd s.1 s.2)
def lstSh : Nat → St → List (ShV) → List (ShV) × Int
  | 0, s, acc => finSh s acc
  | k + 1, s, acc => if s.2 = 0 then (if (stT s).2 = 0 then (if (unsh (vT s)).2 = 0 then lstSh k (stT s) (acc ++ [(unsh (vT s)).1]) else ([], (unsh (vT s)).2)) else finSh (stT s) acc) else finSh s acc
def readSh (bs : List UInt8) : List (ShV) × Int := lstSh (vN (bs, 0)).toNat (stN (bs, 0)) []
def unShD (args : List AV) (σ : AHeap) (K : AV → AHeap → Prop) : Prop := ∃ (d : Nat) (bs : List UInt8), args = [.slice d 0 bs.length none 1] ∧ hget σ d = some (bs.map byteAV) ∧ K (ansSh (unsh bs)) (hkill σ d)
theorem unShD_ok (args : List AV) (σ : AHeap) (K : AV → AHeap → Prop) (h : unShD args σ K) : Tri Try.prog 83 args σ K := by
  obtain ⟨d, bs, rfl, hd, h⟩ := h
  exact (give_bytes hd (unshard_ok bs)).mono fun r σ' hr => by rw [hr.1, hr.2]; exact h
def HSh : PCall := rowQ 83 unShD (rowQ 27 numRD (rowQ 60 textRD (rowQ 28 endRD noCall)))
theorem HSh_app {f : FuncId} {args : List AV} {σ : AHeap} {K : AV → AHeap → Prop} : HSh f args σ K = rowQ 83 unShD (rowQ 27 numRD (rowQ 60 textRD (rowQ 28 endRD noCall))) f args σ K := _root_.id rfl
theorem HSh_sound : Sound Try.prog HSh := rowQ_sound unShD_ok (rowQ_sound numRD_ok (rowQ_sound textRD_ok (rowQ_sound endRD_ok (noCall_sound _))))
def rlSh (T : List (ShV) × Int) (n : Nat) (e : Env) (σ : AHeap) : Prop :=
  ∃ (s : St) (m : Nat) (Lv : AV) (l : List (ShV)), RdS σ 0 s.1 s.2 ∧ Grow σ Lv 4 (l.map ShV.cells) ∧ LvD Lv ≠ some 0 ∧ m + l.length ≤ 500000000 ∧ n = m ∧ lstSh m s l = T ∧ e 1 = .func 83 [] ∧ e 6 = .ptr 0 0 ∧ e 7 = Lv ∧ e 8 = .int .i64 (m : Int)
def LstShQ (T : List (ShV) × Int) (r : AV) (σ : AHeap) : Prop := ∃ Lv, Grow σ Lv 4 (T.1.map ShV.cells) ∧ r = .tuple [Lv, .int .i64 T.2]
theorem rlStepSh (T : List (ShV) × Int) (Q : AV → AHeap → Prop) (hQ : ∀ r σ, LstShQ T r σ → Q r σ) (n : Nat) (e : Env) (σ : AHeap) (h : rlSh T n e σ) :
    sC HSh 0 b82_30 (unw HSh 0 (loopR HSh 0 (RetQ [MRes.t 4, MRes.t 5] Q) (.block 0 (.seq b82_43 .fin)) (rlSh T) n) .fin) e σ := by
  obtain ⟨s, m, Lv, l, hr0, hLv, d0, hmk, hn, hT, e1, e6, e7, e8⟩ := h
  have go : ∀ (s : St) (e' : Env) (σ : AHeap), RdS σ 0 s.1 s.2 → Grow σ Lv 4 (l.map ShV.cells) → finSh s l = T → e' 6 = .ptr 0 0 → e' 7 = Lv → sC HSh 0 b82_43 (unw HSh 0 (RetQ [MRes.t 4, MRes.t 5] Q) .fin) e' σ := by
    intro s e' σ hr hv hT k6 k7
    have lc := grow_cell hv
    simp only [HSh_app, Z82, x82_40, x82_43, base1, ↓reduceIte, Nat.reduceAdd, Nat.reduceSub, Nat.reduceMul, Nat.reduceEqDiff, Nat.reduceLeDiff, Nat.reduceLT, Int.reduceLT, Int.reduceLE, Int.reduceEq, Int.reduceNe, Int.reduceToNat, Int.reduceAdd, Int.reduceSub, reduceCtorEq, Nat.reduceBEq, Nat.reduceBNe, k6, k7]
    refine ⟨0, s.1, s.2, rfl, hr, fun σ1 f1 => ?_⟩
    have v1 := grow_frame hv (τ := σ1) fun j c hj hd => f1 j c hj (fun e => d0 (by rw [hd, e]))
    unfold finSh at hT
    generalize rdEnd s.1 s.2 = E at hT ⊢
    by_cases hE : E = 0
    · subst hE
      rw [if_pos rfl] at hT
      subst hT
      simp only [HSh_app, Z82, x82_40, x82_43, base1, ↓reduceIte, Nat.reduceAdd, Nat.reduceSub, Nat.reduceMul, Nat.reduceEqDiff, Nat.reduceLeDiff, Nat.reduceLT, Int.reduceLT, Int.reduceLE, Int.reduceEq, Int.reduceNe, Int.reduceToNat, Int.reduceAdd, Int.reduceSub, reduceCtorEq, Nat.reduceBEq, Nat.reduceBNe, k6, k7, lc]
      exact hQ _ _ ⟨Lv, v1, rfl⟩
    · rw [if_neg hE] at hT
      subst hT
      simp only [HSh_app, Z82, x82_40, x82_43, base1, ↓reduceIte, Nat.reduceAdd, Nat.reduceSub, Nat.reduceMul, Nat.reduceEqDiff, Nat.reduceLeDiff, Nat.reduceLT, Int.reduceLT, Int.reduceLE, Int.reduceEq, Int.reduceNe, Int.reduceToNat, Int.reduceAdd, Int.reduceSub, reduceCtorEq, Nat.reduceBEq, Nat.reduceBNe, k6, k7, lc, hE]
      exact hQ _ _ ⟨.nilslice, .inl ⟨rfl, rfl⟩, rfl⟩
  have lc := grow_cell hLv
  cases m with
  | zero =>
    obtain ⟨f, nn, hr⟩ := hr0
    simp only [HSh_app, Z82, base1, ↓reduceIte, Nat.reduceAdd, Nat.reduceSub, Nat.reduceMul, Nat.reduceEqDiff, Nat.reduceLeDiff, Nat.reduceLT, Int.reduceLT, Int.reduceLE, Int.reduceEq, Int.reduceNe, Int.reduceToNat, Int.reduceAdd, Int.reduceSub, reduceCtorEq, Nat.reduceBEq, Nat.reduceBNe, loopR_exit, loopR_ret, e1, e6, e7, e8, cast_zero]
    exact go s _ _ ⟨f, nn, hr⟩ hLv hT e6 e7
  | succ m =>
    have hpos : (0 : Int) < ((m + 1 : Nat) : Int) := by omega
    by_cases hs : s.2 = 0
    · have hw : IntKind.wrap .i64 (((m + 1 : Nat) : Int) - 1) = (m : Int) := by rw [Gz.wrap64 (by omega)]; omega
      simp only [lstSh, hs, if_true] at hT
      obtain ⟨f, nn, hr⟩ := hr0
      simp only [HSh_app, Z82, x82_40, base1, ↓reduceIte, Nat.reduceAdd, Nat.reduceSub, Nat.reduceMul, Nat.reduceEqDiff, Nat.reduceLeDiff, Nat.reduceLT, Int.reduceLT, Int.reduceLE, Int.reduceEq, Int.reduceNe, Int.reduceToNat, Int.reduceAdd, Int.reduceSub, reduceCtorEq, Nat.reduceBEq, Nat.reduceBNe, loopR_exit, loopR_ret, e1, e6, e7, e8, hr, hs, hpos]
      refine ⟨0, s.1, 0, rfl, ⟨f, nn, by rw [hr, hs]⟩, fun σ1 r1 f1 => ?_⟩
      have v1 := grow_frame hLv (τ := σ1) fun j c hj hd => f1 j c hj (fun e => d0 (by rw [hd, e]))
      have hst : stT s = ((rdText s.1 0).2.1, (rdText s.1 0).2.2) := by simp [stT, hs]
      have hvt : vT s = (rdText s.1 0).1 := by simp [vT, hs]
      rw [hst, hvt] at hT
      generalize rdText s.1 0 = w at r1 hT ⊢
      obtain ⟨x, rem, ee⟩ := w
      simp only at r1 hT
      obtain ⟨f', nn', hg1⟩ := r1
      by_cases hee : ee = 0
      · subst hee
        simp only [if_true] at hT
        have hp1 : 0 < σ1.length := hget_lt hg1
        have hpn : hget (hpush σ1 (x.map byteAV)) σ1.length = some (x.map byteAV) := push_new rfl
        simp only [HSh_app, Z82, x82_40, base1, ↓reduceIte, Nat.reduceAdd, Nat.reduceSub, Nat.reduceMul, Nat.reduceEqDiff, Nat.reduceLeDiff, Nat.reduceLT, Int.reduceLT, Int.reduceLE, Int.reduceEq, Int.reduceNe, Int.reduceToNat, Int.reduceAdd, Int.reduceSub, reduceCtorEq, Nat.reduceBEq, Nat.reduceBNe, loopR_exit, loopR_ret, e1, e6, e7, e8, hg1, grown]
        refine ⟨σ1.length, x, rfl, hpn, ?_⟩
        have fk : ∀ j c, hget σ1 j = some c → hget (hkill (hpush σ1 (x.map byteAV)) σ1.length) j = some c := fun j c hj => Fr1.kill (id := σ1.length) j c hj (by have := hget_lt hj; omega)
        have v2 := grow_frame v1 (τ := hkill (hpush σ1 (x.map byteAV)) σ1.length) fun j c hj hd => fk j c hj
        have hg2 := fk _ _ hg1
        generalize hkill (hpush σ1 (x.map byteAV)) σ1.length = σ2 at v2 hg2 ⊢
        have hl2 := hget_lt hg2
        generalize unsh x = w at hT ⊢
        obtain ⟨y, e2⟩ := w
        simp only at hT
        have pn : ∀ c : List AV, hget (hpush σ2 c) σ2.length = some c := fun c => push_new rfl
        have sn : ∀ c c' : List AV, hget (hset (hpush σ2 c) σ2.length c') σ2.length = some c' := fun c c' => set_same (pn c)
        by_cases h3 : e2 = 0
        · subst h3
          simp only [if_true] at hT
          simp only [ansSh, ShV.cells]
          generalize hz : ([.str [], .str [], .int .i64 0, .int .i64 0] : List AV) = z
          have v3 := grow_frame v2 (τ := hset (hpush σ2 z) σ2.length (ShV.cells y)) fun j c hj hd => al_frame hj
          have hg3 : hget (hset (hpush σ2 z) σ2.length (ShV.cells y)) 0 = _ := al_frame hg2
          have hs3 : (hset (hpush σ2 z) σ2.length (ShV.cells y)).length = σ2.length + 1 := by rw [set_len, push_len]
          obtain ⟨v, τ, a1, a2, a3, a4, a5⟩ := grow_one (b := 48) (by decide) v3 (by simp; omega) (ShV.cells y) rfl rfl
          obtain ⟨g0, u0⟩ := a4 0 _ hg3 d0
          rw [hs3] at a1
          simp only [ShV.cells] at a1
          subst hz
          simp only [HSh_app, Z82, x82_40, base1, ↓reduceIte, Nat.reduceAdd, Nat.reduceSub, Nat.reduceMul, Nat.reduceEqDiff, Nat.reduceLeDiff, Nat.reduceLT, Int.reduceLT, Int.reduceLE, Int.reduceEq, Int.reduceNe, Int.reduceToNat, Int.reduceAdd, Int.reduceSub, reduceCtorEq, Nat.reduceBEq, Nat.reduceBNe, loopR_exit, loopR_ret, e1, e6, e7, e8, pn, sn, set_len, push_len, a1, a2, a3, hw]
          rw [loopR_normal]
          refine ⟨m, _, _, by omega, .refl _ _ _, (rem, 0), m, v, l ++ [y], ⟨f', nn', g0⟩, by simpa using a5, u0, by simp; omega, rfl, hT, ?_, ?_, ?_, ?_⟩
          all_goals simp only [putD_some, putD_none, Nat.reduceEqDiff, ↓reduceIte, e1, e6, e7, e8, hw]
        · rw [if_neg h3] at hT
          subst hT
          simp only [ansSh, ShV.cells, HSh_app, Z82, x82_40, base1, ↓reduceIte, Nat.reduceAdd, Nat.reduceSub, Nat.reduceMul, Nat.reduceEqDiff, Nat.reduceLeDiff, Nat.reduceLT, Int.reduceLT, Int.reduceLE, Int.reduceEq, Int.reduceNe, Int.reduceToNat, Int.reduceAdd, Int.reduceSub, reduceCtorEq, Nat.reduceBEq, Nat.reduceBNe, loopR_exit, loopR_ret, e1, e6, e7, e8, pn, sn, h3]
          exact hQ _ _ ⟨.nilslice, .inl ⟨rfl, rfl⟩, rfl⟩
      · rw [if_neg hee] at hT
        simp only [HSh_app, Z82, x82_40, base1, ↓reduceIte, Nat.reduceAdd, Nat.reduceSub, Nat.reduceMul, Nat.reduceEqDiff, Nat.reduceLeDiff, Nat.reduceLT, Int.reduceLT, Int.reduceLE, Int.reduceEq, Int.reduceNe, Int.reduceToNat, Int.reduceAdd, Int.reduceSub, reduceCtorEq, Nat.reduceBEq, Nat.reduceBNe, loopR_exit, loopR_ret, e1, e6, e7, e8, hg1, hee]
        exact go (rem, ee) _ _ ⟨f', nn', hg1⟩ v1 hT (by simp only [putD_some, putD_none, Nat.reduceEqDiff, ↓reduceIte, e6]) (by simp only [putD_some, putD_none, Nat.reduceEqDiff, ↓reduceIte, e7])
    · simp only [lstSh, if_neg hs] at hT
      obtain ⟨f, nn, hr⟩ := hr0
      simp only [HSh_app, Z82, x82_40, base1, ↓reduceIte, Nat.reduceAdd, Nat.reduceSub, Nat.reduceMul, Nat.reduceEqDiff, Nat.reduceLeDiff, Nat.reduceLT, Int.reduceLT, Int.reduceLE, Int.reduceEq, Int.reduceNe, Int.reduceToNat, Int.reduceAdd, Int.reduceSub, reduceCtorEq, Nat.reduceBEq, Nat.reduceBNe, loopR_exit, loopR_ret, e1, e6, e7, e8, hr, hs, hpos]
      exact go s _ _ ⟨f, nn, hr⟩ hLv hT e6 e7
theorem rowsSh_pure (l : List (ShV)) : pureLL (l.map ShV.cells) = true := pureLL_of fun r hr => by
  obtain ⟨x, _, rfl⟩ := List.mem_map.1 hr
  rfl
def ansLSh (p : List (ShV) × Int) : AV := .tuple [.imm (p.1.map ShV.cells) false false, .int .i64 p.2]
theorem ansLSh_pure (p : List (ShV) × Int) : (ansLSh p).pure = true := by simp only [ansLSh, AV.pure, pureL, rowsSh_pure, Bool.and_self]
theorem readSh_ok (bs : List UInt8) : Tri Try.prog 82 [.imm (rws bs) false false, .func 83 []] [] fun r _ => r.pure = true ∧ r = ansLSh (readSh bs) := by
  refine Tri.frozen (Q := LstShQ (readSh bs)) (Tri.of_s c82 HSh_sound ?_) (fun r σ hr => ?_)
  · generalize hK : LstShQ (readSh bs) = K
    have hK : ∀ r σ, LstShQ (readSh bs) r σ → K r σ := by intro r σ h; rw [← hK]; exact h
    simp only [HSh_app, Z82, x82_40, x82_43, base1, baseE, ↓reduceIte, Nat.reduceAdd, Nat.reduceSub, Nat.reduceMul, Nat.reduceEqDiff, Nat.reduceLeDiff, Nat.reduceLT, Int.reduceLT, Int.reduceLE, Int.reduceEq, Int.reduceNe, Int.reduceToNat, Int.reduceAdd, Int.reduceSub, reduceCtorEq, Nat.reduceBEq, Nat.reduceBNe, rws_len]
    refine ⟨0, bs, 0, rfl, ⟨false, false, rfl⟩, fun σ1 r1 f1 => ?_⟩
    have hnn := rdNum_nonneg bs 0
    have hle := rdNum_le bs 0
    have r1 : RdS σ1 0 (stN (bs, 0)).1 (stN (bs, 0)).2 := r1
    unfold readSh vN at hK
    simp only at hK
    generalize stN (bs, 0) = s1 at r1 hK ⊢
    generalize (rdNum bs 0).1 = m at hnn hle hK ⊢
    obtain ⟨m, rfl⟩ : ∃ k : Nat, m = (k : Int) := ⟨m.toNat, by omega⟩
    rw [Int.toNat_natCast] at hK
    simp only [HSh_app, Z82, x82_40, x82_43, base1, baseE, ↓reduceIte, Nat.reduceAdd, Nat.reduceSub, Nat.reduceMul, Nat.reduceEqDiff, Nat.reduceLeDiff, Nat.reduceLT, Int.reduceLT, Int.reduceLE, Int.reduceEq, Int.reduceNe, Int.reduceToNat, Int.reduceAdd, Int.reduceSub, reduceCtorEq, Nat.reduceBEq, Nat.reduceBNe]
    exact sC_inv (a := b82_30) (rlSh (lstSh m s1 [])) m _ _ (.refl _ _ _) ⟨s1, m, .nilslice, [], r1, .inl ⟨rfl, rfl⟩, by simp [LvD], by simp; omega, rfl, rfl, rfl, rfl, rfl, rfl⟩ (rlStepSh (lstSh m s1 []) _ fun r σ h => hK r σ h)
  · obtain ⟨Lv, hg, rfl⟩ := hr
    refine ⟨ansLSh (readSh bs), .tuple rfl (fun i x y hx hy => ?_), ansLSh_pure _, rfl⟩
    match i with
    | 0 => simp at hx hy; subst hx; subst hy; exact grow_frz hg (rowsSh_pure _)
    | 1 => simp at hx hy; subst hx; subst hy; exact .pure rfl
    | n + 2 => simp at hx
def finLa (s : St) (acc : List (LaV)) : List (LaV) × Int := if rdEnd s.1 s.2 = 0 then (acc, 0) else ([], rdEnd s.1 s.2)
def lstLa : Nat → St → List (LaV) → List (LaV) × Int
  | 0, s, acc => finLa s acc
  | k + 1, s, acc => if s.2 = 0 then (if (stT s).2 = 0 then (if (unla (vT s)).2 = 0 then lstLa k (stT s) (acc ++ [(unla (vT s)).1]) else ([], (unla (vT s)).2)) else finLa (stT s) acc) else finLa s acc
def readLa (bs : List UInt8) : List (LaV) × Int := lstLa (vN (bs, 0)).toNat (stN (bs, 0)) []
def unLaD (args : List AV) (σ : AHeap) (K : AV → AHeap → Prop) : Prop := ∃ (d : Nat) (bs : List UInt8), args = [.slice d 0 bs.length none 1] ∧ hget σ d = some (bs.map byteAV) ∧ K (ansLa (unla bs)) (hkill σ d)
theorem unLaD_ok (args : List AV) (σ : AHeap) (K : AV → AHeap → Prop) (h : unLaD args σ K) : Tri Try.prog 87 args σ K := by
  obtain ⟨d, bs, rfl, hd, h⟩ := h
  exact (give_bytes hd (unlast_ok bs)).mono fun r σ' hr => by rw [hr.1, hr.2]; exact h
def HLa : PCall := rowQ 87 unLaD (rowQ 27 numRD (rowQ 60 textRD (rowQ 28 endRD noCall)))
theorem HLa_app {f : FuncId} {args : List AV} {σ : AHeap} {K : AV → AHeap → Prop} : HLa f args σ K = rowQ 87 unLaD (rowQ 27 numRD (rowQ 60 textRD (rowQ 28 endRD noCall))) f args σ K := _root_.id rfl
theorem HLa_sound : Sound Try.prog HLa := rowQ_sound unLaD_ok (rowQ_sound numRD_ok (rowQ_sound textRD_ok (rowQ_sound endRD_ok (noCall_sound _))))
def rlLa (T : List (LaV) × Int) (n : Nat) (e : Env) (σ : AHeap) : Prop :=
  ∃ (s : St) (m : Nat) (Lv : AV) (l : List (LaV)), RdS σ 0 s.1 s.2 ∧ Grow σ Lv 9 (l.map LaV.cells) ∧ LvD Lv ≠ some 0 ∧ m + l.length ≤ 500000000 ∧ n = m ∧ lstLa m s l = T ∧ e 1 = .func 87 [] ∧ e 6 = .ptr 0 0 ∧ e 7 = Lv ∧ e 8 = .int .i64 (m : Int)
def LstLaQ (T : List (LaV) × Int) (r : AV) (σ : AHeap) : Prop := ∃ Lv, Grow σ Lv 9 (T.1.map LaV.cells) ∧ r = .tuple [Lv, .int .i64 T.2]
theorem rlStepLa (T : List (LaV) × Int) (Q : AV → AHeap → Prop) (hQ : ∀ r σ, LstLaQ T r σ → Q r σ) (n : Nat) (e : Env) (σ : AHeap) (h : rlLa T n e σ) :
    sC HLa 0 b86_30 (unw HLa 0 (loopR HLa 0 (RetQ [MRes.t 4, MRes.t 5] Q) (.block 0 (.seq b86_43 .fin)) (rlLa T) n) .fin) e σ := by
  obtain ⟨s, m, Lv, l, hr0, hLv, d0, hmk, hn, hT, e1, e6, e7, e8⟩ := h
  have go : ∀ (s : St) (e' : Env) (σ : AHeap), RdS σ 0 s.1 s.2 → Grow σ Lv 9 (l.map LaV.cells) → finLa s l = T → e' 6 = .ptr 0 0 → e' 7 = Lv → sC HLa 0 b86_43 (unw HLa 0 (RetQ [MRes.t 4, MRes.t 5] Q) .fin) e' σ := by
    intro s e' σ hr hv hT k6 k7
    have lc := grow_cell hv
    simp only [HLa_app, Z86, x86_40, x86_43, base1, ↓reduceIte, Nat.reduceAdd, Nat.reduceSub, Nat.reduceMul, Nat.reduceEqDiff, Nat.reduceLeDiff, Nat.reduceLT, Int.reduceLT, Int.reduceLE, Int.reduceEq, Int.reduceNe, Int.reduceToNat, Int.reduceAdd, Int.reduceSub, reduceCtorEq, Nat.reduceBEq, Nat.reduceBNe, k6, k7]
    refine ⟨0, s.1, s.2, rfl, hr, fun σ1 f1 => ?_⟩
    have v1 := grow_frame hv (τ := σ1) fun j c hj hd => f1 j c hj (fun e => d0 (by rw [hd, e]))
    unfold finLa at hT
    generalize rdEnd s.1 s.2 = E at hT ⊢
    by_cases hE : E = 0
    · subst hE
      rw [if_pos rfl] at hT
      subst hT
      simp only [HLa_app, Z86, x86_40, x86_43, base1, ↓reduceIte, Nat.reduceAdd, Nat.reduceSub, Nat.reduceMul, Nat.reduceEqDiff, Nat.reduceLeDiff, Nat.reduceLT, Int.reduceLT, Int.reduceLE, Int.reduceEq, Int.reduceNe, Int.reduceToNat, Int.reduceAdd, Int.reduceSub, reduceCtorEq, Nat.reduceBEq, Nat.reduceBNe, k6, k7, lc]
      exact hQ _ _ ⟨Lv, v1, rfl⟩
    · rw [if_neg hE] at hT
      subst hT
      simp only [HLa_app, Z86, x86_40, x86_43, base1, ↓reduceIte, Nat.reduceAdd, Nat.reduceSub, Nat.reduceMul, Nat.reduceEqDiff, Nat.reduceLeDiff, Nat.reduceLT, Int.reduceLT, Int.reduceLE, Int.reduceEq, Int.reduceNe, Int.reduceToNat, Int.reduceAdd, Int.reduceSub, reduceCtorEq, Nat.reduceBEq, Nat.reduceBNe, k6, k7, lc, hE]
      exact hQ _ _ ⟨.nilslice, .inl ⟨rfl, rfl⟩, rfl⟩
  have lc := grow_cell hLv
  cases m with
  | zero =>
    obtain ⟨f, nn, hr⟩ := hr0
    simp only [HLa_app, Z86, base1, ↓reduceIte, Nat.reduceAdd, Nat.reduceSub, Nat.reduceMul, Nat.reduceEqDiff, Nat.reduceLeDiff, Nat.reduceLT, Int.reduceLT, Int.reduceLE, Int.reduceEq, Int.reduceNe, Int.reduceToNat, Int.reduceAdd, Int.reduceSub, reduceCtorEq, Nat.reduceBEq, Nat.reduceBNe, loopR_exit, loopR_ret, e1, e6, e7, e8, cast_zero]
    exact go s _ _ ⟨f, nn, hr⟩ hLv hT e6 e7
  | succ m =>
    have hpos : (0 : Int) < ((m + 1 : Nat) : Int) := by omega
    by_cases hs : s.2 = 0
    · have hw : IntKind.wrap .i64 (((m + 1 : Nat) : Int) - 1) = (m : Int) := by rw [Gz.wrap64 (by omega)]; omega
      simp only [lstLa, hs, if_true] at hT
      obtain ⟨f, nn, hr⟩ := hr0
      simp only [HLa_app, Z86, x86_40, base1, ↓reduceIte, Nat.reduceAdd, Nat.reduceSub, Nat.reduceMul, Nat.reduceEqDiff, Nat.reduceLeDiff, Nat.reduceLT, Int.reduceLT, Int.reduceLE, Int.reduceEq, Int.reduceNe, Int.reduceToNat, Int.reduceAdd, Int.reduceSub, reduceCtorEq, Nat.reduceBEq, Nat.reduceBNe, loopR_exit, loopR_ret, e1, e6, e7, e8, hr, hs, hpos]
      refine ⟨0, s.1, 0, rfl, ⟨f, nn, by rw [hr, hs]⟩, fun σ1 r1 f1 => ?_⟩
      have v1 := grow_frame hLv (τ := σ1) fun j c hj hd => f1 j c hj (fun e => d0 (by rw [hd, e]))
      have hst : stT s = ((rdText s.1 0).2.1, (rdText s.1 0).2.2) := by simp [stT, hs]
      have hvt : vT s = (rdText s.1 0).1 := by simp [vT, hs]
      rw [hst, hvt] at hT
      generalize rdText s.1 0 = w at r1 hT ⊢
      obtain ⟨x, rem, ee⟩ := w
      simp only at r1 hT
      obtain ⟨f', nn', hg1⟩ := r1
      by_cases hee : ee = 0
      · subst hee
        simp only [if_true] at hT
        have hp1 : 0 < σ1.length := hget_lt hg1
        have hpn : hget (hpush σ1 (x.map byteAV)) σ1.length = some (x.map byteAV) := push_new rfl
        simp only [HLa_app, Z86, x86_40, base1, ↓reduceIte, Nat.reduceAdd, Nat.reduceSub, Nat.reduceMul, Nat.reduceEqDiff, Nat.reduceLeDiff, Nat.reduceLT, Int.reduceLT, Int.reduceLE, Int.reduceEq, Int.reduceNe, Int.reduceToNat, Int.reduceAdd, Int.reduceSub, reduceCtorEq, Nat.reduceBEq, Nat.reduceBNe, loopR_exit, loopR_ret, e1, e6, e7, e8, hg1, grown]
        refine ⟨σ1.length, x, rfl, hpn, ?_⟩
        have fk : ∀ j c, hget σ1 j = some c → hget (hkill (hpush σ1 (x.map byteAV)) σ1.length) j = some c := fun j c hj => Fr1.kill (id := σ1.length) j c hj (by have := hget_lt hj; omega)
        have v2 := grow_frame v1 (τ := hkill (hpush σ1 (x.map byteAV)) σ1.length) fun j c hj hd => fk j c hj
        have hg2 := fk _ _ hg1
        generalize hkill (hpush σ1 (x.map byteAV)) σ1.length = σ2 at v2 hg2 ⊢
        have hl2 := hget_lt hg2
        generalize unla x = w at hT ⊢
        obtain ⟨y, e2⟩ := w
        simp only at hT
        have pn : ∀ c : List AV, hget (hpush σ2 c) σ2.length = some c := fun c => push_new rfl
        have sn : ∀ c c' : List AV, hget (hset (hpush σ2 c) σ2.length c') σ2.length = some c' := fun c c' => set_same (pn c)
        by_cases h3 : e2 = 0
        · subst h3
          simp only [if_true] at hT
          simp only [ansLa, LaV.cells, RepV.cells]
          generalize hz : ([.int .i64 0, .int .i64 0, .int .i64 0, .int .i64 0, .bool false, .str [], .nilslice, .str [], .bool false] : List AV) = z
          have v3 := grow_frame v2 (τ := hset (hpush σ2 z) σ2.length (LaV.cells y)) fun j c hj hd => al_frame hj
          have hg3 : hget (hset (hpush σ2 z) σ2.length (LaV.cells y)) 0 = _ := al_frame hg2
          have hs3 : (hset (hpush σ2 z) σ2.length (LaV.cells y)).length = σ2.length + 1 := by rw [set_len, push_len]
          obtain ⟨v, τ, a1, a2, a3, a4, a5⟩ := grow_one (b := 104) (by decide) v3 (by simp; omega) (LaV.cells y) rfl rfl
          obtain ⟨g0, u0⟩ := a4 0 _ hg3 d0
          rw [hs3] at a1
          simp only [LaV.cells, RepV.cells] at a1
          subst hz
          simp only [HLa_app, Z86, x86_40, base1, ↓reduceIte, Nat.reduceAdd, Nat.reduceSub, Nat.reduceMul, Nat.reduceEqDiff, Nat.reduceLeDiff, Nat.reduceLT, Int.reduceLT, Int.reduceLE, Int.reduceEq, Int.reduceNe, Int.reduceToNat, Int.reduceAdd, Int.reduceSub, reduceCtorEq, Nat.reduceBEq, Nat.reduceBNe, loopR_exit, loopR_ret, e1, e6, e7, e8, pn, sn, set_len, push_len, a1, a2, a3, hw]
          rw [loopR_normal]
          refine ⟨m, _, _, by omega, .refl _ _ _, (rem, 0), m, v, l ++ [y], ⟨f', nn', g0⟩, by simpa using a5, u0, by simp; omega, rfl, hT, ?_, ?_, ?_, ?_⟩
          all_goals simp only [putD_some, putD_none, Nat.reduceEqDiff, ↓reduceIte, e1, e6, e7, e8, hw]
        · rw [if_neg h3] at hT
          subst hT
          simp only [ansLa, LaV.cells, RepV.cells, HLa_app, Z86, x86_40, base1, ↓reduceIte, Nat.reduceAdd, Nat.reduceSub, Nat.reduceMul, Nat.reduceEqDiff, Nat.reduceLeDiff, Nat.reduceLT, Int.reduceLT, Int.reduceLE, Int.reduceEq, Int.reduceNe, Int.reduceToNat, Int.reduceAdd, Int.reduceSub, reduceCtorEq, Nat.reduceBEq, Nat.reduceBNe, loopR_exit, loopR_ret, e1, e6, e7, e8, pn, sn, h3]
          exact hQ _ _ ⟨.nilslice, .inl ⟨rfl, rfl⟩, rfl⟩
      · rw [if_neg hee] at hT
        simp only [HLa_app, Z86, x86_40, base1, ↓reduceIte, Nat.reduceAdd, Nat.reduceSub, Nat.reduceMul, Nat.reduceEqDiff, Nat.reduceLeDiff, Nat.reduceLT, Int.reduceLT, Int.reduceLE, Int.reduceEq, Int.reduceNe, Int.reduceToNat, Int.reduceAdd, Int.reduceSub, reduceCtorEq, Nat.reduceBEq, Nat.reduceBNe, loopR_exit, loopR_ret, e1, e6, e7, e8, hg1, hee]
        exact go (rem, ee) _ _ ⟨f', nn', hg1⟩ v1 hT (by simp only [putD_some, putD_none, Nat.reduceEqDiff, ↓reduceIte, e6]) (by simp only [putD_some, putD_none, Nat.reduceEqDiff, ↓reduceIte, e7])
    · simp only [lstLa, if_neg hs] at hT
      obtain ⟨f, nn, hr⟩ := hr0
      simp only [HLa_app, Z86, x86_40, base1, ↓reduceIte, Nat.reduceAdd, Nat.reduceSub, Nat.reduceMul, Nat.reduceEqDiff, Nat.reduceLeDiff, Nat.reduceLT, Int.reduceLT, Int.reduceLE, Int.reduceEq, Int.reduceNe, Int.reduceToNat, Int.reduceAdd, Int.reduceSub, reduceCtorEq, Nat.reduceBEq, Nat.reduceBNe, loopR_exit, loopR_ret, e1, e6, e7, e8, hr, hs, hpos]
      exact go s _ _ ⟨f, nn, hr⟩ hLv hT e6 e7
theorem rowsLa_pure (l : List (LaV)) : pureLL (l.map LaV.cells) = true := pureLL_of fun r hr => by
  obtain ⟨x, _, rfl⟩ := List.mem_map.1 hr
  simpa [AV.pure] using la_pure x
def ansLLa (p : List (LaV) × Int) : AV := .tuple [.imm (p.1.map LaV.cells) false false, .int .i64 p.2]
theorem ansLLa_pure (p : List (LaV) × Int) : (ansLLa p).pure = true := by simp only [ansLLa, AV.pure, pureL, rowsLa_pure, Bool.and_self]
theorem readLa_ok (bs : List UInt8) : Tri Try.prog 86 [.imm (rws bs) false false, .func 87 []] [] fun r _ => r.pure = true ∧ r = ansLLa (readLa bs) := by
  refine Tri.frozen (Q := LstLaQ (readLa bs)) (Tri.of_s c86 HLa_sound ?_) (fun r σ hr => ?_)
  · generalize hK : LstLaQ (readLa bs) = K
    have hK : ∀ r σ, LstLaQ (readLa bs) r σ → K r σ := by intro r σ h; rw [← hK]; exact h
    simp only [HLa_app, Z86, x86_40, x86_43, base1, baseE, ↓reduceIte, Nat.reduceAdd, Nat.reduceSub, Nat.reduceMul, Nat.reduceEqDiff, Nat.reduceLeDiff, Nat.reduceLT, Int.reduceLT, Int.reduceLE, Int.reduceEq, Int.reduceNe, Int.reduceToNat, Int.reduceAdd, Int.reduceSub, reduceCtorEq, Nat.reduceBEq, Nat.reduceBNe, rws_len]
    refine ⟨0, bs, 0, rfl, ⟨false, false, rfl⟩, fun σ1 r1 f1 => ?_⟩
    have hnn := rdNum_nonneg bs 0
    have hle := rdNum_le bs 0
    have r1 : RdS σ1 0 (stN (bs, 0)).1 (stN (bs, 0)).2 := r1
    unfold readLa vN at hK
    simp only at hK
    generalize stN (bs, 0) = s1 at r1 hK ⊢
    generalize (rdNum bs 0).1 = m at hnn hle hK ⊢
    obtain ⟨m, rfl⟩ : ∃ k : Nat, m = (k : Int) := ⟨m.toNat, by omega⟩
    rw [Int.toNat_natCast] at hK
    simp only [HLa_app, Z86, x86_40, x86_43, base1, baseE, ↓reduceIte, Nat.reduceAdd, Nat.reduceSub, Nat.reduceMul, Nat.reduceEqDiff, Nat.reduceLeDiff, Nat.reduceLT, Int.reduceLT, Int.reduceLE, Int.reduceEq, Int.reduceNe, Int.reduceToNat, Int.reduceAdd, Int.reduceSub, reduceCtorEq, Nat.reduceBEq, Nat.reduceBNe]
    exact sC_inv (a := b86_30) (rlLa (lstLa m s1 [])) m _ _ (.refl _ _ _) ⟨s1, m, .nilslice, [], r1, .inl ⟨rfl, rfl⟩, by simp [LvD], by simp; omega, rfl, rfl, rfl, rfl, rfl, rfl⟩ (rlStepLa (lstLa m s1 []) _ fun r σ h => hK r σ h)
  · obtain ⟨Lv, hg, rfl⟩ := hr
    refine ⟨ansLLa (readLa bs), .tuple rfl (fun i x y hx hy => ?_), ansLLa_pure _, rfl⟩
    match i with
    | 0 => simp at hx hy; subst hx; subst hy; exact grow_frz hg (rowsLa_pure _)
    | 1 => simp at hx hy; subst hx; subst hy; exact .pure rfl
    | n + 2 => simp at hx
end Go.Proofs.Ytndlgmciplckjaa.note
