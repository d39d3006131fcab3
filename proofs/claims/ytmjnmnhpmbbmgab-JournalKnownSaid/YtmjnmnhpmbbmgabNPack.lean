/- What the packers do: the bytes of an ask, of a reply, are the packed numbers and texts one behind the other; which replies are small. No condition. -/
import Derived.Test.YtmjnmnhpmbbmgabRows
import Derived.Test.YtmjnmnhpmbbmgabK22
import Derived.Test.YtmjnmnhpmbbmgabK33
set_option linter.unusedVariables false
set_option linter.unusedSimpArgs false
namespace Go.Proofs.Ytmjnmnhpmbbmgab.note
open Go.ChangeShapes Go.WideShapes Go.ChangeAt Go.RowKit Go.Gz
section
variable {C : PCall} {n0 : Nat} {R : MExit → Env → AHeap → Prop} {k : Cont} {e : Env} {σ : AHeap}
abbrev r12_0 : List MOper := [⟨(some 1), .box (.t 0), none⟩,
  ⟨(some 2), .move (.c (.bool false)), none⟩]
def b12_0 : SCode := .region r12_0
abbrev r12_1 : List MOper := [⟨(some 5), .fieldAddr 4 (.t 1), none⟩,
  ⟨(some 6), .load1 (.t 5), none⟩,
  ⟨(some 7), .lenStr (.t 6), none⟩,
  ⟨(some 8), .fieldAddr 6 (.t 1), none⟩,
  ⟨(some 9), .load1 (.t 8), none⟩,
  ⟨(some 10), .lenStr (.t 9), none⟩,
  ⟨(some 11), .bin .add .num (.t 7) (.t 10), none⟩,
  ⟨(some 3), .move (.t 11), none⟩]
def b12_1 : SCode := .region r12_1
abbrev r12_2 : List MOper := [⟨(some 4), .move (.c (.int .i64 0)), none⟩]
def b12_2 : SCode := .region r12_2
abbrev r12_3 : List MOper := [⟨(some 12), .move (.t 4), none⟩,
  ⟨(some 13), .fieldAddr 5 (.t 1), none⟩,
  ⟨(some 14), .load1 (.t 13), none⟩,
  ⟨(some 15), .lenSl (.t 14), none⟩,
  ⟨(some 16), .bin .lss .num (.t 12) (.t 15), none⟩]
def b12_3 : SCode := .region r12_3
def b12_4 : SCode := .cond (.t 16) .skip (.exit 0)
def b12_5 : SCode := .seq b12_3 b12_4
abbrev t12_6 : LTree := (.quiet ⟨(some 19), .move (.t 3), none⟩ 0
  (.quiet ⟨(some 20), .fieldAddr 5 (.t 1), none⟩ 1
  (.quiet ⟨(some 21), .load1 (.t 20), none⟩ 2
  (.quiet ⟨(some 22), .move (.t 4), none⟩ 3
  (.quiet ⟨(some 23), .indexAddr 2 (.t 21) (.t 22), none⟩ 4
  (.quiet ⟨(some 24), .fieldAddr 0 (.t 23), none⟩ 5
  (.quiet ⟨(some 25), .load1 (.t 24), none⟩ 6
  (.quiet ⟨(some 26), .lenStr (.t 25), none⟩ 7
  (.quiet ⟨(some 27), .bin .add .num (.t 19) (.t 26), none⟩ 8
  (.quiet ⟨(some 28), .fieldAddr 5 (.t 1), none⟩ 9
  (.quiet ⟨(some 29), .load1 (.t 28), none⟩ 10
  (.quiet ⟨(some 30), .move (.t 4), none⟩ 11
  (.quiet ⟨(some 31), .indexAddr 2 (.t 29) (.t 30), none⟩ 12
  (.quiet ⟨(some 32), .fieldAddr 1 (.t 31), none⟩ 13
  (.quiet ⟨(some 33), .load1 (.t 32), none⟩ 14
  (.quiet ⟨(some 34), .lenStr (.t 33), none⟩ 15
  (.quiet ⟨(some 35), .bin .add .num (.t 27) (.t 34), none⟩ 16
  (.quiet ⟨(some 3), .move (.t 35), none⟩ 17
  .leaf))))))))))))))))))
def b12_6 : SCode := .draw t12_6
def b12_7 : SCode := .block 1 b12_6
abbrev r12_8 : List MOper := [⟨(some 17), .move (.t 4), none⟩,
  ⟨(some 18), .bin .add .num (.t 17) (.c (.int .i64 1)), none⟩,
  ⟨(some 4), .move (.t 18), none⟩]
def b12_8 : SCode := .region r12_8
def b12_9 : SCode := .seq b12_7 b12_8
def b12_10 : SCode := .seq b12_5 b12_9
def b12_11 : SCode := .loop b12_10
def b12_12 : SCode := .block 0 b12_11
def b12_13 : SCode := .seq b12_2 b12_12
abbrev r12_14 : List MOper := [⟨(some 36), .fieldAddr 5 (.t 1), none⟩,
  ⟨(some 37), .load1 (.t 36), none⟩,
  ⟨(some 38), .lenSl (.t 37), none⟩,
  ⟨(some 39), .bin .leq .num (.t 38) (.c (.int .i64 300)), none⟩,
  ⟨(some 40), .move (.t 39), none⟩,
  ⟨(some 41), .move (.t 3), (some (40, true))⟩,
  ⟨(some 42), .bin .leq .num (.t 41) (.c (.int .i64 50000)), (some (40, true))⟩,
  ⟨(some 43), .pick (.t 40) (.t 42) (.c (.bool false)), none⟩,
  ⟨(some 2), .move (.t 43), none⟩]
def b12_14 : SCode := .region r12_14
def b12_15 : SCode := .seq b12_14 .ret
def b12_16 : SCode := .seq b12_13 b12_15
def b12_17 : SCode := .seq b12_1 b12_16
def b12_18 : SCode := .seq b12_0 b12_17
def s12 : SFunc := ⟨44, [.t 2], b12_18⟩
theorem c12 : sFn Try.prog 12 = some s12 := by kernel_rfl
theorem Z12 : XR b12_0 r12_0 ∧ XR b12_1 r12_1 ∧ XR b12_2 r12_2 ∧ XR b12_3 r12_3 ∧ XC b12_4 (.t 16) .skip (.exit 0) ∧ XS b12_5 b12_3 b12_4 ∧ XT b12_6 t12_6 ∧ XB b12_7 1 b12_6 ∧ XR b12_8 r12_8 ∧ XS b12_9 b12_7 b12_8 ∧ XS b12_10 b12_5 b12_9 ∧ XB b12_12 0 b12_11 ∧ XS b12_13 b12_2 b12_12 ∧ XR b12_14 r12_14 ∧ XS b12_15 b12_14 .ret ∧ XS b12_16 b12_13 b12_15 ∧ XS b12_17 b12_1 b12_16 ∧ XS b12_18 b12_0 b12_17 ∧ XY s12 44 b12_18 [.t 2] := ⟨rfl, rfl, rfl, rfl, sC_cond, rfl, rfl, rfl, rfl, rfl, rfl, rfl, rfl, rfl, rfl, rfl, rfl, rfl, rfl⟩
abbrev r13_0 : List MOper := [⟨(some 1), .box (.t 0), none⟩,
  ⟨(some 2), .move (.c (.nilslice)), none⟩,
  ⟨(some 3), .move (.c (.int .i64 0)), none⟩]
def b13_0 : SCode := .region r13_0
abbrev r13_1 : List MOper := [⟨(some 4), .alloc [.nilslice, .bool false], none⟩]
def b13_1 : SCode := .region r13_1
abbrev r13_2 : List MOper := [⟨(some 5), .fieldAddr 0 (.t 1), none⟩,
  ⟨(some 6), .load1 (.t 5), none⟩,
  ⟨(some 7), .fieldAddr 1 (.t 1), none⟩,
  ⟨(some 8), .load1 (.t 7), none⟩,
  ⟨(some 9), .fieldAddr 2 (.t 1), none⟩,
  ⟨(some 10), .load1 (.t 9), none⟩,
  ⟨(some 11), .fieldAddr 7 (.t 1), none⟩,
  ⟨(some 12), .load1 (.t 11), none⟩,
  ⟨(some 13), .buildSlice [.int .i64 0] 1 4 [(0, 1, (.t 6)), (1, 1, (.t 8)), (2, 1, (.t 10)), (3, 1, (.t 12))], none⟩,
  ⟨(some 14), .call 26 [(.t 4), (.t 13)], none⟩]
def b13_2 : SCode := .region r13_2
abbrev r13_3 : List MOper := [⟨(some 15), .fieldAddr 3 (.t 1), none⟩,
  ⟨(some 16), .load1 (.t 15), none⟩,
  ⟨(some 17), .fieldAddr 4 (.t 1), none⟩,
  ⟨(some 18), .load1 (.t 17), none⟩,
  ⟨(some 19), .fieldAddr 5 (.t 1), none⟩,
  ⟨(some 20), .load1 (.t 19), none⟩,
  ⟨(some 21), .fieldAddr 6 (.t 1), none⟩,
  ⟨(some 22), .load1 (.t 21), none⟩,
  ⟨(some 23), .buildSlice [.str []] 1 4 [(0, 1, (.t 16)), (1, 1, (.t 18)), (2, 1, (.t 20)), (3, 1, (.t 22))], none⟩,
  ⟨(some 24), .call 27 [(.t 4), (.t 23)], none⟩]
def b13_3 : SCode := .region r13_3
abbrev r13_4 : List MOper := [⟨(some 25), .call 31 [(.t 4)], none⟩,
  ⟨(some 26), .extract (.t 25) 0, none⟩,
  ⟨(some 27), .extract (.t 25) 1, none⟩,
  ⟨(some 2), .move (.t 26), none⟩,
  ⟨(some 3), .move (.t 27), none⟩]
def b13_4 : SCode := .region r13_4
def b13_5 : SCode := .seq b13_4 .ret
def b13_6 : SCode := .seq b13_3 b13_5
def b13_7 : SCode := .seq b13_2 b13_6
def b13_8 : SCode := .seq b13_1 b13_7
def b13_9 : SCode := .seq b13_0 b13_8
def s13 : SFunc := ⟨28, [.t 2, .t 3], b13_9⟩
theorem c13 : sFn Try.prog 13 = some s13 := by kernel_rfl
theorem Z13 : XR b13_0 r13_0 ∧ XR b13_1 r13_1 ∧ XR b13_2 r13_2 ∧ XR b13_3 r13_3 ∧ XR b13_4 r13_4 ∧ XS b13_5 b13_4 .ret ∧ XS b13_6 b13_3 b13_5 ∧ XS b13_7 b13_2 b13_6 ∧ XS b13_8 b13_1 b13_7 ∧ XS b13_9 b13_0 b13_8 ∧ XY s13 28 b13_9 [.t 2, .t 3] := ⟨rfl, rfl, rfl, rfl, rfl, rfl, rfl, rfl, rfl, rfl, rfl⟩
abbrev r14_0 : List MOper := [⟨(some 1), .box (.t 0), none⟩,
  ⟨(some 2), .move (.c (.nilslice)), none⟩,
  ⟨(some 3), .move (.c (.int .i64 0)), none⟩]
def b14_0 : SCode := .region r14_0
abbrev r14_1 : List MOper := [⟨(some 4), .alloc [.nilslice, .bool false], none⟩]
def b14_1 : SCode := .region r14_1
abbrev r14_2 : List MOper := [⟨(some 7), .fieldAddr 0 (.t 1), none⟩,
  ⟨(some 8), .load1 (.t 7), none⟩,
  ⟨(some 9), .fieldAddr 1 (.t 1), none⟩,
  ⟨(some 10), .load1 (.t 9), none⟩,
  ⟨(some 11), .fieldAddr 2 (.t 1), none⟩,
  ⟨(some 12), .load1 (.t 11), none⟩,
  ⟨(some 13), .buildSlice [.int .i64 0] 1 3 [(0, 1, (.t 8)), (1, 1, (.t 10)), (2, 1, (.t 12))], none⟩,
  ⟨(some 14), .call 26 [(.t 4), (.t 13)], none⟩]
def b14_2 : SCode := .region r14_2
abbrev r14_3 : List MOper := [⟨(some 15), .fieldAddr 3 (.t 1), none⟩,
  ⟨(some 16), .load1 (.t 15), none⟩,
  ⟨(some 17), .call 32 [(.t 4), (.t 16)], none⟩]
def b14_3 : SCode := .region r14_3
abbrev r14_4 : List MOper := [⟨(some 18), .fieldAddr 4 (.t 1), none⟩,
  ⟨(some 19), .load1 (.t 18), none⟩,
  ⟨(some 20), .buildSlice [.str []] 1 1 [(0, 1, (.t 19))], none⟩,
  ⟨(some 21), .call 27 [(.t 4), (.t 20)], none⟩]
def b14_4 : SCode := .region r14_4
abbrev r14_5 : List MOper := [⟨(some 22), .fieldAddr 5 (.t 1), none⟩,
  ⟨(some 23), .load1 (.t 22), none⟩,
  ⟨(some 24), .lenSl (.t 23), none⟩,
  ⟨(some 25), .buildSlice [.int .i64 0] 1 1 [(0, 1, (.t 24))], none⟩,
  ⟨(some 26), .call 26 [(.t 4), (.t 25)], none⟩]
def b14_5 : SCode := .region r14_5
abbrev r14_6 : List MOper := [⟨(some 27), .fieldAddr 5 (.t 1), none⟩,
  ⟨(some 28), .load1 (.t 27), none⟩,
  ⟨(some 29), .lenSl (.t 28), none⟩,
  ⟨(some 30), .move (.c (.int .i64 0)), none⟩]
def b14_6 : SCode := .region r14_6
abbrev r14_7 : List MOper := [⟨(some 31), .bin .lss .num (.t 30) (.t 29), none⟩]
def b14_7 : SCode := .region r14_7
def b14_8 : SCode := .cond (.t 31) .skip (.exit 0)
abbrev r14_9 : List MOper := [⟨(some 32), .indexAddr 2 (.t 28) (.t 30), none⟩,
  ⟨(some 33), .loadN 2 (.t 32), none⟩,
  ⟨(some 6), .alloc [.str [], .str []], none⟩,
  ⟨none, .store 2 (.t 6) (.t 33), none⟩]
def b14_9 : SCode := .region r14_9
abbrev r14_10 : List MOper := [⟨(some 34), .fieldAddr 0 (.t 6), none⟩,
  ⟨(some 35), .load1 (.t 34), none⟩,
  ⟨(some 36), .fieldAddr 1 (.t 6), none⟩,
  ⟨(some 37), .load1 (.t 36), none⟩,
  ⟨(some 38), .buildSlice [.str []] 1 2 [(0, 1, (.t 35)), (1, 1, (.t 37))], none⟩,
  ⟨(some 39), .call 27 [(.t 4), (.t 38)], none⟩]
def b14_10 : SCode := .region r14_10
def b14_11 : SCode := .seq b14_9 b14_10
def b14_12 : SCode := .block 1 b14_11
abbrev r14_13 : List MOper := [⟨(some 40), .bin .add .num (.t 30) (.c (.int .i64 1)), none⟩,
  ⟨(some 30), .move (.t 40), none⟩]
def b14_13 : SCode := .region r14_13
def b14_14 : SCode := .seq b14_12 b14_13
def b14_15 : SCode := .seq b14_8 b14_14
def b14_16 : SCode := .seq b14_7 b14_15
def b14_17 : SCode := .loop b14_16
def b14_18 : SCode := .block 0 b14_17
def b14_19 : SCode := .seq b14_6 b14_18
abbrev r14_20 : List MOper := [⟨(some 41), .fieldAddr 6 (.t 1), none⟩,
  ⟨(some 42), .load1 (.t 41), none⟩,
  ⟨(some 43), .buildSlice [.str []] 1 1 [(0, 1, (.t 42))], none⟩,
  ⟨(some 44), .call 27 [(.t 4), (.t 43)], none⟩]
def b14_20 : SCode := .region r14_20
abbrev r14_21 : List MOper := [⟨(some 45), .fieldAddr 7 (.t 1), none⟩,
  ⟨(some 46), .load1 (.t 45), none⟩,
  ⟨(some 47), .call 32 [(.t 4), (.t 46)], none⟩]
def b14_21 : SCode := .region r14_21
abbrev r14_22 : List MOper := [⟨(some 48), .call 31 [(.t 4)], none⟩,
  ⟨(some 49), .extract (.t 48) 0, none⟩,
  ⟨(some 50), .extract (.t 48) 1, none⟩,
  ⟨(some 2), .move (.t 49), none⟩,
  ⟨(some 3), .move (.t 50), none⟩]
def b14_22 : SCode := .region r14_22
def b14_23 : SCode := .seq b14_22 .ret
def b14_24 : SCode := .seq b14_21 b14_23
def b14_25 : SCode := .seq b14_20 b14_24
def b14_26 : SCode := .seq b14_19 b14_25
def b14_27 : SCode := .seq b14_5 b14_26
def b14_28 : SCode := .seq b14_4 b14_27
def b14_29 : SCode := .seq b14_3 b14_28
def b14_30 : SCode := .seq b14_2 b14_29
def b14_31 : SCode := .seq b14_1 b14_30
def b14_32 : SCode := .seq b14_0 b14_31
def s14 : SFunc := ⟨51, [.t 2, .t 3], b14_32⟩
theorem c14 : sFn Try.prog 14 = some s14 := by kernel_rfl
theorem Z14 : XR b14_0 r14_0 ∧ XR b14_1 r14_1 ∧ XR b14_2 r14_2 ∧ XR b14_3 r14_3 ∧ XR b14_4 r14_4 ∧ XR b14_5 r14_5 ∧ XR b14_6 r14_6 ∧ XR b14_7 r14_7 ∧ XC b14_8 (.t 31) .skip (.exit 0) ∧ XR b14_9 r14_9 ∧ XR b14_10 r14_10 ∧ XS b14_11 b14_9 b14_10 ∧ XB b14_12 1 b14_11 ∧ XR b14_13 r14_13 ∧ XS b14_14 b14_12 b14_13 ∧ XS b14_15 b14_8 b14_14 ∧ XS b14_16 b14_7 b14_15 ∧ XB b14_18 0 b14_17 ∧ XS b14_19 b14_6 b14_18 ∧ XR b14_20 r14_20 ∧ XR b14_21 r14_21 ∧ XR b14_22 r14_22 ∧ XS b14_23 b14_22 .ret ∧ XS b14_24 b14_21 b14_23 ∧ XS b14_25 b14_20 b14_24 ∧ XS b14_26 b14_19 b14_25 ∧ XS b14_27 b14_5 b14_26 ∧ XS b14_28 b14_4 b14_27 ∧ XS b14_29 b14_3 b14_28 ∧ XS b14_30 b14_2 b14_29 ∧ XS b14_31 b14_1 b14_30 ∧ XS b14_32 b14_0 b14_31 ∧ XY s14 51 b14_32 [.t 2, .t 3] := ⟨rfl, rfl, rfl, rfl, rfl, rfl, rfl, rfl, sC_cond, rfl, rfl, rfl, rfl, rfl, rfl, rfl, rfl, rfl, rfl, rfl, rfl, rfl, rfl, rfl, rfl, rfl, rfl, rfl, rfl, rfl, rfl, rfl, rfl⟩
abbrev r26_0 : List MOper := [⟨(some 6), .move (.t 1), none⟩,
  ⟨(some 7), .lenSl (.t 6), none⟩,
  ⟨(some 8), .move (.c (.int .i64 0)), none⟩]
def b26_0 : SCode := .region r26_0
abbrev r26_1 : List MOper := [⟨(some 9), .bin .lss .num (.t 8) (.t 7), none⟩]
def b26_1 : SCode := .region r26_1
def b26_2 : SCode := .cond (.t 9) .skip (.exit 0)
abbrev r26_3 : List MOper := [⟨(some 10), .indexAddr 1 (.t 6) (.t 8), none⟩,
  ⟨(some 11), .load1 (.t 10), none⟩,
  ⟨(some 5), .move (.t 11), none⟩]
def b26_3 : SCode := .region r26_3
abbrev r26_4 : List MOper := [⟨(some 12), .move (.t 0), none⟩,
  ⟨(some 13), .move (.t 0), none⟩,
  ⟨(some 14), .nilCheck (.t 13), none⟩,
  ⟨(some 15), .fieldAddr 1 (.t 14), none⟩,
  ⟨(some 16), .load1 (.t 15), none⟩,
  ⟨(some 17), .move (.t 16), none⟩,
  ⟨(some 18), .move (.t 5), (some (17, false))⟩,
  ⟨(some 19), .bin .lss .num (.t 18) (.c (.int .i64 0)), (some (17, false))⟩,
  ⟨(some 20), .pick (.t 17) (.c (.bool true)) (.t 19), none⟩,
  ⟨(some 21), .move (.t 20), none⟩,
  ⟨(some 22), .move (.t 5), (some (21, false))⟩,
  ⟨(some 23), .bin .gtr .num (.t 22) (.c (.int .i64 268435455)), (some (21, false))⟩,
  ⟨(some 24), .pick (.t 21) (.c (.bool true)) (.t 23), none⟩,
  ⟨(some 25), .nilCheck (.t 12), none⟩,
  ⟨(some 26), .fieldAddr 1 (.t 25), none⟩,
  ⟨none, .store 1 (.t 26) (.t 24), none⟩]
def b26_4 : SCode := .region r26_4
abbrev r26_5 : List MOper := [⟨(some 27), .move (.t 0), none⟩,
  ⟨(some 28), .move (.t 0), none⟩,
  ⟨(some 29), .nilCheck (.t 28), none⟩,
  ⟨(some 30), .fieldAddr 0 (.t 29), none⟩,
  ⟨(some 31), .load1 (.t 30), none⟩,
  ⟨(some 32), .move (.t 5), none⟩,
  ⟨(some 33), .bin .shr .num (.t 32) (.c (.int .u64 24)), none⟩,
  ⟨(some 34), .convInt .u8 (.t 33), none⟩,
  ⟨(some 35), .move (.t 5), none⟩,
  ⟨(some 36), .bin .shr .num (.t 35) (.c (.int .u64 16)), none⟩,
  ⟨(some 37), .convInt .u8 (.t 36), none⟩,
  ⟨(some 38), .move (.t 5), none⟩,
  ⟨(some 39), .bin .shr .num (.t 38) (.c (.int .u64 8)), none⟩,
  ⟨(some 40), .convInt .u8 (.t 39), none⟩,
  ⟨(some 41), .move (.t 5), none⟩,
  ⟨(some 42), .convInt .u8 (.t 41), none⟩,
  ⟨(some 43), .buildSlice [.int .u8 0] 1 4 [(0, 1, (.t 34)), (1, 1, (.t 37)), (2, 1, (.t 40)), (3, 1, (.t 42))], none⟩,
  ⟨(some 44), .append 1 1 (.t 31) (.t 43), none⟩,
  ⟨(some 45), .nilCheck (.t 27), none⟩,
  ⟨(some 46), .fieldAddr 0 (.t 45), none⟩,
  ⟨none, .store 1 (.t 46) (.t 44), none⟩]
def b26_5 : SCode := .region r26_5
def b26_6 : SCode := .seq b26_4 b26_5
def b26_7 : SCode := .seq b26_3 b26_6
def b26_8 : SCode := .block 1 b26_7
abbrev r26_9 : List MOper := [⟨(some 47), .bin .add .num (.t 8) (.c (.int .i64 1)), none⟩,
  ⟨(some 8), .move (.t 47), none⟩]
def b26_9 : SCode := .region r26_9
def b26_10 : SCode := .seq b26_8 b26_9
def b26_11 : SCode := .seq b26_2 b26_10
def b26_12 : SCode := .seq b26_1 b26_11
def b26_13 : SCode := .loop b26_12
def b26_14 : SCode := .block 0 b26_13
def b26_15 : SCode := .seq b26_0 b26_14
def s26 : SFunc := ⟨48, [], b26_15⟩
theorem c26 : sFn Try.prog 26 = some s26 := by kernel_rfl
theorem x26_5 : XR b26_5 r26_5 := rfl
theorem Z26 : XR b26_0 r26_0 ∧ XR b26_1 r26_1 ∧ XC b26_2 (.t 9) .skip (.exit 0) ∧ XR b26_3 r26_3 ∧ XR b26_4 r26_4 ∧ XS b26_6 b26_4 b26_5 ∧ XS b26_7 b26_3 b26_6 ∧ XB b26_8 1 b26_7 ∧ XR b26_9 r26_9 ∧ XS b26_10 b26_8 b26_9 ∧ XS b26_11 b26_2 b26_10 ∧ XS b26_12 b26_1 b26_11 ∧ XB b26_14 0 b26_13 ∧ XS b26_15 b26_0 b26_14 ∧ XY s26 48 b26_15 [] := ⟨rfl, rfl, sC_cond, rfl, rfl, rfl, rfl, rfl, rfl, rfl, rfl, rfl, rfl, rfl, rfl⟩
abbrev r27_0 : List MOper := [⟨(some 6), .move (.t 1), none⟩,
  ⟨(some 7), .lenSl (.t 6), none⟩,
  ⟨(some 8), .move (.c (.int .i64 0)), none⟩]
def b27_0 : SCode := .region r27_0
abbrev r27_1 : List MOper := [⟨(some 9), .bin .lss .num (.t 8) (.t 7), none⟩]
def b27_1 : SCode := .region r27_1
def b27_2 : SCode := .cond (.t 9) .skip (.exit 0)
abbrev r27_3 : List MOper := [⟨(some 10), .indexAddr 1 (.t 6) (.t 8), none⟩,
  ⟨(some 11), .load1 (.t 10), none⟩,
  ⟨(some 5), .move (.t 11), none⟩]
def b27_3 : SCode := .region r27_3
abbrev r27_4 : List MOper := [⟨(some 12), .move (.t 0), none⟩,
  ⟨(some 13), .move (.t 5), none⟩,
  ⟨(some 14), .lenStr (.t 13), none⟩,
  ⟨(some 15), .buildSlice [.int .i64 0] 1 1 [(0, 1, (.t 14))], none⟩,
  ⟨(some 16), .call 26 [(.t 12), (.t 15)], none⟩]
def b27_4 : SCode := .region r27_4
abbrev r27_5 : List MOper := [⟨(some 17), .move (.t 0), none⟩,
  ⟨(some 18), .move (.t 0), none⟩,
  ⟨(some 19), .nilCheck (.t 18), none⟩,
  ⟨(some 20), .fieldAddr 0 (.t 19), none⟩,
  ⟨(some 21), .load1 (.t 20), none⟩,
  ⟨(some 22), .move (.t 5), none⟩,
  ⟨(some 23), .append 1 1 (.t 21) (.t 22), none⟩,
  ⟨(some 24), .nilCheck (.t 17), none⟩,
  ⟨(some 25), .fieldAddr 0 (.t 24), none⟩,
  ⟨none, .store 1 (.t 25) (.t 23), none⟩]
def b27_5 : SCode := .region r27_5
def b27_6 : SCode := .seq b27_4 b27_5
def b27_7 : SCode := .seq b27_3 b27_6
def b27_8 : SCode := .block 1 b27_7
abbrev r27_9 : List MOper := [⟨(some 26), .bin .add .num (.t 8) (.c (.int .i64 1)), none⟩,
  ⟨(some 8), .move (.t 26), none⟩]
def b27_9 : SCode := .region r27_9
def b27_10 : SCode := .seq b27_8 b27_9
def b27_11 : SCode := .seq b27_2 b27_10
def b27_12 : SCode := .seq b27_1 b27_11
def b27_13 : SCode := .loop b27_12
def b27_14 : SCode := .block 0 b27_13
def b27_15 : SCode := .seq b27_0 b27_14
def s27 : SFunc := ⟨27, [], b27_15⟩
theorem c27 : sFn Try.prog 27 = some s27 := by kernel_rfl
theorem Z27 : XR b27_0 r27_0 ∧ XR b27_1 r27_1 ∧ XC b27_2 (.t 9) .skip (.exit 0) ∧ XR b27_3 r27_3 ∧ XR b27_4 r27_4 ∧ XR b27_5 r27_5 ∧ XS b27_6 b27_4 b27_5 ∧ XS b27_7 b27_3 b27_6 ∧ XB b27_8 1 b27_7 ∧ XR b27_9 r27_9 ∧ XS b27_10 b27_8 b27_9 ∧ XS b27_11 b27_2 b27_10 ∧ XS b27_12 b27_1 b27_11 ∧ XB b27_14 0 b27_13 ∧ XS b27_15 b27_0 b27_14 ∧ XY s27 27 b27_15 [] := ⟨rfl, rfl, sC_cond, rfl, rfl, rfl, rfl, rfl, rfl, rfl, rfl, rfl, rfl, rfl, rfl, rfl⟩
abbrev r31_0 : List MOper := [⟨(some 2), .move (.c (.nilslice)), none⟩,
  ⟨(some 3), .move (.c (.int .i64 0)), none⟩]
def b31_0 : SCode := .region r31_0
abbrev r31_1 : List MOper := [⟨(some 4), .move (.t 0), none⟩,
  ⟨(some 5), .nilCheck (.t 4), none⟩,
  ⟨(some 6), .fieldAddr 1 (.t 5), none⟩,
  ⟨(some 7), .load1 (.t 6), none⟩,
  ⟨(some 8), .move (.t 7), none⟩,
  ⟨(some 9), .move (.t 0), (some (8, false))⟩,
  ⟨(some 10), .nilCheck (.t 9), (some (8, false))⟩,
  ⟨(some 11), .fieldAddr 0 (.t 10), (some (8, false))⟩,
  ⟨(some 12), .load1 (.t 11), (some (8, false))⟩,
  ⟨(some 13), .lenSl (.t 12), (some (8, false))⟩,
  ⟨(some 14), .bin .gtr .num (.t 13) (.c (.int .i64 32768)), (some (8, false))⟩,
  ⟨(some 15), .pick (.t 8) (.c (.bool true)) (.t 14), none⟩]
def b31_1 : SCode := .region r31_1
abbrev r31_2 : List MOper := [⟨(some 2), .move (.c (.nilslice)), none⟩,
  ⟨(some 3), .move (.c (.int .i64 1)), none⟩]
def b31_2 : SCode := .region r31_2
def b31_3 : SCode := .seq b31_2 .ret
def b31_4 : SCode := .cond (.t 15) b31_3 .skip
def b31_5 : SCode := .seq b31_1 b31_4
abbrev r31_6 : List MOper := [⟨(some 16), .move (.t 0), none⟩,
  ⟨(some 17), .nilCheck (.t 16), none⟩,
  ⟨(some 18), .fieldAddr 0 (.t 17), none⟩,
  ⟨(some 19), .load1 (.t 18), none⟩,
  ⟨(some 2), .move (.t 19), none⟩,
  ⟨(some 3), .move (.c (.int .i64 0)), none⟩]
def b31_6 : SCode := .region r31_6
def b31_7 : SCode := .seq b31_6 .ret
def b31_8 : SCode := .seq b31_5 b31_7
def b31_9 : SCode := .seq b31_0 b31_8
def s31 : SFunc := ⟨20, [.t 2, .t 3], b31_9⟩
theorem c31 : sFn Try.prog 31 = some s31 := by kernel_rfl
theorem Z31 : XR b31_0 r31_0 ∧ XR b31_1 r31_1 ∧ XR b31_2 r31_2 ∧ XS b31_3 b31_2 .ret ∧ XC b31_4 (.t 15) b31_3 .skip ∧ XS b31_5 b31_1 b31_4 ∧ XR b31_6 r31_6 ∧ XS b31_7 b31_6 .ret ∧ XS b31_8 b31_5 b31_7 ∧ XS b31_9 b31_0 b31_8 ∧ XY s31 20 b31_9 [.t 2, .t 3] := ⟨rfl, rfl, rfl, rfl, sC_cond, rfl, rfl, rfl, rfl, rfl, rfl⟩
abbrev r32_0 : List MOper := [⟨(some 4), .move (.t 1), none⟩]
def b32_0 : SCode := .region r32_0
abbrev r32_1 : List MOper := [⟨(some 5), .move (.t 0), none⟩,
  ⟨(some 6), .move (.t 0), none⟩,
  ⟨(some 7), .nilCheck (.t 6), none⟩,
  ⟨(some 8), .fieldAddr 0 (.t 7), none⟩,
  ⟨(some 9), .load1 (.t 8), none⟩,
  ⟨(some 10), .buildSlice [.int .u8 0] 1 1 [(0, 1, (.c (.int .u8 1)))], none⟩,
  ⟨(some 11), .append 1 1 (.t 9) (.t 10), none⟩,
  ⟨(some 12), .nilCheck (.t 5), none⟩,
  ⟨(some 13), .fieldAddr 0 (.t 12), none⟩,
  ⟨none, .store 1 (.t 13) (.t 11), none⟩]
def b32_1 : SCode := .region r32_1
abbrev r32_2 : List MOper := [⟨(some 14), .move (.t 0), none⟩,
  ⟨(some 15), .move (.t 0), none⟩,
  ⟨(some 16), .nilCheck (.t 15), none⟩,
  ⟨(some 17), .fieldAddr 0 (.t 16), none⟩,
  ⟨(some 18), .load1 (.t 17), none⟩,
  ⟨(some 19), .buildSlice [.int .u8 0] 1 1 [(0, 1, (.c (.int .u8 0)))], none⟩,
  ⟨(some 20), .append 1 1 (.t 18) (.t 19), none⟩,
  ⟨(some 21), .nilCheck (.t 14), none⟩,
  ⟨(some 22), .fieldAddr 0 (.t 21), none⟩,
  ⟨none, .store 1 (.t 22) (.t 20), none⟩]
def b32_2 : SCode := .region r32_2
def b32_3 : SCode := .cond (.t 4) b32_1 b32_2
def b32_4 : SCode := .seq b32_0 b32_3
def s32 : SFunc := ⟨23, [], b32_4⟩
theorem c32 : sFn Try.prog 32 = some s32 := by kernel_rfl
theorem Z32 : XR b32_0 r32_0 ∧ XR b32_1 r32_1 ∧ XR b32_2 r32_2 ∧ XC b32_3 (.t 4) b32_1 b32_2 ∧ XS b32_4 b32_0 b32_3 ∧ XY s32 23 b32_4 [] := ⟨rfl, rfl, rfl, sC_cond, rfl, rfl⟩

end
/-! Bytes. -/
def bOf (x : Int) : UInt8 := UInt8.ofNat (IntKind.wrap .u8 x).toNat
theorem byteAV_bOf (x : Int) : byteAV (bOf x) = .int .u8 (IntKind.wrap .u8 x) := by
  have h : IntKind.wrap .u8 x = x % 256 := IntKind.wrap_u8 x
  unfold byteAV bOf
  rw [h]
  congr 1
  have h1 : (x % 256).toNat < 256 := by omega
  rw [show (UInt8.ofNat (x % 256).toNat).toNat = (x % 256).toNat from by simp [UInt8.toNat_ofNat']; omega]
  omega
def u32 (n : Int) : List UInt8 := [bOf (n.fdiv 16777216), bOf (n.fdiv 65536), bOf (n.fdiv 256), bOf n]
def badN (n : Int) : Bool := decide (n < 0) || decide (268435455 < n)
def txt (s : List UInt8) : List UInt8 := u32 s.length ++ s
theorem bOf_inj {x y : Int} (h : bOf x = bOf y) : x % 256 = y % 256 := by
  have := congrArg (fun b => byteAV b) h
  simp only [byteAV_bOf, AV.int.injEq, true_and] at this
  rw [IntKind.wrap_u8, IntKind.wrap_u8] at this
  exact this
theorem u32_inj {n m : Int} (h : u32 n = u32 m) (h1 : badN n = false) (h2 : badN m = false) : n = m := by
  simp only [u32, List.cons.injEq, and_true] at h
  obtain ⟨a, b, c, d⟩ := h
  have a := bOf_inj a; have b := bOf_inj b; have c := bOf_inj c; have d := bOf_inj d
  simp only [badN, Bool.or_eq_false_iff, decide_eq_false_iff_not] at h1 h2
  rw [Int.fdiv_eq_ediv_of_nonneg _ (by omega), Int.fdiv_eq_ediv_of_nonneg _ (by omega)] at a b c
  omega
theorem u32_len (n : Int) : (u32 n).length = 4 := rfl
theorem cons32 {n m : Int} {r s : List UInt8} (h : u32 n ++ r = u32 m ++ s) (h1 : badN n = false) (h2 : badN m = false) : n = m ∧ r = s := by
  obtain ⟨a, b⟩ := List.append_inj h rfl
  exact ⟨u32_inj a h1 h2, b⟩
theorem consT {x y : List UInt8} {r s : List UInt8} (h : txt x ++ r = txt y ++ s) (h1 : x.length ≤ 268435455) (h2 : y.length ≤ 268435455) : x = y ∧ r = s := by
  unfold txt at h
  rw [List.append_assoc, List.append_assoc] at h
  obtain ⟨a, b⟩ := cons32 h (by simp [badN]; omega) (by simp [badN]; omega)
  exact List.append_inj b (by omega)
theorem u32_map (n : Int) : (u32 n).map byteAV = [.int .u8 (IntKind.wrap .u8 (n.fdiv 16777216)), .int .u8 (IntKind.wrap .u8 (n.fdiv 65536)), .int .u8 (IntKind.wrap .u8 (n.fdiv 256)), .int .u8 (IntKind.wrap .u8 n)] := by
  simp [u32, byteAV_bOf]
theorem byte_flat (bs : List UInt8) : flatL (bs.map byteAV) := by
  intro x hx
  obtain ⟨b, _, rfl⟩ := List.mem_map.1 hx
  rfl
theorem byte_cell (bs : List UInt8) : ((bs.map byteAV).all fun x => x.isCell) = true := by
  rw [List.all_eq_true]
  intro x hx
  obtain ⟨b, _, rfl⟩ := List.mem_map.1 hx
  rfl
theorem shr24 : ((2 : Int) ^ (min 24 (IntKind.bits .i64))) = 16777216 := _root_.id rfl
theorem shr16 : ((2 : Int) ^ (min 16 (IntKind.bits .i64))) = 65536 := _root_.id rfl
theorem shr8 : ((2 : Int) ^ (min 8 (IntKind.bits .i64))) = 256 := _root_.id rfl
/-! Heaps of which not all is known. -/
theorem hget_lt {σ : AHeap} {j : Nat} {c : List AV} (h : hget σ j = some c) : j < σ.length := by
  have := hget_some h
  exact (List.getElem?_eq_some_iff.1 this).1
theorem push_new {σ : AHeap} {c : List AV} {n : Nat} (h : n = σ.length) : hget (hpush σ c) n = some c := by subst h; simp [hget, hpush]
theorem push_old {σ : AHeap} {j : Nat} {c d : List AV} (h : hget σ j = some d) : hget (hpush σ c) j = some d := by
  have := hget_lt h
  simp only [hget, hpush, List.getElem?_append_left this]; exact h
theorem set_same {σ : AHeap} {j : Nat} {c d : List AV} (h : hget σ j = some d) : hget (hset σ j c) j = some c := by
  have := hget_lt h
  simp [hget, hset, this]
theorem set_other {σ : AHeap} {i j : Nat} {c : List AV} (h : i ≠ j) : hget (hset σ i c) j = hget σ j := by simp [hget, hset, List.getElem?_set, h]
theorem kill_other {σ : AHeap} {i j : Nat} (h : i ≠ j) : hget (hkill σ i) j = hget σ j := by simp [hget, hkill, List.getElem?_set, h]
theorem push_len {σ : AHeap} {c : List AV} : (hpush σ c).length = σ.length + 1 := by simp [hpush]
theorem set_len {σ : AHeap} {i : Nat} {c : List AV} : (hset σ i c).length = σ.length := by simp [hset]
theorem kill_len {σ : AHeap} {i : Nat} : (hkill σ i).length = σ.length := by simp [hkill]
/-- A packer at a block: its bytes, whether it is bad, in which block its bytes lie. -/
def Pk (σ : AHeap) (id : Nat) (bs : List UInt8) (bad : Bool) (D : Option Nat) : Prop :=
  (D = none ∧ bs = [] ∧ hget σ id = some [.nilslice, .bool bad]) ∨ (∃ d, D = some d ∧ d ≠ id ∧ hget σ id = some [.slice d 0 bs.length none 1, .bool bad] ∧ hget σ d = some (bs.map byteAV))
/-- All but the packer stays. -/
def Fr (σ σ' : AHeap) (id : Nat) (D D' : Option Nat) : Prop := ∀ j c, hget σ j = some c → j ≠ id → D ≠ some j → hget σ' j = some c ∧ D' ≠ some j
theorem Fr.trans {σ σ' σ'' : AHeap} {id : Nat} {D D' D'' : Option Nat} (h : Fr σ σ' id D D') (k : Fr σ' σ'' id D' D'') : Fr σ σ'' id D D'' := fun j c hj h1 h2 => by
  obtain ⟨a, b⟩ := h j c hj h1 h2
  exact k j c a h1 b
theorem Fr.refl (σ : AHeap) (id : Nat) (D : Option Nat) : Fr σ σ id D D := fun j c hj _ h2 => ⟨hj, h2⟩
theorem app_step {σ : AHeap} {id : Nat} {bs : List UInt8} {bad : Bool} {D : Option Nat} (h : Pk σ id bs bad D) (ys : List UInt8) (hy : ys ≠ [] ∨ bs ≠ []) (b2 : Bool) {x : AV} (hx : elemsOf σ 1 x = some (ys.map byteAV)) (hn : lenOf x = some ys.length) (hsz : bs.length + ys.length ≤ 1000000000) :
    ∃ P v σ2 D', hget σ id = some [P, .bool bad] ∧ evAppend 1 1 P x σ = some (v, σ2) ∧ v.isCell = true ∧ hget σ2 id = some [P, .bool bad] ∧ Pk (hset σ2 id [v, .bool b2]) id (bs ++ ys) b2 D' ∧ Fr σ (hset σ2 id [v, .bool b2]) id D D' := by
  have hg : mayGrow (bs.length + ys.length) 1 = true := by simp [mayGrow]; omega
  rcases h with ⟨rfl, rfl, h⟩ | ⟨d, rfl, hd, h, hb⟩
  · have hz : ¬ ys.length = 0 := by
      rcases hy with hy | hy
      · cases ys with | nil => exact absurd rfl hy | cons => simp
      · exact absurd rfl hy
    have hlt := hget_lt h
    refine ⟨.nilslice, .slice σ.length 0 ys.length none 1, hpush σ (ys.map byteAV), some σ.length, h, ?_, rfl, push_old h, .inr ⟨σ.length, rfl, by omega, ?_, ?_⟩, fun j c hj h1 _ => ?_⟩
    · have l0 : lenOf .nilslice = some 0 := rfl
      simp only [evAppend, hx, hn, l0]
      have hg' : mayGrow (0 + ys.length) 1 = true := by simpa using hg
      simp only [hg', byte_cell, Bool.and_self, if_true, if_neg hz, grown]
    · rw [set_same (push_old h)]; simp
    · rw [set_other (by omega), push_new rfl]; simp
    · have := hget_lt hj
      exact ⟨by rw [set_other (fun e => h1 e.symm)]; exact push_old hj, by simp; omega⟩
  · have hlt := hget_lt h
    have hd' := hget_lt hb
    have k1 : hget (hkill σ d) id = some [.slice d 0 bs.length none 1, .bool bad] := by rw [kill_other hd]; exact h
    refine ⟨.slice d 0 bs.length none 1, .slice σ.length 0 (bs.length + ys.length) none 1, hpush (hkill σ d) (bs.map byteAV ++ ys.map byteAV), some σ.length, h, ?_, rfl, push_old k1, .inr ⟨σ.length, rfl, by omega, ?_, ?_⟩, fun j c hj h1 h2 => ?_⟩
    · have he : elemsOf σ 1 (.slice d 0 bs.length none 1) = some (bs.map byteAV) := by
        simp only [elemsOf, if_true, hb, Option.bind_some, Nat.mul_one]
        exact sub_all (by simp)
      have l0 : lenOf (.slice d 0 bs.length none 1) = some bs.length := rfl
      simp only [evAppend, hx, hn, l0, hg, byte_cell, Bool.and_self, if_true, he, Option.map_some, grown, kill_len]
    · rw [set_same (push_old k1)]; simp
    · rw [set_other (by omega), push_new (by rw [kill_len])]; simp
    · have hj' := hget_lt hj
      exact ⟨by rw [set_other (fun e => h1 e.symm)]; exact push_old (by rw [kill_other (fun e => h2 (by rw [e]))]; exact hj), by simp; omega⟩
theorem cell_cells {v : AV} (h : v.isCell = true) : v.cells? = some [v] := by cases v <;> simp [AV.isCell] at h <;> rfl
/-! Num. -/
def numI (id s : Nat) (ns : List Int) (cap : Option Nat) (bs : List UInt8) (bad : Bool) (σ0 : AHeap) (D0 : Option Nat) (n : Nat) (e : Env) (σ : AHeap) : Prop :=
  ∃ (i : Nat) (D : Option Nat), i ≤ ns.length ∧ n = ns.length - i ∧ Pk σ id (bs ++ (ns.take i).flatMap u32) (bad || (ns.take i).any badN) D ∧ Fr σ0 σ id D0 D ∧
    e 0 = .ptr id 0 ∧ e 6 = .slice s 0 ns.length cap 1 ∧ e 7 = .int .i64 (ns.length : Int) ∧ e 8 = .int .i64 (i : Int)
set_option maxHeartbeats 4000000
set_option maxRecDepth 10000
theorem pk_get {σ : AHeap} {id : Nat} {bs : List UInt8} {bad : Bool} {D : Option Nat} (h : Pk σ id bs bad D) : ∃ P, hget σ id = some [P, .bool bad] := by
  rcases h with ⟨_, _, h⟩ | ⟨d, _, _, h, _⟩ <;> exact ⟨_, h⟩
theorem pk_bad {σ : AHeap} {id : Nat} {bs : List UInt8} {bad : Bool} {D : Option Nat} (h : Pk σ id bs bad D) {P : AV} (hP : hget σ id = some [P, .bool bad]) (b2 : Bool) : Pk (hset σ id [P, .bool b2]) id bs b2 D ∧ Fr σ (hset σ id [P, .bool b2]) id D D := by
  rcases h with ⟨rfl, rfl, h⟩ | ⟨d, rfl, hd, h, hb⟩
  · rw [hP] at h
    simp only [Option.some.injEq, List.cons.injEq, and_true] at h
    subst h
    exact ⟨.inl ⟨rfl, rfl, set_same hP⟩, fun j c hj h1 h2 => ⟨by rw [set_other (fun e => h1 e.symm)]; exact hj, h2⟩⟩
  · rw [hP] at h
    simp only [Option.some.injEq, List.cons.injEq, and_true] at h
    subst h
    exact ⟨.inr ⟨d, rfl, hd, set_same hP, by rw [set_other (fun e => hd e.symm)]; exact hb⟩, fun j c hj h1 h2 => ⟨by rw [set_other (fun e => h1 e.symm)]; exact hj, h2⟩⟩
theorem pk_push {σ : AHeap} {id : Nat} {bs : List UInt8} {bad : Bool} {D : Option Nat} (h : Pk σ id bs bad D) (c : List AV) : Pk (hpush σ c) id bs bad D ∧ Fr σ (hpush σ c) id D D := by
  refine ⟨?_, fun j d hj h1 h2 => ⟨push_old hj, h2⟩⟩
  rcases h with ⟨rfl, rfl, h⟩ | ⟨d, rfl, hd, h, hb⟩
  · exact .inl ⟨rfl, rfl, push_old h⟩
  · exact .inr ⟨d, rfl, hd, push_old h, push_old hb⟩
theorem num_tail (id s : Nat) (ns : List Int) (cap : Option Nat) (bs : List UInt8) (bad : Bool) (σ0 : AHeap) (D0 : Option Nat) (hsz : bs.length + 4 * ns.length ≤ 1000000000) {R : MExit → Env → AHeap → Prop} (n0 n i : Nat) (hn : n = ns.length - i) (hlt : i < ns.length) (x : Int) (hx : ns[i]? = some x)
    (e : Env) (σ : AHeap) (D : Option Nat) (hp : Pk σ id (bs ++ (ns.take i).flatMap u32) (bad || (ns.take (i + 1)).any badN) D) (hf : Fr σ0 σ id D0 D)
    (h0 : e 0 = .ptr id 0) (h5 : e 5 = .int .i64 x) (h6 : e 6 = .slice s 0 ns.length cap 1) (h7 : e 7 = .int .i64 (ns.length : Int)) (h8 : e 8 = .int .i64 (i : Int)) :
    sC noCall n0 b26_5 (unw noCall n0 (loopR noCall n0 R (.block 0 .fin) (numI id s ns cap bs bad σ0 D0) n) (.block 1 (.seq b26_9 .fin))) e σ := by
  have hw : IntKind.wrap .i64 ((i : Int) + 1) = ((i + 1 : Nat) : Int) := by rw [Gz.wrap64 (by omega)]; omega
  have htk : ns.take (i + 1) = ns.take i ++ [x] := by rw [List.take_add_one, hx]; rfl
  have hlen : ((ns.take i).flatMap u32).length ≤ 4 * i := by
    have : ∀ l : List Int, (l.flatMap u32).length = 4 * l.length := by
      intro l; induction l with
      | nil => rfl
      | cons a l ih => simp only [List.flatMap_cons, List.length_append, ih, u32_len, List.length_cons]; omega
    rw [this, List.length_take]; omega
  obtain ⟨hp1, hf1⟩ := pk_push hp ((u32 x).map byteAV)
  have he : elemsOf (hpush σ ((u32 x).map byteAV)) 1 (.slice σ.length 0 4 (some 4) 1) = some ((u32 x).map byteAV) := by
    simp only [elemsOf, if_true, push_new rfl, Option.bind_some, Nat.mul_one]
    exact sub_all rfl
  obtain ⟨P, v, σ2, D', a1, a2, a3, a4, a5, a6⟩ := app_step hp1 (u32 x) (.inl (by simp [u32])) (bad || (ns.take (i + 1)).any badN) he rfl (by rw [List.length_append, u32_len]; omega)
  obtain ⟨P', hP'⟩ := pk_get hp
  have : P' = P := by
    have := push_old (c := (u32 x).map byteAV) hP'
    rw [this] at a1; simp at a1; exact a1
  subst this
  rw [u32_map] at a2
  have a3' := cell_cells a3
  generalize hB : (bad || (ns.take (i + 1)).any badN) = B at *
  simp only [Z26, x26_5, base1, ↓reduceIte, Nat.reduceAdd, Nat.reduceSub, Nat.reduceMul, Nat.reduceEqDiff, Nat.reduceLeDiff, Nat.reduceLT, Int.reduceLT, Int.reduceLE, Int.reduceEq, Int.reduceNe, Int.reduceToNat, Int.reduceAdd, Int.reduceSub, reduceCtorEq, Nat.reduceBEq, Nat.reduceBNe, h0, h5, h6, h7, h8, hP', shr24, shr16, shr8, a2, a3, a3', a4, hw]
  rw [loopR_normal]
  refine ⟨ns.length - (i + 1), _, _, by omega, .refl _ _ _, i + 1, D', hlt, rfl, ?_, (hf.trans hf1).trans a6, ?_, ?_, ?_, ?_⟩
  · rw [hB, htk, List.flatMap_append, ← List.append_assoc]
    simpa using a5
  all_goals simp only [putD_some, putD_none, Nat.reduceEqDiff, ↓reduceIte, h0, h6, h7, h8, hw]
theorem num_step (id s : Nat) (ns : List Int) (cap : Option Nat) (bs : List UInt8) (bad : Bool) (σ0 : AHeap) (D0 : Option Nat) (hs : hget σ0 s = some (ns.map fun n => AV.int .i64 n)) (hsi : s ≠ id) (hsD : D0 ≠ some s) (hsz : bs.length + 4 * ns.length ≤ 1000000000)
    (Q : AV → AHeap → Prop) (hQ : ∀ σ' D', Pk σ' id (bs ++ ns.flatMap u32) (bad || ns.any badN) D' → Fr σ0 σ' id D0 D' → Q (.tuple []) σ') (n0 n : Nat) (e : Env) (σ : AHeap) (h : numI id s ns cap bs bad σ0 D0 n e σ) :
    sC noCall n0 b26_12 (unw noCall n0 (loopR noCall n0 (RetQ [] Q) (.block 0 .fin) (numI id s ns cap bs bad σ0 D0) n) .fin) e σ := by
  obtain ⟨i, D, hi, hn, hp, hf, h0, h6, h7, h8⟩ := h
  rcases Nat.lt_or_ge i ns.length with hlt | hge
  · have hlt' : (i : Int) < (ns.length : Int) := by omega
    have hge0 : (0 : Int) ≤ (i : Int) := by omega
    obtain ⟨g1, g2⟩ := hf s _ hs hsi hsD
    obtain ⟨x, hx⟩ : ∃ x, ns[i]? = some x := ⟨_, List.getElem?_eq_getElem hlt⟩
    have hxx : (ns.map fun n => AV.int .i64 n)[i]? = some (.int .i64 x) := by simp [hx]
    obtain ⟨P, hP⟩ := pk_get hp
    have htk : ns.take (i + 1) = ns.take i ++ [x] := by rw [List.take_add_one, hx]; rfl
    have key : ∀ (b2 : Bool) (e' : Env), b2 = (bad || (ns.take (i + 1)).any badN) → e' 0 = .ptr id 0 → e' 5 = .int .i64 x → e' 6 = .slice s 0 ns.length cap 1 → e' 7 = .int .i64 (ns.length : Int) → e' 8 = .int .i64 (i : Int) →
        sC noCall n0 b26_5 (unw noCall n0 (loopR noCall n0 (RetQ [] Q) (.block 0 .fin) (numI id s ns cap bs bad σ0 D0) n) (.block 1 (.seq b26_9 .fin))) e' (hset σ id [P, .bool b2]) := by
      intro b2 e' hb2 k0 k5 k6 k7 k8
      obtain ⟨p1, p2⟩ := pk_bad hp hP b2
      subst hb2
      exact num_tail id s ns cap bs bad σ0 D0 hsz n0 n i hn hlt x hx e' _ D p1 (hf.trans p2) k0 k5 k6 k7 k8
    have hb2 : (bad || (ns.take (i + 1)).any badN) = ((bad || (ns.take i).any badN) || badN x) := by rw [htk]; simp [Bool.or_assoc]
    generalize hB : (bad || (ns.take i).any badN) = B at hp hP hb2
    cases B with
    | true =>
      simp only [Z26, base1, baseE, ↓reduceIte, Nat.reduceAdd, Nat.reduceSub, Nat.reduceMul, Nat.reduceEqDiff, Nat.reduceLeDiff, Nat.reduceLT, Int.reduceLT, Int.reduceLE, Int.reduceEq, Int.reduceNe, Int.reduceToNat, Int.reduceAdd, Int.reduceSub, reduceCtorEq, Nat.reduceBEq, Nat.reduceBNe, loopR_exit, loopR_ret, h0, h6, h7, h8, hlt', hlt, hge0, g1, hxx, hP, Int.toNat_natCast]
      exact key true _ (by rw [hb2]; rfl) h0 rfl h6 h7 h8
    | false =>
      by_cases hneg : x < 0
      · simp only [Z26, base1, baseE, ↓reduceIte, Nat.reduceAdd, Nat.reduceSub, Nat.reduceMul, Nat.reduceEqDiff, Nat.reduceLeDiff, Nat.reduceLT, Int.reduceLT, Int.reduceLE, Int.reduceEq, Int.reduceNe, Int.reduceToNat, Int.reduceAdd, Int.reduceSub, reduceCtorEq, Nat.reduceBEq, Nat.reduceBNe, loopR_exit, loopR_ret, h0, h6, h7, h8, hlt', hlt, hge0, g1, hxx, hP, hneg, Int.toNat_natCast]
        exact key true _ (by rw [hb2]; simp [badN, hneg]) h0 rfl h6 h7 h8
      · by_cases hbig : (268435455 : Int) < x
        · simp only [Z26, base1, baseE, ↓reduceIte, Nat.reduceAdd, Nat.reduceSub, Nat.reduceMul, Nat.reduceEqDiff, Nat.reduceLeDiff, Nat.reduceLT, Int.reduceLT, Int.reduceLE, Int.reduceEq, Int.reduceNe, Int.reduceToNat, Int.reduceAdd, Int.reduceSub, reduceCtorEq, Nat.reduceBEq, Nat.reduceBNe, loopR_exit, loopR_ret, h0, h6, h7, h8, hlt', hlt, hge0, g1, hxx, hP, hneg, hbig, Int.toNat_natCast]
          exact key true _ (by rw [hb2]; simp [badN, hbig]) h0 rfl h6 h7 h8
        · simp only [Z26, base1, baseE, ↓reduceIte, Nat.reduceAdd, Nat.reduceSub, Nat.reduceMul, Nat.reduceEqDiff, Nat.reduceLeDiff, Nat.reduceLT, Int.reduceLT, Int.reduceLE, Int.reduceEq, Int.reduceNe, Int.reduceToNat, Int.reduceAdd, Int.reduceSub, reduceCtorEq, Nat.reduceBEq, Nat.reduceBNe, loopR_exit, loopR_ret, h0, h6, h7, h8, hlt', hlt, hge0, g1, hxx, hP, hneg, hbig, Int.toNat_natCast]
          exact key false _ (by rw [hb2]; simp [badN, hneg, hbig]) h0 rfl h6 h7 h8
  · have hlt' : ¬ (i : Int) < (ns.length : Int) := by omega
    have hie : i = ns.length := by omega
    subst hie
    rw [List.take_length] at hp
    simp only [Z26, x26_5, base1, baseE, ↓reduceIte, Nat.reduceAdd, Nat.reduceSub, Nat.reduceMul, Nat.reduceEqDiff, Nat.reduceLeDiff, Nat.reduceLT, Int.reduceLT, Int.reduceLE, Int.reduceEq, Int.reduceNe, Int.reduceToNat, Int.reduceAdd, Int.reduceSub, reduceCtorEq, Nat.reduceBEq, Nat.reduceBNe, loopR_exit, loopR_ret, h0, h6, h7, h8, hlt']
    exact hQ _ _ hp hf
def numD (args : List AV) (σ : AHeap) (K : AV → AHeap → Prop) : Prop :=
  ∃ (id s : Nat) (ns : List Int) (cap : Option Nat) (bs : List UInt8) (bad : Bool) (D : Option Nat), args = [.ptr id 0, .slice s 0 ns.length cap 1] ∧ hget σ s = some (ns.map fun n => AV.int .i64 n) ∧ s ≠ id ∧ D ≠ some s ∧ bs.length + 4 * ns.length ≤ 1000000000 ∧ Pk σ id bs bad D ∧
    ∀ σ' D', Pk σ' id (bs ++ ns.flatMap u32) (bad || ns.any badN) D' → Fr σ σ' id D D' → K (.tuple []) σ'
theorem numD_ok (args : List AV) (σ : AHeap) (K : AV → AHeap → Prop) (h : numD args σ K) : Tri Try.prog 26 args σ K := by
  obtain ⟨id, s, ns, cap, bs, bad, D, rfl, h1, h2, h3, h4, h5, h6⟩ := h
  refine Tri.of_s c26 (noCall_sound _) ?_
  simp only [Z26, x26_5, base1, baseE, ↓reduceIte, Nat.reduceAdd, Nat.reduceSub, Nat.reduceMul, Nat.reduceEqDiff, Nat.reduceLeDiff, Nat.reduceLT, Int.reduceLT, Int.reduceLE, Int.reduceEq, Int.reduceNe, Int.reduceToNat, Int.reduceAdd, Int.reduceSub, reduceCtorEq, Nat.reduceBEq, Nat.reduceBNe]
  refine sC_inv (a := b26_12) (numI id s ns cap bs bad σ D) ns.length _ σ (.refl _ _ _) ⟨0, D, Nat.zero_le _, rfl, by simpa using h5, Fr.refl _ _ _, rfl, rfl, rfl, rfl⟩ (num_step id s ns cap bs bad σ D h1 h2 h3 h4 K h6 σ.length)
def E1 : PCall := rowQ 26 numD noCall
theorem E1_app {f : FuncId} {args : List AV} {σ : AHeap} {K : AV → AHeap → Prop} : E1 f args σ K = rowQ 26 numD noCall f args σ K := _root_.id rfl
theorem E1_sound : Sound Try.prog E1 := rowQ_sound numD_ok (noCall_sound _)
/-! Text. -/
def badT (s : List UInt8) : Bool := badN (s.length : Int)
def textI (id s : Nat) (ss : List (List UInt8)) (cap : Option Nat) (bs : List UInt8) (bad : Bool) (σ0 : AHeap) (D0 : Option Nat) (n : Nat) (e : Env) (σ : AHeap) : Prop :=
  ∃ (i : Nat) (D : Option Nat), i ≤ ss.length ∧ n = ss.length - i ∧ Pk σ id (bs ++ (ss.take i).flatMap txt) (bad || (ss.take i).any badT) D ∧ Fr σ0 σ id D0 D ∧
    e 0 = .ptr id 0 ∧ e 6 = .slice s 0 ss.length cap 1 ∧ e 7 = .int .i64 (ss.length : Int) ∧ e 8 = .int .i64 (i : Int)
def total (ss : List (List UInt8)) : Nat := (ss.flatMap txt).length
theorem total_take {ss : List (List UInt8)} {i : Nat} {x : List UInt8} (hx : ss[i]? = some x) : ((ss.take i).flatMap txt).length + (4 + x.length) ≤ total ss := by
  have h1 : ss = ss.take i ++ x :: ss.drop (i + 1) := by
    have hlt := (List.getElem?_eq_some_iff.1 hx).1
    have := (List.getElem?_eq_some_iff.1 hx).2
    rw [← this, List.getElem_cons_drop, List.take_append_drop]
  unfold total
  conv => rhs; rw [h1]
  simp only [List.flatMap_append, List.flatMap_cons, List.length_append, txt, u32_len]
  omega
theorem text_step (id s : Nat) (ss : List (List UInt8)) (cap : Option Nat) (bs : List UInt8) (bad : Bool) (σ0 : AHeap) (D0 : Option Nat) (hs : hget σ0 s = some (ss.map fun n => AV.str n)) (hsi : s ≠ id) (hsD : D0 ≠ some s) (hsz : bs.length + total ss ≤ 1000000000) (hsn : ss.length ≤ 1000000000)
    (Q : AV → AHeap → Prop) (hQ : ∀ σ' D', Pk σ' id (bs ++ ss.flatMap txt) (bad || ss.any badT) D' → Fr σ0 σ' id D0 D' → Q (.tuple []) σ') (n0 n : Nat) (e : Env) (σ : AHeap) (h : textI id s ss cap bs bad σ0 D0 n e σ) :
    sC E1 n0 b27_12 (unw E1 n0 (loopR E1 n0 (RetQ [] Q) (.block 0 .fin) (textI id s ss cap bs bad σ0 D0) n) .fin) e σ := by
  obtain ⟨i, D, hi, hn, hp, hf, h0, h6, h7, h8⟩ := h
  rcases Nat.lt_or_ge i ss.length with hlt | hge
  · have hlt' : (i : Int) < (ss.length : Int) := by omega
    have hge0 : (0 : Int) ≤ (i : Int) := by omega
    obtain ⟨g1, g2⟩ := hf s _ hs hsi hsD
    obtain ⟨x, hx⟩ : ∃ x, ss[i]? = some x := ⟨_, List.getElem?_eq_getElem hlt⟩
    have hxx : (ss.map fun n => AV.str n)[i]? = some (.str x) := by simp [hx]
    have htk : ss.take (i + 1) = ss.take i ++ [x] := by rw [List.take_add_one, hx]; rfl
    have hw : IntKind.wrap .i64 ((i : Int) + 1) = ((i + 1 : Nat) : Int) := by rw [Gz.wrap64 (by omega)]; omega
    have htot := total_take hx
    simp only [E1_app, Z27, base1, ↓reduceIte, Nat.reduceAdd, Nat.reduceSub, Nat.reduceMul, Nat.reduceEqDiff, Nat.reduceLeDiff, Nat.reduceLT, Int.reduceLT, Int.reduceLE, Int.reduceEq, Int.reduceNe, Int.reduceToNat, Int.reduceAdd, Int.reduceSub, reduceCtorEq, Nat.reduceBEq, Nat.reduceBNe, loopR_exit, loopR_ret, h0, h6, h7, h8, hlt', hlt, hge0, g1, hxx, Int.toNat_natCast]
    obtain ⟨p1, f1⟩ := pk_push hp [.int .i64 (x.length : Int)]
    refine ⟨id, σ.length, [(x.length : Int)], some 1, _, _, D, rfl, push_new rfl, ?_, ?_, ?_, p1, fun σ1 D1 q1 f2 => ?_⟩
    · obtain ⟨P, hP⟩ := pk_get hp; have := hget_lt hP; omega
    · rcases hp with ⟨rfl, _, _⟩ | ⟨d, rfl, _, _, hb⟩
      · simp
      · have := hget_lt hb; simp; omega
    · simp only [List.length_append, List.length_cons, List.length_nil]; omega
    have he : elemsOf σ1 1 (.str x) = some (x.map byteAV) := rfl
    obtain ⟨P, v, σ2, D', a1, a2, a3, a4, a5, a6⟩ := app_step q1 x (.inr (by simp [u32])) (bad || (ss.take (i + 1)).any badT) he rfl (by simp only [List.length_append, List.flatMap_cons, List.flatMap_nil, u32_len, List.append_nil]; omega)
    have a3' := cell_cells a3
    have hB : (bad || (ss.take (i + 1)).any badT) = ((bad || (ss.take i).any badT) || [(x.length : Int)].any badN) := by rw [htk]; simp [Bool.or_assoc, badT]
    rw [← hB] at a1 a4
    generalize hB' : (bad || (ss.take (i + 1)).any badT) = B at *
    simp only [E1_app, Z27, base1, ↓reduceIte, Nat.reduceAdd, Nat.reduceSub, Nat.reduceMul, Nat.reduceEqDiff, Nat.reduceLeDiff, Nat.reduceLT, Int.reduceLT, Int.reduceLE, Int.reduceEq, Int.reduceNe, Int.reduceToNat, Int.reduceAdd, Int.reduceSub, reduceCtorEq, Nat.reduceBEq, Nat.reduceBNe, h0, h6, h7, h8, a1, a2, a3, a3', a4, hw]
    rw [loopR_normal]
    refine ⟨ss.length - (i + 1), _, _, by omega, .refl _ _ _, i + 1, D', hlt, rfl, ?_, ((hf.trans f1).trans f2).trans a6, ?_, ?_, ?_, ?_⟩
    · rw [hB', htk, List.flatMap_append, ← List.append_assoc]
      simpa [txt] using a5
    all_goals simp only [putD_some, putD_none, Nat.reduceEqDiff, ↓reduceIte, h0, h6, h7, h8, hw]
  · have hlt' : ¬ (i : Int) < (ss.length : Int) := by omega
    have hie : i = ss.length := by omega
    subst hie
    rw [List.take_length] at hp
    simp only [E1_app, Z27, base1, baseE, ↓reduceIte, Nat.reduceAdd, Nat.reduceSub, Nat.reduceMul, Nat.reduceEqDiff, Nat.reduceLeDiff, Nat.reduceLT, Int.reduceLT, Int.reduceLE, Int.reduceEq, Int.reduceNe, Int.reduceToNat, Int.reduceAdd, Int.reduceSub, reduceCtorEq, Nat.reduceBEq, Nat.reduceBNe, loopR_exit, loopR_ret, h0, h6, h7, h8, hlt']
    exact hQ _ _ hp hf
def textD (args : List AV) (σ : AHeap) (K : AV → AHeap → Prop) : Prop :=
  ∃ (id s : Nat) (ss : List (List UInt8)) (cap : Option Nat) (bs : List UInt8) (bad : Bool) (D : Option Nat), args = [.ptr id 0, .slice s 0 ss.length cap 1] ∧ hget σ s = some (ss.map fun n => AV.str n) ∧ s ≠ id ∧ D ≠ some s ∧ bs.length + total ss ≤ 1000000000 ∧ ss.length ≤ 1000000000 ∧ Pk σ id bs bad D ∧
    ∀ σ' D', Pk σ' id (bs ++ ss.flatMap txt) (bad || ss.any badT) D' → Fr σ σ' id D D' → K (.tuple []) σ'
theorem textD_ok (args : List AV) (σ : AHeap) (K : AV → AHeap → Prop) (h : textD args σ K) : Tri Try.prog 27 args σ K := by
  obtain ⟨id, s, ss, cap, bs, bad, D, rfl, h1, h2, h3, h4, h4', h5, h6⟩ := h
  refine Tri.of_s c27 E1_sound ?_
  simp only [E1_app, Z27, base1, baseE, ↓reduceIte, Nat.reduceAdd, Nat.reduceSub, Nat.reduceMul, Nat.reduceEqDiff, Nat.reduceLeDiff, Nat.reduceLT, Int.reduceLT, Int.reduceLE, Int.reduceEq, Int.reduceNe, Int.reduceToNat, Int.reduceAdd, Int.reduceSub, reduceCtorEq, Nat.reduceBEq, Nat.reduceBNe]
  refine sC_inv (a := b27_12) (textI id s ss cap bs bad σ D) ss.length _ σ (.refl _ _ _) ⟨0, D, Nat.zero_le _, rfl, by simpa using h5, Fr.refl _ _ _, rfl, rfl, rfl, rfl⟩ (text_step id s ss cap bs bad σ D h1 h2 h3 h4 h4' K h6 σ.length)
/-! Truth, packed. -/
def truthD (args : List AV) (σ : AHeap) (K : AV → AHeap → Prop) : Prop :=
  ∃ (id : Nat) (t : Bool) (bs : List UInt8) (bad : Bool) (D : Option Nat), args = [.ptr id 0, .bool t] ∧ bs.length + 1 ≤ 1000000000 ∧ Pk σ id bs bad D ∧
    ∀ σ' D', Pk σ' id (bs ++ [if t then 1 else 0]) bad D' → Fr σ σ' id D D' → K (.tuple []) σ'
theorem truthD_ok (args : List AV) (σ : AHeap) (K : AV → AHeap → Prop) (h : truthD args σ K) : Tri Try.prog 32 args σ K := by
  obtain ⟨id, t, bs, bad, D, rfl, h1, h2, h3⟩ := h
  refine Tri.of_s c32 (noCall_sound _) ?_
  have key : ∀ b : UInt8, b = (if t then 1 else 0) → ∃ P v σ2 D', hget σ id = some [P, .bool bad] ∧ evAppend 1 1 P (.slice σ.length 0 1 (some 1) 1) (hpush σ [byteAV b]) = some (v, σ2) ∧ v.isCell = true ∧ v.cells? = some [v] ∧ hget σ2 id = some [P, .bool bad] ∧ Pk (hset σ2 id [v, .bool bad]) id (bs ++ [b]) bad D' ∧ Fr σ (hset σ2 id [v, .bool bad]) id D D' := by
    intro b _
    obtain ⟨p1, f1⟩ := pk_push h2 [byteAV b]
    have he : elemsOf (hpush σ [byteAV b]) 1 (.slice σ.length 0 1 (some 1) 1) = some ([b].map byteAV) := by
      simp only [elemsOf, if_true, push_new rfl, Option.bind_some, Nat.mul_one]
      exact sub_all rfl
    obtain ⟨P, v, σ2, D', a1, a2, a3, a4, a5, a6⟩ := app_step p1 [b] (.inl (by simp)) bad he rfl (by simpa using h1)
    obtain ⟨P', hP'⟩ := pk_get h2
    have : P' = P := by
      have := push_old (c := [byteAV b]) hP'
      rw [this] at a1; simp at a1; exact a1
    subst this
    exact ⟨P', v, σ2, D', hP', a2, a3, cell_cells a3, a4, a5, f1.trans a6⟩
  cases t with
  | true =>
    obtain ⟨P, v, σ2, D', a1, a2, a3, a3', a4, a5, a6⟩ := key 1 rfl
    have hb : byteAV 1 = .int .u8 1 := rfl
    rw [hb] at a2
    simp only [Z32, base1, ↓reduceIte, Nat.reduceAdd, Nat.reduceSub, Nat.reduceMul, Nat.reduceEqDiff, Nat.reduceLeDiff, Nat.reduceLT, Int.reduceLT, Int.reduceLE, Int.reduceEq, Int.reduceNe, Int.reduceToNat, Int.reduceAdd, Int.reduceSub, reduceCtorEq, Nat.reduceBEq, Nat.reduceBNe, a1, a2, a3, a3', a4]
    exact h3 _ _ a5 a6
  | false =>
    obtain ⟨P, v, σ2, D', a1, a2, a3, a3', a4, a5, a6⟩ := key 0 rfl
    have hb : byteAV 0 = .int .u8 0 := rfl
    rw [hb] at a2
    simp only [Z32, base1, ↓reduceIte, Nat.reduceAdd, Nat.reduceSub, Nat.reduceMul, Nat.reduceEqDiff, Nat.reduceLeDiff, Nat.reduceLT, Int.reduceLT, Int.reduceLE, Int.reduceEq, Int.reduceNe, Int.reduceToNat, Int.reduceAdd, Int.reduceSub, reduceCtorEq, Nat.reduceBEq, Nat.reduceBNe, a1, a2, a3, a3', a4]
    exact h3 _ _ a5 a6
def packedD (args : List AV) (σ : AHeap) (K : AV → AHeap → Prop) : Prop :=
  ∃ (id : Nat) (bs : List UInt8) (bad : Bool) (d : Nat), args = [.ptr id 0] ∧ Pk σ id bs bad (some d) ∧
    K (if (bad || decide (32768 < bs.length)) = true then .tuple [.nilslice, .int .i64 1] else .tuple [.slice d 0 bs.length none 1, .int .i64 0]) σ
theorem packedD_ok (args : List AV) (σ : AHeap) (K : AV → AHeap → Prop) (h : packedD args σ K) : Tri Try.prog 31 args σ K := by
  obtain ⟨id, bs, bad, d, rfl, h1, h2⟩ := h
  refine Tri.of_s c31 (noCall_sound _) ?_
  rcases h1 with ⟨h, _⟩ | ⟨d', hd, _, hg, _⟩
  · cases h
  · cases hd
    cases bad with
    | true =>
      simp only [Z31, base1, baseE, ↓reduceIte, Nat.reduceAdd, Nat.reduceSub, Nat.reduceMul, Nat.reduceEqDiff, Nat.reduceLeDiff, Nat.reduceLT, Int.reduceLT, Int.reduceLE, Int.reduceEq, Int.reduceNe, Int.reduceToNat, Int.reduceAdd, Int.reduceSub, reduceCtorEq, Nat.reduceBEq, Nat.reduceBNe, hg]
      exact h2
    | false =>
      by_cases hl : (32768 : Int) < (bs.length : Int)
      · have hl' : 32768 < bs.length := by omega
        simp only [hl', decide_true, Bool.or_true, if_true] at h2
        simp only [Z31, base1, baseE, ↓reduceIte, Nat.reduceAdd, Nat.reduceSub, Nat.reduceMul, Nat.reduceEqDiff, Nat.reduceLeDiff, Nat.reduceLT, Int.reduceLT, Int.reduceLE, Int.reduceEq, Int.reduceNe, Int.reduceToNat, Int.reduceAdd, Int.reduceSub, reduceCtorEq, Nat.reduceBEq, Nat.reduceBNe, hg, hl]
        exact h2
      · have hl' : ¬ 32768 < bs.length := by omega
        simp only [hl', decide_false, Bool.or_false, Bool.false_eq_true, if_false] at h2
        simp only [Z31, base1, baseE, ↓reduceIte, Nat.reduceAdd, Nat.reduceSub, Nat.reduceMul, Nat.reduceEqDiff, Nat.reduceLeDiff, Nat.reduceLT, Int.reduceLT, Int.reduceLE, Int.reduceEq, Int.reduceNe, Int.reduceToNat, Int.reduceAdd, Int.reduceSub, reduceCtorEq, Nat.reduceBEq, Nat.reduceBNe, hg, hl]
        exact h2
def E2 : PCall := rowQ 26 numD (rowQ 27 textD (rowQ 31 packedD (rowQ 32 truthD noCall)))
theorem E2_app {f : FuncId} {args : List AV} {σ : AHeap} {K : AV → AHeap → Prop} : E2 f args σ K = rowQ 26 numD (rowQ 27 textD (rowQ 31 packedD (rowQ 32 truthD noCall))) f args σ K := _root_.id rfl
theorem E2_sound : Sound Try.prog E2 := rowQ_sound numD_ok (rowQ_sound textD_ok (rowQ_sound packedD_ok (rowQ_sound truthD_ok (noCall_sound _))))
/-! Ask. -/
structure AskV where
  do_ : Int
  client : Int
  seq : Int
  text : List UInt8
  val : List UInt8
  from_ : List UInt8
  to : List UInt8
  limit : Int
def AskV.cells (a : AskV) : List AV := [.int .i64 a.do_, .int .i64 a.client, .int .i64 a.seq, .str a.text, .str a.val, .str a.from_, .str a.to, .int .i64 a.limit]
def AskV.nums (a : AskV) : List Int := [a.do_, a.client, a.seq, a.limit]
def AskV.texts (a : AskV) : List (List UInt8) := [a.text, a.val, a.from_, a.to]
def AskV.bytes (a : AskV) : List UInt8 := a.nums.flatMap u32 ++ a.texts.flatMap txt
def AskV.bad (a : AskV) : Bool := (a.nums.any badN || a.texts.any badT) || decide (32768 < a.bytes.length)
/-- What a packer answers. -/
def packR (bad : Bool) (bs : List UInt8) : AV := if bad = true then .tuple [.nilslice, .int .i64 1] else .tuple [.imm (bs.map fun b => [byteAV b]) false false, .int .i64 0]
theorem rows_flat (bs : List UInt8) : (bs.map fun b => [byteAV b]).flatten = bs.map byteAV := by
  induction bs with
  | nil => rfl
  | cons b r ih => simp [ih]
theorem pack_less {f : FuncId} {args : List AV} {bad : Bool} {bs : List UInt8} (h : Tri Try.prog f args [] fun r σ' => ∃ d, hget σ' d = some (bs.map byteAV) ∧ r = if bad = true then .tuple [.nilslice, .int .i64 1] else .tuple [.slice d 0 bs.length none 1, .int .i64 0]) :
    Tri Try.prog f args [] fun r _ => r.cleanD ∧ r = packR bad bs := by
  refine h.less fun r σ' hr => ?_
  obtain ⟨d, hd, rfl⟩ := hr
  refine ⟨[], packR bad bs, [], rfl, by unfold blksP; trivial, ?_, ?_, rfl⟩
  · unfold packR
    cases bad with
    | true => simp [wv, wvs]
    | false =>
      simp only [Bool.false_eq_true, if_false, wv, wvs, and_true, true_and]
      refine ⟨by simp, ⟨_, hd, by rw [rows_flat, Nat.mul_one]; exact sub_all (by simp)⟩, by simp, ?_, by simp, by simp, ?_⟩
      · intro r hr
        obtain ⟨b, _, rfl⟩ := List.mem_map.1 hr
        rfl
      · intro r hr x hx
        obtain ⟨b, _, rfl⟩ := List.mem_map.1 hr
        simp at hx; subst hx; rfl
  · unfold packR
    cases bad with
    | true => intro v hv; simp at hv; rcases hv with rfl | rfl <;> rfl
    | false =>
      intro v hv
      simp at hv
      rcases hv with rfl | rfl
      · intro r hr x hx
        obtain ⟨b, _, rfl⟩ := List.mem_map.1 hr
        simp at hx; subst hx; rfl
      · rfl
theorem pk_some {σ : AHeap} {id : Nat} {bs : List UInt8} {bad : Bool} {D : Option Nat} (h : Pk σ id bs bad D) (hb : bs ≠ []) : ∃ d, D = some d ∧ hget σ d = some (bs.map byteAV) := by
  rcases h with ⟨_, h, _⟩ | ⟨d, hd, _, _, hg⟩
  · exact absurd h hb
  · exact ⟨d, hd, hg⟩
theorem ask_ok (a : AskV) (hsz : total a.texts ≤ 900000000) : Tri Try.prog 13 [.agg a.cells] [] fun r _ => r.cleanD ∧ r = packR a.bad a.bytes := by
  refine pack_less (Tri.of_s c13 E2_sound ?_)
  obtain ⟨do_, client, seq, text, val, from_, to, limit⟩ := a
  simp only [AskV.cells, AskV.texts] at hsz ⊢
  simp only [E2_app, Z13, base1, baseE, ↓reduceIte, Nat.reduceAdd, Nat.reduceSub, Nat.reduceMul, Nat.reduceEqDiff, Nat.reduceLeDiff, Nat.reduceLT, Int.reduceLT, Int.reduceLE, Int.reduceEq, Int.reduceNe, Int.reduceToNat, Int.reduceAdd, Int.reduceSub, reduceCtorEq, Nat.reduceBEq, Nat.reduceBNe]
  refine ⟨1, 2, [do_, client, seq, limit], some 4, [], false, none, rfl, rfl, by decide, by simp, by simp, .inl ⟨rfl, rfl, rfl⟩, fun σ1 D1 q1 f1 => ?_⟩
  obtain ⟨g0, g0'⟩ := f1 0 _ rfl (by decide) (by simp)
  simp only [E2_app, Z13, base1, baseE, ↓reduceIte, Nat.reduceAdd, Nat.reduceSub, Nat.reduceMul, Nat.reduceEqDiff, Nat.reduceLeDiff, Nat.reduceLT, Int.reduceLT, Int.reduceLE, Int.reduceEq, Int.reduceNe, Int.reduceToNat, Int.reduceAdd, Int.reduceSub, reduceCtorEq, Nat.reduceBEq, Nat.reduceBNe, g0]
  obtain ⟨p1, r1⟩ := pk_push q1 [.str text, .str val, .str from_, .str to]
  refine ⟨1, σ1.length, [text, val, from_, to], some 4, _, _, D1, rfl, push_new rfl, ?_, ?_, ?_, by simp, p1, fun σ2 D2 q2 f2 => ?_⟩
  · obtain ⟨P, hP⟩ := pk_get q1; have := hget_lt hP; omega
  · obtain ⟨d, rfl, hd⟩ := pk_some q1 (by simp [u32])
    have := hget_lt hd; simp; omega
  · have : ([] ++ [do_, client, seq, limit].flatMap u32).length = 16 := rfl
    rw [this]; omega
  obtain ⟨d, rfl, hd⟩ := pk_some q2 (by simp [u32])
  simp only [E2_app, Z13, base1, baseE, ↓reduceIte, Nat.reduceAdd, Nat.reduceSub, Nat.reduceMul, Nat.reduceEqDiff, Nat.reduceLeDiff, Nat.reduceLT, Int.reduceLT, Int.reduceLE, Int.reduceEq, Int.reduceNe, Int.reduceToNat, Int.reduceAdd, Int.reduceSub, reduceCtorEq, Nat.reduceBEq, Nat.reduceBNe]
  refine ⟨1, _, _, d, rfl, q2, ?_⟩
  have hb : (((false || [do_, client, seq, limit].any badN) || [text, val, from_, to].any badT) || decide (32768 < ([] ++ [do_, client, seq, limit].flatMap u32 ++ [text, val, from_, to].flatMap txt).length)) = AskV.bad ⟨do_, client, seq, text, val, from_, to, limit⟩ := rfl
  rw [hb]
  have hbs : [] ++ [do_, client, seq, limit].flatMap u32 ++ [text, val, from_, to].flatMap txt = AskV.bytes ⟨do_, client, seq, text, val, from_, to, limit⟩ := rfl
  rw [hbs] at hd ⊢
  cases AskV.bad ⟨do_, client, seq, text, val, from_, to, limit⟩ with
  | true =>
    simp only [E2_app, Z13, base1, baseE, ↓reduceIte, Nat.reduceAdd, Nat.reduceSub, Nat.reduceMul, Nat.reduceEqDiff, Nat.reduceLeDiff, Nat.reduceLT, Int.reduceLT, Int.reduceLE, Int.reduceEq, Int.reduceNe, Int.reduceToNat, Int.reduceAdd, Int.reduceSub, reduceCtorEq, Nat.reduceBEq, Nat.reduceBNe]
    exact ⟨d, hd⟩
  | false =>
    simp only [E2_app, Z13, base1, baseE, ↓reduceIte, Nat.reduceAdd, Nat.reduceSub, Nat.reduceMul, Nat.reduceEqDiff, Nat.reduceLeDiff, Nat.reduceLT, Int.reduceLT, Int.reduceLE, Int.reduceEq, Int.reduceNe, Int.reduceToNat, Int.reduceAdd, Int.reduceSub, reduceCtorEq, Nat.reduceBEq, Nat.reduceBNe]
    exact ⟨d, hd, rfl⟩
theorem pk_set {σ : AHeap} {id : Nat} {bs : List UInt8} {bad : Bool} {D : Option Nat} (h : Pk σ id bs bad D) {j : Nat} {c : List AV} (hj : j ≠ id) (hD : D ≠ some j) : Pk (hset σ j c) id bs bad D := by
  rcases h with ⟨rfl, rfl, h⟩ | ⟨d, rfl, hd, h, hb⟩
  · exact .inl ⟨rfl, rfl, by rw [set_other hj]; exact h⟩
  · exact .inr ⟨d, rfl, hd, by rw [set_other hj]; exact h, by rw [set_other (fun e => hD (by rw [e]))]; exact hb⟩
/-! Reply. -/
structure RepV where
  client : Int
  seq : Int
  err : Int
  found : Bool
  val : List UInt8
  l : List (List UInt8 × List UInt8)
  next : List UInt8
  more : Bool
def recs (l : List (List UInt8 × List UInt8)) : List (List AV) := l.map fun p => [.str p.1, .str p.2]
def RepV.cells (a : RepV) : List AV := [.int .i64 a.client, .int .i64 a.seq, .int .i64 a.err, .bool a.found, .str a.val, .imm (recs a.l) false false, .str a.next, .bool a.more]
def tb (t : Bool) : List UInt8 := [if t then 1 else 0]
def txt2 (p : List UInt8 × List UInt8) : List UInt8 := txt p.1 ++ txt p.2
def badT2 (p : List UInt8 × List UInt8) : Bool := badT p.1 || badT p.2
def RepV.head (a : RepV) : List UInt8 := [a.client, a.seq, a.err].flatMap u32 ++ tb a.found ++ [a.val].flatMap txt ++ [(a.l.length : Int)].flatMap u32
def RepV.bytes (a : RepV) : List UInt8 := a.head ++ a.l.flatMap txt2 ++ [a.next].flatMap txt ++ tb a.more
def RepV.badH (a : RepV) : Bool := ([a.client, a.seq, a.err].any badN || [a.val].any badT) || [(a.l.length : Int)].any badN
def RepV.bad (a : RepV) : Bool := ((a.badH || a.l.any badT2) || [a.next].any badT) || decide (32768 < a.bytes.length)
def repI (a : RepV) (n : Nat) (e : Env) (σ : AHeap) : Prop :=
  ∃ (i d : Nat), i ≤ a.l.length ∧ n = a.l.length - i ∧ Pk σ 1 (a.head ++ (a.l.take i).flatMap txt2) (a.badH || (a.l.take i).any badT2) (some d) ∧ hget σ 0 = some a.cells ∧ d ≠ 0 ∧
    e 1 = .ptr 0 0 ∧ e 4 = .ptr 1 0 ∧ e 28 = .imm (recs a.l) false false ∧ e 29 = .int .i64 (a.l.length : Int) ∧ e 30 = .int .i64 (i : Int)
theorem rep_tot {l : List (List UInt8 × List UInt8)} {i : Nat} {x : List UInt8 × List UInt8} (hx : l[i]? = some x) : ((l.take i).flatMap txt2).length + total [x.1, x.2] ≤ (l.flatMap txt2).length := by
  have h1 : l = l.take i ++ x :: l.drop (i + 1) := by
    have hlt := (List.getElem?_eq_some_iff.1 hx).1
    have := (List.getElem?_eq_some_iff.1 hx).2
    rw [← this, List.getElem_cons_drop, List.take_append_drop]
  conv => rhs; rw [h1]
  simp only [List.flatMap_append, List.flatMap_cons, List.length_append, txt2, total, List.flatMap_nil, List.length_nil]
  omega
theorem rep_step (a : RepV) (hsz : a.bytes.length ≤ 900000000) (Q : AV → AHeap → Prop) (hQ : ∀ σ d, hget σ d = some (a.bytes.map byteAV) → Q (if a.bad = true then .tuple [.nilslice, .int .i64 1] else .tuple [.slice d 0 a.bytes.length none 1, .int .i64 0]) σ) (n : Nat) (e : Env) (σ : AHeap) (h : repI a n e σ) :
    sC E2 0 b14_16 (unw E2 0 (loopR E2 0 (RetQ [MRes.t 2, MRes.t 3] Q) (.block 0 (.seq b14_25 .fin)) (repI a) n) .fin) e σ := by
  obtain ⟨i, d, hi, hn, hp, g0, hd0, h1, h4, h28, h29, h30⟩ := h
  rcases Nat.lt_or_ge i a.l.length with hlt | hge
  · have hlt' : (i : Int) < (a.l.length : Int) := by omega
    have hge0 : (0 : Int) ≤ (i : Int) := by omega
    obtain ⟨x, hx⟩ : ∃ x, a.l[i]? = some x := ⟨_, List.getElem?_eq_getElem hlt⟩
    have hxx : (recs a.l)[i]? = some [.str x.1, .str x.2] := by simp [recs, hx]
    have hlen : (recs a.l).length = a.l.length := by simp [recs]
    have htk : a.l.take (i + 1) = a.l.take i ++ [x] := by rw [List.take_add_one, hx]; rfl
    have hw : IntKind.wrap .i64 ((i : Int) + 1) = ((i + 1 : Nat) : Int) := by
      have : a.l.length ≤ a.bytes.length := by
        have : ∀ l : List (List UInt8 × List UInt8), l.length ≤ (l.flatMap txt2).length := by
          intro l; induction l with
          | nil => simp
          | cons a l ih => simp only [List.flatMap_cons, List.length_append, List.length_cons, txt2, txt, u32_len]; omega
        have := this a.l
        simp only [RepV.bytes, List.length_append]; omega
      rw [Gz.wrap64 (by omega)]; omega
    have sn : hget (hset (hpush σ [AV.str [], AV.str []]) σ.length [.str x.1, .str x.2]) σ.length = some [.str x.1, .str x.2] := set_same (push_new rfl)
    have pn : hget (hpush σ [AV.str [], AV.str []]) σ.length = some [AV.str [], AV.str []] := push_new rfl
    have hp1 : 1 < σ.length := by obtain ⟨P, hP⟩ := pk_get hp; exact hget_lt hP
    have hdl : d < σ.length := by
      rcases hp with ⟨h, _⟩ | ⟨d', h, _, _, hb⟩
      · cases h
      · cases h; exact hget_lt hb
    simp only [E2_app, Z14, base1, baseE, ↓reduceIte, Nat.reduceAdd, Nat.reduceSub, Nat.reduceMul, Nat.reduceEqDiff, Nat.reduceLeDiff, Nat.reduceLT, Int.reduceLT, Int.reduceLE, Int.reduceEq, Int.reduceNe, Int.reduceToNat, Int.reduceAdd, Int.reduceSub, reduceCtorEq, Nat.reduceBEq, Nat.reduceBNe, loopR_exit, loopR_ret, h1, h4, h28, h29, h30, hlt', hlt, hge0, hxx, hlen, sn, pn, set_len, push_len, Int.toNat_natCast]
    have p1 := (pk_push (pk_set (pk_push hp [AV.str [], AV.str []]).1 (j := σ.length) (c := [.str x.1, .str x.2]) (by omega) (by simp; omega)) [AV.str x.1, AV.str x.2]).1
    have z1 : hget (hpush (hset (hpush σ [AV.str [], AV.str []]) σ.length [.str x.1, .str x.2]) [AV.str x.1, AV.str x.2]) 0 = some a.cells := push_old (by rw [set_other (by omega)]; exact push_old g0)
    have htot := rep_tot hx
    refine ⟨1, σ.length + 1, [x.1, x.2], some 2, _, _, some d, rfl, push_new (by simp [set_len, push_len]), by omega, by simp; omega, ?_, by simp, p1, fun σ2 D2 q2 f2 => ?_⟩
    · simp only [RepV.bytes, List.length_append] at hsz ⊢; omega
    obtain ⟨z2, z3⟩ := f2 0 _ z1 (by decide) (by simp; exact fun e => hd0 e)
    obtain ⟨d2, rfl, hd2⟩ := pk_some q2 (by simp [txt, u32])
    simp only [E2_app, Z14, base1, baseE, ↓reduceIte, Nat.reduceAdd, Nat.reduceSub, Nat.reduceMul, Nat.reduceEqDiff, Nat.reduceLeDiff, Nat.reduceLT, Int.reduceLT, Int.reduceLE, Int.reduceEq, Int.reduceNe, Int.reduceToNat, Int.reduceAdd, Int.reduceSub, reduceCtorEq, Nat.reduceBEq, Nat.reduceBNe, h1, h4, h28, h29, h30, hw]
    rw [loopR_normal]
    refine ⟨a.l.length - (i + 1), _, _, by omega, .refl _ _ _, i + 1, d2, hlt, rfl, ?_, z2, fun e => z3 (by rw [e]), ?_, ?_, ?_, ?_, ?_⟩
    · have e1 : a.head ++ (a.l.take (i + 1)).flatMap txt2 = a.head ++ (a.l.take i).flatMap txt2 ++ [x.1, x.2].flatMap txt := by rw [htk]; simp [txt2]
      have e2 : (a.badH || (a.l.take (i + 1)).any badT2) = ((a.badH || (a.l.take i).any badT2) || [x.1, x.2].any badT) := by rw [htk]; simp [badT2, Bool.or_assoc]
      rw [e1, e2]; exact q2
    all_goals simp only [putD_some, putD_none, Nat.reduceEqDiff, ↓reduceIte, h1, h4, h28, h29, h30, hw]
  · have hlt' : ¬ (i : Int) < (a.l.length : Int) := by omega
    have hie : i = a.l.length := by omega
    subst hie
    rw [List.take_length] at hp
    simp only [RepV.cells] at g0
    simp only [E2_app, Z14, base1, baseE, ↓reduceIte, Nat.reduceAdd, Nat.reduceSub, Nat.reduceMul, Nat.reduceEqDiff, Nat.reduceLeDiff, Nat.reduceLT, Int.reduceLT, Int.reduceLE, Int.reduceEq, Int.reduceNe, Int.reduceToNat, Int.reduceAdd, Int.reduceSub, reduceCtorEq, Nat.reduceBEq, Nat.reduceBNe, loopR_exit, loopR_ret, h1, h4, h28, h29, h30, hlt', g0]
    have hp1 : 1 < σ.length := by obtain ⟨P, hP⟩ := pk_get hp; exact hget_lt hP
    have hdl : d < σ.length := by
      rcases hp with ⟨h, _⟩ | ⟨d', h, _, _, hb⟩
      · cases h
      · cases h; exact hget_lt hb
    obtain ⟨p1, r1⟩ := pk_push hp [AV.str a.next]
    refine ⟨1, σ.length, [a.next], some 1, _, _, some d, rfl, push_new rfl, by omega, by simp; omega, ?_, by simp, p1, fun σ2 D2 q2 f2 => ?_⟩
    · simp only [RepV.bytes, List.length_append] at hsz ⊢; simp only [total]; omega
    obtain ⟨z2, z3⟩ := f2 0 _ (push_old g0) (by decide) (by simp; exact fun e => hd0 e)
    simp only [E2_app, Z14, base1, baseE, ↓reduceIte, Nat.reduceAdd, Nat.reduceSub, Nat.reduceMul, Nat.reduceEqDiff, Nat.reduceLeDiff, Nat.reduceLT, Int.reduceLT, Int.reduceLE, Int.reduceEq, Int.reduceNe, Int.reduceToNat, Int.reduceAdd, Int.reduceSub, reduceCtorEq, Nat.reduceBEq, Nat.reduceBNe, h1, h4, z2]
    refine ⟨1, a.more, _, _, D2, rfl, ?_, q2, fun σ3 D3 q3 f3 => ?_⟩
    · simp only [RepV.bytes, List.length_append] at hsz ⊢; omega
    obtain ⟨d3, rfl, hd3⟩ := pk_some q3 (by simp)
    simp only [E2_app, Z14, base1, baseE, ↓reduceIte, Nat.reduceAdd, Nat.reduceSub, Nat.reduceMul, Nat.reduceEqDiff, Nat.reduceLeDiff, Nat.reduceLT, Int.reduceLT, Int.reduceLE, Int.reduceEq, Int.reduceNe, Int.reduceToNat, Int.reduceAdd, Int.reduceSub, reduceCtorEq, Nat.reduceBEq, Nat.reduceBNe, h1, h4]
    refine ⟨1, _, _, d3, rfl, q3, ?_⟩
    have hh := hQ σ3 d3 hd3
    have hb : (((a.badH || a.l.any badT2) || [a.next].any badT) || decide (32768 < (a.head ++ a.l.flatMap txt2 ++ [a.next].flatMap txt ++ [if a.more = true then 1 else 0]).length)) = a.bad := rfl
    rw [hb]
    generalize a.bad = B at hh
    cases B with
    | true =>
      simp only [E2_app, Z14, base1, baseE, ↓reduceIte, Nat.reduceAdd, Nat.reduceSub, Nat.reduceMul, Nat.reduceEqDiff, Nat.reduceLeDiff, Nat.reduceLT, Int.reduceLT, Int.reduceLE, Int.reduceEq, Int.reduceNe, Int.reduceToNat, Int.reduceAdd, Int.reduceSub, reduceCtorEq, Nat.reduceBEq, Nat.reduceBNe] at hh ⊢
      exact hh
    | false =>
      have hl : a.bytes.length = a.head.length + (a.l.flatMap txt2).length + ([a.next].flatMap txt).length + 1 := by simp only [RepV.bytes, tb, List.length_append, List.length_cons, List.length_nil]
      rw [hl] at hh
      simp only [E2_app, Z14, base1, baseE, ↓reduceIte, Nat.reduceAdd, Nat.reduceSub, Nat.reduceMul, Nat.reduceEqDiff, Nat.reduceLeDiff, Nat.reduceLT, Int.reduceLT, Int.reduceLE, Int.reduceEq, Int.reduceNe, Int.reduceToNat, Int.reduceAdd, Int.reduceSub, reduceCtorEq, Nat.reduceBEq, Nat.reduceBNe] at hh ⊢
      exact hh
theorem reply_ok (a : RepV) (hsz : a.bytes.length ≤ 900000000) : Tri Try.prog 14 [.agg a.cells] [] fun r _ => r.cleanD ∧ r = packR a.bad a.bytes := by
  refine pack_less (Tri.of_s c14 E2_sound ?_)
  simp only [RepV.cells]
  simp only [E2_app, Z14, base1, baseE, ↓reduceIte, Nat.reduceAdd, Nat.reduceSub, Nat.reduceMul, Nat.reduceEqDiff, Nat.reduceLeDiff, Nat.reduceLT, Int.reduceLT, Int.reduceLE, Int.reduceEq, Int.reduceNe, Int.reduceToNat, Int.reduceAdd, Int.reduceSub, reduceCtorEq, Nat.reduceBEq, Nat.reduceBNe]
  have hlb : 12 + 1 + (4 + a.val.length) + 4 ≤ 900000000 := by
    simp only [RepV.bytes, RepV.head, List.length_append, List.flatMap_cons, List.flatMap_nil, List.length_nil, u32_len, txt, tb, List.length_cons] at hsz
    omega
  refine ⟨1, 2, [a.client, a.seq, a.err], some 3, [], false, none, rfl, rfl, by decide, by simp, by simp, .inl ⟨rfl, rfl, rfl⟩, fun σ1 D1 q1 f1 => ?_⟩
  obtain ⟨g1, k1⟩ := f1 0 _ rfl (by decide) (by simp)
  simp only [E2_app, Z14, base1, baseE, ↓reduceIte, Nat.reduceAdd, Nat.reduceSub, Nat.reduceMul, Nat.reduceEqDiff, Nat.reduceLeDiff, Nat.reduceLT, Int.reduceLT, Int.reduceLE, Int.reduceEq, Int.reduceNe, Int.reduceToNat, Int.reduceAdd, Int.reduceSub, reduceCtorEq, Nat.reduceBEq, Nat.reduceBNe, g1]
  refine ⟨1, a.found, _, _, D1, rfl, by simp [u32], q1, fun σ2 D2 q2 f2 => ?_⟩
  obtain ⟨g2, k2⟩ := f2 0 _ g1 (by decide) k1
  simp only [E2_app, Z14, base1, baseE, ↓reduceIte, Nat.reduceAdd, Nat.reduceSub, Nat.reduceMul, Nat.reduceEqDiff, Nat.reduceLeDiff, Nat.reduceLT, Int.reduceLT, Int.reduceLE, Int.reduceEq, Int.reduceNe, Int.reduceToNat, Int.reduceAdd, Int.reduceSub, reduceCtorEq, Nat.reduceBEq, Nat.reduceBNe, g2]
  obtain ⟨p2, r2⟩ := pk_push q2 [AV.str a.val]
  obtain ⟨d2, rfl, hd2⟩ := pk_some q2 (by simp)
  refine ⟨1, σ2.length, [a.val], some 1, _, _, some d2, rfl, push_new rfl, ?_, ?_, ?_, by simp, p2, fun σ3 D3 q3 f3 => ?_⟩
  · obtain ⟨P, hP⟩ := pk_get q2; have := hget_lt hP; omega
  · have := hget_lt hd2; simp; omega
  · simp [u32, total, txt]; omega
  obtain ⟨g3, k3⟩ := f3 0 _ (push_old g2) (by decide) k2
  simp only [E2_app, Z14, base1, baseE, ↓reduceIte, Nat.reduceAdd, Nat.reduceSub, Nat.reduceMul, Nat.reduceEqDiff, Nat.reduceLeDiff, Nat.reduceLT, Int.reduceLT, Int.reduceLE, Int.reduceEq, Int.reduceNe, Int.reduceToNat, Int.reduceAdd, Int.reduceSub, reduceCtorEq, Nat.reduceBEq, Nat.reduceBNe, g3]
  have hrl : (recs a.l).length = a.l.length := by simp [recs]
  simp only [hrl]
  obtain ⟨p3, r3⟩ := pk_push q3 [AV.int .i64 (a.l.length : Int)]
  obtain ⟨d3, rfl, hd3⟩ := pk_some q3 (by simp)
  refine ⟨1, σ3.length, [(a.l.length : Int)], some 1, _, _, some d3, rfl, push_new rfl, ?_, ?_, ?_, p3, fun σ4 D4 q4 f4 => ?_⟩
  · obtain ⟨P, hP⟩ := pk_get q3; have := hget_lt hP; omega
  · have := hget_lt hd3; simp; omega
  · simp [u32, txt]; omega
  obtain ⟨g4, k4⟩ := f4 0 _ (push_old g3) (by decide) k3
  obtain ⟨d4, rfl, hd4⟩ := pk_some q4 (by simp [u32])
  simp only [E2_app, Z14, base1, baseE, ↓reduceIte, Nat.reduceAdd, Nat.reduceSub, Nat.reduceMul, Nat.reduceEqDiff, Nat.reduceLeDiff, Nat.reduceLT, Int.reduceLT, Int.reduceLE, Int.reduceEq, Int.reduceNe, Int.reduceToNat, Int.reduceAdd, Int.reduceSub, reduceCtorEq, Nat.reduceBEq, Nat.reduceBNe, g4, hrl]
  refine sC_inv (a := b14_16) (repI a) a.l.length _ σ4 (.refl _ _ _) ⟨0, d4, Nat.zero_le _, rfl, ?_, g4, fun e => k4 (by rw [e]), rfl, rfl, rfl, rfl, rfl⟩ (rep_step a hsz _ fun σ d hd => ⟨d, hd, rfl⟩)
  simpa [RepV.head, RepV.badH, tb, Bool.or_assoc] using q4
/-! Small, the same. -/
def AskV.okS (a : AskV) : Prop := a.text.length ≤ 140737488351232 ∧ a.val.length ≤ 140737488351232 ∧ a.from_.length ≤ 140737488351232 ∧ a.to.length ≤ 140737488351232
def AskV.small (a : AskV) : Bool := decide ((a.text.length : Int) + a.val.length + a.from_.length + a.to.length ≤ 50000)
def sumL (l : List (List UInt8 × List UInt8)) : Int := (l.map fun p => (p.1.length : Int) + p.2.length).sum
def RepV.okS (a : RepV) : Prop := a.val.length ≤ 140737488351232 ∧ a.next.length ≤ 140737488351232 ∧ a.l.length ≤ 140737488351232 ∧ ∀ p ∈ a.l, p.1.length ≤ 140737488351232 ∧ p.2.length ≤ 140737488351232
def RepV.small (a : RepV) : Bool := decide (a.l.length ≤ 300) && decide ((a.val.length : Int) + a.next.length + sumL a.l ≤ 50000)
theorem sumL_bound : ∀ {l : List (List UInt8 × List UInt8)}, (∀ p ∈ l, p.1.length ≤ 140737488351232 ∧ p.2.length ≤ 140737488351232) → 0 ≤ sumL l ∧ sumL l ≤ l.length * 281474976702464
  | [], _ => by simp [sumL]
  | p :: l, h => by
    obtain ⟨h1, h2⟩ := sumL_bound (l := l) fun q hq => h q (by simp [hq])
    obtain ⟨h3, h4⟩ := h p (by simp)
    have : sumL (p :: l) = (p.1.length : Int) + p.2.length + sumL l := by simp [sumL]
    rw [this]
    have : (((p :: l).length : Nat) : Int) = (l.length : Int) + 1 := by simp
    rw [this]
    omega
def srI (a : RepV) (n : Nat) (e : Env) (σ : AHeap) : Prop :=
  ∃ (i : Nat) (v : Int), i ≤ a.l.length ∧ n = a.l.length - i ∧ σ = [some a.cells] ∧ e 1 = .ptr 0 0 ∧ e 4 = .int .i64 (i : Int) ∧ e 3 = .int .i64 v ∧ (i ≤ 300 → v = (a.val.length : Int) + a.next.length + sumL (a.l.take i))
theorem srI_step (a : RepV) (h : a.okS) (Q : AV → AHeap → Prop) (hQ : ∀ σ, Q (.bool a.small) σ) (n : Nat) (e : Env) (σ : AHeap) (hI : srI a n e σ) :
    sC noCall 0 b12_10 (unw noCall 0 (loopR noCall 0 (RetQ [MRes.t 2] Q) (.block 0 (.seq b12_15 .fin)) (srI a) n) .fin) e σ := by
  obtain ⟨i, v, hi, hn, rfl, h1, h4, h3, hv⟩ := hI
  obtain ⟨o1, o2, o3, o4⟩ := h
  have hlen : (recs a.l).length = a.l.length := by simp [recs]
  rcases Nat.lt_or_ge i a.l.length with hlt | hge
  · have hlt' : (i : Int) < (a.l.length : Int) := by omega
    have hge0 : (0 : Int) ≤ (i : Int) := by omega
    obtain ⟨x, hx⟩ : ∃ x, a.l[i]? = some x := ⟨_, List.getElem?_eq_getElem hlt⟩
    have hxx : (recs a.l)[i]? = some [.str x.1, .str x.2] := by simp [recs, hx]
    have htk : a.l.take (i + 1) = a.l.take i ++ [x] := by rw [List.take_add_one, hx]; rfl
    have hw : IntKind.wrap .i64 ((i : Int) + 1) = ((i + 1 : Nat) : Int) := by rw [Gz.wrap64 (by omega)]; omega
    simp only [RepV.cells, Z12, base1, baseE, ↓reduceIte, Nat.reduceAdd, Nat.reduceSub, Nat.reduceMul, Nat.reduceEqDiff, Nat.reduceLeDiff, Nat.reduceLT, Int.reduceLT, Int.reduceLE, Int.reduceEq, Int.reduceNe, Int.reduceToNat, Int.reduceAdd, Int.reduceSub, reduceCtorEq, Nat.reduceBEq, Nat.reduceBNe, loopR_exit, loopR_ret, h1, h4, h3, hlt', hlt, hge0, hxx, hlen, hw, Int.toNat_natCast]
    rw [loopR_normal]
    refine ⟨a.l.length - (i + 1), _, _, by omega, .refl _ _ _, i + 1, _, hlt, rfl, rfl, ?_, ?_, rfl, fun hi3 => ?_⟩
    · simp only [putD_some, putD_none, Nat.reduceEqDiff, ↓reduceIte, h1]
    · simp only [putD_some, putD_none, Nat.reduceEqDiff, ↓reduceIte, hw]
    · have hv' := hv (by omega)
      obtain ⟨b1, b2⟩ := sumL_bound (l := a.l.take i) fun q hq => o4 q (List.mem_of_mem_take hq)
      obtain ⟨b3, b4⟩ := o4 x (List.mem_of_getElem? hx)
      have b5 : (a.l.take i).length ≤ 300 := by rw [List.length_take]; omega
      have b6 : ((a.l.take i).length : Int) * 281474976702464 ≤ 300 * 281474976702464 := by omega
      have e1 : sumL (a.l.take (i + 1)) = sumL (a.l.take i) + ((x.1.length : Int) + x.2.length) := by rw [htk]; simp [sumL, List.sum_append]
      have e2 : IntKind.wrap .i64 (v + x.1.length) = v + x.1.length := Gz.wrap64 (by omega)
      have e3 : IntKind.wrap .i64 (v + x.1.length + x.2.length) = v + x.1.length + x.2.length := Gz.wrap64 (by omega)
      rw [e2, e3, e1, hv']; omega
  · have hlt' : ¬ (i : Int) < (a.l.length : Int) := by omega
    have hie : i = a.l.length := by omega
    subst hie
    rw [List.take_length] at hv
    by_cases h300 : a.l.length ≤ 300
    · have hv' := hv h300
      have h300' : (a.l.length : Int) ≤ 300 := by omega
      have hs : a.small = decide (v ≤ 50000) := by unfold RepV.small; rw [hv']; simp [h300]
      simp only [RepV.cells, Z12, base1, baseE, ↓reduceIte, Nat.reduceAdd, Nat.reduceSub, Nat.reduceMul, Nat.reduceEqDiff, Nat.reduceLeDiff, Nat.reduceLT, Int.reduceLT, Int.reduceLE, Int.reduceEq, Int.reduceNe, Int.reduceToNat, Int.reduceAdd, Int.reduceSub, reduceCtorEq, Nat.reduceBEq, Nat.reduceBNe, loopR_exit, loopR_ret, h1, h4, h3, hlt', hlen, h300']
      rw [← hs]; exact hQ _
    · have h300' : ¬ (a.l.length : Int) ≤ 300 := by omega
      have hs : a.small = false := by unfold RepV.small; simp [h300]
      simp only [RepV.cells, Z12, base1, baseE, ↓reduceIte, Nat.reduceAdd, Nat.reduceSub, Nat.reduceMul, Nat.reduceEqDiff, Nat.reduceLeDiff, Nat.reduceLT, Int.reduceLT, Int.reduceLE, Int.reduceEq, Int.reduceNe, Int.reduceToNat, Int.reduceAdd, Int.reduceSub, reduceCtorEq, Nat.reduceBEq, Nat.reduceBNe, loopR_exit, loopR_ret, h1, h4, h3, hlt', hlen, h300']
      rw [← hs]; exact hQ _
theorem smallR_ok (a : RepV) (h : a.okS) : Tri Try.prog 12 [.agg a.cells] [] fun r _ => r.cleanD ∧ r = .bool a.small := by
  refine Tri.of_s c12 (noCall_sound _) ?_
  have w1 : IntKind.wrap .i64 ((a.val.length : Int) + a.next.length) = (a.val.length : Int) + a.next.length := Gz.wrap64 (by obtain ⟨h1, h2, _⟩ := h; omega)
  simp only [RepV.cells, Z12, base1, baseE, ↓reduceIte, Nat.reduceAdd, Nat.reduceSub, Nat.reduceMul, Nat.reduceEqDiff, Nat.reduceLeDiff, Nat.reduceLT, Int.reduceLT, Int.reduceLE, Int.reduceEq, Int.reduceNe, Int.reduceToNat, Int.reduceAdd, Int.reduceSub, reduceCtorEq, Nat.reduceBEq, Nat.reduceBNe, w1]
  exact sC_inv (a := b12_10) (srI a) a.l.length _ _ (.refl _ _ _) ⟨0, _, Nat.zero_le _, rfl, rfl, rfl, rfl, rfl, fun _ => by simp [sumL]⟩ (srI_step a h _ fun σ => ⟨rfl, rfl⟩)
theorem rep_eq (a b : RepV) : a = b ↔ a.client = b.client ∧ a.seq = b.seq ∧ a.err = b.err ∧ a.found = b.found ∧ a.val = b.val ∧ a.next = b.next ∧ a.more = b.more ∧ a.l = b.l := by
  cases a; cases b; simp only [RepV.mk.injEq]
  constructor
  · rintro ⟨h1, h2, h3, h4, h5, h6, h7, h8⟩; exact ⟨h1, h2, h3, h4, h5, h7, h8, h6⟩
  · rintro ⟨h1, h2, h3, h4, h5, h6, h7, h8⟩; exact ⟨h1, h2, h3, h4, h5, h8, h6, h7⟩
end Go.Proofs.Ytmjnmnhpmbbmgab.note
