/- What the packers do: the bytes of an ask, of a reply, are the packed numbers and texts one behind the other; which replies are small. No condition. -/
import Derived.Test.YtgaopohogdinhaaGreatDoorRows
import Derived.Test.YtgaopohogdinhaaGreatDoorK22
import Derived.Test.YtgaopohogdinhaaGreatDoorK33
set_option linter.unusedVariables false
set_option linter.unusedSimpArgs false
namespace Go.Proofs.YtgaopohogdinhaaGreatDoor.note
open Go.ChangeShapes Go.WideShapes Go.ChangeAt Go.RowKit Go.Gz
section
variable {C : PCall} {n0 : Nat} {R : MExit → Env → AHeap → Prop} {k : Cont} {e : Env} {σ : AHeap}
abbrev r26_0 : List MOper := [⟨(some 1), .box (.t 0), none⟩,
  ⟨(some 2), .move (.c (.bool false)), none⟩]
def b26_0 : SCode := .region r26_0
abbrev r26_1 : List MOper := [⟨(some 5), .fieldAddr 4 (.t 1), none⟩,
  ⟨(some 6), .load1 (.t 5), none⟩,
  ⟨(some 7), .lenStr (.t 6), none⟩,
  ⟨(some 8), .fieldAddr 6 (.t 1), none⟩,
  ⟨(some 9), .load1 (.t 8), none⟩,
  ⟨(some 10), .lenStr (.t 9), none⟩,
  ⟨(some 11), .bin .add .num (.t 7) (.t 10), none⟩,
  ⟨(some 3), .move (.t 11), none⟩]
def b26_1 : SCode := .region r26_1
abbrev r26_2 : List MOper := [⟨(some 4), .move (.c (.int .i64 0)), none⟩]
def b26_2 : SCode := .region r26_2
abbrev r26_3 : List MOper := [⟨(some 12), .move (.t 4), none⟩,
  ⟨(some 13), .fieldAddr 5 (.t 1), none⟩,
  ⟨(some 14), .load1 (.t 13), none⟩,
  ⟨(some 15), .lenSl (.t 14), none⟩,
  ⟨(some 16), .bin .lss .num (.t 12) (.t 15), none⟩]
def b26_3 : SCode := .region r26_3
def b26_4 : SCode := .cond (.t 16) .skip (.exit 0)
def b26_5 : SCode := .seq b26_3 b26_4
abbrev t26_6 : LTree := (.quiet ⟨(some 19), .move (.t 3), none⟩ 0
  (.quiet ⟨(some 20), .fieldAddr 5 (.t 1), none⟩ 1
  (.quiet ⟨(some 21), .load1 (.t 20), none⟩ 2
  (.quiet ⟨(some 22), .move (.t 4), none⟩ 3
  (.quiet ⟨(some 23), .indexAddr 2 (.t 21) (.t 22), none⟩ 4
  (.quiet ⟨(some 24), .fieldAddr 0 (.t 23), none⟩ 5
  (.quiet ⟨(some 25), .load1 (.t 24), none⟩ 6
  (.quiet ⟨(some 26), .lenStr (.t 25), none⟩ 7
  (.quiet ⟨(some 27), .bin .add .num (.t 19) (.t 26), none⟩ 8
  (.quiet ⟨(some 28), .fieldAddr 5 (.t 1), none⟩ 9
  (.quiet ⟨(some 29), .load1 (.t 28), none⟩ 10
  (.quiet ⟨(some 30), .move (.t 4), none⟩ 11
  (.quiet ⟨(some 31), .indexAddr 2 (.t 29) (.t 30), none⟩ 12
  (.quiet ⟨(some 32), .fieldAddr 1 (.t 31), none⟩ 13
  (.quiet ⟨(some 33), .load1 (.t 32), none⟩ 14
  (.quiet ⟨(some 34), .lenStr (.t 33), none⟩ 15
  (.quiet ⟨(some 35), .bin .add .num (.t 27) (.t 34), none⟩ 16
  (.quiet ⟨(some 3), .move (.t 35), none⟩ 17
  .leaf))))))))))))))))))
def b26_6 : SCode := .draw t26_6
def b26_7 : SCode := .block 1 b26_6
abbrev r26_8 : List MOper := [⟨(some 17), .move (.t 4), none⟩,
  ⟨(some 18), .bin .add .num (.t 17) (.c (.int .i64 1)), none⟩,
  ⟨(some 4), .move (.t 18), none⟩]
def b26_8 : SCode := .region r26_8
def b26_9 : SCode := .seq b26_7 b26_8
def b26_10 : SCode := .seq b26_5 b26_9
def b26_11 : SCode := .loop b26_10
def b26_12 : SCode := .block 0 b26_11
def b26_13 : SCode := .seq b26_2 b26_12
abbrev r26_14 : List MOper := [⟨(some 36), .fieldAddr 5 (.t 1), none⟩,
  ⟨(some 37), .load1 (.t 36), none⟩,
  ⟨(some 38), .lenSl (.t 37), none⟩,
  ⟨(some 39), .bin .leq .num (.t 38) (.c (.int .i64 300)), none⟩,
  ⟨(some 40), .move (.t 39), none⟩,
  ⟨(some 41), .move (.t 3), (some (40, true))⟩,
  ⟨(some 42), .bin .leq .num (.t 41) (.c (.int .i64 50000)), (some (40, true))⟩,
  ⟨(some 43), .pick (.t 40) (.t 42) (.c (.bool false)), none⟩,
  ⟨(some 2), .move (.t 43), none⟩]
def b26_14 : SCode := .region r26_14
def b26_15 : SCode := .seq b26_14 .ret
def b26_16 : SCode := .seq b26_13 b26_15
def b26_17 : SCode := .seq b26_1 b26_16
def b26_18 : SCode := .seq b26_0 b26_17
def s26 : SFunc := ⟨44, [.t 2], b26_18⟩
theorem c26 : sFn Tryz.prog 26 = some s26 := by kernel_rfl
theorem Z26 : XR b26_0 r26_0 ∧ XR b26_1 r26_1 ∧ XR b26_2 r26_2 ∧ XR b26_3 r26_3 ∧ XC b26_4 (.t 16) .skip (.exit 0) ∧ XS b26_5 b26_3 b26_4 ∧ XT b26_6 t26_6 ∧ XB b26_7 1 b26_6 ∧ XR b26_8 r26_8 ∧ XS b26_9 b26_7 b26_8 ∧ XS b26_10 b26_5 b26_9 ∧ XB b26_12 0 b26_11 ∧ XS b26_13 b26_2 b26_12 ∧ XR b26_14 r26_14 ∧ XS b26_15 b26_14 .ret ∧ XS b26_16 b26_13 b26_15 ∧ XS b26_17 b26_1 b26_16 ∧ XS b26_18 b26_0 b26_17 ∧ XY s26 44 b26_18 [.t 2] := ⟨rfl, rfl, rfl, rfl, sC_cond, rfl, rfl, rfl, rfl, rfl, rfl, rfl, rfl, rfl, rfl, rfl, rfl, rfl, rfl⟩
abbrev r54_0 : List MOper := [⟨(some 1), .box (.t 0), none⟩,
  ⟨(some 2), .move (.c (.nilslice)), none⟩,
  ⟨(some 3), .move (.c (.int .i64 0)), none⟩]
def b54_0 : SCode := .region r54_0
abbrev r54_1 : List MOper := [⟨(some 4), .alloc [.nilslice, .bool false], none⟩]
def b54_1 : SCode := .region r54_1
abbrev r54_2 : List MOper := [⟨(some 5), .fieldAddr 0 (.t 1), none⟩,
  ⟨(some 6), .load1 (.t 5), none⟩,
  ⟨(some 7), .fieldAddr 1 (.t 1), none⟩,
  ⟨(some 8), .load1 (.t 7), none⟩,
  ⟨(some 9), .fieldAddr 2 (.t 1), none⟩,
  ⟨(some 10), .load1 (.t 9), none⟩,
  ⟨(some 11), .fieldAddr 7 (.t 1), none⟩,
  ⟨(some 12), .load1 (.t 11), none⟩,
  ⟨(some 13), .buildSlice [.int .i64 0] 1 4 [(0, 1, (.t 6)), (1, 1, (.t 8)), (2, 1, (.t 10)), (3, 1, (.t 12))], none⟩,
  ⟨(some 14), .call 106 [(.t 4), (.t 13)], none⟩]
def b54_2 : SCode := .region r54_2
abbrev r54_3 : List MOper := [⟨(some 15), .fieldAddr 3 (.t 1), none⟩,
  ⟨(some 16), .load1 (.t 15), none⟩,
  ⟨(some 17), .fieldAddr 4 (.t 1), none⟩,
  ⟨(some 18), .load1 (.t 17), none⟩,
  ⟨(some 19), .fieldAddr 5 (.t 1), none⟩,
  ⟨(some 20), .load1 (.t 19), none⟩,
  ⟨(some 21), .fieldAddr 6 (.t 1), none⟩,
  ⟨(some 22), .load1 (.t 21), none⟩,
  ⟨(some 23), .buildSlice [.str []] 1 4 [(0, 1, (.t 16)), (1, 1, (.t 18)), (2, 1, (.t 20)), (3, 1, (.t 22))], none⟩,
  ⟨(some 24), .call 107 [(.t 4), (.t 23)], none⟩]
def b54_3 : SCode := .region r54_3
abbrev r54_4 : List MOper := [⟨(some 25), .call 108 [(.t 4)], none⟩,
  ⟨(some 26), .extract (.t 25) 0, none⟩,
  ⟨(some 27), .extract (.t 25) 1, none⟩,
  ⟨(some 2), .move (.t 26), none⟩,
  ⟨(some 3), .move (.t 27), none⟩]
def b54_4 : SCode := .region r54_4
def b54_5 : SCode := .seq b54_4 .ret
def b54_6 : SCode := .seq b54_3 b54_5
def b54_7 : SCode := .seq b54_2 b54_6
def b54_8 : SCode := .seq b54_1 b54_7
def b54_9 : SCode := .seq b54_0 b54_8
def s54 : SFunc := ⟨28, [.t 2, .t 3], b54_9⟩
theorem c54 : sFn Tryz.prog 54 = some s54 := by kernel_rfl
theorem Z54 : XR b54_0 r54_0 ∧ XR b54_1 r54_1 ∧ XR b54_2 r54_2 ∧ XR b54_3 r54_3 ∧ XR b54_4 r54_4 ∧ XS b54_5 b54_4 .ret ∧ XS b54_6 b54_3 b54_5 ∧ XS b54_7 b54_2 b54_6 ∧ XS b54_8 b54_1 b54_7 ∧ XS b54_9 b54_0 b54_8 ∧ XY s54 28 b54_9 [.t 2, .t 3] := ⟨rfl, rfl, rfl, rfl, rfl, rfl, rfl, rfl, rfl, rfl, rfl⟩
abbrev r55_0 : List MOper := [⟨(some 1), .box (.t 0), none⟩,
  ⟨(some 2), .move (.c (.nilslice)), none⟩,
  ⟨(some 3), .move (.c (.int .i64 0)), none⟩]
def b55_0 : SCode := .region r55_0
abbrev r55_1 : List MOper := [⟨(some 4), .alloc [.nilslice, .bool false], none⟩]
def b55_1 : SCode := .region r55_1
abbrev r55_2 : List MOper := [⟨(some 7), .fieldAddr 0 (.t 1), none⟩,
  ⟨(some 8), .load1 (.t 7), none⟩,
  ⟨(some 9), .fieldAddr 1 (.t 1), none⟩,
  ⟨(some 10), .load1 (.t 9), none⟩,
  ⟨(some 11), .fieldAddr 2 (.t 1), none⟩,
  ⟨(some 12), .load1 (.t 11), none⟩,
  ⟨(some 13), .buildSlice [.int .i64 0] 1 3 [(0, 1, (.t 8)), (1, 1, (.t 10)), (2, 1, (.t 12))], none⟩,
  ⟨(some 14), .call 106 [(.t 4), (.t 13)], none⟩]
def b55_2 : SCode := .region r55_2
abbrev r55_3 : List MOper := [⟨(some 15), .fieldAddr 3 (.t 1), none⟩,
  ⟨(some 16), .load1 (.t 15), none⟩,
  ⟨(some 17), .call 109 [(.t 4), (.t 16)], none⟩]
def b55_3 : SCode := .region r55_3
abbrev r55_4 : List MOper := [⟨(some 18), .fieldAddr 4 (.t 1), none⟩,
  ⟨(some 19), .load1 (.t 18), none⟩,
  ⟨(some 20), .buildSlice [.str []] 1 1 [(0, 1, (.t 19))], none⟩,
  ⟨(some 21), .call 107 [(.t 4), (.t 20)], none⟩]
def b55_4 : SCode := .region r55_4
abbrev r55_5 : List MOper := [⟨(some 22), .fieldAddr 5 (.t 1), none⟩,
  ⟨(some 23), .load1 (.t 22), none⟩,
  ⟨(some 24), .lenSl (.t 23), none⟩,
  ⟨(some 25), .buildSlice [.int .i64 0] 1 1 [(0, 1, (.t 24))], none⟩,
  ⟨(some 26), .call 106 [(.t 4), (.t 25)], none⟩]
def b55_5 : SCode := .region r55_5
abbrev r55_6 : List MOper := [⟨(some 27), .fieldAddr 5 (.t 1), none⟩,
  ⟨(some 28), .load1 (.t 27), none⟩,
  ⟨(some 29), .lenSl (.t 28), none⟩,
  ⟨(some 30), .move (.c (.int .i64 0)), none⟩]
def b55_6 : SCode := .region r55_6
abbrev r55_7 : List MOper := [⟨(some 31), .bin .lss .num (.t 30) (.t 29), none⟩]
def b55_7 : SCode := .region r55_7
def b55_8 : SCode := .cond (.t 31) .skip (.exit 0)
abbrev r55_9 : List MOper := [⟨(some 32), .indexAddr 2 (.t 28) (.t 30), none⟩,
  ⟨(some 33), .loadN 2 (.t 32), none⟩,
  ⟨(some 6), .alloc [.str [], .str []], none⟩,
  ⟨none, .store 2 (.t 6) (.t 33), none⟩]
def b55_9 : SCode := .region r55_9
abbrev r55_10 : List MOper := [⟨(some 34), .fieldAddr 0 (.t 6), none⟩,
  ⟨(some 35), .load1 (.t 34), none⟩,
  ⟨(some 36), .fieldAddr 1 (.t 6), none⟩,
  ⟨(some 37), .load1 (.t 36), none⟩,
  ⟨(some 38), .buildSlice [.str []] 1 2 [(0, 1, (.t 35)), (1, 1, (.t 37))], none⟩,
  ⟨(some 39), .call 107 [(.t 4), (.t 38)], none⟩]
def b55_10 : SCode := .region r55_10
def b55_11 : SCode := .seq b55_9 b55_10
def b55_12 : SCode := .block 1 b55_11
abbrev r55_13 : List MOper := [⟨(some 40), .bin .add .num (.t 30) (.c (.int .i64 1)), none⟩,
  ⟨(some 30), .move (.t 40), none⟩]
def b55_13 : SCode := .region r55_13
def b55_14 : SCode := .seq b55_12 b55_13
def b55_15 : SCode := .seq b55_8 b55_14
def b55_16 : SCode := .seq b55_7 b55_15
def b55_17 : SCode := .loop b55_16
def b55_18 : SCode := .block 0 b55_17
def b55_19 : SCode := .seq b55_6 b55_18
abbrev r55_20 : List MOper := [⟨(some 41), .fieldAddr 6 (.t 1), none⟩,
  ⟨(some 42), .load1 (.t 41), none⟩,
  ⟨(some 43), .buildSlice [.str []] 1 1 [(0, 1, (.t 42))], none⟩,
  ⟨(some 44), .call 107 [(.t 4), (.t 43)], none⟩]
def b55_20 : SCode := .region r55_20
abbrev r55_21 : List MOper := [⟨(some 45), .fieldAddr 7 (.t 1), none⟩,
  ⟨(some 46), .load1 (.t 45), none⟩,
  ⟨(some 47), .call 109 [(.t 4), (.t 46)], none⟩]
def b55_21 : SCode := .region r55_21
abbrev r55_22 : List MOper := [⟨(some 48), .call 108 [(.t 4)], none⟩,
  ⟨(some 49), .extract (.t 48) 0, none⟩,
  ⟨(some 50), .extract (.t 48) 1, none⟩,
  ⟨(some 2), .move (.t 49), none⟩,
  ⟨(some 3), .move (.t 50), none⟩]
def b55_22 : SCode := .region r55_22
def b55_23 : SCode := .seq b55_22 .ret
def b55_24 : SCode := .seq b55_21 b55_23
def b55_25 : SCode := .seq b55_20 b55_24
def b55_26 : SCode := .seq b55_19 b55_25
def b55_27 : SCode := .seq b55_5 b55_26
def b55_28 : SCode := .seq b55_4 b55_27
def b55_29 : SCode := .seq b55_3 b55_28
def b55_30 : SCode := .seq b55_2 b55_29
def b55_31 : SCode := .seq b55_1 b55_30
def b55_32 : SCode := .seq b55_0 b55_31
def s55 : SFunc := ⟨51, [.t 2, .t 3], b55_32⟩
theorem c55 : sFn Tryz.prog 55 = some s55 := by kernel_rfl
theorem Z55 : XR b55_0 r55_0 ∧ XR b55_1 r55_1 ∧ XR b55_2 r55_2 ∧ XR b55_3 r55_3 ∧ XR b55_4 r55_4 ∧ XR b55_5 r55_5 ∧ XR b55_6 r55_6 ∧ XR b55_7 r55_7 ∧ XC b55_8 (.t 31) .skip (.exit 0) ∧ XR b55_9 r55_9 ∧ XR b55_10 r55_10 ∧ XS b55_11 b55_9 b55_10 ∧ XB b55_12 1 b55_11 ∧ XR b55_13 r55_13 ∧ XS b55_14 b55_12 b55_13 ∧ XS b55_15 b55_8 b55_14 ∧ XS b55_16 b55_7 b55_15 ∧ XB b55_18 0 b55_17 ∧ XS b55_19 b55_6 b55_18 ∧ XR b55_20 r55_20 ∧ XR b55_21 r55_21 ∧ XR b55_22 r55_22 ∧ XS b55_23 b55_22 .ret ∧ XS b55_24 b55_21 b55_23 ∧ XS b55_25 b55_20 b55_24 ∧ XS b55_26 b55_19 b55_25 ∧ XS b55_27 b55_5 b55_26 ∧ XS b55_28 b55_4 b55_27 ∧ XS b55_29 b55_3 b55_28 ∧ XS b55_30 b55_2 b55_29 ∧ XS b55_31 b55_1 b55_30 ∧ XS b55_32 b55_0 b55_31 ∧ XY s55 51 b55_32 [.t 2, .t 3] := ⟨rfl, rfl, rfl, rfl, rfl, rfl, rfl, rfl, sC_cond, rfl, rfl, rfl, rfl, rfl, rfl, rfl, rfl, rfl, rfl, rfl, rfl, rfl, rfl, rfl, rfl, rfl, rfl, rfl, rfl, rfl, rfl, rfl, rfl⟩
abbrev r106_0 : List MOper := [⟨(some 6), .move (.t 1), none⟩,
  ⟨(some 7), .lenSl (.t 6), none⟩,
  ⟨(some 8), .move (.c (.int .i64 0)), none⟩]
def b106_0 : SCode := .region r106_0
abbrev r106_1 : List MOper := [⟨(some 9), .bin .lss .num (.t 8) (.t 7), none⟩]
def b106_1 : SCode := .region r106_1
def b106_2 : SCode := .cond (.t 9) .skip (.exit 0)
abbrev r106_3 : List MOper := [⟨(some 10), .indexAddr 1 (.t 6) (.t 8), none⟩,
  ⟨(some 11), .load1 (.t 10), none⟩,
  ⟨(some 5), .move (.t 11), none⟩]
def b106_3 : SCode := .region r106_3
abbrev r106_4 : List MOper := [⟨(some 12), .move (.t 0), none⟩,
  ⟨(some 13), .move (.t 0), none⟩,
  ⟨(some 14), .nilCheck (.t 13), none⟩,
  ⟨(some 15), .fieldAddr 1 (.t 14), none⟩,
  ⟨(some 16), .load1 (.t 15), none⟩,
  ⟨(some 17), .move (.t 16), none⟩,
  ⟨(some 18), .move (.t 5), (some (17, false))⟩,
  ⟨(some 19), .bin .lss .num (.t 18) (.c (.int .i64 0)), (some (17, false))⟩,
  ⟨(some 20), .pick (.t 17) (.c (.bool true)) (.t 19), none⟩,
  ⟨(some 21), .move (.t 20), none⟩,
  ⟨(some 22), .move (.t 5), (some (21, false))⟩,
  ⟨(some 23), .bin .gtr .num (.t 22) (.c (.int .i64 268435455)), (some (21, false))⟩,
  ⟨(some 24), .pick (.t 21) (.c (.bool true)) (.t 23), none⟩,
  ⟨(some 25), .nilCheck (.t 12), none⟩,
  ⟨(some 26), .fieldAddr 1 (.t 25), none⟩,
  ⟨none, .store 1 (.t 26) (.t 24), none⟩]
def b106_4 : SCode := .region r106_4
abbrev r106_5 : List MOper := [⟨(some 27), .move (.t 0), none⟩,
  ⟨(some 28), .move (.t 0), none⟩,
  ⟨(some 29), .nilCheck (.t 28), none⟩,
  ⟨(some 30), .fieldAddr 0 (.t 29), none⟩,
  ⟨(some 31), .load1 (.t 30), none⟩,
  ⟨(some 32), .move (.t 5), none⟩,
  ⟨(some 33), .bin .shr .num (.t 32) (.c (.int .u64 24)), none⟩,
  ⟨(some 34), .convInt .u8 (.t 33), none⟩,
  ⟨(some 35), .move (.t 5), none⟩,
  ⟨(some 36), .bin .shr .num (.t 35) (.c (.int .u64 16)), none⟩,
  ⟨(some 37), .convInt .u8 (.t 36), none⟩,
  ⟨(some 38), .move (.t 5), none⟩,
  ⟨(some 39), .bin .shr .num (.t 38) (.c (.int .u64 8)), none⟩,
  ⟨(some 40), .convInt .u8 (.t 39), none⟩,
  ⟨(some 41), .move (.t 5), none⟩,
  ⟨(some 42), .convInt .u8 (.t 41), none⟩,
  ⟨(some 43), .buildSlice [.int .u8 0] 1 4 [(0, 1, (.t 34)), (1, 1, (.t 37)), (2, 1, (.t 40)), (3, 1, (.t 42))], none⟩,
  ⟨(some 44), .append 1 1 (.t 31) (.t 43), none⟩,
  ⟨(some 45), .nilCheck (.t 27), none⟩,
  ⟨(some 46), .fieldAddr 0 (.t 45), none⟩,
  ⟨none, .store 1 (.t 46) (.t 44), none⟩]
def b106_5 : SCode := .region r106_5
def b106_6 : SCode := .seq b106_4 b106_5
def b106_7 : SCode := .seq b106_3 b106_6
def b106_8 : SCode := .block 1 b106_7
abbrev r106_9 : List MOper := [⟨(some 47), .bin .add .num (.t 8) (.c (.int .i64 1)), none⟩,
  ⟨(some 8), .move (.t 47), none⟩]
def b106_9 : SCode := .region r106_9
def b106_10 : SCode := .seq b106_8 b106_9
def b106_11 : SCode := .seq b106_2 b106_10
def b106_12 : SCode := .seq b106_1 b106_11
def b106_13 : SCode := .loop b106_12
def b106_14 : SCode := .block 0 b106_13
def b106_15 : SCode := .seq b106_0 b106_14
def s106 : SFunc := ⟨48, [], b106_15⟩
theorem c106 : sFn Tryz.prog 106 = some s106 := by kernel_rfl
theorem x106_5 : XR b106_5 r106_5 := rfl
theorem Z106 : XR b106_0 r106_0 ∧ XR b106_1 r106_1 ∧ XC b106_2 (.t 9) .skip (.exit 0) ∧ XR b106_3 r106_3 ∧ XR b106_4 r106_4 ∧ XS b106_6 b106_4 b106_5 ∧ XS b106_7 b106_3 b106_6 ∧ XB b106_8 1 b106_7 ∧ XR b106_9 r106_9 ∧ XS b106_10 b106_8 b106_9 ∧ XS b106_11 b106_2 b106_10 ∧ XS b106_12 b106_1 b106_11 ∧ XB b106_14 0 b106_13 ∧ XS b106_15 b106_0 b106_14 ∧ XY s106 48 b106_15 [] := ⟨rfl, rfl, sC_cond, rfl, rfl, rfl, rfl, rfl, rfl, rfl, rfl, rfl, rfl, rfl, rfl⟩
abbrev r107_0 : List MOper := [⟨(some 6), .move (.t 1), none⟩,
  ⟨(some 7), .lenSl (.t 6), none⟩,
  ⟨(some 8), .move (.c (.int .i64 0)), none⟩]
def b107_0 : SCode := .region r107_0
abbrev r107_1 : List MOper := [⟨(some 9), .bin .lss .num (.t 8) (.t 7), none⟩]
def b107_1 : SCode := .region r107_1
def b107_2 : SCode := .cond (.t 9) .skip (.exit 0)
abbrev r107_3 : List MOper := [⟨(some 10), .indexAddr 1 (.t 6) (.t 8), none⟩,
  ⟨(some 11), .load1 (.t 10), none⟩,
  ⟨(some 5), .move (.t 11), none⟩]
def b107_3 : SCode := .region r107_3
abbrev r107_4 : List MOper := [⟨(some 12), .move (.t 0), none⟩,
  ⟨(some 13), .move (.t 5), none⟩,
  ⟨(some 14), .lenStr (.t 13), none⟩,
  ⟨(some 15), .buildSlice [.int .i64 0] 1 1 [(0, 1, (.t 14))], none⟩,
  ⟨(some 16), .call 106 [(.t 12), (.t 15)], none⟩]
def b107_4 : SCode := .region r107_4
abbrev r107_5 : List MOper := [⟨(some 17), .move (.t 0), none⟩,
  ⟨(some 18), .move (.t 0), none⟩,
  ⟨(some 19), .nilCheck (.t 18), none⟩,
  ⟨(some 20), .fieldAddr 0 (.t 19), none⟩,
  ⟨(some 21), .load1 (.t 20), none⟩,
  ⟨(some 22), .move (.t 5), none⟩,
  ⟨(some 23), .append 1 1 (.t 21) (.t 22), none⟩,
  ⟨(some 24), .nilCheck (.t 17), none⟩,
  ⟨(some 25), .fieldAddr 0 (.t 24), none⟩,
  ⟨none, .store 1 (.t 25) (.t 23), none⟩]
def b107_5 : SCode := .region r107_5
def b107_6 : SCode := .seq b107_4 b107_5
def b107_7 : SCode := .seq b107_3 b107_6
def b107_8 : SCode := .block 1 b107_7
abbrev r107_9 : List MOper := [⟨(some 26), .bin .add .num (.t 8) (.c (.int .i64 1)), none⟩,
  ⟨(some 8), .move (.t 26), none⟩]
def b107_9 : SCode := .region r107_9
def b107_10 : SCode := .seq b107_8 b107_9
def b107_11 : SCode := .seq b107_2 b107_10
def b107_12 : SCode := .seq b107_1 b107_11
def b107_13 : SCode := .loop b107_12
def b107_14 : SCode := .block 0 b107_13
def b107_15 : SCode := .seq b107_0 b107_14
def s107 : SFunc := ⟨27, [], b107_15⟩
theorem c107 : sFn Tryz.prog 107 = some s107 := by kernel_rfl
theorem Z107 : XR b107_0 r107_0 ∧ XR b107_1 r107_1 ∧ XC b107_2 (.t 9) .skip (.exit 0) ∧ XR b107_3 r107_3 ∧ XR b107_4 r107_4 ∧ XR b107_5 r107_5 ∧ XS b107_6 b107_4 b107_5 ∧ XS b107_7 b107_3 b107_6 ∧ XB b107_8 1 b107_7 ∧ XR b107_9 r107_9 ∧ XS b107_10 b107_8 b107_9 ∧ XS b107_11 b107_2 b107_10 ∧ XS b107_12 b107_1 b107_11 ∧ XB b107_14 0 b107_13 ∧ XS b107_15 b107_0 b107_14 ∧ XY s107 27 b107_15 [] := ⟨rfl, rfl, sC_cond, rfl, rfl, rfl, rfl, rfl, rfl, rfl, rfl, rfl, rfl, rfl, rfl, rfl⟩
abbrev r108_0 : List MOper := [⟨(some 2), .move (.c (.nilslice)), none⟩,
  ⟨(some 3), .move (.c (.int .i64 0)), none⟩]
def b108_0 : SCode := .region r108_0
abbrev r108_1 : List MOper := [⟨(some 4), .move (.t 0), none⟩,
  ⟨(some 5), .nilCheck (.t 4), none⟩,
  ⟨(some 6), .fieldAddr 1 (.t 5), none⟩,
  ⟨(some 7), .load1 (.t 6), none⟩,
  ⟨(some 8), .move (.t 7), none⟩,
  ⟨(some 9), .move (.t 0), (some (8, false))⟩,
  ⟨(some 10), .nilCheck (.t 9), (some (8, false))⟩,
  ⟨(some 11), .fieldAddr 0 (.t 10), (some (8, false))⟩,
  ⟨(some 12), .load1 (.t 11), (some (8, false))⟩,
  ⟨(some 13), .lenSl (.t 12), (some (8, false))⟩,
  ⟨(some 14), .bin .gtr .num (.t 13) (.c (.int .i64 32768)), (some (8, false))⟩,
  ⟨(some 15), .pick (.t 8) (.c (.bool true)) (.t 14), none⟩]
def b108_1 : SCode := .region r108_1
abbrev r108_2 : List MOper := [⟨(some 2), .move (.c (.nilslice)), none⟩,
  ⟨(some 3), .move (.c (.int .i64 1)), none⟩]
def b108_2 : SCode := .region r108_2
def b108_3 : SCode := .seq b108_2 .ret
def b108_4 : SCode := .cond (.t 15) b108_3 .skip
def b108_5 : SCode := .seq b108_1 b108_4
abbrev r108_6 : List MOper := [⟨(some 16), .move (.t 0), none⟩,
  ⟨(some 17), .nilCheck (.t 16), none⟩,
  ⟨(some 18), .fieldAddr 0 (.t 17), none⟩,
  ⟨(some 19), .load1 (.t 18), none⟩,
  ⟨(some 2), .move (.t 19), none⟩,
  ⟨(some 3), .move (.c (.int .i64 0)), none⟩]
def b108_6 : SCode := .region r108_6
def b108_7 : SCode := .seq b108_6 .ret
def b108_8 : SCode := .seq b108_5 b108_7
def b108_9 : SCode := .seq b108_0 b108_8
def s108 : SFunc := ⟨20, [.t 2, .t 3], b108_9⟩
theorem c108 : sFn Tryz.prog 108 = some s108 := by kernel_rfl
theorem Z108 : XR b108_0 r108_0 ∧ XR b108_1 r108_1 ∧ XR b108_2 r108_2 ∧ XS b108_3 b108_2 .ret ∧ XC b108_4 (.t 15) b108_3 .skip ∧ XS b108_5 b108_1 b108_4 ∧ XR b108_6 r108_6 ∧ XS b108_7 b108_6 .ret ∧ XS b108_8 b108_5 b108_7 ∧ XS b108_9 b108_0 b108_8 ∧ XY s108 20 b108_9 [.t 2, .t 3] := ⟨rfl, rfl, rfl, rfl, sC_cond, rfl, rfl, rfl, rfl, rfl, rfl⟩
abbrev r109_0 : List MOper := [⟨(some 4), .move (.t 1), none⟩]
def b109_0 : SCode := .region r109_0
abbrev r109_1 : List MOper := [⟨(some 5), .move (.t 0), none⟩,
  ⟨(some 6), .move (.t 0), none⟩,
  ⟨(some 7), .nilCheck (.t 6), none⟩,
  ⟨(some 8), .fieldAddr 0 (.t 7), none⟩,
  ⟨(some 9), .load1 (.t 8), none⟩,
  ⟨(some 10), .buildSlice [.int .u8 0] 1 1 [(0, 1, (.c (.int .u8 1)))], none⟩,
  ⟨(some 11), .append 1 1 (.t 9) (.t 10), none⟩,
  ⟨(some 12), .nilCheck (.t 5), none⟩,
  ⟨(some 13), .fieldAddr 0 (.t 12), none⟩,
  ⟨none, .store 1 (.t 13) (.t 11), none⟩]
def b109_1 : SCode := .region r109_1
abbrev r109_2 : List MOper := [⟨(some 14), .move (.t 0), none⟩,
  ⟨(some 15), .move (.t 0), none⟩,
  ⟨(some 16), .nilCheck (.t 15), none⟩,
  ⟨(some 17), .fieldAddr 0 (.t 16), none⟩,
  ⟨(some 18), .load1 (.t 17), none⟩,
  ⟨(some 19), .buildSlice [.int .u8 0] 1 1 [(0, 1, (.c (.int .u8 0)))], none⟩,
  ⟨(some 20), .append 1 1 (.t 18) (.t 19), none⟩,
  ⟨(some 21), .nilCheck (.t 14), none⟩,
  ⟨(some 22), .fieldAddr 0 (.t 21), none⟩,
  ⟨none, .store 1 (.t 22) (.t 20), none⟩]
def b109_2 : SCode := .region r109_2
def b109_3 : SCode := .cond (.t 4) b109_1 b109_2
def b109_4 : SCode := .seq b109_0 b109_3
def s109 : SFunc := ⟨23, [], b109_4⟩
theorem c109 : sFn Tryz.prog 109 = some s109 := by kernel_rfl
theorem Z109 : XR b109_0 r109_0 ∧ XR b109_1 r109_1 ∧ XR b109_2 r109_2 ∧ XC b109_3 (.t 4) b109_1 b109_2 ∧ XS b109_4 b109_0 b109_3 ∧ XY s109 23 b109_4 [] := ⟨rfl, rfl, rfl, sC_cond, rfl, rfl⟩

end
/-! Bytes. -/
def bOf (x : Int) : UInt8 := UInt8.ofNat (IntKind.wrap .u8 x).toNat
theorem byteAV_bOf (x : Int) : byteAV (bOf x) = .int .u8 (IntKind.wrap .u8 x) := by
  have h : IntKind.wrap .u8 x = x % 256 := IntKind.wrap_u8 x
  unfold byteAV bOf
  rw [h]
  congr 1
  have h1 : (x % 256).toNat < 256 := by omega
  rw [show (UInt8.ofNat (x % 256).toNat).toNat = (x % 256).toNat from by simp [UInt8.toNat_ofNat']; omega]
  omega
def u32 (n : Int) : List UInt8 := [bOf (n.fdiv 16777216), bOf (n.fdiv 65536), bOf (n.fdiv 256), bOf n]
def badN (n : Int) : Bool := decide (n < 0) || decide (268435455 < n)
def txt (s : List UInt8) : List UInt8 := u32 s.length ++ s
theorem bOf_inj {x y : Int} (h : bOf x = bOf y) : x % 256 = y % 256 := by
  have := congrArg (fun b => byteAV b) h
  simp only [byteAV_bOf, AV.int.injEq, true_and] at this
  rw [IntKind.wrap_u8, IntKind.wrap_u8] at this
  exact this
theorem u32_inj {n m : Int} (h : u32 n = u32 m) (h1 : badN n = false) (h2 : badN m = false) : n = m := by
  simp only [u32, List.cons.injEq, and_true] at h
  obtain ⟨a, b, c, d⟩ := h
  have a := bOf_inj a; have b := bOf_inj b; have c := bOf_inj c; have d := bOf_inj d
  simp only [badN, Bool.or_eq_false_iff, decide_eq_false_iff_not] at h1 h2
  rw [Int.fdiv_eq_ediv_of_nonneg _ (by omega), Int.fdiv_eq_ediv_of_nonneg _ (by omega)] at a b c
  omega
theorem u32_len (n : Int) : (u32 n).length = 4 := rfl
theorem cons32 {n m : Int} {r s : List UInt8} (h : u32 n ++ r = u32 m ++ s) (h1 : badN n = false) (h2 : badN m = false) : n = m ∧ r = s := by
  obtain ⟨a, b⟩ := List.append_inj h rfl
  exact ⟨u32_inj a h1 h2, b⟩
theorem consT {x y : List UInt8} {r s : List UInt8} (h : txt x ++ r = txt y ++ s) (h1 : x.length ≤ 268435455) (h2 : y.length ≤ 268435455) : x = y ∧ r = s := by
  unfold txt at h
  rw [List.append_assoc, List.append_assoc] at h
  obtain ⟨a, b⟩ := cons32 h (by simp [badN]; omega) (by simp [badN]; omega)
  exact List.append_inj b (by omega)
theorem u32_map (n : Int) : (u32 n).map byteAV = [.int .u8 (IntKind.wrap .u8 (n.fdiv 16777216)), .int .u8 (IntKind.wrap .u8 (n.fdiv 65536)), .int .u8 (IntKind.wrap .u8 (n.fdiv 256)), .int .u8 (IntKind.wrap .u8 n)] := by
  simp [u32, byteAV_bOf]
theorem byte_flat (bs : List UInt8) : flatL (bs.map byteAV) := by
  intro x hx
  obtain ⟨b, _, rfl⟩ := List.mem_map.1 hx
  rfl
theorem byte_cell (bs : List UInt8) : ((bs.map byteAV).all fun x => x.isCell) = true := by
  rw [List.all_eq_true]
  intro x hx
  obtain ⟨b, _, rfl⟩ := List.mem_map.1 hx
  rfl
theorem shr24 : ((2 : Int) ^ (min 24 (IntKind.bits .i64))) = 16777216 := _root_.id rfl
theorem shr16 : ((2 : Int) ^ (min 16 (IntKind.bits .i64))) = 65536 := _root_.id rfl
theorem shr8 : ((2 : Int) ^ (min 8 (IntKind.bits .i64))) = 256 := _root_.id rfl
/-! Heaps of which not all is known. -/
theorem hget_lt {σ : AHeap} {j : Nat} {c : List AV} (h : hget σ j = some c) : j < σ.length := by
  have := hget_some h
  exact (List.getElem?_eq_some_iff.1 this).1
theorem push_new {σ : AHeap} {c : List AV} {n : Nat} (h : n = σ.length) : hget (hpush σ c) n = some c := by subst h; simp [hget, hpush]
theorem push_old {σ : AHeap} {j : Nat} {c d : List AV} (h : hget σ j = some d) : hget (hpush σ c) j = some d := by
  have := hget_lt h
  simp only [hget, hpush, List.getElem?_append_left this]; exact h
theorem set_same {σ : AHeap} {j : Nat} {c d : List AV} (h : hget σ j = some d) : hget (hset σ j c) j = some c := by
  have := hget_lt h
  simp [hget, hset, this]
theorem set_other {σ : AHeap} {i j : Nat} {c : List AV} (h : i ≠ j) : hget (hset σ i c) j = hget σ j := by simp [hget, hset, List.getElem?_set, h]
theorem kill_other {σ : AHeap} {i j : Nat} (h : i ≠ j) : hget (hkill σ i) j = hget σ j := by simp [hget, hkill, List.getElem?_set, h]
theorem push_len {σ : AHeap} {c : List AV} : (hpush σ c).length = σ.length + 1 := by simp [hpush]
theorem set_len {σ : AHeap} {i : Nat} {c : List AV} : (hset σ i c).length = σ.length := by simp [hset]
theorem kill_len {σ : AHeap} {i : Nat} : (hkill σ i).length = σ.length := by simp [hkill]
/-- A packer at a block: its bytes, whether it is bad, in which block its bytes lie. -/
def Pk (σ : AHeap) (id : Nat) (bs : List UInt8) (bad : Bool) (D : Option Nat) : Prop :=
  (D = none ∧ bs = [] ∧ hget σ id = some [.nilslice, .bool bad]) ∨ (∃ d, D = some d ∧ d ≠ id ∧ hget σ id = some [.slice d 0 bs.length none 1, .bool bad] ∧ hget σ d = some (bs.map byteAV))
/-- All but the packer stays. -/
def Fr (σ σ' : AHeap) (id : Nat) (D D' : Option Nat) : Prop := ∀ j c, hget σ j = some c → j ≠ id → D ≠ some j → hget σ' j = some c ∧ D' ≠ some j
theorem Fr.trans {σ σ' σ'' : AHeap} {id : Nat} {D D' D'' : Option Nat} (h : Fr σ σ' id D D') (k : Fr σ' σ'' id D' D'') : Fr σ σ'' id D D'' := fun j c hj h1 h2 => by
  obtain ⟨a, b⟩ := h j c hj h1 h2
  exact k j c a h1 b
theorem Fr.refl (σ : AHeap) (id : Nat) (D : Option Nat) : Fr σ σ id D D := fun j c hj _ h2 => ⟨hj, h2⟩
theorem app_step {σ : AHeap} {id : Nat} {bs : List UInt8} {bad : Bool} {D : Option Nat} (h : Pk σ id bs bad D) (ys : List UInt8) (hy : ys ≠ [] ∨ bs ≠ []) (b2 : Bool) {x : AV} (hx : elemsOf σ 1 x = some (ys.map byteAV)) (hn : lenOf x = some ys.length) (hsz : bs.length + ys.length ≤ 1000000000) :
    ∃ P v σ2 D', hget σ id = some [P, .bool bad] ∧ evAppend 1 1 P x σ = some (v, σ2) ∧ v.isCell = true ∧ hget σ2 id = some [P, .bool bad] ∧ Pk (hset σ2 id [v, .bool b2]) id (bs ++ ys) b2 D' ∧ Fr σ (hset σ2 id [v, .bool b2]) id D D' := by
  have hg : mayGrow (bs.length + ys.length) 1 = true := by simp [mayGrow]; omega
  rcases h with ⟨rfl, rfl, h⟩ | ⟨d, rfl, hd, h, hb⟩
  · have hz : ¬ ys.length = 0 := by
      rcases hy with hy | hy
      · cases ys with | nil => exact absurd rfl hy | cons => simp
      · exact absurd rfl hy
    have hlt := hget_lt h
    refine ⟨.nilslice, .slice σ.length 0 ys.length none 1, hpush σ (ys.map byteAV), some σ.length, h, ?_, rfl, push_old h, .inr ⟨σ.length, rfl, by omega, ?_, ?_⟩, fun j c hj h1 _ => ?_⟩
    · have l0 : lenOf .nilslice = some 0 := rfl
      simp only [evAppend, hx, hn, l0]
      have hg' : mayGrow (0 + ys.length) 1 = true := by simpa using hg
      simp only [hg', byte_cell, Bool.and_self, if_true, if_neg hz, grown]
    · rw [set_same (push_old h)]; simp
    · rw [set_other (by omega), push_new rfl]; simp
    · have := hget_lt hj
      exact ⟨by rw [set_other (fun e => h1 e.symm)]; exact push_old hj, by simp; omega⟩
  · have hlt := hget_lt h
    have hd' := hget_lt hb
    have k1 : hget (hkill σ d) id = some [.slice d 0 bs.length none 1, .bool bad] := by rw [kill_other hd]; exact h
    refine ⟨.slice d 0 bs.length none 1, .slice σ.length 0 (bs.length + ys.length) none 1, hpush (hkill σ d) (bs.map byteAV ++ ys.map byteAV), some σ.length, h, ?_, rfl, push_old k1, .inr ⟨σ.length, rfl, by omega, ?_, ?_⟩, fun j c hj h1 h2 => ?_⟩
    · have he : elemsOf σ 1 (.slice d 0 bs.length none 1) = some (bs.map byteAV) := by
        simp only [elemsOf, if_true, hb, Option.bind_some, Nat.mul_one]
        exact sub_all (by simp)
      have l0 : lenOf (.slice d 0 bs.length none 1) = some bs.length := rfl
      simp only [evAppend, hx, hn, l0, hg, byte_cell, Bool.and_self, if_true, he, Option.map_some, grown, kill_len]
    · rw [set_same (push_old k1)]; simp
    · rw [set_other (by omega), push_new (by rw [kill_len])]; simp
    · have hj' := hget_lt hj
      exact ⟨by rw [set_other (fun e => h1 e.symm)]; exact push_old (by rw [kill_other (fun e => h2 (by rw [e]))]; exact hj), by simp; omega⟩
theorem cell_cells {v : AV} (h : v.isCell = true) : v.cells? = some [v] := by cases v <;> simp [AV.isCell] at h <;> rfl
/-! Num. -/
def numI (id s : Nat) (ns : List Int) (cap : Option Nat) (bs : List UInt8) (bad : Bool) (σ0 : AHeap) (D0 : Option Nat) (n : Nat) (e : Env) (σ : AHeap) : Prop :=
  ∃ (i : Nat) (D : Option Nat), i ≤ ns.length ∧ n = ns.length - i ∧ Pk σ id (bs ++ (ns.take i).flatMap u32) (bad || (ns.take i).any badN) D ∧ Fr σ0 σ id D0 D ∧
    e 0 = .ptr id 0 ∧ e 6 = .slice s 0 ns.length cap 1 ∧ e 7 = .int .i64 (ns.length : Int) ∧ e 8 = .int .i64 (i : Int)
set_option maxHeartbeats 4000000
set_option maxRecDepth 10000
theorem pk_get {σ : AHeap} {id : Nat} {bs : List UInt8} {bad : Bool} {D : Option Nat} (h : Pk σ id bs bad D) : ∃ P, hget σ id = some [P, .bool bad] := by
  rcases h with ⟨_, _, h⟩ | ⟨d, _, _, h, _⟩ <;> exact ⟨_, h⟩
theorem pk_bad {σ : AHeap} {id : Nat} {bs : List UInt8} {bad : Bool} {D : Option Nat} (h : Pk σ id bs bad D) {P : AV} (hP : hget σ id = some [P, .bool bad]) (b2 : Bool) : Pk (hset σ id [P, .bool b2]) id bs b2 D ∧ Fr σ (hset σ id [P, .bool b2]) id D D := by
  rcases h with ⟨rfl, rfl, h⟩ | ⟨d, rfl, hd, h, hb⟩
  · rw [hP] at h
    simp only [Option.some.injEq, List.cons.injEq, and_true] at h
    subst h
    exact ⟨.inl ⟨rfl, rfl, set_same hP⟩, fun j c hj h1 h2 => ⟨by rw [set_other (fun e => h1 e.symm)]; exact hj, h2⟩⟩
  · rw [hP] at h
    simp only [Option.some.injEq, List.cons.injEq, and_true] at h
    subst h
    exact ⟨.inr ⟨d, rfl, hd, set_same hP, by rw [set_other (fun e => hd e.symm)]; exact hb⟩, fun j c hj h1 h2 => ⟨by rw [set_other (fun e => h1 e.symm)]; exact hj, h2⟩⟩
theorem pk_push {σ : AHeap} {id : Nat} {bs : List UInt8} {bad : Bool} {D : Option Nat} (h : Pk σ id bs bad D) (c : List AV) : Pk (hpush σ c) id bs bad D ∧ Fr σ (hpush σ c) id D D := by
  refine ⟨?_, fun j d hj h1 h2 => ⟨push_old hj, h2⟩⟩
  rcases h with ⟨rfl, rfl, h⟩ | ⟨d, rfl, hd, h, hb⟩
  · exact .inl ⟨rfl, rfl, push_old h⟩
  · exact .inr ⟨d, rfl, hd, push_old h, push_old hb⟩
theorem num_tail (id s : Nat) (ns : List Int) (cap : Option Nat) (bs : List UInt8) (bad : Bool) (σ0 : AHeap) (D0 : Option Nat) (hsz : bs.length + 4 * ns.length ≤ 1000000000) {R : MExit → Env → AHeap → Prop} (n0 n i : Nat) (hn : n = ns.length - i) (hlt : i < ns.length) (x : Int) (hx : ns[i]? = some x)
    (e : Env) (σ : AHeap) (D : Option Nat) (hp : Pk σ id (bs ++ (ns.take i).flatMap u32) (bad || (ns.take (i + 1)).any badN) D) (hf : Fr σ0 σ id D0 D)
    (h0 : e 0 = .ptr id 0) (h5 : e 5 = .int .i64 x) (h6 : e 6 = .slice s 0 ns.length cap 1) (h7 : e 7 = .int .i64 (ns.length : Int)) (h8 : e 8 = .int .i64 (i : Int)) :
    sC noCall n0 b106_5 (unw noCall n0 (loopR noCall n0 R (.block 0 .fin) (numI id s ns cap bs bad σ0 D0) n) (.block 1 (.seq b106_9 .fin))) e σ := by
  have hw : IntKind.wrap .i64 ((i : Int) + 1) = ((i + 1 : Nat) : Int) := by rw [Gz.wrap64 (by omega)]; omega
  have htk : ns.take (i + 1) = ns.take i ++ [x] := by rw [List.take_add_one, hx]; rfl
  have hlen : ((ns.take i).flatMap u32).length ≤ 4 * i := by
    have : ∀ l : List Int, (l.flatMap u32).length = 4 * l.length := by
      intro l; induction l with
      | nil => rfl
      | cons a l ih => simp only [List.flatMap_cons, List.length_append, ih, u32_len, List.length_cons]; omega
    rw [this, List.length_take]; omega
  obtain ⟨hp1, hf1⟩ := pk_push hp ((u32 x).map byteAV)
  have he : elemsOf (hpush σ ((u32 x).map byteAV)) 1 (.slice σ.length 0 4 (some 4) 1) = some ((u32 x).map byteAV) := by
    simp only [elemsOf, if_true, push_new rfl, Option.bind_some, Nat.mul_one]
    exact sub_all rfl
  obtain ⟨P, v, σ2, D', a1, a2, a3, a4, a5, a6⟩ := app_step hp1 (u32 x) (.inl (by simp [u32])) (bad || (ns.take (i + 1)).any badN) he rfl (by rw [List.length_append, u32_len]; omega)
  obtain ⟨P', hP'⟩ := pk_get hp
  have : P' = P := by
    have := push_old (c := (u32 x).map byteAV) hP'
    rw [this] at a1; simp at a1; exact a1
  subst this
  rw [u32_map] at a2
  have a3' := cell_cells a3
  generalize hB : (bad || (ns.take (i + 1)).any badN) = B at *
  simp only [Z106, x106_5, base1, ↓reduceIte, Nat.reduceAdd, Nat.reduceSub, Nat.reduceMul, Nat.reduceEqDiff, Nat.reduceLeDiff, Nat.reduceLT, Int.reduceLT, Int.reduceLE, Int.reduceEq, Int.reduceNe, Int.reduceToNat, Int.reduceAdd, Int.reduceSub, reduceCtorEq, Nat.reduceBEq, Nat.reduceBNe, h0, h5, h6, h7, h8, hP', shr24, shr16, shr8, a2, a3, a3', a4, hw]
  rw [loopR_normal]
  refine ⟨ns.length - (i + 1), _, _, by omega, .refl _ _ _, i + 1, D', hlt, rfl, ?_, (hf.trans hf1).trans a6, ?_, ?_, ?_, ?_⟩
  · rw [hB, htk, List.flatMap_append, ← List.append_assoc]
    simpa using a5
  all_goals simp only [putD_some, putD_none, Nat.reduceEqDiff, ↓reduceIte, h0, h6, h7, h8, hw]
theorem num_step (id s : Nat) (ns : List Int) (cap : Option Nat) (bs : List UInt8) (bad : Bool) (σ0 : AHeap) (D0 : Option Nat) (hs : hget σ0 s = some (ns.map fun n => AV.int .i64 n)) (hsi : s ≠ id) (hsD : D0 ≠ some s) (hsz : bs.length + 4 * ns.length ≤ 1000000000)
    (Q : AV → AHeap → Prop) (hQ : ∀ σ' D', Pk σ' id (bs ++ ns.flatMap u32) (bad || ns.any badN) D' → Fr σ0 σ' id D0 D' → Q (.tuple []) σ') (n0 n : Nat) (e : Env) (σ : AHeap) (h : numI id s ns cap bs bad σ0 D0 n e σ) :
    sC noCall n0 b106_12 (unw noCall n0 (loopR noCall n0 (RetQ [] Q) (.block 0 .fin) (numI id s ns cap bs bad σ0 D0) n) .fin) e σ := by
  obtain ⟨i, D, hi, hn, hp, hf, h0, h6, h7, h8⟩ := h
  rcases Nat.lt_or_ge i ns.length with hlt | hge
  · have hlt' : (i : Int) < (ns.length : Int) := by omega
    have hge0 : (0 : Int) ≤ (i : Int) := by omega
    obtain ⟨g1, g2⟩ := hf s _ hs hsi hsD
    obtain ⟨x, hx⟩ : ∃ x, ns[i]? = some x := ⟨_, List.getElem?_eq_getElem hlt⟩
    have hxx : (ns.map fun n => AV.int .i64 n)[i]? = some (.int .i64 x) := by simp [hx]
    obtain ⟨P, hP⟩ := pk_get hp
    have htk : ns.take (i + 1) = ns.take i ++ [x] := by rw [List.take_add_one, hx]; rfl
    have key : ∀ (b2 : Bool) (e' : Env), b2 = (bad || (ns.take (i + 1)).any badN) → e' 0 = .ptr id 0 → e' 5 = .int .i64 x → e' 6 = .slice s 0 ns.length cap 1 → e' 7 = .int .i64 (ns.length : Int) → e' 8 = .int .i64 (i : Int) →
        sC noCall n0 b106_5 (unw noCall n0 (loopR noCall n0 (RetQ [] Q) (.block 0 .fin) (numI id s ns cap bs bad σ0 D0) n) (.block 1 (.seq b106_9 .fin))) e' (hset σ id [P, .bool b2]) := by
      intro b2 e' hb2 k0 k5 k6 k7 k8
      obtain ⟨p1, p2⟩ := pk_bad hp hP b2
      subst hb2
      exact num_tail id s ns cap bs bad σ0 D0 hsz n0 n i hn hlt x hx e' _ D p1 (hf.trans p2) k0 k5 k6 k7 k8
    have hb2 : (bad || (ns.take (i + 1)).any badN) = ((bad || (ns.take i).any badN) || badN x) := by rw [htk]; simp [Bool.or_assoc]
    generalize hB : (bad || (ns.take i).any badN) = B at hp hP hb2
    cases B with
    | true =>
      simp only [Z106, base1, baseE, ↓reduceIte, Nat.reduceAdd, Nat.reduceSub, Nat.reduceMul, Nat.reduceEqDiff, Nat.reduceLeDiff, Nat.reduceLT, Int.reduceLT, Int.reduceLE, Int.reduceEq, Int.reduceNe, Int.reduceToNat, Int.reduceAdd, Int.reduceSub, reduceCtorEq, Nat.reduceBEq, Nat.reduceBNe, loopR_exit, loopR_ret, h0, h6, h7, h8, hlt', hlt, hge0, g1, hxx, hP, Int.toNat_natCast]
      exact key true _ (by rw [hb2]; rfl) h0 rfl h6 h7 h8
    | false =>
      by_cases hneg : x < 0
      · simp only [Z106, base1, baseE, ↓reduceIte, Nat.reduceAdd, Nat.reduceSub, Nat.reduceMul, Nat.reduceEqDiff, Nat.reduceLeDiff, Nat.reduceLT, Int.reduceLT, Int.reduceLE, Int.reduceEq, Int.reduceNe, Int.reduceToNat, Int.reduceAdd, Int.reduceSub, reduceCtorEq, Nat.reduceBEq, Nat.reduceBNe, loopR_exit, loopR_ret, h0, h6, h7, h8, hlt', hlt, hge0, g1, hxx, hP, hneg, Int.toNat_natCast]
        exact key true _ (by rw [hb2]; simp [badN, hneg]) h0 rfl h6 h7 h8
      · by_cases hbig : (268435455 : Int) < x
        · simp only [Z106, base1, baseE, ↓reduceIte, Nat.reduceAdd, Nat.reduceSub, Nat.reduceMul, Nat.reduceEqDiff, Nat.reduceLeDiff, Nat.reduceLT, Int.reduceLT, Int.reduceLE, Int.reduceEq, Int.reduceNe, Int.reduceToNat, Int.reduceAdd, Int.reduceSub, reduceCtorEq, Nat.reduceBEq, Nat.reduceBNe, loopR_exit, loopR_ret, h0, h6, h7, h8, hlt', hlt, hge0, g1, hxx, hP, hneg, hbig, Int.toNat_natCast]
          exact key true _ (by rw [hb2]; simp [badN, hbig]) h0 rfl h6 h7 h8
        · simp only [Z106, base1, baseE, ↓reduceIte, Nat.reduceAdd, Nat.reduceSub, Nat.reduceMul, Nat.reduceEqDiff, Nat.reduceLeDiff, Nat.reduceLT, Int.reduceLT, Int.reduceLE, Int.reduceEq, Int.reduceNe, Int.reduceToNat, Int.reduceAdd, Int.reduceSub, reduceCtorEq, Nat.reduceBEq, Nat.reduceBNe, loopR_exit, loopR_ret, h0, h6, h7, h8, hlt', hlt, hge0, g1, hxx, hP, hneg, hbig, Int.toNat_natCast]
          exact key false _ (by rw [hb2]; simp [badN, hneg, hbig]) h0 rfl h6 h7 h8
  · have hlt' : ¬ (i : Int) < (ns.length : Int) := by omega
    have hie : i = ns.length := by omega
    subst hie
    rw [List.take_length] at hp
    simp only [Z106, x106_5, base1, baseE, ↓reduceIte, Nat.reduceAdd, Nat.reduceSub, Nat.reduceMul, Nat.reduceEqDiff, Nat.reduceLeDiff, Nat.reduceLT, Int.reduceLT, Int.reduceLE, Int.reduceEq, Int.reduceNe, Int.reduceToNat, Int.reduceAdd, Int.reduceSub, reduceCtorEq, Nat.reduceBEq, Nat.reduceBNe, loopR_exit, loopR_ret, h0, h6, h7, h8, hlt']
    exact hQ _ _ hp hf
def numD (args : List AV) (σ : AHeap) (K : AV → AHeap → Prop) : Prop :=
  ∃ (id s : Nat) (ns : List Int) (cap : Option Nat) (bs : List UInt8) (bad : Bool) (D : Option Nat), args = [.ptr id 0, .slice s 0 ns.length cap 1] ∧ hget σ s = some (ns.map fun n => AV.int .i64 n) ∧ s ≠ id ∧ D ≠ some s ∧ bs.length + 4 * ns.length ≤ 1000000000 ∧ Pk σ id bs bad D ∧
    ∀ σ' D', Pk σ' id (bs ++ ns.flatMap u32) (bad || ns.any badN) D' → Fr σ σ' id D D' → K (.tuple []) σ'
theorem numD_ok (args : List AV) (σ : AHeap) (K : AV → AHeap → Prop) (h : numD args σ K) : Tri Tryz.prog 106 args σ K := by
  obtain ⟨id, s, ns, cap, bs, bad, D, rfl, h1, h2, h3, h4, h5, h6⟩ := h
  refine Tri.of_s c106 (noCall_sound _) ?_
  simp only [Z106, x106_5, base1, baseE, ↓reduceIte, Nat.reduceAdd, Nat.reduceSub, Nat.reduceMul, Nat.reduceEqDiff, Nat.reduceLeDiff, Nat.reduceLT, Int.reduceLT, Int.reduceLE, Int.reduceEq, Int.reduceNe, Int.reduceToNat, Int.reduceAdd, Int.reduceSub, reduceCtorEq, Nat.reduceBEq, Nat.reduceBNe]
  refine sC_inv (a := b106_12) (numI id s ns cap bs bad σ D) ns.length _ σ (.refl _ _ _) ⟨0, D, Nat.zero_le _, rfl, by simpa using h5, Fr.refl _ _ _, rfl, rfl, rfl, rfl⟩ (num_step id s ns cap bs bad σ D h1 h2 h3 h4 K h6 σ.length)
def E1 : PCall := rowQ 106 numD noCall
theorem E1_app {f : FuncId} {args : List AV} {σ : AHeap} {K : AV → AHeap → Prop} : E1 f args σ K = rowQ 106 numD noCall f args σ K := _root_.id rfl
theorem E1_sound : Sound Tryz.prog E1 := rowQ_sound numD_ok (noCall_sound _)
/-! Text. -/
def badT (s : List UInt8) : Bool := badN (s.length : Int)
def textI (id s : Nat) (ss : List (List UInt8)) (cap : Option Nat) (bs : List UInt8) (bad : Bool) (σ0 : AHeap) (D0 : Option Nat) (n : Nat) (e : Env) (σ : AHeap) : Prop :=
  ∃ (i : Nat) (D : Option Nat), i ≤ ss.length ∧ n = ss.length - i ∧ Pk σ id (bs ++ (ss.take i).flatMap txt) (bad || (ss.take i).any badT) D ∧ Fr σ0 σ id D0 D ∧
    e 0 = .ptr id 0 ∧ e 6 = .slice s 0 ss.length cap 1 ∧ e 7 = .int .i64 (ss.length : Int) ∧ e 8 = .int .i64 (i : Int)
def total (ss : List (List UInt8)) : Nat := (ss.flatMap txt).length
theorem total_take {ss : List (List UInt8)} {i : Nat} {x : List UInt8} (hx : ss[i]? = some x) : ((ss.take i).flatMap txt).length + (4 + x.length) ≤ total ss := by
  have h1 : ss = ss.take i ++ x :: ss.drop (i + 1) := by
    have hlt := (List.getElem?_eq_some_iff.1 hx).1
    have := (List.getElem?_eq_some_iff.1 hx).2
    rw [← this, List.getElem_cons_drop, List.take_append_drop]
  unfold total
  conv => rhs; rw [h1]
  simp only [List.flatMap_append, List.flatMap_cons, List.length_append, txt, u32_len]
  omega
theorem text_step (id s : Nat) (ss : List (List UInt8)) (cap : Option Nat) (bs : List UInt8) (bad : Bool) (σ0 : AHeap) (D0 : Option Nat) (hs : hget σ0 s = some (ss.map fun n => AV.str n)) (hsi : s ≠ id) (hsD : D0 ≠ some s) (hsz : bs.length + total ss ≤ 1000000000) (hsn : ss.length ≤ 1000000000)
    (Q : AV → AHeap → Prop) (hQ : ∀ σ' D', Pk σ' id (bs ++ ss.flatMap txt) (bad || ss.any badT) D' → Fr σ0 σ' id D0 D' → Q (.tuple []) σ') (n0 n : Nat) (e : Env) (σ : AHeap) (h : textI id s ss cap bs bad σ0 D0 n e σ) :
    sC E1 n0 b107_12 (unw E1 n0 (loopR E1 n0 (RetQ [] Q) (.block 0 .fin) (textI id s ss cap bs bad σ0 D0) n) .fin) e σ := by
  obtain ⟨i, D, hi, hn, hp, hf, h0, h6, h7, h8⟩ := h
  rcases Nat.lt_or_ge i ss.length with hlt | hge
  · have hlt' : (i : Int) < (ss.length : Int) := by omega
    have hge0 : (0 : Int) ≤ (i : Int) := by omega
    obtain ⟨g1, g2⟩ := hf s _ hs hsi hsD
    obtain ⟨x, hx⟩ : ∃ x, ss[i]? = some x := ⟨_, List.getElem?_eq_getElem hlt⟩
    have hxx : (ss.map fun n => AV.str n)[i]? = some (.str x) := by simp [hx]
    have htk : ss.take (i + 1) = ss.take i ++ [x] := by rw [List.take_add_one, hx]; rfl
    have hw : IntKind.wrap .i64 ((i : Int) + 1) = ((i + 1 : Nat) : Int) := by rw [Gz.wrap64 (by omega)]; omega
    have htot := total_take hx
    simp only [E1_app, Z107, base1, ↓reduceIte, Nat.reduceAdd, Nat.reduceSub, Nat.reduceMul, Nat.reduceEqDiff, Nat.reduceLeDiff, Nat.reduceLT, Int.reduceLT, Int.reduceLE, Int.reduceEq, Int.reduceNe, Int.reduceToNat, Int.reduceAdd, Int.reduceSub, reduceCtorEq, Nat.reduceBEq, Nat.reduceBNe, loopR_exit, loopR_ret, h0, h6, h7, h8, hlt', hlt, hge0, g1, hxx, Int.toNat_natCast]
    obtain ⟨p1, f1⟩ := pk_push hp [.int .i64 (x.length : Int)]
    refine ⟨id, σ.length, [(x.length : Int)], some 1, _, _, D, rfl, push_new rfl, ?_, ?_, ?_, p1, fun σ1 D1 q1 f2 => ?_⟩
    · obtain ⟨P, hP⟩ := pk_get hp; have := hget_lt hP; omega
    · rcases hp with ⟨rfl, _, _⟩ | ⟨d, rfl, _, _, hb⟩
      · simp
      · have := hget_lt hb; simp; omega
    · simp only [List.length_append, List.length_cons, List.length_nil]; omega
    have he : elemsOf σ1 1 (.str x) = some (x.map byteAV) := rfl
    obtain ⟨P, v, σ2, D', a1, a2, a3, a4, a5, a6⟩ := app_step q1 x (.inr (by simp [u32])) (bad || (ss.take (i + 1)).any badT) he rfl (by simp only [List.length_append, List.flatMap_cons, List.flatMap_nil, u32_len, List.append_nil]; omega)
    have a3' := cell_cells a3
    have hB : (bad || (ss.take (i + 1)).any badT) = ((bad || (ss.take i).any badT) || [(x.length : Int)].any badN) := by rw [htk]; simp [Bool.or_assoc, badT]
    rw [← hB] at a1 a4
    generalize hB' : (bad || (ss.take (i + 1)).any badT) = B at *
    simp only [E1_app, Z107, base1, ↓reduceIte, Nat.reduceAdd, Nat.reduceSub, Nat.reduceMul, Nat.reduceEqDiff, Nat.reduceLeDiff, Nat.reduceLT, Int.reduceLT, Int.reduceLE, Int.reduceEq, Int.reduceNe, Int.reduceToNat, Int.reduceAdd, Int.reduceSub, reduceCtorEq, Nat.reduceBEq, Nat.reduceBNe, h0, h6, h7, h8, a1, a2, a3, a3', a4, hw]
    rw [loopR_normal]
    refine ⟨ss.length - (i + 1), _, _, by omega, .refl _ _ _, i + 1, D', hlt, rfl, ?_, ((hf.trans f1).trans f2).trans a6, ?_, ?_, ?_, ?_⟩
    · rw [hB', htk, List.flatMap_append, ← List.append_assoc]
      simpa [txt] using a5
    all_goals simp only [putD_some, putD_none, Nat.reduceEqDiff, ↓reduceIte, h0, h6, h7, h8, hw]
  · have hlt' : ¬ (i : Int) < (ss.length : Int) := by omega
    have hie : i = ss.length := by omega
    subst hie
    rw [List.take_length] at hp
    simp only [E1_app, Z107, base1, baseE, ↓reduceIte, Nat.reduceAdd, Nat.reduceSub, Nat.reduceMul, Nat.reduceEqDiff, Nat.reduceLeDiff, Nat.reduceLT, Int.reduceLT, Int.reduceLE, Int.reduceEq, Int.reduceNe, Int.reduceToNat, Int.reduceAdd, Int.reduceSub, reduceCtorEq, Nat.reduceBEq, Nat.reduceBNe, loopR_exit, loopR_ret, h0, h6, h7, h8, hlt']
    exact hQ _ _ hp hf
def textD (args : List AV) (σ : AHeap) (K : AV → AHeap → Prop) : Prop :=
  ∃ (id s : Nat) (ss : List (List UInt8)) (cap : Option Nat) (bs : List UInt8) (bad : Bool) (D : Option Nat), args = [.ptr id 0, .slice s 0 ss.length cap 1] ∧ hget σ s = some (ss.map fun n => AV.str n) ∧ s ≠ id ∧ D ≠ some s ∧ bs.length + total ss ≤ 1000000000 ∧ ss.length ≤ 1000000000 ∧ Pk σ id bs bad D ∧
    ∀ σ' D', Pk σ' id (bs ++ ss.flatMap txt) (bad || ss.any badT) D' → Fr σ σ' id D D' → K (.tuple []) σ'
theorem textD_ok (args : List AV) (σ : AHeap) (K : AV → AHeap → Prop) (h : textD args σ K) : Tri Tryz.prog 107 args σ K := by
  obtain ⟨id, s, ss, cap, bs, bad, D, rfl, h1, h2, h3, h4, h4', h5, h6⟩ := h
  refine Tri.of_s c107 E1_sound ?_
  simp only [E1_app, Z107, base1, baseE, ↓reduceIte, Nat.reduceAdd, Nat.reduceSub, Nat.reduceMul, Nat.reduceEqDiff, Nat.reduceLeDiff, Nat.reduceLT, Int.reduceLT, Int.reduceLE, Int.reduceEq, Int.reduceNe, Int.reduceToNat, Int.reduceAdd, Int.reduceSub, reduceCtorEq, Nat.reduceBEq, Nat.reduceBNe]
  refine sC_inv (a := b107_12) (textI id s ss cap bs bad σ D) ss.length _ σ (.refl _ _ _) ⟨0, D, Nat.zero_le _, rfl, by simpa using h5, Fr.refl _ _ _, rfl, rfl, rfl, rfl⟩ (text_step id s ss cap bs bad σ D h1 h2 h3 h4 h4' K h6 σ.length)
/-! Truth, packed. -/
def truthD (args : List AV) (σ : AHeap) (K : AV → AHeap → Prop) : Prop :=
  ∃ (id : Nat) (t : Bool) (bs : List UInt8) (bad : Bool) (D : Option Nat), args = [.ptr id 0, .bool t] ∧ bs.length + 1 ≤ 1000000000 ∧ Pk σ id bs bad D ∧
    ∀ σ' D', Pk σ' id (bs ++ [if t then 1 else 0]) bad D' → Fr σ σ' id D D' → K (.tuple []) σ'
theorem truthD_ok (args : List AV) (σ : AHeap) (K : AV → AHeap → Prop) (h : truthD args σ K) : Tri Tryz.prog 109 args σ K := by
  obtain ⟨id, t, bs, bad, D, rfl, h1, h2, h3⟩ := h
  refine Tri.of_s c109 (noCall_sound _) ?_
  have key : ∀ b : UInt8, b = (if t then 1 else 0) → ∃ P v σ2 D', hget σ id = some [P, .bool bad] ∧ evAppend 1 1 P (.slice σ.length 0 1 (some 1) 1) (hpush σ [byteAV b]) = some (v, σ2) ∧ v.isCell = true ∧ v.cells? = some [v] ∧ hget σ2 id = some [P, .bool bad] ∧ Pk (hset σ2 id [v, .bool bad]) id (bs ++ [b]) bad D' ∧ Fr σ (hset σ2 id [v, .bool bad]) id D D' := by
    intro b _
    obtain ⟨p1, f1⟩ := pk_push h2 [byteAV b]
    have he : elemsOf (hpush σ [byteAV b]) 1 (.slice σ.length 0 1 (some 1) 1) = some ([b].map byteAV) := by
      simp only [elemsOf, if_true, push_new rfl, Option.bind_some, Nat.mul_one]
      exact sub_all rfl
    obtain ⟨P, v, σ2, D', a1, a2, a3, a4, a5, a6⟩ := app_step p1 [b] (.inl (by simp)) bad he rfl (by simpa using h1)
    obtain ⟨P', hP'⟩ := pk_get h2
    have : P' = P := by
      have := push_old (c := [byteAV b]) hP'
      rw [this] at a1; simp at a1; exact a1
    subst this
    exact ⟨P', v, σ2, D', hP', a2, a3, cell_cells a3, a4, a5, f1.trans a6⟩
  cases t with
  | true =>
    obtain ⟨P, v, σ2, D', a1, a2, a3, a3', a4, a5, a6⟩ := key 1 rfl
    have hb : byteAV 1 = .int .u8 1 := rfl
    rw [hb] at a2
    simp only [Z109, base1, ↓reduceIte, Nat.reduceAdd, Nat.reduceSub, Nat.reduceMul, Nat.reduceEqDiff, Nat.reduceLeDiff, Nat.reduceLT, Int.reduceLT, Int.reduceLE, Int.reduceEq, Int.reduceNe, Int.reduceToNat, Int.reduceAdd, Int.reduceSub, reduceCtorEq, Nat.reduceBEq, Nat.reduceBNe, a1, a2, a3, a3', a4]
    exact h3 _ _ a5 a6
  | false =>
    obtain ⟨P, v, σ2, D', a1, a2, a3, a3', a4, a5, a6⟩ := key 0 rfl
    have hb : byteAV 0 = .int .u8 0 := rfl
    rw [hb] at a2
    simp only [Z109, base1, ↓reduceIte, Nat.reduceAdd, Nat.reduceSub, Nat.reduceMul, Nat.reduceEqDiff, Nat.reduceLeDiff, Nat.reduceLT, Int.reduceLT, Int.reduceLE, Int.reduceEq, Int.reduceNe, Int.reduceToNat, Int.reduceAdd, Int.reduceSub, reduceCtorEq, Nat.reduceBEq, Nat.reduceBNe, a1, a2, a3, a3', a4]
    exact h3 _ _ a5 a6
def packedD (args : List AV) (σ : AHeap) (K : AV → AHeap → Prop) : Prop :=
  ∃ (id : Nat) (bs : List UInt8) (bad : Bool) (d : Nat), args = [.ptr id 0] ∧ Pk σ id bs bad (some d) ∧
    K (if (bad || decide (32768 < bs.length)) = true then .tuple [.nilslice, .int .i64 1] else .tuple [.slice d 0 bs.length none 1, .int .i64 0]) σ
theorem packedD_ok (args : List AV) (σ : AHeap) (K : AV → AHeap → Prop) (h : packedD args σ K) : Tri Tryz.prog 108 args σ K := by
  obtain ⟨id, bs, bad, d, rfl, h1, h2⟩ := h
  refine Tri.of_s c108 (noCall_sound _) ?_
  rcases h1 with ⟨h, _⟩ | ⟨d', hd, _, hg, _⟩
  · cases h
  · cases hd
    cases bad with
    | true =>
      simp only [Z108, base1, baseE, ↓reduceIte, Nat.reduceAdd, Nat.reduceSub, Nat.reduceMul, Nat.reduceEqDiff, Nat.reduceLeDiff, Nat.reduceLT, Int.reduceLT, Int.reduceLE, Int.reduceEq, Int.reduceNe, Int.reduceToNat, Int.reduceAdd, Int.reduceSub, reduceCtorEq, Nat.reduceBEq, Nat.reduceBNe, hg]
      exact h2
    | false =>
      by_cases hl : (32768 : Int) < (bs.length : Int)
      · have hl' : 32768 < bs.length := by omega
        simp only [hl', decide_true, Bool.or_true, if_true] at h2
        simp only [Z108, base1, baseE, ↓reduceIte, Nat.reduceAdd, Nat.reduceSub, Nat.reduceMul, Nat.reduceEqDiff, Nat.reduceLeDiff, Nat.reduceLT, Int.reduceLT, Int.reduceLE, Int.reduceEq, Int.reduceNe, Int.reduceToNat, Int.reduceAdd, Int.reduceSub, reduceCtorEq, Nat.reduceBEq, Nat.reduceBNe, hg, hl]
        exact h2
      · have hl' : ¬ 32768 < bs.length := by omega
        simp only [hl', decide_false, Bool.or_false, Bool.false_eq_true, if_false] at h2
        simp only [Z108, base1, baseE, ↓reduceIte, Nat.reduceAdd, Nat.reduceSub, Nat.reduceMul, Nat.reduceEqDiff, Nat.reduceLeDiff, Nat.reduceLT, Int.reduceLT, Int.reduceLE, Int.reduceEq, Int.reduceNe, Int.reduceToNat, Int.reduceAdd, Int.reduceSub, reduceCtorEq, Nat.reduceBEq, Nat.reduceBNe, hg, hl]
        exact h2
def E2 : PCall := rowQ 106 numD (rowQ 107 textD (rowQ 108 packedD (rowQ 109 truthD noCall)))
theorem E2_app {f : FuncId} {args : List AV} {σ : AHeap} {K : AV → AHeap → Prop} : E2 f args σ K = rowQ 106 numD (rowQ 107 textD (rowQ 108 packedD (rowQ 109 truthD noCall))) f args σ K := _root_.id rfl
theorem E2_sound : Sound Tryz.prog E2 := rowQ_sound numD_ok (rowQ_sound textD_ok (rowQ_sound packedD_ok (rowQ_sound truthD_ok (noCall_sound _))))
/-! Ask. -/
structure AskV where
  do_ : Int
  client : Int
  seq : Int
  text : List UInt8
  val : List UInt8
  from_ : List UInt8
  to : List UInt8
  limit : Int
def AskV.cells (a : AskV) : List AV := [.int .i64 a.do_, .int .i64 a.client, .int .i64 a.seq, .str a.text, .str a.val, .str a.from_, .str a.to, .int .i64 a.limit]
def AskV.nums (a : AskV) : List Int := [a.do_, a.client, a.seq, a.limit]
def AskV.texts (a : AskV) : List (List UInt8) := [a.text, a.val, a.from_, a.to]
def AskV.bytes (a : AskV) : List UInt8 := a.nums.flatMap u32 ++ a.texts.flatMap txt
def AskV.bad (a : AskV) : Bool := (a.nums.any badN || a.texts.any badT) || decide (32768 < a.bytes.length)
/-- What a packer answers. -/
def packR (bad : Bool) (bs : List UInt8) : AV := if bad = true then .tuple [.nilslice, .int .i64 1] else .tuple [.imm (bs.map fun b => [byteAV b]) false false, .int .i64 0]
theorem rows_flat (bs : List UInt8) : (bs.map fun b => [byteAV b]).flatten = bs.map byteAV := by
  induction bs with
  | nil => rfl
  | cons b r ih => simp [ih]
theorem pack_less {f : FuncId} {args : List AV} {bad : Bool} {bs : List UInt8} (h : Tri Tryz.prog f args [] fun r σ' => ∃ d, hget σ' d = some (bs.map byteAV) ∧ r = if bad = true then .tuple [.nilslice, .int .i64 1] else .tuple [.slice d 0 bs.length none 1, .int .i64 0]) :
    Tri Tryz.prog f args [] fun r _ => r.cleanD ∧ r = packR bad bs := by
  refine h.less fun r σ' hr => ?_
  obtain ⟨d, hd, rfl⟩ := hr
  refine ⟨[], packR bad bs, [], rfl, by unfold blksP; trivial, ?_, ?_, rfl⟩
  · unfold packR
    cases bad with
    | true => simp [wv, wvs]
    | false =>
      simp only [Bool.false_eq_true, if_false, wv, wvs, and_true, true_and]
      refine ⟨by simp, ⟨_, hd, by rw [rows_flat, Nat.mul_one]; exact sub_all (by simp)⟩, by simp, ?_, by simp, by simp, ?_⟩
      · intro r hr
        obtain ⟨b, _, rfl⟩ := List.mem_map.1 hr
        rfl
      · intro r hr x hx
        obtain ⟨b, _, rfl⟩ := List.mem_map.1 hr
        simp at hx; subst hx; rfl
  · unfold packR
    cases bad with
    | true => intro v hv; simp at hv; rcases hv with rfl | rfl <;> rfl
    | false =>
      intro v hv
      simp at hv
      rcases hv with rfl | rfl
      · intro r hr x hx
        obtain ⟨b, _, rfl⟩ := List.mem_map.1 hr
        simp at hx; subst hx; rfl
      · rfl
theorem pk_some {σ : AHeap} {id : Nat} {bs : List UInt8} {bad : Bool} {D : Option Nat} (h : Pk σ id bs bad D) (hb : bs ≠ []) : ∃ d, D = some d ∧ hget σ d = some (bs.map byteAV) := by
  rcases h with ⟨_, h, _⟩ | ⟨d, hd, _, _, hg⟩
  · exact absurd h hb
  · exact ⟨d, hd, hg⟩
theorem ask_ok (a : AskV) (hsz : total a.texts ≤ 900000000) : Tri Tryz.prog 54 [.agg a.cells] [] fun r _ => r.cleanD ∧ r = packR a.bad a.bytes := by
  refine pack_less (Tri.of_s c54 E2_sound ?_)
  obtain ⟨do_, client, seq, text, val, from_, to, limit⟩ := a
  simp only [AskV.cells, AskV.texts] at hsz ⊢
  simp only [E2_app, Z54, base1, baseE, ↓reduceIte, Nat.reduceAdd, Nat.reduceSub, Nat.reduceMul, Nat.reduceEqDiff, Nat.reduceLeDiff, Nat.reduceLT, Int.reduceLT, Int.reduceLE, Int.reduceEq, Int.reduceNe, Int.reduceToNat, Int.reduceAdd, Int.reduceSub, reduceCtorEq, Nat.reduceBEq, Nat.reduceBNe]
  refine ⟨1, 2, [do_, client, seq, limit], some 4, [], false, none, rfl, rfl, by decide, by simp, by simp, .inl ⟨rfl, rfl, rfl⟩, fun σ1 D1 q1 f1 => ?_⟩
  obtain ⟨g0, g0'⟩ := f1 0 _ rfl (by decide) (by simp)
  simp only [E2_app, Z54, base1, baseE, ↓reduceIte, Nat.reduceAdd, Nat.reduceSub, Nat.reduceMul, Nat.reduceEqDiff, Nat.reduceLeDiff, Nat.reduceLT, Int.reduceLT, Int.reduceLE, Int.reduceEq, Int.reduceNe, Int.reduceToNat, Int.reduceAdd, Int.reduceSub, reduceCtorEq, Nat.reduceBEq, Nat.reduceBNe, g0]
  obtain ⟨p1, r1⟩ := pk_push q1 [.str text, .str val, .str from_, .str to]
  refine ⟨1, σ1.length, [text, val, from_, to], some 4, _, _, D1, rfl, push_new rfl, ?_, ?_, ?_, by simp, p1, fun σ2 D2 q2 f2 => ?_⟩
  · obtain ⟨P, hP⟩ := pk_get q1; have := hget_lt hP; omega
  · obtain ⟨d, rfl, hd⟩ := pk_some q1 (by simp [u32])
    have := hget_lt hd; simp; omega
  · have : ([] ++ [do_, client, seq, limit].flatMap u32).length = 16 := rfl
    rw [this]; omega
  obtain ⟨d, rfl, hd⟩ := pk_some q2 (by simp [u32])
  simp only [E2_app, Z54, base1, baseE, ↓reduceIte, Nat.reduceAdd, Nat.reduceSub, Nat.reduceMul, Nat.reduceEqDiff, Nat.reduceLeDiff, Nat.reduceLT, Int.reduceLT, Int.reduceLE, Int.reduceEq, Int.reduceNe, Int.reduceToNat, Int.reduceAdd, Int.reduceSub, reduceCtorEq, Nat.reduceBEq, Nat.reduceBNe]
  refine ⟨1, _, _, d, rfl, q2, ?_⟩
  have hb : (((false || [do_, client, seq, limit].any badN) || [text, val, from_, to].any badT) || decide (32768 < ([] ++ [do_, client, seq, limit].flatMap u32 ++ [text, val, from_, to].flatMap txt).length)) = AskV.bad ⟨do_, client, seq, text, val, from_, to, limit⟩ := rfl
  rw [hb]
  have hbs : [] ++ [do_, client, seq, limit].flatMap u32 ++ [text, val, from_, to].flatMap txt = AskV.bytes ⟨do_, client, seq, text, val, from_, to, limit⟩ := rfl
  rw [hbs] at hd ⊢
  cases AskV.bad ⟨do_, client, seq, text, val, from_, to, limit⟩ with
  | true =>
    simp only [E2_app, Z54, base1, baseE, ↓reduceIte, Nat.reduceAdd, Nat.reduceSub, Nat.reduceMul, Nat.reduceEqDiff, Nat.reduceLeDiff, Nat.reduceLT, Int.reduceLT, Int.reduceLE, Int.reduceEq, Int.reduceNe, Int.reduceToNat, Int.reduceAdd, Int.reduceSub, reduceCtorEq, Nat.reduceBEq, Nat.reduceBNe]
    exact ⟨d, hd⟩
  | false =>
    simp only [E2_app, Z54, base1, baseE, ↓reduceIte, Nat.reduceAdd, Nat.reduceSub, Nat.reduceMul, Nat.reduceEqDiff, Nat.reduceLeDiff, Nat.reduceLT, Int.reduceLT, Int.reduceLE, Int.reduceEq, Int.reduceNe, Int.reduceToNat, Int.reduceAdd, Int.reduceSub, reduceCtorEq, Nat.reduceBEq, Nat.reduceBNe]
    exact ⟨d, hd, rfl⟩
theorem pk_set {σ : AHeap} {id : Nat} {bs : List UInt8} {bad : Bool} {D : Option Nat} (h : Pk σ id bs bad D) {j : Nat} {c : List AV} (hj : j ≠ id) (hD : D ≠ some j) : Pk (hset σ j c) id bs bad D := by
  rcases h with ⟨rfl, rfl, h⟩ | ⟨d, rfl, hd, h, hb⟩
  · exact .inl ⟨rfl, rfl, by rw [set_other hj]; exact h⟩
  · exact .inr ⟨d, rfl, hd, by rw [set_other hj]; exact h, by rw [set_other (fun e => hD (by rw [e]))]; exact hb⟩
/-! Reply. -/
structure RepV where
  client : Int
  seq : Int
  err : Int
  found : Bool
  val : List UInt8
  l : List (List UInt8 × List UInt8)
  next : List UInt8
  more : Bool
def recs (l : List (List UInt8 × List UInt8)) : List (List AV) := l.map fun p => [.str p.1, .str p.2]
def RepV.cells (a : RepV) : List AV := [.int .i64 a.client, .int .i64 a.seq, .int .i64 a.err, .bool a.found, .str a.val, .imm (recs a.l) false false, .str a.next, .bool a.more]
def tb (t : Bool) : List UInt8 := [if t then 1 else 0]
def txt2 (p : List UInt8 × List UInt8) : List UInt8 := txt p.1 ++ txt p.2
def badT2 (p : List UInt8 × List UInt8) : Bool := badT p.1 || badT p.2
def RepV.head (a : RepV) : List UInt8 := [a.client, a.seq, a.err].flatMap u32 ++ tb a.found ++ [a.val].flatMap txt ++ [(a.l.length : Int)].flatMap u32
def RepV.bytes (a : RepV) : List UInt8 := a.head ++ a.l.flatMap txt2 ++ [a.next].flatMap txt ++ tb a.more
def RepV.badH (a : RepV) : Bool := ([a.client, a.seq, a.err].any badN || [a.val].any badT) || [(a.l.length : Int)].any badN
def RepV.bad (a : RepV) : Bool := ((a.badH || a.l.any badT2) || [a.next].any badT) || decide (32768 < a.bytes.length)
def repI (a : RepV) (n : Nat) (e : Env) (σ : AHeap) : Prop :=
  ∃ (i d : Nat), i ≤ a.l.length ∧ n = a.l.length - i ∧ Pk σ 1 (a.head ++ (a.l.take i).flatMap txt2) (a.badH || (a.l.take i).any badT2) (some d) ∧ hget σ 0 = some a.cells ∧ d ≠ 0 ∧
    e 1 = .ptr 0 0 ∧ e 4 = .ptr 1 0 ∧ e 28 = .imm (recs a.l) false false ∧ e 29 = .int .i64 (a.l.length : Int) ∧ e 30 = .int .i64 (i : Int)
theorem rep_tot {l : List (List UInt8 × List UInt8)} {i : Nat} {x : List UInt8 × List UInt8} (hx : l[i]? = some x) : ((l.take i).flatMap txt2).length + total [x.1, x.2] ≤ (l.flatMap txt2).length := by
  have h1 : l = l.take i ++ x :: l.drop (i + 1) := by
    have hlt := (List.getElem?_eq_some_iff.1 hx).1
    have := (List.getElem?_eq_some_iff.1 hx).2
    rw [← this, List.getElem_cons_drop, List.take_append_drop]
  conv => rhs; rw [h1]
  simp only [List.flatMap_append, List.flatMap_cons, List.length_append, txt2, total, List.flatMap_nil, List.length_nil]
  omega
theorem rep_step (a : RepV) (hsz : a.bytes.length ≤ 900000000) (Q : AV → AHeap → Prop) (hQ : ∀ σ d, hget σ d = some (a.bytes.map byteAV) → Q (if a.bad = true then .tuple [.nilslice, .int .i64 1] else .tuple [.slice d 0 a.bytes.length none 1, .int .i64 0]) σ) (n : Nat) (e : Env) (σ : AHeap) (h : repI a n e σ) :
    sC E2 0 b55_16 (unw E2 0 (loopR E2 0 (RetQ [MRes.t 2, MRes.t 3] Q) (.block 0 (.seq b55_25 .fin)) (repI a) n) .fin) e σ := by
  obtain ⟨i, d, hi, hn, hp, g0, hd0, h1, h4, h28, h29, h30⟩ := h
  rcases Nat.lt_or_ge i a.l.length with hlt | hge
  · have hlt' : (i : Int) < (a.l.length : Int) := by omega
    have hge0 : (0 : Int) ≤ (i : Int) := by omega
    obtain ⟨x, hx⟩ : ∃ x, a.l[i]? = some x := ⟨_, List.getElem?_eq_getElem hlt⟩
    have hxx : (recs a.l)[i]? = some [.str x.1, .str x.2] := by simp [recs, hx]
    have hlen : (recs a.l).length = a.l.length := by simp [recs]
    have htk : a.l.take (i + 1) = a.l.take i ++ [x] := by rw [List.take_add_one, hx]; rfl
    have hw : IntKind.wrap .i64 ((i : Int) + 1) = ((i + 1 : Nat) : Int) := by
      have : a.l.length ≤ a.bytes.length := by
        have : ∀ l : List (List UInt8 × List UInt8), l.length ≤ (l.flatMap txt2).length := by
          intro l; induction l with
          | nil => simp
          | cons a l ih => simp only [List.flatMap_cons, List.length_append, List.length_cons, txt2, txt, u32_len]; omega
        have := this a.l
        simp only [RepV.bytes, List.length_append]; omega
      rw [Gz.wrap64 (by omega)]; omega
    have sn : hget (hset (hpush σ [AV.str [], AV.str []]) σ.length [.str x.1, .str x.2]) σ.length = some [.str x.1, .str x.2] := set_same (push_new rfl)
    have pn : hget (hpush σ [AV.str [], AV.str []]) σ.length = some [AV.str [], AV.str []] := push_new rfl
    have hp1 : 1 < σ.length := by obtain ⟨P, hP⟩ := pk_get hp; exact hget_lt hP
    have hdl : d < σ.length := by
      rcases hp with ⟨h, _⟩ | ⟨d', h, _, _, hb⟩
      · cases h
      · cases h; exact hget_lt hb
    simp only [E2_app, Z55, base1, baseE, ↓reduceIte, Nat.reduceAdd, Nat.reduceSub, Nat.reduceMul, Nat.reduceEqDiff, Nat.reduceLeDiff, Nat.reduceLT, Int.reduceLT, Int.reduceLE, Int.reduceEq, Int.reduceNe, Int.reduceToNat, Int.reduceAdd, Int.reduceSub, reduceCtorEq, Nat.reduceBEq, Nat.reduceBNe, loopR_exit, loopR_ret, h1, h4, h28, h29, h30, hlt', hlt, hge0, hxx, hlen, sn, pn, set_len, push_len, Int.toNat_natCast]
    have p1 := (pk_push (pk_set (pk_push hp [AV.str [], AV.str []]).1 (j := σ.length) (c := [.str x.1, .str x.2]) (by omega) (by simp; omega)) [AV.str x.1, AV.str x.2]).1
    have z1 : hget (hpush (hset (hpush σ [AV.str [], AV.str []]) σ.length [.str x.1, .str x.2]) [AV.str x.1, AV.str x.2]) 0 = some a.cells := push_old (by rw [set_other (by omega)]; exact push_old g0)
    have htot := rep_tot hx
    refine ⟨1, σ.length + 1, [x.1, x.2], some 2, _, _, some d, rfl, push_new (by simp [set_len, push_len]), by omega, by simp; omega, ?_, by simp, p1, fun σ2 D2 q2 f2 => ?_⟩
    · simp only [RepV.bytes, List.length_append] at hsz ⊢; omega
    obtain ⟨z2, z3⟩ := f2 0 _ z1 (by decide) (by simp; exact fun e => hd0 e)
    obtain ⟨d2, rfl, hd2⟩ := pk_some q2 (by simp [txt, u32])
    simp only [E2_app, Z55, base1, baseE, ↓reduceIte, Nat.reduceAdd, Nat.reduceSub, Nat.reduceMul, Nat.reduceEqDiff, Nat.reduceLeDiff, Nat.reduceLT, Int.reduceLT, Int.reduceLE, Int.reduceEq, Int.reduceNe, Int.reduceToNat, Int.reduceAdd, Int.reduceSub, reduceCtorEq, Nat.reduceBEq, Nat.reduceBNe, h1, h4, h28, h29, h30, hw]
    rw [loopR_normal]
    refine ⟨a.l.length - (i + 1), _, _, by omega, .refl _ _ _, i + 1, d2, hlt, rfl, ?_, z2, fun e => z3 (by rw [e]), ?_, ?_, ?_, ?_, ?_⟩
    · have e1 : a.head ++ (a.l.take (i + 1)).flatMap txt2 = a.head ++ (a.l.take i).flatMap txt2 ++ [x.1, x.2].flatMap txt := by rw [htk]; simp [txt2]
      have e2 : (a.badH || (a.l.take (i + 1)).any badT2) = ((a.badH || (a.l.take i).any badT2) || [x.1, x.2].any badT) := by rw [htk]; simp [badT2, Bool.or_assoc]
      rw [e1, e2]; exact q2
    all_goals simp only [putD_some, putD_none, Nat.reduceEqDiff, ↓reduceIte, h1, h4, h28, h29, h30, hw]
  · have hlt' : ¬ (i : Int) < (a.l.length : Int) := by omega
    have hie : i = a.l.length := by omega
    subst hie
    rw [List.take_length] at hp
    simp only [RepV.cells] at g0
    simp only [E2_app, Z55, base1, baseE, ↓reduceIte, Nat.reduceAdd, Nat.reduceSub, Nat.reduceMul, Nat.reduceEqDiff, Nat.reduceLeDiff, Nat.reduceLT, Int.reduceLT, Int.reduceLE, Int.reduceEq, Int.reduceNe, Int.reduceToNat, Int.reduceAdd, Int.reduceSub, reduceCtorEq, Nat.reduceBEq, Nat.reduceBNe, loopR_exit, loopR_ret, h1, h4, h28, h29, h30, hlt', g0]
    have hp1 : 1 < σ.length := by obtain ⟨P, hP⟩ := pk_get hp; exact hget_lt hP
    have hdl : d < σ.length := by
      rcases hp with ⟨h, _⟩ | ⟨d', h, _, _, hb⟩
      · cases h
      · cases h; exact hget_lt hb
    obtain ⟨p1, r1⟩ := pk_push hp [AV.str a.next]
    refine ⟨1, σ.length, [a.next], some 1, _, _, some d, rfl, push_new rfl, by omega, by simp; omega, ?_, by simp, p1, fun σ2 D2 q2 f2 => ?_⟩
    · simp only [RepV.bytes, List.length_append] at hsz ⊢; simp only [total]; omega
    obtain ⟨z2, z3⟩ := f2 0 _ (push_old g0) (by decide) (by simp; exact fun e => hd0 e)
    simp only [E2_app, Z55, base1, baseE, ↓reduceIte, Nat.reduceAdd, Nat.reduceSub, Nat.reduceMul, Nat.reduceEqDiff, Nat.reduceLeDiff, Nat.reduceLT, Int.reduceLT, Int.reduceLE, Int.reduceEq, Int.reduceNe, Int.reduceToNat, Int.reduceAdd, Int.reduceSub, reduceCtorEq, Nat.reduceBEq, Nat.reduceBNe, h1, h4, z2]
    refine ⟨1, a.more, _, _, D2, rfl, ?_, q2, fun σ3 D3 q3 f3 => ?_⟩
    · simp only [RepV.bytes, List.length_append] at hsz ⊢; omega
    obtain ⟨d3, rfl, hd3⟩ := pk_some q3 (by simp)
    simp only [E2_app, Z55, base1, baseE, ↓reduceIte, Nat.reduceAdd, Nat.reduceSub, Nat.reduceMul, Nat.reduceEqDiff, Nat.reduceLeDiff, Nat.reduceLT, Int.reduceLT, Int.reduceLE, Int.reduceEq, Int.reduceNe, Int.reduceToNat, Int.reduceAdd, Int.reduceSub, reduceCtorEq, Nat.reduceBEq, Nat.reduceBNe, h1, h4]
    refine ⟨1, _, _, d3, rfl, q3, ?_⟩
    have hh := hQ σ3 d3 hd3
    have hb : (((a.badH || a.l.any badT2) || [a.next].any badT) || decide (32768 < (a.head ++ a.l.flatMap txt2 ++ [a.next].flatMap txt ++ [if a.more = true then 1 else 0]).length)) = a.bad := rfl
    rw [hb]
    generalize a.bad = B at hh
    cases B with
    | true =>
      simp only [E2_app, Z55, base1, baseE, ↓reduceIte, Nat.reduceAdd, Nat.reduceSub, Nat.reduceMul, Nat.reduceEqDiff, Nat.reduceLeDiff, Nat.reduceLT, Int.reduceLT, Int.reduceLE, Int.reduceEq, Int.reduceNe, Int.reduceToNat, Int.reduceAdd, Int.reduceSub, reduceCtorEq, Nat.reduceBEq, Nat.reduceBNe] at hh ⊢
      exact hh
    | false =>
      have hl : a.bytes.length = a.head.length + (a.l.flatMap txt2).length + ([a.next].flatMap txt).length + 1 := by simp only [RepV.bytes, tb, List.length_append, List.length_cons, List.length_nil]
      rw [hl] at hh
      simp only [E2_app, Z55, base1, baseE, ↓reduceIte, Nat.reduceAdd, Nat.reduceSub, Nat.reduceMul, Nat.reduceEqDiff, Nat.reduceLeDiff, Nat.reduceLT, Int.reduceLT, Int.reduceLE, Int.reduceEq, Int.reduceNe, Int.reduceToNat, Int.reduceAdd, Int.reduceSub, reduceCtorEq, Nat.reduceBEq, Nat.reduceBNe] at hh ⊢
      exact hh
theorem reply_ok (a : RepV) (hsz : a.bytes.length ≤ 900000000) : Tri Tryz.prog 55 [.agg a.cells] [] fun r _ => r.cleanD ∧ r = packR a.bad a.bytes := by
  refine pack_less (Tri.of_s c55 E2_sound ?_)
  simp only [RepV.cells]
  simp only [E2_app, Z55, base1, baseE, ↓reduceIte, Nat.reduceAdd, Nat.reduceSub, Nat.reduceMul, Nat.reduceEqDiff, Nat.reduceLeDiff, Nat.reduceLT, Int.reduceLT, Int.reduceLE, Int.reduceEq, Int.reduceNe, Int.reduceToNat, Int.reduceAdd, Int.reduceSub, reduceCtorEq, Nat.reduceBEq, Nat.reduceBNe]
  have hlb : 12 + 1 + (4 + a.val.length) + 4 ≤ 900000000 := by
    simp only [RepV.bytes, RepV.head, List.length_append, List.flatMap_cons, List.flatMap_nil, List.length_nil, u32_len, txt, tb, List.length_cons] at hsz
    omega
  refine ⟨1, 2, [a.client, a.seq, a.err], some 3, [], false, none, rfl, rfl, by decide, by simp, by simp, .inl ⟨rfl, rfl, rfl⟩, fun σ1 D1 q1 f1 => ?_⟩
  obtain ⟨g1, k1⟩ := f1 0 _ rfl (by decide) (by simp)
  simp only [E2_app, Z55, base1, baseE, ↓reduceIte, Nat.reduceAdd, Nat.reduceSub, Nat.reduceMul, Nat.reduceEqDiff, Nat.reduceLeDiff, Nat.reduceLT, Int.reduceLT, Int.reduceLE, Int.reduceEq, Int.reduceNe, Int.reduceToNat, Int.reduceAdd, Int.reduceSub, reduceCtorEq, Nat.reduceBEq, Nat.reduceBNe, g1]
  refine ⟨1, a.found, _, _, D1, rfl, by simp [u32], q1, fun σ2 D2 q2 f2 => ?_⟩
  obtain ⟨g2, k2⟩ := f2 0 _ g1 (by decide) k1
  simp only [E2_app, Z55, base1, baseE, ↓reduceIte, Nat.reduceAdd, Nat.reduceSub, Nat.reduceMul, Nat.reduceEqDiff, Nat.reduceLeDiff, Nat.reduceLT, Int.reduceLT, Int.reduceLE, Int.reduceEq, Int.reduceNe, Int.reduceToNat, Int.reduceAdd, Int.reduceSub, reduceCtorEq, Nat.reduceBEq, Nat.reduceBNe, g2]
  obtain ⟨p2, r2⟩ := pk_push q2 [AV.str a.val]
  obtain ⟨d2, rfl, hd2⟩ := pk_some q2 (by simp)
  refine ⟨1, σ2.length, [a.val], some 1, _, _, some d2, rfl, push_new rfl, ?_, ?_, ?_, by simp, p2, fun σ3 D3 q3 f3 => ?_⟩
  · obtain ⟨P, hP⟩ := pk_get q2; have := hget_lt hP; omega
  · have := hget_lt hd2; simp; omega
  · simp [u32, total, txt]; omega
  obtain ⟨g3, k3⟩ := f3 0 _ (push_old g2) (by decide) k2
  simp only [E2_app, Z55, base1, baseE, ↓reduceIte, Nat.reduceAdd, Nat.reduceSub, Nat.reduceMul, Nat.reduceEqDiff, Nat.reduceLeDiff, Nat.reduceLT, Int.reduceLT, Int.reduceLE, Int.reduceEq, Int.reduceNe, Int.reduceToNat, Int.reduceAdd, Int.reduceSub, reduceCtorEq, Nat.reduceBEq, Nat.reduceBNe, g3]
  have hrl : (recs a.l).length = a.l.length := by simp [recs]
  simp only [hrl]
  obtain ⟨p3, r3⟩ := pk_push q3 [AV.int .i64 (a.l.length : Int)]
  obtain ⟨d3, rfl, hd3⟩ := pk_some q3 (by simp)
  refine ⟨1, σ3.length, [(a.l.length : Int)], some 1, _, _, some d3, rfl, push_new rfl, ?_, ?_, ?_, p3, fun σ4 D4 q4 f4 => ?_⟩
  · obtain ⟨P, hP⟩ := pk_get q3; have := hget_lt hP; omega
  · have := hget_lt hd3; simp; omega
  · simp [u32, txt]; omega
  obtain ⟨g4, k4⟩ := f4 0 _ (push_old g3) (by decide) k3
  obtain ⟨d4, rfl, hd4⟩ := pk_some q4 (by simp [u32])
  simp only [E2_app, Z55, base1, baseE, ↓reduceIte, Nat.reduceAdd, Nat.reduceSub, Nat.reduceMul, Nat.reduceEqDiff, Nat.reduceLeDiff, Nat.reduceLT, Int.reduceLT, Int.reduceLE, Int.reduceEq, Int.reduceNe, Int.reduceToNat, Int.reduceAdd, Int.reduceSub, reduceCtorEq, Nat.reduceBEq, Nat.reduceBNe, g4, hrl]
  refine sC_inv (a := b55_16) (repI a) a.l.length _ σ4 (.refl _ _ _) ⟨0, d4, Nat.zero_le _, rfl, ?_, g4, fun e => k4 (by rw [e]), rfl, rfl, rfl, rfl, rfl⟩ (rep_step a hsz _ fun σ d hd => ⟨d, hd, rfl⟩)
  simpa [RepV.head, RepV.badH, tb, Bool.or_assoc] using q4
/-! Small, the same. -/
def AskV.okS (a : AskV) : Prop := a.text.length ≤ 140737488351232 ∧ a.val.length ≤ 140737488351232 ∧ a.from_.length ≤ 140737488351232 ∧ a.to.length ≤ 140737488351232
def AskV.small (a : AskV) : Bool := decide ((a.text.length : Int) + a.val.length + a.from_.length + a.to.length ≤ 50000)
def sumL (l : List (List UInt8 × List UInt8)) : Int := (l.map fun p => (p.1.length : Int) + p.2.length).sum
def RepV.okS (a : RepV) : Prop := a.val.length ≤ 140737488351232 ∧ a.next.length ≤ 140737488351232 ∧ a.l.length ≤ 140737488351232 ∧ ∀ p ∈ a.l, p.1.length ≤ 140737488351232 ∧ p.2.length ≤ 140737488351232
def RepV.small (a : RepV) : Bool := decide (a.l.length ≤ 300) && decide ((a.val.length : Int) + a.next.length + sumL a.l ≤ 50000)
theorem sumL_bound : ∀ {l : List (List UInt8 × List UInt8)}, (∀ p ∈ l, p.1.length ≤ 140737488351232 ∧ p.2.length ≤ 140737488351232) → 0 ≤ sumL l ∧ sumL l ≤ l.length * 281474976702464
  | [], _ => by simp [sumL]
  | p :: l, h => by
    obtain ⟨h1, h2⟩ := sumL_bound (l := l) fun q hq => h q (by simp [hq])
    obtain ⟨h3, h4⟩ := h p (by simp)
    have : sumL (p :: l) = (p.1.length : Int) + p.2.length + sumL l := by simp [sumL]
    rw [this]
    have : (((p :: l).length : Nat) : Int) = (l.length : Int) + 1 := by simp
    rw [this]
    omega
def srI (a : RepV) (n : Nat) (e : Env) (σ : AHeap) : Prop :=
  ∃ (i : Nat) (v : Int), i ≤ a.l.length ∧ n = a.l.length - i ∧ σ = [some a.cells] ∧ e 1 = .ptr 0 0 ∧ e 4 = .int .i64 (i : Int) ∧ e 3 = .int .i64 v ∧ (i ≤ 300 → v = (a.val.length : Int) + a.next.length + sumL (a.l.take i))
theorem srI_step (a : RepV) (h : a.okS) (Q : AV → AHeap → Prop) (hQ : ∀ σ, Q (.bool a.small) σ) (n : Nat) (e : Env) (σ : AHeap) (hI : srI a n e σ) :
    sC noCall 0 b26_10 (unw noCall 0 (loopR noCall 0 (RetQ [MRes.t 2] Q) (.block 0 (.seq b26_15 .fin)) (srI a) n) .fin) e σ := by
  obtain ⟨i, v, hi, hn, rfl, h1, h4, h3, hv⟩ := hI
  obtain ⟨o1, o2, o3, o4⟩ := h
  have hlen : (recs a.l).length = a.l.length := by simp [recs]
  rcases Nat.lt_or_ge i a.l.length with hlt | hge
  · have hlt' : (i : Int) < (a.l.length : Int) := by omega
    have hge0 : (0 : Int) ≤ (i : Int) := by omega
    obtain ⟨x, hx⟩ : ∃ x, a.l[i]? = some x := ⟨_, List.getElem?_eq_getElem hlt⟩
    have hxx : (recs a.l)[i]? = some [.str x.1, .str x.2] := by simp [recs, hx]
    have htk : a.l.take (i + 1) = a.l.take i ++ [x] := by rw [List.take_add_one, hx]; rfl
    have hw : IntKind.wrap .i64 ((i : Int) + 1) = ((i + 1 : Nat) : Int) := by rw [Gz.wrap64 (by omega)]; omega
    simp only [RepV.cells, Z26, base1, baseE, ↓reduceIte, Nat.reduceAdd, Nat.reduceSub, Nat.reduceMul, Nat.reduceEqDiff, Nat.reduceLeDiff, Nat.reduceLT, Int.reduceLT, Int.reduceLE, Int.reduceEq, Int.reduceNe, Int.reduceToNat, Int.reduceAdd, Int.reduceSub, reduceCtorEq, Nat.reduceBEq, Nat.reduceBNe, loopR_exit, loopR_ret, h1, h4, h3, hlt', hlt, hge0, hxx, hlen, hw, Int.toNat_natCast]
    rw [loopR_normal]
    refine ⟨a.l.length - (i + 1), _, _, by omega, .refl _ _ _, i + 1, _, hlt, rfl, rfl, ?_, ?_, rfl, fun hi3 => ?_⟩
    · simp only [putD_some, putD_none, Nat.reduceEqDiff, ↓reduceIte, h1]
    · simp only [putD_some, putD_none, Nat.reduceEqDiff, ↓reduceIte, hw]
    · have hv' := hv (by omega)
      obtain ⟨b1, b2⟩ := sumL_bound (l := a.l.take i) fun q hq => o4 q (List.mem_of_mem_take hq)
      obtain ⟨b3, b4⟩ := o4 x (List.mem_of_getElem? hx)
      have b5 : (a.l.take i).length ≤ 300 := by rw [List.length_take]; omega
      have b6 : ((a.l.take i).length : Int) * 281474976702464 ≤ 300 * 281474976702464 := by omega
      have e1 : sumL (a.l.take (i + 1)) = sumL (a.l.take i) + ((x.1.length : Int) + x.2.length) := by rw [htk]; simp [sumL, List.sum_append]
      have e2 : IntKind.wrap .i64 (v + x.1.length) = v + x.1.length := Gz.wrap64 (by omega)
      have e3 : IntKind.wrap .i64 (v + x.1.length + x.2.length) = v + x.1.length + x.2.length := Gz.wrap64 (by omega)
      rw [e2, e3, e1, hv']; omega
  · have hlt' : ¬ (i : Int) < (a.l.length : Int) := by omega
    have hie : i = a.l.length := by omega
    subst hie
    rw [List.take_length] at hv
    by_cases h300 : a.l.length ≤ 300
    · have hv' := hv h300
      have h300' : (a.l.length : Int) ≤ 300 := by omega
      have hs : a.small = decide (v ≤ 50000) := by unfold RepV.small; rw [hv']; simp [h300]
      simp only [RepV.cells, Z26, base1, baseE, ↓reduceIte, Nat.reduceAdd, Nat.reduceSub, Nat.reduceMul, Nat.reduceEqDiff, Nat.reduceLeDiff, Nat.reduceLT, Int.reduceLT, Int.reduceLE, Int.reduceEq, Int.reduceNe, Int.reduceToNat, Int.reduceAdd, Int.reduceSub, reduceCtorEq, Nat.reduceBEq, Nat.reduceBNe, loopR_exit, loopR_ret, h1, h4, h3, hlt', hlen, h300']
      rw [← hs]; exact hQ _
    · have h300' : ¬ (a.l.length : Int) ≤ 300 := by omega
      have hs : a.small = false := by unfold RepV.small; simp [h300]
      simp only [RepV.cells, Z26, base1, baseE, ↓reduceIte, Nat.reduceAdd, Nat.reduceSub, Nat.reduceMul, Nat.reduceEqDiff, Nat.reduceLeDiff, Nat.reduceLT, Int.reduceLT, Int.reduceLE, Int.reduceEq, Int.reduceNe, Int.reduceToNat, Int.reduceAdd, Int.reduceSub, reduceCtorEq, Nat.reduceBEq, Nat.reduceBNe, loopR_exit, loopR_ret, h1, h4, h3, hlt', hlen, h300']
      rw [← hs]; exact hQ _
theorem smallR_ok (a : RepV) (h : a.okS) : Tri Tryz.prog 26 [.agg a.cells] [] fun r _ => r.cleanD ∧ r = .bool a.small := by
  refine Tri.of_s c26 (noCall_sound _) ?_
  have w1 : IntKind.wrap .i64 ((a.val.length : Int) + a.next.length) = (a.val.length : Int) + a.next.length := Gz.wrap64 (by obtain ⟨h1, h2, _⟩ := h; omega)
  simp only [RepV.cells, Z26, base1, baseE, ↓reduceIte, Nat.reduceAdd, Nat.reduceSub, Nat.reduceMul, Nat.reduceEqDiff, Nat.reduceLeDiff, Nat.reduceLT, Int.reduceLT, Int.reduceLE, Int.reduceEq, Int.reduceNe, Int.reduceToNat, Int.reduceAdd, Int.reduceSub, reduceCtorEq, Nat.reduceBEq, Nat.reduceBNe, w1]
  exact sC_inv (a := b26_10) (srI a) a.l.length _ _ (.refl _ _ _) ⟨0, _, Nat.zero_le _, rfl, rfl, rfl, rfl, rfl, fun _ => by simp [sumL]⟩ (srI_step a h _ fun σ => ⟨rfl, rfl⟩)
theorem rep_eq (a b : RepV) : a = b ↔ a.client = b.client ∧ a.seq = b.seq ∧ a.err = b.err ∧ a.found = b.found ∧ a.val = b.val ∧ a.next = b.next ∧ a.more = b.more ∧ a.l = b.l := by
  cases a; cases b; simp only [RepV.mk.injEq]
  constructor
  · rintro ⟨h1, h2, h3, h4, h5, h6, h7, h8⟩; exact ⟨h1, h2, h3, h4, h5, h7, h8, h6⟩
  · rintro ⟨h1, h2, h3, h4, h5, h6, h7, h8⟩; exact ⟨h1, h2, h3, h4, h5, h8, h6, h7⟩
end Go.Proofs.YtgaopohogdinhaaGreatDoor.note

/- What the readers do, as functions of the bytes that are left and of the error so far. No condition. -/
set_option linter.unusedVariables false
set_option linter.unusedSimpArgs false
namespace Go.Proofs.YtgaopohogdinhaaGreatDoor.note
open Go.ChangeShapes Go.WideShapes Go.ChangeAt Go.RowKit Go.Gz
section
variable {C : PCall} {n0 : Nat} {R : MExit → Env → AHeap → Prop} {k : Cont} {e : Env} {σ : AHeap}
abbrev r123_0 : List MOper := [⟨(some 2), .move (.c (.int .i64 0)), none⟩]
def b123_0 : SCode := .region r123_0
abbrev r123_1 : List MOper := [⟨(some 5), .move (.t 0), none⟩,
  ⟨(some 6), .call 168 [(.t 5), (.c (.int .i64 4))], none⟩,
  ⟨(some 3), .move (.t 6), none⟩]
def b123_1 : SCode := .region r123_1
abbrev t123_2 : LTree := (.quiet ⟨(some 7), .move (.t 3), none⟩ 0
  (.quiet ⟨(some 8), .indexAddr 1 (.t 7) (.c (.int .i64 0)), none⟩ 1
  (.quiet ⟨(some 9), .load1 (.t 8), none⟩ 2
  (.quiet ⟨(some 10), .convInt .i64 (.t 9), none⟩ 3
  (.quiet ⟨(some 11), .bin .shl .num (.t 10) (.c (.int .u64 24)), none⟩ 4
  (.quiet ⟨(some 12), .move (.t 3), none⟩ 5
  (.quiet ⟨(some 13), .indexAddr 1 (.t 12) (.c (.int .i64 1)), none⟩ 6
  (.quiet ⟨(some 14), .load1 (.t 13), none⟩ 7
  (.quiet ⟨(some 15), .convInt .i64 (.t 14), none⟩ 8
  (.quiet ⟨(some 16), .bin .shl .num (.t 15) (.c (.int .u64 16)), none⟩ 9
  (.quiet ⟨(some 17), .bin .or .num (.t 11) (.t 16), none⟩ 10
  (.quiet ⟨(some 18), .move (.t 3), none⟩ 11
  (.quiet ⟨(some 19), .indexAddr 1 (.t 18) (.c (.int .i64 2)), none⟩ 12
  (.quiet ⟨(some 20), .load1 (.t 19), none⟩ 13
  (.quiet ⟨(some 21), .convInt .i64 (.t 20), none⟩ 14
  (.quiet ⟨(some 22), .bin .shl .num (.t 21) (.c (.int .u64 8)), none⟩ 15
  (.quiet ⟨(some 23), .bin .or .num (.t 17) (.t 22), none⟩ 16
  (.quiet ⟨(some 24), .move (.t 3), none⟩ 17
  (.quiet ⟨(some 25), .indexAddr 1 (.t 24) (.c (.int .i64 3)), none⟩ 18
  (.quiet ⟨(some 26), .load1 (.t 25), none⟩ 19
  (.quiet ⟨(some 27), .convInt .i64 (.t 26), none⟩ 20
  (.quiet ⟨(some 28), .bin .or .num (.t 23) (.t 27), none⟩ 21
  (.quiet ⟨(some 4), .move (.t 28), none⟩ 22
  .leaf)))))))))))))))))))))))
def b123_2 : SCode := .draw t123_2
abbrev r123_3 : List MOper := [⟨(some 29), .move (.t 0), none⟩,
  ⟨(some 30), .nilCheck (.t 29), none⟩,
  ⟨(some 31), .fieldAddr 1 (.t 30), none⟩,
  ⟨(some 32), .load1 (.t 31), none⟩,
  ⟨(some 33), .bin .eql .num (.t 32) (.c (.int .i64 0)), none⟩,
  ⟨(some 34), .move (.t 33), none⟩,
  ⟨(some 35), .move (.t 4), (some (34, true))⟩,
  ⟨(some 36), .bin .gtr .num (.t 35) (.c (.int .i64 268435455)), (some (34, true))⟩,
  ⟨(some 37), .pick (.t 34) (.t 36) (.c (.bool false)), none⟩]
def b123_3 : SCode := .region r123_3
abbrev r123_4 : List MOper := [⟨(some 38), .move (.t 0), none⟩,
  ⟨(some 39), .nilCheck (.t 38), none⟩,
  ⟨(some 40), .fieldAddr 1 (.t 39), none⟩,
  ⟨none, .store 1 (.t 40) (.c (.int .i64 5)), none⟩]
def b123_4 : SCode := .region r123_4
def b123_5 : SCode := .cond (.t 37) b123_4 .skip
def b123_6 : SCode := .seq b123_3 b123_5
abbrev r123_7 : List MOper := [⟨(some 41), .move (.t 0), none⟩,
  ⟨(some 42), .nilCheck (.t 41), none⟩,
  ⟨(some 43), .fieldAddr 1 (.t 42), none⟩,
  ⟨(some 44), .load1 (.t 43), none⟩,
  ⟨(some 45), .bin .neq .num (.t 44) (.c (.int .i64 0)), none⟩]
def b123_7 : SCode := .region r123_7
abbrev r123_8 : List MOper := [⟨(some 2), .move (.c (.int .i64 0)), none⟩]
def b123_8 : SCode := .region r123_8
def b123_9 : SCode := .seq b123_8 .ret
def b123_10 : SCode := .cond (.t 45) b123_9 .skip
def b123_11 : SCode := .seq b123_7 b123_10
abbrev r123_12 : List MOper := [⟨(some 46), .move (.t 4), none⟩,
  ⟨(some 2), .move (.t 46), none⟩]
def b123_12 : SCode := .region r123_12
def b123_13 : SCode := .seq b123_12 .ret
def b123_14 : SCode := .seq b123_11 b123_13
def b123_15 : SCode := .seq b123_6 b123_14
def b123_16 : SCode := .seq b123_2 b123_15
def b123_17 : SCode := .seq b123_1 b123_16
def b123_18 : SCode := .seq b123_0 b123_17
def s123 : SFunc := ⟨47, [.t 2], b123_18⟩
theorem c123 : sFn Tryz.prog 123 = some s123 := by kernel_rfl
theorem Z123 : XR b123_0 r123_0 ∧ XR b123_1 r123_1 ∧ XT b123_2 t123_2 ∧ XR b123_3 r123_3 ∧ XR b123_4 r123_4 ∧ XC b123_5 (.t 37) b123_4 .skip ∧ XS b123_6 b123_3 b123_5 ∧ XR b123_7 r123_7 ∧ XR b123_8 r123_8 ∧ XS b123_9 b123_8 .ret ∧ XC b123_10 (.t 45) b123_9 .skip ∧ XS b123_11 b123_7 b123_10 ∧ XR b123_12 r123_12 ∧ XS b123_13 b123_12 .ret ∧ XS b123_14 b123_11 b123_13 ∧ XS b123_15 b123_6 b123_14 ∧ XS b123_16 b123_2 b123_15 ∧ XS b123_17 b123_1 b123_16 ∧ XS b123_18 b123_0 b123_17 ∧ XY s123 47 b123_18 [.t 2] := ⟨rfl, rfl, rfl, rfl, rfl, sC_cond, rfl, rfl, rfl, rfl, sC_cond, rfl, rfl, rfl, rfl, rfl, rfl, rfl, rfl, rfl⟩
abbrev r124_0 : List MOper := [⟨(some 2), .move (.c (.str [])), none⟩]
def b124_0 : SCode := .region r124_0
abbrev r124_1 : List MOper := [⟨(some 4), .move (.t 0), none⟩,
  ⟨(some 5), .move (.t 0), none⟩,
  ⟨(some 6), .call 123 [(.t 5)], none⟩,
  ⟨(some 7), .call 168 [(.t 4), (.t 6)], none⟩,
  ⟨(some 8), .ofBytes (.t 7), none⟩,
  ⟨(some 3), .move (.t 8), none⟩]
def b124_1 : SCode := .region r124_1
abbrev r124_2 : List MOper := [⟨(some 9), .move (.t 0), none⟩,
  ⟨(some 10), .nilCheck (.t 9), none⟩,
  ⟨(some 11), .fieldAddr 1 (.t 10), none⟩,
  ⟨(some 12), .load1 (.t 11), none⟩,
  ⟨(some 13), .bin .neq .num (.t 12) (.c (.int .i64 0)), none⟩]
def b124_2 : SCode := .region r124_2
abbrev r124_3 : List MOper := [⟨(some 2), .move (.c (.str [])), none⟩]
def b124_3 : SCode := .region r124_3
def b124_4 : SCode := .seq b124_3 .ret
def b124_5 : SCode := .cond (.t 13) b124_4 .skip
def b124_6 : SCode := .seq b124_2 b124_5
abbrev r124_7 : List MOper := [⟨(some 14), .move (.t 3), none⟩,
  ⟨(some 2), .move (.t 14), none⟩]
def b124_7 : SCode := .region r124_7
def b124_8 : SCode := .seq b124_7 .ret
def b124_9 : SCode := .seq b124_6 b124_8
def b124_10 : SCode := .seq b124_1 b124_9
def b124_11 : SCode := .seq b124_0 b124_10
def s124 : SFunc := ⟨15, [.t 2], b124_11⟩
theorem c124 : sFn Tryz.prog 124 = some s124 := by kernel_rfl
theorem Z124 : XR b124_0 r124_0 ∧ XR b124_1 r124_1 ∧ XR b124_2 r124_2 ∧ XR b124_3 r124_3 ∧ XS b124_4 b124_3 .ret ∧ XC b124_5 (.t 13) b124_4 .skip ∧ XS b124_6 b124_2 b124_5 ∧ XR b124_7 r124_7 ∧ XS b124_8 b124_7 .ret ∧ XS b124_9 b124_6 b124_8 ∧ XS b124_10 b124_1 b124_9 ∧ XS b124_11 b124_0 b124_10 ∧ XY s124 15 b124_11 [.t 2] := ⟨rfl, rfl, rfl, rfl, rfl, sC_cond, rfl, rfl, rfl, rfl, rfl, rfl, rfl⟩
abbrev r125_0 : List MOper := [⟨(some 2), .move (.c (.int .i64 0)), none⟩]
def b125_0 : SCode := .region r125_0
abbrev r125_1 : List MOper := [⟨(some 3), .move (.t 0), none⟩,
  ⟨(some 4), .nilCheck (.t 3), none⟩,
  ⟨(some 5), .fieldAddr 1 (.t 4), none⟩,
  ⟨(some 6), .load1 (.t 5), none⟩,
  ⟨(some 7), .bin .eql .num (.t 6) (.c (.int .i64 0)), none⟩,
  ⟨(some 8), .move (.t 7), none⟩,
  ⟨(some 9), .move (.t 0), (some (8, true))⟩,
  ⟨(some 10), .nilCheck (.t 9), (some (8, true))⟩,
  ⟨(some 11), .fieldAddr 0 (.t 10), (some (8, true))⟩,
  ⟨(some 12), .load1 (.t 11), (some (8, true))⟩,
  ⟨(some 13), .lenSl (.t 12), (some (8, true))⟩,
  ⟨(some 14), .bin .gtr .num (.t 13) (.c (.int .i64 0)), (some (8, true))⟩,
  ⟨(some 15), .pick (.t 8) (.t 14) (.c (.bool false)), none⟩]
def b125_1 : SCode := .region r125_1
abbrev r125_2 : List MOper := [⟨(some 16), .move (.t 0), none⟩,
  ⟨(some 17), .nilCheck (.t 16), none⟩,
  ⟨(some 18), .fieldAddr 1 (.t 17), none⟩,
  ⟨none, .store 1 (.t 18) (.c (.int .i64 5)), none⟩]
def b125_2 : SCode := .region r125_2
def b125_3 : SCode := .cond (.t 15) b125_2 .skip
def b125_4 : SCode := .seq b125_1 b125_3
abbrev r125_5 : List MOper := [⟨(some 19), .move (.t 0), none⟩,
  ⟨(some 20), .nilCheck (.t 19), none⟩,
  ⟨(some 21), .fieldAddr 1 (.t 20), none⟩,
  ⟨(some 22), .load1 (.t 21), none⟩,
  ⟨(some 2), .move (.t 22), none⟩]
def b125_5 : SCode := .region r125_5
def b125_6 : SCode := .seq b125_5 .ret
def b125_7 : SCode := .seq b125_4 b125_6
def b125_8 : SCode := .seq b125_0 b125_7
def s125 : SFunc := ⟨23, [.t 2], b125_8⟩
theorem c125 : sFn Tryz.prog 125 = some s125 := by kernel_rfl
theorem Z125 : XR b125_0 r125_0 ∧ XR b125_1 r125_1 ∧ XR b125_2 r125_2 ∧ XC b125_3 (.t 15) b125_2 .skip ∧ XS b125_4 b125_1 b125_3 ∧ XR b125_5 r125_5 ∧ XS b125_6 b125_5 .ret ∧ XS b125_7 b125_4 b125_6 ∧ XS b125_8 b125_0 b125_7 ∧ XY s125 23 b125_8 [.t 2] := ⟨rfl, rfl, rfl, sC_cond, rfl, rfl, rfl, rfl, rfl, rfl⟩
abbrev r129_0 : List MOper := [⟨(some 2), .move (.c (.bool false)), none⟩]
def b129_0 : SCode := .region r129_0
abbrev r129_1 : List MOper := [⟨(some 4), .move (.t 0), none⟩,
  ⟨(some 5), .call 168 [(.t 4), (.c (.int .i64 1))], none⟩,
  ⟨(some 6), .indexAddr 1 (.t 5) (.c (.int .i64 0)), none⟩,
  ⟨(some 7), .load1 (.t 6), none⟩,
  ⟨(some 3), .move (.t 7), none⟩]
def b129_1 : SCode := .region r129_1
abbrev r129_2 : List MOper := [⟨(some 8), .move (.t 0), none⟩,
  ⟨(some 9), .nilCheck (.t 8), none⟩,
  ⟨(some 10), .fieldAddr 1 (.t 9), none⟩,
  ⟨(some 11), .load1 (.t 10), none⟩,
  ⟨(some 12), .bin .eql .num (.t 11) (.c (.int .i64 0)), none⟩,
  ⟨(some 13), .move (.t 12), none⟩,
  ⟨(some 14), .move (.t 3), (some (13, true))⟩,
  ⟨(some 15), .bin .gtr .num (.t 14) (.c (.int .u8 1)), (some (13, true))⟩,
  ⟨(some 16), .pick (.t 13) (.t 15) (.c (.bool false)), none⟩]
def b129_2 : SCode := .region r129_2
abbrev r129_3 : List MOper := [⟨(some 17), .move (.t 0), none⟩,
  ⟨(some 18), .nilCheck (.t 17), none⟩,
  ⟨(some 19), .fieldAddr 1 (.t 18), none⟩,
  ⟨none, .store 1 (.t 19) (.c (.int .i64 5)), none⟩]
def b129_3 : SCode := .region r129_3
def b129_4 : SCode := .cond (.t 16) b129_3 .skip
def b129_5 : SCode := .seq b129_2 b129_4
abbrev r129_6 : List MOper := [⟨(some 20), .move (.t 0), none⟩,
  ⟨(some 21), .nilCheck (.t 20), none⟩,
  ⟨(some 22), .fieldAddr 1 (.t 21), none⟩,
  ⟨(some 23), .load1 (.t 22), none⟩,
  ⟨(some 24), .bin .eql .num (.t 23) (.c (.int .i64 0)), none⟩,
  ⟨(some 25), .move (.t 24), none⟩,
  ⟨(some 26), .move (.t 3), (some (25, true))⟩,
  ⟨(some 27), .bin .eql .num (.t 26) (.c (.int .u8 1)), (some (25, true))⟩,
  ⟨(some 28), .pick (.t 25) (.t 27) (.c (.bool false)), none⟩,
  ⟨(some 2), .move (.t 28), none⟩]
def b129_6 : SCode := .region r129_6
def b129_7 : SCode := .seq b129_6 .ret
def b129_8 : SCode := .seq b129_5 b129_7
def b129_9 : SCode := .seq b129_1 b129_8
def b129_10 : SCode := .seq b129_0 b129_9
def s129 : SFunc := ⟨29, [.t 2], b129_10⟩
theorem c129 : sFn Tryz.prog 129 = some s129 := by kernel_rfl
theorem Z129 : XR b129_0 r129_0 ∧ XR b129_1 r129_1 ∧ XR b129_2 r129_2 ∧ XR b129_3 r129_3 ∧ XC b129_4 (.t 16) b129_3 .skip ∧ XS b129_5 b129_2 b129_4 ∧ XR b129_6 r129_6 ∧ XS b129_7 b129_6 .ret ∧ XS b129_8 b129_5 b129_7 ∧ XS b129_9 b129_1 b129_8 ∧ XS b129_10 b129_0 b129_9 ∧ XY s129 29 b129_10 [.t 2] := ⟨rfl, rfl, rfl, rfl, sC_cond, rfl, rfl, rfl, rfl, rfl, rfl, rfl⟩
abbrev r168_0 : List MOper := [⟨(some 4), .move (.c (.nilslice)), none⟩]
def b168_0 : SCode := .region r168_0
abbrev r168_1 : List MOper := [⟨(some 6), .move (.t 0), none⟩,
  ⟨(some 7), .nilCheck (.t 6), none⟩,
  ⟨(some 8), .fieldAddr 1 (.t 7), none⟩,
  ⟨(some 9), .load1 (.t 8), none⟩,
  ⟨(some 10), .bin .eql .num (.t 9) (.c (.int .i64 0)), none⟩,
  ⟨(some 11), .move (.t 10), none⟩,
  ⟨(some 12), .move (.t 1), (some (11, true))⟩,
  ⟨(some 13), .move (.t 0), (some (11, true))⟩,
  ⟨(some 14), .nilCheck (.t 13), (some (11, true))⟩,
  ⟨(some 15), .fieldAddr 0 (.t 14), (some (11, true))⟩,
  ⟨(some 16), .load1 (.t 15), (some (11, true))⟩,
  ⟨(some 17), .lenSl (.t 16), (some (11, true))⟩,
  ⟨(some 18), .bin .gtr .num (.t 12) (.t 17), (some (11, true))⟩,
  ⟨(some 19), .pick (.t 11) (.t 18) (.c (.bool false)), none⟩]
def b168_1 : SCode := .region r168_1
abbrev r168_2 : List MOper := [⟨(some 20), .move (.t 0), none⟩,
  ⟨(some 21), .nilCheck (.t 20), none⟩,
  ⟨(some 22), .fieldAddr 1 (.t 21), none⟩,
  ⟨none, .store 1 (.t 22) (.c (.int .i64 7)), none⟩]
def b168_2 : SCode := .region r168_2
def b168_3 : SCode := .cond (.t 19) b168_2 .skip
def b168_4 : SCode := .seq b168_1 b168_3
abbrev r168_5 : List MOper := [⟨(some 23), .move (.t 0), none⟩,
  ⟨(some 24), .nilCheck (.t 23), none⟩,
  ⟨(some 25), .fieldAddr 1 (.t 24), none⟩,
  ⟨(some 26), .load1 (.t 25), none⟩,
  ⟨(some 27), .bin .neq .num (.t 26) (.c (.int .i64 0)), none⟩]
def b168_5 : SCode := .region r168_5
abbrev r168_6 : List MOper := [⟨(some 28), .move (.t 1), none⟩,
  ⟨(some 29), .minmax false [(.t 28), (.c (.int .i64 4))], none⟩,
  ⟨(some 30), .makeSlice [.int .u8 0] 1 1 (.t 29) (.t 29), none⟩,
  ⟨(some 4), .move (.t 30), none⟩]
def b168_6 : SCode := .region r168_6
def b168_7 : SCode := .seq b168_6 .ret
def b168_8 : SCode := .cond (.t 27) b168_7 .skip
def b168_9 : SCode := .seq b168_5 b168_8
abbrev r168_10 : List MOper := [⟨(some 31), .move (.t 0), none⟩,
  ⟨(some 32), .nilCheck (.t 31), none⟩,
  ⟨(some 33), .fieldAddr 0 (.t 32), none⟩,
  ⟨(some 34), .load1 (.t 33), none⟩,
  ⟨(some 35), .move (.t 1), none⟩,
  ⟨(some 36), .slice 1 (.t 34) none (some (.t 35)) none, none⟩,
  ⟨(some 5), .move (.t 36), none⟩]
def b168_10 : SCode := .region r168_10
abbrev r168_11 : List MOper := [⟨(some 37), .move (.t 0), none⟩,
  ⟨(some 38), .move (.t 0), none⟩,
  ⟨(some 39), .nilCheck (.t 38), none⟩,
  ⟨(some 40), .fieldAddr 0 (.t 39), none⟩,
  ⟨(some 41), .load1 (.t 40), none⟩,
  ⟨(some 42), .move (.t 1), none⟩,
  ⟨(some 43), .slice 1 (.t 41) (some (.t 42)) none none, none⟩,
  ⟨(some 44), .nilCheck (.t 37), none⟩,
  ⟨(some 45), .fieldAddr 0 (.t 44), none⟩,
  ⟨none, .store 1 (.t 45) (.t 43), none⟩]
def b168_11 : SCode := .region r168_11
abbrev r168_12 : List MOper := [⟨(some 46), .move (.t 5), none⟩,
  ⟨(some 4), .move (.t 46), none⟩]
def b168_12 : SCode := .region r168_12
def b168_13 : SCode := .seq b168_12 .ret
def b168_14 : SCode := .seq b168_11 b168_13
def b168_15 : SCode := .seq b168_10 b168_14
def b168_16 : SCode := .seq b168_9 b168_15
def b168_17 : SCode := .seq b168_4 b168_16
def b168_18 : SCode := .seq b168_0 b168_17
def s168 : SFunc := ⟨47, [.t 4], b168_18⟩
theorem c168 : sFn Tryz.prog 168 = some s168 := by kernel_rfl
theorem Z168 : XR b168_0 r168_0 ∧ XR b168_1 r168_1 ∧ XR b168_2 r168_2 ∧ XC b168_3 (.t 19) b168_2 .skip ∧ XS b168_4 b168_1 b168_3 ∧ XR b168_5 r168_5 ∧ XR b168_6 r168_6 ∧ XS b168_7 b168_6 .ret ∧ XC b168_8 (.t 27) b168_7 .skip ∧ XS b168_9 b168_5 b168_8 ∧ XR b168_10 r168_10 ∧ XR b168_11 r168_11 ∧ XR b168_12 r168_12 ∧ XS b168_13 b168_12 .ret ∧ XS b168_14 b168_11 b168_13 ∧ XS b168_15 b168_10 b168_14 ∧ XS b168_16 b168_9 b168_15 ∧ XS b168_17 b168_4 b168_16 ∧ XS b168_18 b168_0 b168_17 ∧ XY s168 47 b168_18 [.t 4] := ⟨rfl, rfl, rfl, sC_cond, rfl, rfl, rfl, rfl, sC_cond, rfl, rfl, rfl, rfl, rfl, rfl, rfl, rfl, rfl, rfl, rfl⟩

end
set_option maxHeartbeats 4000000
set_option maxRecDepth 10000
def rws (bs : List UInt8) : List (List AV) := bs.map fun b => [byteAV b]
theorem rws_len (bs : List UInt8) : (rws bs).length = bs.length := by simp [rws]
def RdS (σ : AHeap) (id : Nat) (rem : List UInt8) (e : Int) : Prop := ∃ f nn, hget σ id = some [.imm (rws rem) f nn, .int .i64 e]
def Fr1 (σ σ' : AHeap) (id : Nat) : Prop := ∀ j c, hget σ j = some c → j ≠ id → hget σ' j = some c
theorem Fr1.trans {σ σ' σ'' : AHeap} {id : Nat} (h : Fr1 σ σ' id) (k : Fr1 σ' σ'' id) : Fr1 σ σ'' id := fun j c hj h1 => k j c (h j c hj h1) h1
theorem Fr1.set {σ : AHeap} {id : Nat} {c : List AV} : Fr1 σ (hset σ id c) id := fun j d hj h1 => by rw [set_other (fun e => h1 e.symm)]; exact hj
theorem Fr1.push {σ : AHeap} {id : Nat} {c : List AV} : Fr1 σ (hpush σ c) id := fun j d hj h1 => push_old hj
theorem Fr1.refl {σ : AHeap} {id : Nat} : Fr1 σ σ id := fun j d hj h1 => hj
theorem evS_hi {bs : List UInt8} {f nn : Bool} {n : Int} (h0 : 0 ≤ n) (h1 : n.toNat ≤ bs.length) : evSlice 1 (.imm (rws bs) f nn) none (some (.int .i64 n)) none = some (.imm (rws (bs.take n.toNat)) (f && n.toNat == bs.length) nn) := by
  have ha : (rws bs).all (fun r => r.length == 1) = true := by simp [rws]
  have b1 : bound? none (rws bs).length (rws bs).length = some (rws bs).length := rfl
  have b2 : bound? (some (.int .i64 n)) (rws bs).length (rws bs).length = some n.toNat := by rw [bound_int, if_pos h0, if_pos (by rw [rws_len]; exact h1)]
  have b3 : bound? none 0 n.toNat = some 0 := rfl
  simp only [evSlice, b1, b2, b3]
  rw [if_pos ⟨Nat.zero_le _, by rw [rws_len]; exact h1, ha⟩]
  simp [rws, List.map_take]
theorem evS_lo {bs : List UInt8} {f nn : Bool} {n : Int} (h0 : 0 ≤ n) (h1 : n.toNat ≤ bs.length) : evSlice 1 (.imm (rws bs) f nn) (some (.int .i64 n)) none none = some (.imm (rws (bs.drop n.toNat)) f nn) := by
  have ha : (rws bs).all (fun r => r.length == 1) = true := by simp [rws]
  have b1 : bound? none (rws bs).length (rws bs).length = some (rws bs).length := rfl
  have b2 : bound? (some (.int .i64 n)) 0 (rws bs).length = some n.toNat := by rw [bound_int, if_pos h0, if_pos (by rw [rws_len]; exact h1)]
  simp only [evSlice, b1, b2]
  rw [if_pos ⟨by rw [rws_len]; exact h1, Nat.le_refl _, ha⟩, List.take_length]
  simp [rws, List.map_drop]
theorem lenOf_imm {r : List (List AV)} {f n : Bool} : lenOf (.imm r f n) = some r.length := _root_.id rfl
theorem lenOf_sl {i o l s : Nat} {c : Option Nat} : lenOf (.slice i o l c s) = some l := _root_.id rfl
theorem mm4 {n : Int} : foldMM false (.int .i64 n) [.int .i64 4] = some (.int .i64 (if 4 < n then 4 else n)) := by
  simp [foldMM, minmax2]
theorem rep_flat {n : Nat} {x : AV} : (List.replicate n [x]).flatten = List.replicate n x := by
  induction n with
  | zero => rfl
  | succ n ih => simp [List.replicate_succ, ih]
def takeD (args : List AV) (σ : AHeap) (K : AV → AHeap → Prop) : Prop :=
  ∃ (id : Nat) (rem : List UInt8) (e n : Int), args = [.ptr id 0, .int .i64 n] ∧ 0 ≤ n ∧ RdS σ id rem e ∧
    (e = 0 → n.toNat ≤ rem.length → ∀ σ' f nn, RdS σ' id (rem.drop n.toNat) 0 → Fr1 σ σ' id → K (.imm (rws (rem.take n.toNat)) f nn) σ') ∧
    (¬ (e = 0 ∧ n.toNat ≤ rem.length) → ∀ σ' s, RdS σ' id rem (if e = 0 then 7 else e) → Fr1 σ σ' id → hget σ' s = some (List.replicate (if 4 < n then 4 else n).toNat (.int .u8 0)) → K (.slice s 0 (if 4 < n then 4 else n).toNat (some (if 4 < n then 4 else n).toNat) 1) σ')
theorem takeD_ok (args : List AV) (σ : AHeap) (K : AV → AHeap → Prop) (h : takeD args σ K) : Tri Tryz.prog 168 args σ K := by
  obtain ⟨id, rem, e, n, rfl, h0, ⟨f, nn, hg⟩, hA, hB⟩ := h
  refine Tri.of_s c168 (noCall_sound _) ?_
  have mk : ∀ e', e' ≠ 0 → ¬ (e = 0 ∧ n.toNat ≤ rem.length) → e' = (if e = 0 then 7 else e) → ∀ σ1 : AHeap, hget σ1 id = some [.imm (rws rem) f nn, .int .i64 e'] → Fr1 σ σ1 id →
      K (.slice σ1.length 0 (if 4 < n then 4 else n).toNat (some (if 4 < n then 4 else n).toNat) 1) (hpush σ1 (List.replicate (if 4 < n then 4 else n).toNat (.int .u8 0))) := by
    intro e' he' hn he σ1 hs hf
    subst he
    exact hB hn _ _ ⟨f, nn, push_old hs⟩ (hf.trans Fr1.push) (push_new rfl)
  generalize hm : (if 4 < n then 4 else n) = m at *
  have m0 : 0 ≤ m := by rw [← hm]; split <;> omega
  have m4 : m ≤ 9223372036854775807 := by rw [← hm]; split <;> omega
  have m5 : m ≤ 281474976710656 := by rw [← hm]; split <;> omega
  by_cases he : e = 0
  · subst he
    by_cases hle : n.toNat ≤ rem.length
    · have hle' : ¬ ((rem.length : Int) < n) := by omega
      simp only [Z168, base1, ↓reduceIte, Nat.reduceAdd, Nat.reduceSub, Nat.reduceMul, Nat.reduceEqDiff, Nat.reduceLeDiff, Nat.reduceLT, Int.reduceLT, Int.reduceLE, Int.reduceEq, Int.reduceNe, Int.reduceToNat, Int.reduceAdd, Int.reduceSub, reduceCtorEq, Nat.reduceBEq, Nat.reduceBNe, lenOf_imm, hg, rws_len, hle', evS_hi h0 hle, evS_lo h0 hle]
      exact hA rfl hle _ _ _ ⟨f, nn, set_same hg⟩ Fr1.set
    · have hle' : ((rem.length : Int) < n) := by omega
      have hs : hget (hset σ id [.imm (rws rem) f nn, .int .i64 7]) id = some [.imm (rws rem) f nn, .int .i64 7] := set_same hg
      simp only [Z168, base1, ↓reduceIte, Nat.reduceAdd, Nat.reduceSub, Nat.reduceMul, Nat.reduceEqDiff, Nat.reduceLeDiff, Nat.reduceLT, Int.reduceLT, Int.reduceLE, Int.reduceEq, Int.reduceNe, Int.reduceToNat, Int.reduceAdd, Int.reduceSub, reduceCtorEq, Nat.reduceBEq, Nat.reduceBNe, lenOf_imm, hg, rws_len, hle', hs, mm4, hm, m0, m4, m5, rep_flat, Int.le_refl, Int.one_mul]
      exact mk 7 (by decide) (fun h => hle h.2) rfl _ hs Fr1.set
  · simp only [Z168, base1, ↓reduceIte, Nat.reduceAdd, Nat.reduceSub, Nat.reduceMul, Nat.reduceEqDiff, Nat.reduceLeDiff, Nat.reduceLT, Int.reduceLT, Int.reduceLE, Int.reduceEq, Int.reduceNe, Int.reduceToNat, Int.reduceAdd, Int.reduceSub, reduceCtorEq, Nat.reduceBEq, Nat.reduceBNe, lenOf_imm, hg, rws_len, he, mm4, hm, m0, m4, m5, rep_flat, Int.le_refl, Int.one_mul]
    exact mk e he (fun h => he h.1) (by rw [if_neg he]) _ hg Fr1.refl
/-! Num. -/
def val32 (a b c d : UInt8) : Int := ((a.toNat * 16777216 + b.toNat * 65536 + c.toNat * 256 + d.toNat : Nat) : Int)
def orI (x y : Int) : Int := IntKind.wrap .i64 ((BitVec.ofInt (IntKind.bits .i64) x ||| BitVec.ofInt (IntKind.bits .i64) y).toNat : Int)
theorem abin_or {q : EqK} {x y : Int} : abin .or q (.int .i64 x) (.int .i64 y) = some (.int .i64 (orI x y)) := by simp [abin, intBin, orI]
theorem orI_nat {x y : Nat} (hx : x < 9223372036854775808) (hy : y < 9223372036854775808) : orI (x : Int) (y : Int) = ((x ||| y : Nat) : Int) := by
  unfold orI
  have hb : ∀ z : Nat, z < 9223372036854775808 → (BitVec.ofInt (IntKind.bits .i64) (z : Int)).toNat = z := by
    intro z hz
    show (BitVec.ofInt 64 (z : Int)).toNat = z
    rw [BitVec.ofInt_natCast, BitVec.toNat_ofNat]
    exact Nat.mod_eq_of_lt (Nat.lt_trans hz (by decide))
  have e1 : (BitVec.ofInt (IntKind.bits .i64) (x : Int) ||| BitVec.ofInt (IntKind.bits .i64) (y : Int)).toNat = x ||| y := by
    rw [BitVec.toNat_or, hb x hx, hb y hy]
  rw [e1]
  have h63 : (2 : Nat) ^ 63 = 9223372036854775808 := by decide
  have : x ||| y < 9223372036854775808 := by
    rw [← h63]
    exact Nat.or_lt_two_pow (by rw [h63]; exact hx) (by rw [h63]; exact hy)
  exact Gz.wrap64 (by omega)
theorem byte_lt (b : UInt8) : b.toNat < 256 := UInt8.toNat_lt b
theorem or_val (a b c d : UInt8) : orI (orI (orI ((a.toNat : Int) * 16777216) ((b.toNat : Int) * 65536)) ((c.toNat : Int) * 256)) (d.toNat : Int) = val32 a b c d := by
  have h1 := byte_lt a; have h2 := byte_lt b; have h3 := byte_lt c; have h4 := byte_lt d
  rw [show (a.toNat : Int) * 16777216 = ((a.toNat * 16777216 : Nat) : Int) from (Int.natCast_mul _ _).symm, show (b.toNat : Int) * 65536 = ((b.toNat * 65536 : Nat) : Int) from (Int.natCast_mul _ _).symm, show (c.toNat : Int) * 256 = ((c.toNat * 256 : Nat) : Int) from (Int.natCast_mul _ _).symm]
  rw [orI_nat (by omega) (by omega)]
  have e1 : a.toNat * 16777216 ||| b.toNat * 65536 = a.toNat * 16777216 + b.toNat * 65536 := by
    have := Nat.shiftLeft_add_eq_or_of_lt (b := b.toNat * 65536) (i := 24) (by omega) a.toNat
    rw [Nat.shiftLeft_eq] at this
    exact this.symm
  rw [e1, orI_nat (by omega) (by omega)]
  have e2 : (a.toNat * 16777216 + b.toNat * 65536) ||| c.toNat * 256 = a.toNat * 16777216 + b.toNat * 65536 + c.toNat * 256 := by
    have e3 : (a.toNat * 256 + b.toNat) * 2 ^ 16 = a.toNat * 16777216 + b.toNat * 65536 := by clear e1; simp only [Nat.reducePow]; omega
    have := Nat.shiftLeft_add_eq_or_of_lt (b := c.toNat * 256) (i := 16) (by omega) (a.toNat * 256 + b.toNat)
    rw [Nat.shiftLeft_eq] at this
    rw [e3] at this
    exact this.symm
  rw [e2, orI_nat (by omega) (by omega)]
  have e4 : (a.toNat * 16777216 + b.toNat * 65536 + c.toNat * 256) ||| d.toNat = a.toNat * 16777216 + b.toNat * 65536 + c.toNat * 256 + d.toNat := by
    have e3 : (a.toNat * 65536 + b.toNat * 256 + c.toNat) * 2 ^ 8 = a.toNat * 16777216 + b.toNat * 65536 + c.toNat * 256 := by clear e1 e2; simp only [Nat.reducePow]; omega
    have := Nat.shiftLeft_add_eq_or_of_lt (b := d.toNat) (i := 8) (by omega) (a.toNat * 65536 + b.toNat * 256 + c.toNat)
    rw [Nat.shiftLeft_eq] at this
    rw [e3] at this
    exact this.symm
  rw [e4]; rfl
def rdNum (rem : List UInt8) (e : Int) : Int × List UInt8 × Int :=
  if e = 0 then
    match rem with
    | a :: b :: c :: d :: r => if 268435455 < val32 a b c d then (0, r, 5) else (val32 a b c d, r, 0)
    | rem => (0, rem, 7)
  else (0, rem, e)
def F1 : PCall := rowQ 168 takeD noCall
theorem F1_app {f : FuncId} {args : List AV} {σ : AHeap} {K : AV → AHeap → Prop} : F1 f args σ K = rowQ 168 takeD noCall f args σ K := _root_.id rfl
theorem F1_sound : Sound Tryz.prog F1 := rowQ_sound takeD_ok (noCall_sound _)
def numRD (args : List AV) (σ : AHeap) (K : AV → AHeap → Prop) : Prop :=
  ∃ (id : Nat) (rem : List UInt8) (e : Int), args = [.ptr id 0] ∧ RdS σ id rem e ∧ ∀ σ', RdS σ' id (rdNum rem e).2.1 (rdNum rem e).2.2 → Fr1 σ σ' id → K (.int .i64 (rdNum rem e).1) σ'
theorem wrap_byte (b : UInt8) : IntKind.wrap .i64 (b.toNat : Int) = (b.toNat : Int) := by have := byte_lt b; exact Gz.wrap64 (by omega)
theorem wrap_b24 (b : UInt8) : IntKind.wrap .i64 ((b.toNat : Int) * 16777216) = (b.toNat : Int) * 16777216 := by have := byte_lt b; exact Gz.wrap64 (by omega)
theorem wrap_b16 (b : UInt8) : IntKind.wrap .i64 ((b.toNat : Int) * 65536) = (b.toNat : Int) * 65536 := by have := byte_lt b; exact Gz.wrap64 (by omega)
theorem wrap_b8 (b : UInt8) : IntKind.wrap .i64 ((b.toNat : Int) * 256) = (b.toNat : Int) * 256 := by have := byte_lt b; exact Gz.wrap64 (by omega)
theorem byteAV_eq (b : UInt8) : byteAV b = .int .u8 (b.toNat : Int) := _root_.id rfl
theorem numRD_ok (args : List AV) (σ : AHeap) (K : AV → AHeap → Prop) (h : numRD args σ K) : Tri Tryz.prog 123 args σ K := by
  obtain ⟨id, rem, e, rfl, hr, hK⟩ := h
  refine Tri.of_s c123 F1_sound ?_
  simp only [F1_app, Z123, base1, ↓reduceIte, Nat.reduceAdd, Nat.reduceSub, Nat.reduceMul, Nat.reduceEqDiff, Nat.reduceLeDiff, Nat.reduceLT, Int.reduceLT, Int.reduceLE, Int.reduceEq, Int.reduceNe, Int.reduceToNat, Int.reduceAdd, Int.reduceSub, reduceCtorEq, Nat.reduceBEq, Nat.reduceBNe]
  refine ⟨id, rem, e, 4, rfl, by decide, hr, fun he hle σ' f nn hr' hf => ?_, fun hno σ' s hr' hf hs => ?_⟩
  · subst he
    match rem, hle with
    | a :: b :: c :: d :: r, _ =>
      obtain ⟨f', nn', hg⟩ := hr'
      have hd : (a :: b :: c :: d :: r).drop (Int.toNat 4) = r := rfl
      rw [hd] at hg
      have ht : rws ((a :: b :: c :: d :: r).take (Int.toNat 4)) = [[byteAV a], [byteAV b], [byteAV c], [byteAV d]] := rfl
      rw [ht]
      by_cases hv : 268435455 < val32 a b c d
      · have hn : rdNum (a :: b :: c :: d :: r) 0 = (0, r, 5) := by simp [rdNum, hv]
        rw [hn] at hK
        have hg5 : hget (hset σ' id [.imm (rws r) f' nn', .int .i64 5]) id = some [.imm (rws r) f' nn', .int .i64 5] := set_same hg
        simp only [F1_app, Z123, base1, ↓reduceIte, Nat.reduceAdd, Nat.reduceSub, Nat.reduceMul, Nat.reduceEqDiff, Nat.reduceLeDiff, Nat.reduceLT, Int.reduceLT, Int.reduceLE, Int.reduceEq, Int.reduceNe, Int.reduceToNat, Int.reduceAdd, Int.reduceSub, reduceCtorEq, Nat.reduceBEq, Nat.reduceBNe, byteAV_eq, wrap_byte, shr24, shr16, shr8, wrap_b24, wrap_b16, wrap_b8, abin_or, or_val, hg, hv, hg5]
        exact hK _ ⟨f', nn', hg5⟩ (hf.trans Fr1.set)
      · have hn : rdNum (a :: b :: c :: d :: r) 0 = (val32 a b c d, r, 0) := by simp [rdNum, hv]
        rw [hn] at hK
        simp only [F1_app, Z123, base1, ↓reduceIte, Nat.reduceAdd, Nat.reduceSub, Nat.reduceMul, Nat.reduceEqDiff, Nat.reduceLeDiff, Nat.reduceLT, Int.reduceLT, Int.reduceLE, Int.reduceEq, Int.reduceNe, Int.reduceToNat, Int.reduceAdd, Int.reduceSub, reduceCtorEq, Nat.reduceBEq, Nat.reduceBNe, byteAV_eq, wrap_byte, shr24, shr16, shr8, wrap_b24, wrap_b16, wrap_b8, abin_or, or_val, hg, hv]
        exact hK _ ⟨f', nn', hg⟩ hf
  · obtain ⟨f', nn', hg⟩ := hr'
    have hn : rdNum rem e = (0, rem, if e = 0 then 7 else e) := by
      by_cases he : e = 0
      · subst he
        match rem, hno with
        | [], _ => rfl
        | [_], _ => rfl
        | [_, _], _ => rfl
        | [_, _, _], _ => rfl
        | a :: b :: c :: d :: r, h => exact absurd ⟨rfl, by simp⟩ h
      · simp [rdNum, he]
    rw [hn] at hK
    have he' : ¬ (if e = 0 then 7 else e) = 0 := by split <;> omega
    generalize (if e = 0 then (7 : Int) else e) = e' at *
    have hs' : hget σ' s = some [.int .u8 0, .int .u8 0, .int .u8 0, .int .u8 0] := hs
    have z0 : orI (orI (orI 0 0) 0) 0 = 0 := by decide
    have z1 : IntKind.wrap .i64 0 = 0 := rfl
    simp only [F1_app, Z123, base1, ↓reduceIte, Nat.reduceAdd, Nat.reduceSub, Nat.reduceMul, Nat.reduceEqDiff, Nat.reduceLeDiff, Nat.reduceLT, Int.reduceLT, Int.reduceLE, Int.reduceEq, Int.reduceNe, Int.reduceToNat, Int.reduceAdd, Int.reduceSub, reduceCtorEq, Nat.reduceBEq, Nat.reduceBNe, hs', hg, he', abin_or, z0, z1, Int.zero_mul]
    exact hK _ ⟨f', nn', hg⟩ hf
/-! Text, Truth, End. -/
def rdText (rem : List UInt8) (e : Int) : List UInt8 × List UInt8 × Int :=
  let p := rdNum rem e
  if p.2.2 = 0 then (if p.1.toNat ≤ p.2.1.length then (p.2.1.take p.1.toNat, p.2.1.drop p.1.toNat, 0) else ([], p.2.1, 7)) else ([], p.2.1, p.2.2)
theorem rdNum_nonneg (rem : List UInt8) (e : Int) : 0 ≤ (rdNum rem e).1 := by
  unfold rdNum
  split
  · split
    · split
      · exact Int.le_refl 0
      · exact Int.natCast_nonneg _
    · exact Int.le_refl 0
  · exact Int.le_refl 0
def F2 : PCall := rowQ 123 numRD (rowQ 168 takeD noCall)
theorem F2_app {f : FuncId} {args : List AV} {σ : AHeap} {K : AV → AHeap → Prop} : F2 f args σ K = rowQ 123 numRD (rowQ 168 takeD noCall) f args σ K := _root_.id rfl
theorem F2_sound : Sound Tryz.prog F2 := rowQ_sound numRD_ok (rowQ_sound takeD_ok (noCall_sound _))
def textRD (args : List AV) (σ : AHeap) (K : AV → AHeap → Prop) : Prop :=
  ∃ (id : Nat) (rem : List UInt8) (e : Int), args = [.ptr id 0] ∧ RdS σ id rem e ∧ ∀ σ', RdS σ' id (rdText rem e).2.1 (rdText rem e).2.2 → Fr1 σ σ' id → K (.str (rdText rem e).1) σ'
theorem bytes_ofR (bs : List UInt8) : bytesOf (bs.map byteAV) = some bs := by
  induction bs with
  | nil => rfl
  | cons b r ih =>
    simp only [List.map_cons]
    rw [show byteAV b = AV.int .u8 (b.toNat : Int) from rfl]
    simp only [bytesOf, ih]
    simp
theorem ofRws (σ : AHeap) (bs : List UInt8) (f n : Bool) : Gz.ofBytes σ (.imm (rws bs) f n) = some bs := by
  have h1 : (rws bs).all (fun r => r.length == 1) = true := by simp [rws]
  show ((if (rws bs).all (fun r => r.length == 1) then some (rws bs).flatten else none).bind bytesOf) = some bs
  rw [if_pos h1]
  unfold rws
  rw [rows_flat]
  exact bytes_ofR bs
theorem ofZeros (σ : AHeap) (s m : Nat) (c : Option Nat) (h : hget σ s = some (List.replicate m (.int .u8 0))) : Gz.ofBytes σ (.slice s 0 m c 1) = some (List.replicate m 0) := by
  show ((if 1 = 1 then (hget σ s).bind (sub · 0 (m * 1)) else none).bind bytesOf) = _
  rw [if_pos rfl, h, Nat.mul_one]
  simp only [Option.bind_some]
  rw [sub_all (by simp)]
  have := bytes_ofR (List.replicate m 0)
  rw [List.map_replicate] at this
  exact this
theorem textRD_ok (args : List AV) (σ : AHeap) (K : AV → AHeap → Prop) (h : textRD args σ K) : Tri Tryz.prog 124 args σ K := by
  obtain ⟨id, rem, e, rfl, hr, hK⟩ := h
  refine Tri.of_s c124 F2_sound ?_
  simp only [F2_app, Z124, base1, ↓reduceIte, Nat.reduceAdd, Nat.reduceSub, Nat.reduceMul, Nat.reduceEqDiff, Nat.reduceLeDiff, Nat.reduceLT, Int.reduceLT, Int.reduceLE, Int.reduceEq, Int.reduceNe, Int.reduceToNat, Int.reduceAdd, Int.reduceSub, reduceCtorEq, Nat.reduceBEq, Nat.reduceBNe]
  refine ⟨id, rem, e, rfl, hr, fun σ1 h1 f1 => ?_⟩
  simp only [F2_app, Z124, base1, ↓reduceIte, Nat.reduceAdd, Nat.reduceSub, Nat.reduceMul, Nat.reduceEqDiff, Nat.reduceLeDiff, Nat.reduceLT, Int.reduceLT, Int.reduceLE, Int.reduceEq, Int.reduceNe, Int.reduceToNat, Int.reduceAdd, Int.reduceSub, reduceCtorEq, Nat.reduceBEq, Nat.reduceBNe]
  have hn := rdNum_nonneg rem e
  unfold rdText at hK
  generalize rdNum rem e = p at *
  obtain ⟨v, r1, e1⟩ := p
  simp only at hK h1 hn
  refine ⟨id, r1, e1, v, rfl, hn, h1, fun he hle σ' f nn hr' hf => ?_, fun hno σ' s hr' hf hs => ?_⟩
  · subst he
    rw [if_pos rfl, if_pos hle] at hK
    obtain ⟨f', nn', hg⟩ := hr'
    simp only [F2_app, Z124, base1, ↓reduceIte, Nat.reduceAdd, Nat.reduceSub, Nat.reduceMul, Nat.reduceEqDiff, Nat.reduceLeDiff, Nat.reduceLT, Int.reduceLT, Int.reduceLE, Int.reduceEq, Int.reduceNe, Int.reduceToNat, Int.reduceAdd, Int.reduceSub, reduceCtorEq, Nat.reduceBEq, Nat.reduceBNe, ofRws, hg]
    exact hK _ ⟨f', nn', hg⟩ (f1.trans hf)
  · have e2 : (if e1 = 0 then (if v.toNat ≤ r1.length then (r1.take v.toNat, r1.drop v.toNat, (0 : Int)) else ([], r1, 7)) else ([], r1, e1)) = (([] : List UInt8), r1, if e1 = 0 then 7 else e1) := by
      by_cases he : e1 = 0
      · have hle : ¬ v.toNat ≤ r1.length := fun h => hno ⟨he, h⟩
        simp [he, hle]
      · simp [he]
    rw [e2] at hK
    have he' : ¬ (if e1 = 0 then 7 else e1) = 0 := by split <;> omega
    generalize (if e1 = 0 then (7 : Int) else e1) = e' at *
    obtain ⟨f', nn', hg⟩ := hr'
    have hz := ofZeros σ' s _ (some (if 4 < v then 4 else v).toNat) hs
    generalize (if 4 < v then 4 else v).toNat = m at *
    simp only [F2_app, Z124, base1, ↓reduceIte, Nat.reduceAdd, Nat.reduceSub, Nat.reduceMul, Nat.reduceEqDiff, Nat.reduceLeDiff, Nat.reduceLT, Int.reduceLT, Int.reduceLE, Int.reduceEq, Int.reduceNe, Int.reduceToNat, Int.reduceAdd, Int.reduceSub, reduceCtorEq, Nat.reduceBEq, Nat.reduceBNe, hz, hg, he']
    exact hK _ ⟨f', nn', hg⟩ (f1.trans hf)
def rdTruth (rem : List UInt8) (e : Int) : Bool × List UInt8 × Int :=
  if e = 0 then
    match rem with
    | a :: r => if 1 < a.toNat then (false, r, 5) else (decide ((a.toNat : Int) = 1), r, 0)
    | [] => (false, [], 7)
  else (false, rem, e)
def truthRD (args : List AV) (σ : AHeap) (K : AV → AHeap → Prop) : Prop :=
  ∃ (id : Nat) (rem : List UInt8) (e : Int), args = [.ptr id 0] ∧ RdS σ id rem e ∧ ∀ σ', RdS σ' id (rdTruth rem e).2.1 (rdTruth rem e).2.2 → Fr1 σ σ' id → K (.bool (rdTruth rem e).1) σ'
theorem truthRD_ok (args : List AV) (σ : AHeap) (K : AV → AHeap → Prop) (h : truthRD args σ K) : Tri Tryz.prog 129 args σ K := by
  obtain ⟨id, rem, e, rfl, hr, hK⟩ := h
  refine Tri.of_s c129 F1_sound ?_
  simp only [F1_app, Z129, base1, ↓reduceIte, Nat.reduceAdd, Nat.reduceSub, Nat.reduceMul, Nat.reduceEqDiff, Nat.reduceLeDiff, Nat.reduceLT, Int.reduceLT, Int.reduceLE, Int.reduceEq, Int.reduceNe, Int.reduceToNat, Int.reduceAdd, Int.reduceSub, reduceCtorEq, Nat.reduceBEq, Nat.reduceBNe]
  refine ⟨id, rem, e, 1, rfl, by decide, hr, fun he hle σ' f nn hr' hf => ?_, fun hno σ' s hr' hf hs => ?_⟩
  · subst he
    match rem, hle with
    | a :: r, _ =>
      obtain ⟨f', nn', hg⟩ := hr'
      have hd : (a :: r).drop (Int.toNat 1) = r := rfl
      rw [hd] at hg
      have ht : rws ((a :: r).take (Int.toNat 1)) = [[byteAV a]] := rfl
      rw [ht]
      by_cases hv : 1 < a.toNat
      · have hv' : (1 : Int) < (a.toNat : Int) := by omega
        have hn : rdTruth (a :: r) 0 = (false, r, 5) := by simp [rdTruth, hv]
        rw [hn] at hK
        have hg5 : hget (hset σ' id [.imm (rws r) f' nn', .int .i64 5]) id = some [.imm (rws r) f' nn', .int .i64 5] := set_same hg
        simp only [F1_app, Z129, base1, ↓reduceIte, Nat.reduceAdd, Nat.reduceSub, Nat.reduceMul, Nat.reduceEqDiff, Nat.reduceLeDiff, Nat.reduceLT, Int.reduceLT, Int.reduceLE, Int.reduceEq, Int.reduceNe, Int.reduceToNat, Int.reduceAdd, Int.reduceSub, reduceCtorEq, Nat.reduceBEq, Nat.reduceBNe, byteAV_eq, hg, hv', hg5]
        exact hK _ ⟨f', nn', hg5⟩ (hf.trans Fr1.set)
      · have hv' : ¬ (1 : Int) < (a.toNat : Int) := by omega
        have hn : rdTruth (a :: r) 0 = (decide ((a.toNat : Int) = 1), r, 0) := by simp [rdTruth, hv]
        rw [hn] at hK
        simp only [F1_app, Z129, base1, ↓reduceIte, Nat.reduceAdd, Nat.reduceSub, Nat.reduceMul, Nat.reduceEqDiff, Nat.reduceLeDiff, Nat.reduceLT, Int.reduceLT, Int.reduceLE, Int.reduceEq, Int.reduceNe, Int.reduceToNat, Int.reduceAdd, Int.reduceSub, reduceCtorEq, Nat.reduceBEq, Nat.reduceBNe, byteAV_eq, hg, hv']
        exact hK _ ⟨f', nn', hg⟩ hf
  · obtain ⟨f', nn', hg⟩ := hr'
    have hn : rdTruth rem e = (false, rem, if e = 0 then 7 else e) := by
      by_cases he : e = 0
      · subst he
        match rem, hno with
        | [], _ => rfl
        | a :: r, h => exact absurd ⟨rfl, by simp⟩ h
      · simp [rdTruth, he]
    rw [hn] at hK
    have he' : ¬ (if e = 0 then 7 else e) = 0 := by split <;> omega
    generalize (if e = 0 then (7 : Int) else e) = e' at *
    have hs' : hget σ' s = some [.int .u8 0] := hs
    simp only [F1_app, Z129, base1, ↓reduceIte, Nat.reduceAdd, Nat.reduceSub, Nat.reduceMul, Nat.reduceEqDiff, Nat.reduceLeDiff, Nat.reduceLT, Int.reduceLT, Int.reduceLE, Int.reduceEq, Int.reduceNe, Int.reduceToNat, Int.reduceAdd, Int.reduceSub, reduceCtorEq, Nat.reduceBEq, Nat.reduceBNe, hs', hg, he']
    exact hK _ ⟨f', nn', hg⟩ hf
def rdEnd (rem : List UInt8) (e : Int) : Int := if e = 0 ∧ 0 < rem.length then 5 else e
def endRD (args : List AV) (σ : AHeap) (K : AV → AHeap → Prop) : Prop :=
  ∃ (id : Nat) (rem : List UInt8) (e : Int), args = [.ptr id 0] ∧ RdS σ id rem e ∧ ∀ σ', Fr1 σ σ' id → K (.int .i64 (rdEnd rem e)) σ'
theorem endRD_ok (args : List AV) (σ : AHeap) (K : AV → AHeap → Prop) (h : endRD args σ K) : Tri Tryz.prog 125 args σ K := by
  obtain ⟨id, rem, e, rfl, ⟨f, nn, hg⟩, hK⟩ := h
  refine Tri.of_s c125 (noCall_sound _) ?_
  by_cases he : e = 0
  · subst he
    by_cases hl : 0 < rem.length
    · have hl' : (0 : Int) < (rem.length : Int) := by omega
      have hg5 : hget (hset σ id [.imm (rws rem) f nn, .int .i64 5]) id = some [.imm (rws rem) f nn, .int .i64 5] := set_same hg
      have hn : rdEnd rem 0 = 5 := by simp [rdEnd, hl]
      rw [hn] at hK
      simp only [Z125, base1, ↓reduceIte, Nat.reduceAdd, Nat.reduceSub, Nat.reduceMul, Nat.reduceEqDiff, Nat.reduceLeDiff, Nat.reduceLT, Int.reduceLT, Int.reduceLE, Int.reduceEq, Int.reduceNe, Int.reduceToNat, Int.reduceAdd, Int.reduceSub, reduceCtorEq, Nat.reduceBEq, Nat.reduceBNe, lenOf_imm, rws_len, hg, hl', hg5]
      exact hK _ Fr1.set
    · have hl' : ¬ (0 : Int) < (rem.length : Int) := by omega
      have hn : rdEnd rem 0 = 0 := by simp [rdEnd, hl]
      rw [hn] at hK
      simp only [Z125, base1, ↓reduceIte, Nat.reduceAdd, Nat.reduceSub, Nat.reduceMul, Nat.reduceEqDiff, Nat.reduceLeDiff, Nat.reduceLT, Int.reduceLT, Int.reduceLE, Int.reduceEq, Int.reduceNe, Int.reduceToNat, Int.reduceAdd, Int.reduceSub, reduceCtorEq, Nat.reduceBEq, Nat.reduceBNe, lenOf_imm, rws_len, hg, hl']
      exact hK _ Fr1.refl
  · have hn : rdEnd rem e = e := by simp [rdEnd, he]
    rw [hn] at hK
    simp only [Z125, base1, ↓reduceIte, Nat.reduceAdd, Nat.reduceSub, Nat.reduceMul, Nat.reduceEqDiff, Nat.reduceLeDiff, Nat.reduceLT, Int.reduceLT, Int.reduceLE, Int.reduceEq, Int.reduceNe, Int.reduceToNat, Int.reduceAdd, Int.reduceSub, reduceCtorEq, Nat.reduceBEq, Nat.reduceBNe, hg, he]
    exact hK _ Fr1.refl
end Go.Proofs.YtgaopohogdinhaaGreatDoor.note

/- What ReadAsk and ReadReply answer, as functions of the bytes; lists that grow in the heap. No condition. -/
set_option linter.unusedVariables false
set_option linter.unusedSimpArgs false
namespace Go.Proofs.YtgaopohogdinhaaGreatDoor.note
open Go.ChangeShapes Go.WideShapes Go.ChangeAt Go.RowKit Go.Gz
section
variable {C : PCall} {n0 : Nat} {R : MExit → Env → AHeap → Prop} {k : Cont} {e : Env} {σ : AHeap}
abbrev r126_0 : List MOper := [⟨(some 2), .alloc [.int .i64 0, .int .i64 0, .int .i64 0, .str [], .str [], .str [], .str [], .int .i64 0], none⟩,
  ⟨(some 3), .move (.c (.int .i64 0)), none⟩]
def b126_0 : SCode := .region r126_0
abbrev r126_1 : List MOper := [⟨(some 7), .move (.t 0), none⟩,
  ⟨(some 8), .lenSl (.t 7), none⟩,
  ⟨(some 9), .bin .gtr .num (.t 8) (.c (.int .i64 32768)), none⟩]
def b126_1 : SCode := .region r126_1
abbrev r126_2 : List MOper := [⟨(some 10), .build [.int .i64 0, .int .i64 0, .int .i64 0, .str [], .str [], .str [], .str [], .int .i64 0] [], none⟩,
  ⟨none, .store 8 (.t 2) (.t 10), none⟩,
  ⟨(some 3), .move (.c (.int .i64 3)), none⟩]
def b126_2 : SCode := .region r126_2
def b126_3 : SCode := .seq b126_2 .ret
def b126_4 : SCode := .cond (.t 9) b126_3 .skip
def b126_5 : SCode := .seq b126_1 b126_4
abbrev r126_6 : List MOper := [⟨(some 11), .move (.t 0), none⟩,
  ⟨(some 12), .build [.nilslice, .int .i64 0] [(0, 1, (.t 11))], none⟩,
  ⟨(some 13), .box (.t 12), none⟩,
  ⟨(some 4), .move (.t 13), none⟩]
def b126_6 : SCode := .region r126_6
abbrev r126_7 : List MOper := [⟨(some 14), .move (.t 4), none⟩,
  ⟨(some 15), .call 123 [(.t 14)], none⟩,
  ⟨(some 16), .move (.t 4), none⟩,
  ⟨(some 17), .call 123 [(.t 16)], none⟩,
  ⟨(some 18), .move (.t 4), none⟩,
  ⟨(some 19), .call 123 [(.t 18)], none⟩,
  ⟨(some 20), .move (.t 4), none⟩,
  ⟨(some 21), .call 123 [(.t 20)], none⟩,
  ⟨(some 22), .build [.int .i64 0, .int .i64 0, .int .i64 0, .str [], .str [], .str [], .str [], .int .i64 0] [(0, 1, (.t 15)), (1, 1, (.t 17)), (2, 1, (.t 19)), (7, 1, (.t 21))], none⟩,
  ⟨(some 5), .alloc [.int .i64 0, .int .i64 0, .int .i64 0, .str [], .str [], .str [], .str [], .int .i64 0], none⟩,
  ⟨none, .store 8 (.t 5) (.t 22), none⟩]
def b126_7 : SCode := .region r126_7
abbrev r126_8 : List MOper := [⟨(some 23), .move (.t 4), none⟩,
  ⟨(some 24), .call 124 [(.t 23)], none⟩,
  ⟨(some 25), .move (.t 4), none⟩,
  ⟨(some 26), .call 124 [(.t 25)], none⟩,
  ⟨(some 27), .move (.t 4), none⟩,
  ⟨(some 28), .call 124 [(.t 27)], none⟩,
  ⟨(some 29), .move (.t 4), none⟩,
  ⟨(some 30), .call 124 [(.t 29)], none⟩,
  ⟨(some 31), .fieldAddr 3 (.t 5), none⟩,
  ⟨none, .store 1 (.t 31) (.t 24), none⟩,
  ⟨(some 32), .fieldAddr 4 (.t 5), none⟩,
  ⟨none, .store 1 (.t 32) (.t 26), none⟩,
  ⟨(some 33), .fieldAddr 5 (.t 5), none⟩,
  ⟨none, .store 1 (.t 33) (.t 28), none⟩,
  ⟨(some 34), .fieldAddr 6 (.t 5), none⟩,
  ⟨none, .store 1 (.t 34) (.t 30), none⟩]
def b126_8 : SCode := .region r126_8
abbrev r126_9 : List MOper := [⟨(some 35), .move (.t 4), none⟩,
  ⟨(some 36), .call 125 [(.t 35)], none⟩,
  ⟨(some 6), .move (.t 36), none⟩]
def b126_9 : SCode := .region r126_9
abbrev r126_10 : List MOper := [⟨(some 37), .move (.t 6), none⟩,
  ⟨(some 38), .bin .neq .num (.t 37) (.c (.int .i64 0)), none⟩]
def b126_10 : SCode := .region r126_10
abbrev r126_11 : List MOper := [⟨(some 39), .build [.int .i64 0, .int .i64 0, .int .i64 0, .str [], .str [], .str [], .str [], .int .i64 0] [], none⟩,
  ⟨(some 40), .move (.t 6), none⟩,
  ⟨none, .store 8 (.t 2) (.t 39), none⟩,
  ⟨(some 3), .move (.t 40), none⟩]
def b126_11 : SCode := .region r126_11
def b126_12 : SCode := .seq b126_11 .ret
def b126_13 : SCode := .cond (.t 38) b126_12 .skip
def b126_14 : SCode := .seq b126_10 b126_13
def b126_15 : SCode := .seq b126_9 b126_14
abbrev r126_16 : List MOper := [⟨(some 41), .loadN 8 (.t 5), none⟩,
  ⟨none, .store 8 (.t 2) (.t 41), none⟩,
  ⟨(some 3), .move (.c (.int .i64 0)), none⟩]
def b126_16 : SCode := .region r126_16
def b126_17 : SCode := .seq b126_16 .ret
def b126_18 : SCode := .seq b126_15 b126_17
def b126_19 : SCode := .seq b126_8 b126_18
def b126_20 : SCode := .seq b126_7 b126_19
def b126_21 : SCode := .seq b126_6 b126_20
def b126_22 : SCode := .seq b126_5 b126_21
def b126_23 : SCode := .seq b126_0 b126_22
def s126 : SFunc := ⟨42, [.cN 2 8, .t 3], b126_23⟩
theorem c126 : sFn Tryz.prog 126 = some s126 := by kernel_rfl
theorem Z126 : XR b126_0 r126_0 ∧ XR b126_1 r126_1 ∧ XR b126_2 r126_2 ∧ XS b126_3 b126_2 .ret ∧ XC b126_4 (.t 9) b126_3 .skip ∧ XS b126_5 b126_1 b126_4 ∧ XR b126_6 r126_6 ∧ XR b126_7 r126_7 ∧ XR b126_8 r126_8 ∧ XR b126_9 r126_9 ∧ XR b126_10 r126_10 ∧ XR b126_11 r126_11 ∧ XS b126_12 b126_11 .ret ∧ XC b126_13 (.t 38) b126_12 .skip ∧ XS b126_14 b126_10 b126_13 ∧ XS b126_15 b126_9 b126_14 ∧ XR b126_16 r126_16 ∧ XS b126_17 b126_16 .ret ∧ XS b126_18 b126_15 b126_17 ∧ XS b126_19 b126_8 b126_18 ∧ XS b126_20 b126_7 b126_19 ∧ XS b126_21 b126_6 b126_20 ∧ XS b126_22 b126_5 b126_21 ∧ XS b126_23 b126_0 b126_22 ∧ XY s126 42 b126_23 [.cN 2 8, .t 3] := ⟨rfl, rfl, rfl, rfl, sC_cond, rfl, rfl, rfl, rfl, rfl, rfl, rfl, rfl, sC_cond, rfl, rfl, rfl, rfl, rfl, rfl, rfl, rfl, rfl, rfl, rfl⟩
abbrev r68_0 : List MOper := [⟨(some 2), .alloc [.int .i64 0, .int .i64 0, .int .i64 0, .bool false, .str [], .nilslice, .str [], .bool false], none⟩,
  ⟨(some 3), .move (.c (.int .i64 0)), none⟩]
def b68_0 : SCode := .region r68_0
abbrev r68_1 : List MOper := [⟨(some 8), .move (.t 0), none⟩,
  ⟨(some 9), .lenSl (.t 8), none⟩,
  ⟨(some 10), .bin .gtr .num (.t 9) (.c (.int .i64 32768)), none⟩]
def b68_1 : SCode := .region r68_1
abbrev r68_2 : List MOper := [⟨(some 11), .build [.int .i64 0, .int .i64 0, .int .i64 0, .bool false, .str [], .nilslice, .str [], .bool false] [], none⟩,
  ⟨none, .store 8 (.t 2) (.t 11), none⟩,
  ⟨(some 3), .move (.c (.int .i64 3)), none⟩]
def b68_2 : SCode := .region r68_2
def b68_3 : SCode := .seq b68_2 .ret
def b68_4 : SCode := .cond (.t 10) b68_3 .skip
def b68_5 : SCode := .seq b68_1 b68_4
abbrev r68_6 : List MOper := [⟨(some 12), .move (.t 0), none⟩,
  ⟨(some 13), .build [.nilslice, .int .i64 0] [(0, 1, (.t 12))], none⟩,
  ⟨(some 14), .box (.t 13), none⟩,
  ⟨(some 4), .move (.t 14), none⟩]
def b68_6 : SCode := .region r68_6
abbrev r68_7 : List MOper := [⟨(some 15), .move (.t 4), none⟩,
  ⟨(some 16), .call 123 [(.t 15)], none⟩,
  ⟨(some 17), .move (.t 4), none⟩,
  ⟨(some 18), .call 123 [(.t 17)], none⟩,
  ⟨(some 19), .move (.t 4), none⟩,
  ⟨(some 20), .call 123 [(.t 19)], none⟩,
  ⟨(some 21), .move (.t 4), none⟩,
  ⟨(some 22), .call 129 [(.t 21)], none⟩,
  ⟨(some 23), .move (.t 4), none⟩,
  ⟨(some 24), .call 124 [(.t 23)], none⟩,
  ⟨(some 25), .build [.int .i64 0, .int .i64 0, .int .i64 0, .bool false, .str [], .nilslice, .str [], .bool false] [(0, 1, (.t 16)), (1, 1, (.t 18)), (2, 1, (.t 20)), (3, 1, (.t 22)), (4, 1, (.t 24))], none⟩,
  ⟨(some 5), .alloc [.int .i64 0, .int .i64 0, .int .i64 0, .bool false, .str [], .nilslice, .str [], .bool false], none⟩,
  ⟨none, .store 8 (.t 5) (.t 25), none⟩]
def b68_7 : SCode := .region r68_7
abbrev r68_8 : List MOper := [⟨(some 26), .move (.t 4), none⟩,
  ⟨(some 27), .call 123 [(.t 26)], none⟩,
  ⟨(some 6), .move (.t 27), none⟩]
def b68_8 : SCode := .region r68_8
abbrev r68_9 : List MOper := [⟨(some 28), .move (.t 6), none⟩,
  ⟨(some 29), .bin .gtr .num (.t 28) (.c (.int .i64 0)), none⟩,
  ⟨(some 30), .move (.t 29), none⟩,
  ⟨(some 31), .move (.t 4), (some (30, true))⟩,
  ⟨(some 32), .nilCheck (.t 31), (some (30, true))⟩,
  ⟨(some 33), .fieldAddr 1 (.t 32), (some (30, true))⟩,
  ⟨(some 34), .load1 (.t 33), (some (30, true))⟩,
  ⟨(some 35), .bin .eql .num (.t 34) (.c (.int .i64 0)), (some (30, true))⟩,
  ⟨(some 36), .pick (.t 30) (.t 35) (.c (.bool false)), none⟩]
def b68_9 : SCode := .region r68_9
def b68_10 : SCode := .cond (.t 36) .skip (.exit 0)
def b68_11 : SCode := .seq b68_9 b68_10
abbrev t68_12 : LTree := (.quiet ⟨(some 39), .fieldAddr 5 (.t 5), none⟩ 0
  (.quiet ⟨(some 40), .load1 (.t 39), none⟩ 1
  (.quiet ⟨(some 41), .move (.t 4), none⟩ 2
  (.quiet ⟨(some 43), .move (.t 4), none⟩ 4
  (.loud ⟨(some 42), .call 124 [(.t 41)], none⟩ [1]
  (.loud ⟨(some 44), .call 124 [(.t 43)], none⟩ [1]
  (.quiet ⟨(some 45), .build [.str [], .str []] [(0, 1, (.t 42)), (1, 1, (.t 44))], none⟩ 6
  (.loud ⟨(some 46), .buildSlice [.str [], .str []] 2 1 [(0, 2, (.t 45))], none⟩ [1]
  (.loud ⟨(some 47), .append 2 32 (.t 40) (.t 46), none⟩ []
  (.quiet ⟨(some 48), .fieldAddr 5 (.t 5), none⟩ 9
  (.loud ⟨none, .store 1 (.t 48) (.t 47), none⟩ []
  .leaf .stop)) .stop) .stop)) .stop) .stop)))))
def b68_12 : SCode := .draw t68_12
def b68_13 : SCode := .block 1 b68_12
abbrev r68_14 : List MOper := [⟨(some 37), .move (.t 6), none⟩,
  ⟨(some 38), .bin .sub .num (.t 37) (.c (.int .i64 1)), none⟩,
  ⟨(some 6), .move (.t 38), none⟩]
def b68_14 : SCode := .region r68_14
def b68_15 : SCode := .seq b68_13 b68_14
def b68_16 : SCode := .seq b68_11 b68_15
def b68_17 : SCode := .loop b68_16
def b68_18 : SCode := .block 0 b68_17
def b68_19 : SCode := .seq b68_8 b68_18
abbrev r68_20 : List MOper := [⟨(some 49), .move (.t 4), none⟩,
  ⟨(some 50), .call 124 [(.t 49)], none⟩,
  ⟨(some 51), .move (.t 4), none⟩,
  ⟨(some 52), .call 129 [(.t 51)], none⟩,
  ⟨(some 53), .fieldAddr 6 (.t 5), none⟩,
  ⟨none, .store 1 (.t 53) (.t 50), none⟩,
  ⟨(some 54), .fieldAddr 7 (.t 5), none⟩,
  ⟨none, .store 1 (.t 54) (.t 52), none⟩]
def b68_20 : SCode := .region r68_20
abbrev r68_21 : List MOper := [⟨(some 55), .move (.t 4), none⟩,
  ⟨(some 56), .call 125 [(.t 55)], none⟩,
  ⟨(some 7), .move (.t 56), none⟩]
def b68_21 : SCode := .region r68_21
abbrev r68_22 : List MOper := [⟨(some 57), .move (.t 7), none⟩,
  ⟨(some 58), .bin .neq .num (.t 57) (.c (.int .i64 0)), none⟩]
def b68_22 : SCode := .region r68_22
abbrev r68_23 : List MOper := [⟨(some 59), .build [.int .i64 0, .int .i64 0, .int .i64 0, .bool false, .str [], .nilslice, .str [], .bool false] [], none⟩,
  ⟨(some 60), .move (.t 7), none⟩,
  ⟨none, .store 8 (.t 2) (.t 59), none⟩,
  ⟨(some 3), .move (.t 60), none⟩]
def b68_23 : SCode := .region r68_23
def b68_24 : SCode := .seq b68_23 .ret
def b68_25 : SCode := .cond (.t 58) b68_24 .skip
def b68_26 : SCode := .seq b68_22 b68_25
def b68_27 : SCode := .seq b68_21 b68_26
abbrev r68_28 : List MOper := [⟨(some 61), .loadN 8 (.t 5), none⟩,
  ⟨none, .store 8 (.t 2) (.t 61), none⟩,
  ⟨(some 3), .move (.c (.int .i64 0)), none⟩]
def b68_28 : SCode := .region r68_28
def b68_29 : SCode := .seq b68_28 .ret
def b68_30 : SCode := .seq b68_27 b68_29
def b68_31 : SCode := .seq b68_20 b68_30
def b68_32 : SCode := .seq b68_19 b68_31
def b68_33 : SCode := .seq b68_7 b68_32
def b68_34 : SCode := .seq b68_6 b68_33
def b68_35 : SCode := .seq b68_5 b68_34
def b68_36 : SCode := .seq b68_0 b68_35
def s68 : SFunc := ⟨62, [.cN 2 8, .t 3], b68_36⟩
theorem c68 : sFn Tryz.prog 68 = some s68 := by kernel_rfl
theorem x68_20 : XR b68_20 r68_20 := rfl
theorem x68_31 : XS b68_31 b68_20 b68_30 := rfl
theorem Z68 : XR b68_0 r68_0 ∧ XR b68_1 r68_1 ∧ XR b68_2 r68_2 ∧ XS b68_3 b68_2 .ret ∧ XC b68_4 (.t 10) b68_3 .skip ∧ XS b68_5 b68_1 b68_4 ∧ XR b68_6 r68_6 ∧ XR b68_7 r68_7 ∧ XR b68_8 r68_8 ∧ XR b68_9 r68_9 ∧ XC b68_10 (.t 36) .skip (.exit 0) ∧ XS b68_11 b68_9 b68_10 ∧ XT b68_12 t68_12 ∧ XB b68_13 1 b68_12 ∧ XR b68_14 r68_14 ∧ XS b68_15 b68_13 b68_14 ∧ XS b68_16 b68_11 b68_15 ∧ XB b68_18 0 b68_17 ∧ XS b68_19 b68_8 b68_18 ∧ XR b68_21 r68_21 ∧ XR b68_22 r68_22 ∧ XR b68_23 r68_23 ∧ XS b68_24 b68_23 .ret ∧ XC b68_25 (.t 58) b68_24 .skip ∧ XS b68_26 b68_22 b68_25 ∧ XS b68_27 b68_21 b68_26 ∧ XR b68_28 r68_28 ∧ XS b68_29 b68_28 .ret ∧ XS b68_30 b68_27 b68_29 ∧ XS b68_32 b68_19 b68_31 ∧ XS b68_33 b68_7 b68_32 ∧ XS b68_34 b68_6 b68_33 ∧ XS b68_35 b68_5 b68_34 ∧ XS b68_36 b68_0 b68_35 ∧ XY s68 62 b68_36 [.cN 2 8, .t 3] := ⟨rfl, rfl, rfl, rfl, sC_cond, rfl, rfl, rfl, rfl, rfl, sC_cond, rfl, rfl, rfl, rfl, rfl, rfl, rfl, rfl, rfl, rfl, rfl, rfl, sC_cond, rfl, rfl, rfl, rfl, rfl, rfl, rfl, rfl, rfl, rfl, rfl⟩

end
set_option maxHeartbeats 4000000
set_option maxRecDepth 10000
abbrev St := List UInt8 × Int
def stN (s : St) : St := ((rdNum s.1 s.2).2.1, (rdNum s.1 s.2).2.2)
def stT (s : St) : St := ((rdText s.1 s.2).2.1, (rdText s.1 s.2).2.2)
def stB (s : St) : St := ((rdTruth s.1 s.2).2.1, (rdTruth s.1 s.2).2.2)
def vN (s : St) : Int := (rdNum s.1 s.2).1
def vT (s : St) : List UInt8 := (rdText s.1 s.2).1
def vB (s : St) : Bool := (rdTruth s.1 s.2).1
def AskV.zero : AskV := ⟨0, 0, 0, [], [], [], [], 0⟩
def RepV.zero : RepV := ⟨0, 0, 0, false, [], [], [], false⟩
def readAskG (s0 s1 s2 s3 s4 s5 s6 s7 s8 : St) : AskV × Int := if rdEnd s8.1 s8.2 = 0 then (⟨vN s0, vN s1, vN s2, vT s4, vT s5, vT s6, vT s7, vN s3⟩, 0) else (AskV.zero, rdEnd s8.1 s8.2)
def readAskF (s0 : St) : AskV × Int := readAskG s0 (stN s0) (stN (stN s0)) (stN (stN (stN s0))) (stN (stN (stN (stN s0)))) (stT (stN (stN (stN (stN s0))))) (stT (stT (stN (stN (stN (stN s0)))))) (stT (stT (stT (stN (stN (stN (stN s0))))))) (stT (stT (stT (stT (stN (stN (stN (stN s0))))))))
def readAsk (bs : List UInt8) : AskV × Int := if 32768 < bs.length then (AskV.zero, 3) else readAskF (bs, 0)
def F3 : PCall := rowQ 123 numRD (rowQ 124 textRD (rowQ 125 endRD (rowQ 129 truthRD noCall)))
theorem F3_app {f : FuncId} {args : List AV} {σ : AHeap} {K : AV → AHeap → Prop} : F3 f args σ K = rowQ 123 numRD (rowQ 124 textRD (rowQ 125 endRD (rowQ 129 truthRD noCall))) f args σ K := _root_.id rfl
theorem F3_sound : Sound Tryz.prog F3 := rowQ_sound numRD_ok (rowQ_sound textRD_ok (rowQ_sound endRD_ok (rowQ_sound truthRD_ok (noCall_sound _))))
theorem rd_alloc {σ : AHeap} {id : Nat} {rem : List UInt8} {e : Int} {c d : List AV} (h : RdS σ id rem e) : RdS (hset (hpush σ c) σ.length d) id rem e := by
  obtain ⟨f, nn, hg⟩ := h
  have := hget_lt hg
  exact ⟨f, nn, by rw [set_other (by omega)]; exact push_old hg⟩
theorem al_frame {σ : AHeap} {j : Nat} {x c d : List AV} (h : hget σ j = some x) : hget (hset (hpush σ c) σ.length d) j = some x := by
  have := hget_lt h
  rw [set_other (by omega)]; exact push_old h
theorem set_set {σ : AHeap} {j : Nat} {c d : List AV} : hset (hset σ j c) j d = hset σ j d := by simp [hset]
theorem rd_set {σ : AHeap} {id j : Nat} {rem : List UInt8} {e : Int} {d : List AV} (h : RdS σ id rem e) (hj : j ≠ id) : RdS (hset σ j d) id rem e := by
  obtain ⟨f, nn, hg⟩ := h
  exact ⟨f, nn, by rw [set_other hj]; exact hg⟩
theorem rd_push {σ : AHeap} {id : Nat} {rem : List UInt8} {e : Int} {c : List AV} (h : RdS σ id rem e) : RdS (hpush σ c) id rem e := by
  obtain ⟨f, nn, hg⟩ := h
  exact ⟨f, nn, push_old hg⟩
def ansA (p : AskV × Int) : AV := .tuple [.agg p.1.cells, .int .i64 p.2]
theorem ansA_mk (a b c : Int) (t v f o : List UInt8) (l e : Int) : ansA (⟨a, b, c, t, v, f, o, l⟩, e) = .tuple [.agg [.int .i64 a, .int .i64 b, .int .i64 c, .str t, .str v, .str f, .str o, .int .i64 l], .int .i64 e] := rfl
theorem ansA_pure (p : AskV × Int) : (ansA p).pure = true := rfl
theorem readAsk_ok (bs : List UInt8) : Tri Tryz.prog 126 [.imm (rws bs) false false] [] fun r _ => r.pure = true ∧ r = ansA (readAsk bs) := by
  refine Tri.frozen (Q := fun r _ => r = ansA (readAsk bs)) (Tri.of_s c126 F3_sound ?_) (fun r σ hr => ⟨r, .pure (by rw [hr]; exact ansA_pure _), by rw [hr]; exact ansA_pure _, hr⟩)
  generalize hK : (fun (r : AV) (_ : AHeap) => r = ansA (readAsk bs)) = K
  have hK : ∀ σ, K (ansA (readAsk bs)) σ := by intro σ; rw [← hK]
  by_cases hl : (32768 : Int) < (bs.length : Int)
  · have hn : readAsk bs = (AskV.zero, 3) := by unfold readAsk; rw [if_pos (by omega)]
    rw [hn] at hK
    simp only [F3_app, Z126, base1, baseE, ↓reduceIte, Nat.reduceAdd, Nat.reduceSub, Nat.reduceMul, Nat.reduceEqDiff, Nat.reduceLeDiff, Nat.reduceLT, Int.reduceLT, Int.reduceLE, Int.reduceEq, Int.reduceNe, Int.reduceToNat, Int.reduceAdd, Int.reduceSub, reduceCtorEq, Nat.reduceBEq, Nat.reduceBNe, rws_len, hl]
    exact hK _
  have hn : readAsk bs = readAskF (bs, 0) := by unfold readAsk; rw [if_neg (by omega)]
  rw [hn] at hK
  simp only [F3_app, Z126, base1, baseE, ↓reduceIte, Nat.reduceAdd, Nat.reduceSub, Nat.reduceMul, Nat.reduceEqDiff, Nat.reduceLeDiff, Nat.reduceLT, Int.reduceLT, Int.reduceLE, Int.reduceEq, Int.reduceNe, Int.reduceToNat, Int.reduceAdd, Int.reduceSub, reduceCtorEq, Nat.reduceBEq, Nat.reduceBNe, rws_len, hl]
  refine ⟨1, bs, 0, rfl, ⟨false, false, rfl⟩, fun σ1 r1 f1 => ?_⟩
  have b1 := f1 0 _ rfl (by decide)
  have r1 : RdS σ1 1 (stN (bs, 0)).1 (stN (bs, 0)).2 := r1
  unfold readAskF at hK
  have v0 : (rdNum bs 0).1 = vN (bs, 0) := rfl
  rw [v0]
  generalize stN (bs, 0) = s1 at r1 hK ⊢
  generalize ((bs, 0) : St) = s0 at hK ⊢
  simp only [F3_app, Z126, base1, baseE, ↓reduceIte, Nat.reduceAdd, Nat.reduceSub, Nat.reduceMul, Nat.reduceEqDiff, Nat.reduceLeDiff, Nat.reduceLT, Int.reduceLT, Int.reduceLE, Int.reduceEq, Int.reduceNe, Int.reduceToNat, Int.reduceAdd, Int.reduceSub, reduceCtorEq, Nat.reduceBEq, Nat.reduceBNe]
  refine ⟨1, _, _, rfl, r1, fun σ2 r2 f2 => ?_⟩
  have b2 := f2 0 _ b1 (by decide)
  have r2 : RdS σ2 1 (stN s1).1 (stN s1).2 := r2
  generalize stN s1 = s2 at r2 hK ⊢
  have v1 : (rdNum s1.1 s1.2).1 = vN s1 := rfl
  rw [v1]
  simp only [F3_app, Z126, base1, baseE, ↓reduceIte, Nat.reduceAdd, Nat.reduceSub, Nat.reduceMul, Nat.reduceEqDiff, Nat.reduceLeDiff, Nat.reduceLT, Int.reduceLT, Int.reduceLE, Int.reduceEq, Int.reduceNe, Int.reduceToNat, Int.reduceAdd, Int.reduceSub, reduceCtorEq, Nat.reduceBEq, Nat.reduceBNe]
  refine ⟨1, _, _, rfl, r2, fun σ3 r3 f3 => ?_⟩
  have b3 := f3 0 _ b2 (by decide)
  have r3 : RdS σ3 1 (stN s2).1 (stN s2).2 := r3
  generalize stN s2 = s3 at r3 hK ⊢
  have v2 : (rdNum s2.1 s2.2).1 = vN s2 := rfl
  rw [v2]
  simp only [F3_app, Z126, base1, baseE, ↓reduceIte, Nat.reduceAdd, Nat.reduceSub, Nat.reduceMul, Nat.reduceEqDiff, Nat.reduceLeDiff, Nat.reduceLT, Int.reduceLT, Int.reduceLE, Int.reduceEq, Int.reduceNe, Int.reduceToNat, Int.reduceAdd, Int.reduceSub, reduceCtorEq, Nat.reduceBEq, Nat.reduceBNe]
  refine ⟨1, _, _, rfl, r3, fun σ4 r4 f4 => ?_⟩
  have b4 := f4 0 _ b3 (by decide)
  have r4 : RdS σ4 1 (stN s3).1 (stN s3).2 := r4
  generalize stN s3 = s4 at r4 hK ⊢
  have v3 : (rdNum s3.1 s3.2).1 = vN s3 := rfl
  rw [v3]
  have l4 : 1 < σ4.length := by obtain ⟨f, nn, hg⟩ := r4; exact hget_lt hg
  have pn : ∀ c : List AV, hget (hpush σ4 c) σ4.length = some c := fun c => push_new rfl
  simp only [F3_app, Z126, base1, baseE, ↓reduceIte, Nat.reduceAdd, Nat.reduceSub, Nat.reduceMul, Nat.reduceEqDiff, Nat.reduceLeDiff, Nat.reduceLT, Int.reduceLT, Int.reduceLE, Int.reduceEq, Int.reduceNe, Int.reduceToNat, Int.reduceAdd, Int.reduceSub, reduceCtorEq, Nat.reduceBEq, Nat.reduceBNe, pn]
  refine ⟨1, _, _, rfl, rd_alloc r4, fun σ6 r6 f6 => ?_⟩
  have b6 := f6 0 _ (al_frame b4) (by decide)
  have c6 := f6 σ4.length _ (set_same (pn _)) (by omega)
  have r6 : RdS σ6 1 (stT s4).1 (stT s4).2 := r6
  generalize stT s4 = s5 at r6 hK ⊢
  have v4 : (rdText s4.1 s4.2).1 = vT s4 := rfl
  rw [v4]
  simp only [F3_app, Z126, base1, baseE, ↓reduceIte, Nat.reduceAdd, Nat.reduceSub, Nat.reduceMul, Nat.reduceEqDiff, Nat.reduceLeDiff, Nat.reduceLT, Int.reduceLT, Int.reduceLE, Int.reduceEq, Int.reduceNe, Int.reduceToNat, Int.reduceAdd, Int.reduceSub, reduceCtorEq, Nat.reduceBEq, Nat.reduceBNe]
  refine ⟨1, _, _, rfl, r6, fun σ7 r7 f7 => ?_⟩
  have b7 := f7 0 _ b6 (by decide)
  have c7 := f7 σ4.length _ c6 (by omega)
  have r7 : RdS σ7 1 (stT s5).1 (stT s5).2 := r7
  generalize stT s5 = s6 at r7 hK ⊢
  have v5 : (rdText s5.1 s5.2).1 = vT s5 := rfl
  rw [v5]
  simp only [F3_app, Z126, base1, baseE, ↓reduceIte, Nat.reduceAdd, Nat.reduceSub, Nat.reduceMul, Nat.reduceEqDiff, Nat.reduceLeDiff, Nat.reduceLT, Int.reduceLT, Int.reduceLE, Int.reduceEq, Int.reduceNe, Int.reduceToNat, Int.reduceAdd, Int.reduceSub, reduceCtorEq, Nat.reduceBEq, Nat.reduceBNe]
  refine ⟨1, _, _, rfl, r7, fun σ8 r8 f8 => ?_⟩
  have b8 := f8 0 _ b7 (by decide)
  have c8 := f8 σ4.length _ c7 (by omega)
  have r8 : RdS σ8 1 (stT s6).1 (stT s6).2 := r8
  generalize stT s6 = s7 at r8 hK ⊢
  have v6 : (rdText s6.1 s6.2).1 = vT s6 := rfl
  rw [v6]
  simp only [F3_app, Z126, base1, baseE, ↓reduceIte, Nat.reduceAdd, Nat.reduceSub, Nat.reduceMul, Nat.reduceEqDiff, Nat.reduceLeDiff, Nat.reduceLT, Int.reduceLT, Int.reduceLE, Int.reduceEq, Int.reduceNe, Int.reduceToNat, Int.reduceAdd, Int.reduceSub, reduceCtorEq, Nat.reduceBEq, Nat.reduceBNe]
  refine ⟨1, _, _, rfl, r8, fun σ9 r9 f9 => ?_⟩
  have b9 := f9 0 _ b8 (by decide)
  have c9 := f9 σ4.length _ c8 (by omega)
  have r9 : RdS σ9 1 (stT s7).1 (stT s7).2 := r9
  generalize stT s7 = s8 at r9 hK ⊢
  have v7 : (rdText s7.1 s7.2).1 = vT s7 := rfl
  rw [v7]
  generalize σ4.length = L at c9 l4
  have hL0 : ¬ L = 0 := by omega
  have hL1 : ¬ L = 1 := by omega
  have ss : ∀ (d : List AV), hget (hset σ9 L d) L = some d := fun d => set_same c9
  simp only [F3_app, Z126, base1, baseE, ↓reduceIte, Nat.reduceAdd, Nat.reduceSub, Nat.reduceMul, Nat.reduceEqDiff, Nat.reduceLeDiff, Nat.reduceLT, Int.reduceLT, Int.reduceLE, Int.reduceEq, Int.reduceNe, Int.reduceToNat, Int.reduceAdd, Int.reduceSub, reduceCtorEq, Nat.reduceBEq, Nat.reduceBNe, c9, ss, set_set]
  refine ⟨1, s8.1, s8.2, rfl, rd_set r9 hL1, fun σ10 f10 => ?_⟩
  have b10 := f10 0 _ (by rw [set_other hL0]; exact b9) (by decide)
  have c14 := f10 L _ (ss _) hL1
  have s0' : ∀ (d : List AV), hget (hset σ10 0 d) 0 = some d := fun d => set_same b10
  unfold readAskG at hK
  generalize rdEnd s8.1 s8.2 = E at hK ⊢
  by_cases hE : E = 0
  · subst hE
    simp only [if_true, ansA_mk] at hK
    simp only [F3_app, Z126, base1, baseE, ↓reduceIte, Nat.reduceAdd, Nat.reduceSub, Nat.reduceMul, Nat.reduceEqDiff, Nat.reduceLeDiff, Nat.reduceLT, Int.reduceLT, Int.reduceLE, Int.reduceEq, Int.reduceNe, Int.reduceToNat, Int.reduceAdd, Int.reduceSub, reduceCtorEq, Nat.reduceBEq, Nat.reduceBNe, c14, b10, s0']
    exact hK _
  · simp only [if_neg hE] at hK
    simp only [F3_app, Z126, base1, baseE, ↓reduceIte, Nat.reduceAdd, Nat.reduceSub, Nat.reduceMul, Nat.reduceEqDiff, Nat.reduceLeDiff, Nat.reduceLT, Int.reduceLT, Int.reduceLE, Int.reduceEq, Int.reduceNe, Int.reduceToNat, Int.reduceAdd, Int.reduceSub, reduceCtorEq, Nat.reduceBEq, Nat.reduceBNe, c14, b10, s0', hE]
    exact hK _
/-! A list that grows. -/
/-- In the heap: nil, or a block of its own, of rows of w cells each. -/
def Grow (σ : AHeap) (Lv : AV) (w : Nat) (rows : List (List AV)) : Prop :=
  (Lv = .nilslice ∧ rows = []) ∨ ∃ d, Lv = .slice d 0 rows.length none w ∧ hget σ d = some rows.flatten ∧ (∀ r ∈ rows, r.length = w) ∧ rows.flatten.all (fun x => x.isCell) = true
def LvD : AV → Option Nat
  | .slice d _ _ _ _ => some d
  | _ => none
theorem flat_len {w : Nat} : ∀ {rows : List (List AV)}, (∀ r ∈ rows, r.length = w) → rows.flatten.length = rows.length * w
  | [], _ => by simp
  | r :: rs, h => by
    have := flat_len (rows := rs) (w := w) fun q hq => h q (by simp [hq])
    simp only [List.flatten_cons, List.length_append, List.length_cons, this, h r (by simp), Nat.add_mul]; omega
theorem grow_cell {σ : AHeap} {Lv : AV} {w : Nat} {rows : List (List AV)} (h : Grow σ Lv w rows) : Lv.isCell = true := by
  rcases h with ⟨rfl, _⟩ | ⟨d, rfl, _⟩ <;> rfl
theorem grow_len {σ : AHeap} {Lv : AV} {w : Nat} {rows : List (List AV)} (h : Grow σ Lv w rows) : lenOf Lv = some rows.length := by
  rcases h with ⟨rfl, rfl⟩ | ⟨d, rfl, _⟩ <;> rfl
theorem grow_old {σ : AHeap} {Lv : AV} {w : Nat} {rows : List (List AV)} (h : Grow σ Lv w rows) : ∀ d, LvD Lv = some d → d < σ.length := by
  rcases h with ⟨rfl, rfl⟩ | ⟨d, rfl, h, _⟩
  · intro d h; cases h
  · intro d' h'; cases h'; exact hget_lt h
theorem grow_frame {σ τ : AHeap} {Lv : AV} {w : Nat} {rows : List (List AV)} (h : Grow σ Lv w rows) (hf : ∀ j c, hget σ j = some c → LvD Lv = some j → hget τ j = some c) : Grow τ Lv w rows := by
  rcases h with ⟨rfl, h⟩ | ⟨d, rfl, h1, h2, h3⟩
  · exact .inl ⟨rfl, h⟩
  · exact .inr ⟨d, rfl, hf d _ h1 rfl, h2, h3⟩
theorem grow_any {σ : AHeap} {Lv x : AV} {w b : Nat} {rows ys : List (List AV)} (hb : b ≤ 1000) (h : Grow σ Lv w rows) (hk : rows.length + ys.length ≤ 1000000000) (he : elemsOf σ w x = some ys.flatten) (hl : lenOf x = some ys.length) (hw : ∀ r ∈ ys, r.length = w) (hc : ys.flatten.all (fun x => x.isCell) = true) :
    ∃ v τ, evAppend w b Lv x σ = some (v, τ) ∧ v.isCell = true ∧ v.cells? = some [v] ∧ (∀ j c, hget σ j = some c → LvD Lv ≠ some j → hget τ j = some c ∧ LvD v ≠ some j) ∧ Grow τ v w (rows ++ ys) := by
  have hgr : mayGrow (rows.length + ys.length) b = true := by
    simp only [mayGrow, decide_eq_true_eq]
    have : (2 * (rows.length + ys.length) + 768) * b ≤ (2 * (rows.length + ys.length) + 768) * 1000 := Nat.mul_le_mul_left _ hb
    omega
  have l0 := grow_len h
  rcases h with ⟨rfl, rfl⟩ | ⟨d, rfl, hg, hlen, hall⟩
  · by_cases hy : ys.length = 0
    · have : ys = [] := List.length_eq_zero_iff.1 hy
      subst this
      refine ⟨.nilslice, σ, ?_, rfl, rfl, fun j c hj _ => ⟨hj, by simp [LvD]⟩, .inl ⟨rfl, rfl⟩⟩
      simp only [List.length_nil] at hgr
      simp only [evAppend, he, hl, l0, hc, List.length_nil, hgr, Bool.and_self, if_true]
    · refine ⟨.slice σ.length 0 ys.length none w, hpush σ ys.flatten, ?_, rfl, rfl, fun j c hj _ => ⟨push_old hj, ?_⟩, .inr ⟨σ.length, rfl, push_new rfl, hw, hc⟩⟩
      · simp only [evAppend, he, hl, l0, hgr, hc, Bool.and_self, if_true, if_neg hy, grown]
      · have := hget_lt hj
        simp only [LvD, ne_eq, Option.some.injEq]; omega
  · have ho : elemsOf σ w (.slice d 0 rows.length none w) = some rows.flatten := by
      simp only [elemsOf, if_true, hg, Option.bind_some]
      exact sub_all (flat_len hlen).symm
    refine ⟨.slice σ.length 0 (rows.length + ys.length) none w, hpush (hkill σ d) (rows.flatten ++ ys.flatten), ?_, rfl, rfl, fun j c hj hn => ⟨push_old (by rw [kill_other (fun e => hn (by rw [LvD, e]))]; exact hj), ?_⟩, .inr ⟨σ.length, by simp, by rw [push_new (by simp [kill_len])]; simp, ?_, ?_⟩⟩
    · simp only [evAppend, he, hl, l0, hgr, hc, Bool.and_self, if_true, ho, Option.map_some, grown, kill_len]
    · have := hget_lt hj
      simp only [LvD, ne_eq, Option.some.injEq]; omega
    · intro r hr
      rcases List.mem_append.1 hr with h | h
      · exact hlen r h
      · exact hw r h
    · rw [List.flatten_append, List.all_append, hall, hc]; rfl
theorem grow_one {σ : AHeap} {Lv : AV} {w b : Nat} {rows : List (List AV)} (hb : b ≤ 1000) (h : Grow σ Lv w rows) (hk : rows.length < 1000000000) (row : List AV) (hw : row.length = w) (hc : row.all (fun x => x.isCell) = true) :
    ∃ v τ, evAppend w b Lv (.slice σ.length 0 1 (some 1) w) (hpush σ row) = some (v, τ) ∧ v.isCell = true ∧ v.cells? = some [v] ∧ (∀ j c, hget σ j = some c → LvD Lv ≠ some j → hget τ j = some c ∧ LvD v ≠ some j) ∧ Grow τ v w (rows ++ [row]) := by
  have he : elemsOf (hpush σ row) w (.slice σ.length 0 1 (some 1) w) = some [row].flatten := by
    simp only [elemsOf, if_true, push_new rfl, Option.bind_some]
    rw [show [row].flatten = row by simp]
    exact sub_all (by omega)
  have hg := grow_frame h (τ := hpush σ row) fun j c hj _ => push_old hj
  obtain ⟨v, τ, h1, h2, h3, h4, h5⟩ := grow_any hb hg (ys := [row]) (by simp; omega) he rfl (by simpa using hw) (by simpa using hc)
  exact ⟨v, τ, h1, h2, h3, fun j c hj hn => h4 j c (push_old hj) hn, h5⟩
theorem grow_frz {σ : AHeap} {Lv : AV} {w : Nat} {rows : List (List AV)} (h : Grow σ Lv w rows) (hp : pureLL rows = true) : Frz σ Lv (.imm rows false false) := by
  rcases h with ⟨rfl, rfl⟩ | ⟨d, rfl, hg, hlen, hall⟩
  · exact .nil
  · refine .slice hg (sub_all (flat_len hlen).symm) rfl hlen (fun i y z hy hz => ?_)
    rw [hy] at hz; cases hz
    obtain ⟨r, hr, hyr⟩ := List.mem_flatten.1 (List.mem_of_getElem? hy)
    exact .pure (pureL_all (pureLL_all hp r hr) y hyr)
/-! ReadReply. -/
def rdList : Nat → St → List (List UInt8 × List UInt8) → St × List (List UInt8 × List UInt8)
  | 0, s, acc => (s, acc)
  | k + 1, s, acc => if s.2 = 0 then rdList k (stT (stT s)) (acc ++ [(vT s, vT (stT s))]) else (s, acc)
def readReplyG (s0 s1 s2 s3 s4 s5 : St) (T : St × List (List UInt8 × List UInt8)) : RepV × Int :=
  if rdEnd (stB (stT T.1)).1 (stB (stT T.1)).2 = 0 then (⟨vN s0, vN s1, vN s2, vB s3, vT s4, T.2, vT T.1, vB (stT T.1)⟩, 0) else (RepV.zero, rdEnd (stB (stT T.1)).1 (stB (stT T.1)).2)
def readReplyF (s0 : St) : RepV × Int := readReplyG s0 (stN s0) (stN (stN s0)) (stN (stN (stN s0))) (stB (stN (stN (stN s0)))) (stT (stB (stN (stN (stN s0))))) (rdList (vN (stT (stB (stN (stN (stN s0)))))).toNat (stN (stT (stB (stN (stN (stN s0)))))) [])
def readReply (bs : List UInt8) : RepV × Int := if 32768 < bs.length then (RepV.zero, 3) else readReplyF (bs, 0)
abbrev z8 : List AV := [.int .i64 0, .int .i64 0, .int .i64 0, .bool false, .str [], .nilslice, .str [], .bool false]
def repL (y0 y1 y2 : Int) (y3 : Bool) (y4 : List UInt8) (Lv : AV) (y6 : List UInt8) (y7 : Bool) : List AV := [.int .i64 y0, .int .i64 y1, .int .i64 y2, .bool y3, .str y4, Lv, .str y6, .bool y7]
def rrI (T : St × List (List UInt8 × List UInt8)) (L : Nat) (x0 x1 x2 : Int) (x3 : Bool) (x4 : List UInt8) (n : Nat) (e : Env) (σ : AHeap) : Prop :=
  ∃ (s : St) (m : Nat) (acc : List (List UInt8 × List UInt8)) (Lv : AV), RdS σ 1 s.1 s.2 ∧ hget σ 0 = some z8 ∧ hget σ L = some [.int .i64 x0, .int .i64 x1, .int .i64 x2, .bool x3, .str x4, Lv, .str [], .bool false] ∧
    Grow σ Lv 2 (recs acc) ∧ LvD Lv ≠ some 0 ∧ LvD Lv ≠ some 1 ∧ LvD Lv ≠ some L ∧ m + acc.length ≤ 500000000 ∧ n = m ∧ rdList m s acc = T ∧ e 2 = .ptr 0 0 ∧ e 4 = .ptr 1 0 ∧ e 5 = .ptr L 0 ∧ e 6 = .int .i64 (m : Int)
def RepQ (p : RepV × Int) (r : AV) (σ : AHeap) : Prop := ∃ Lv, Grow σ Lv 2 (recs p.1.l) ∧ r = .tuple [.agg (repL p.1.client p.1.seq p.1.err p.1.found p.1.val Lv p.1.next p.1.more), .int .i64 p.2]
def ansR (p : RepV × Int) : AV := .tuple [.agg p.1.cells, .int .i64 p.2]
theorem recs_pure (l : List (List UInt8 × List UInt8)) : pureLL (recs l) = true := pureLL_of fun r hr => by
  obtain ⟨p, _, rfl⟩ := List.mem_map.1 hr
  rfl
theorem rep_pure (a : RepV) : (AV.agg a.cells).pure = true := by
  simp only [AV.pure, RepV.cells, pureL, recs_pure, Bool.and_self]
theorem ask_pure (a : AskV) : (AV.agg a.cells).pure = true := rfl
theorem ansR_pure (p : RepV × Int) : (ansR p).pure = true := by
  have := rep_pure p.1
  simp only [AV.pure] at this
  simp only [ansR, AV.pure, pureL, this, Bool.and_self]
theorem repQ_frz {p : RepV × Int} {r : AV} {σ : AHeap} (h : RepQ p r σ) : Frz σ r (ansR p) := by
  obtain ⟨Lv, hg, rfl⟩ := h
  have hL := grow_frz hg (recs_pure _)
  refine .tuple rfl (fun i x y hx hy => ?_)
  match i with
  | 0 =>
    simp at hx hy
    subst hx; subst hy
    refine .agg rfl (fun i x y hx hy => ?_)
    match i with
    | 0 | 1 | 2 | 3 | 4 | 6 | 7 => simp [repL, RepV.cells] at hx hy; subst hx; subst hy; exact .pure rfl
    | 5 => simp [repL, RepV.cells] at hx hy; subst hx; subst hy; exact hL
    | n + 8 => simp [repL] at hx
  | 1 => simp at hx hy; subst hx; subst hy; exact .pure rfl
  | n + 2 => simp at hx
theorem rr_step (T : St × List (List UInt8 × List UInt8)) (L : Nat) (x0 x1 x2 : Int) (x3 : Bool) (x4 : List UInt8) (hL : 1 < L) (Q : AV → AHeap → Prop)
    (hQ : ∀ r σ, RepQ (if rdEnd (stB (stT T.1)).1 (stB (stT T.1)).2 = 0 then (⟨x0, x1, x2, x3, x4, T.2, vT T.1, vB (stT T.1)⟩, 0) else (RepV.zero, rdEnd (stB (stT T.1)).1 (stB (stT T.1)).2)) r σ → Q r σ) (n : Nat) (e : Env) (σ : AHeap) (h : rrI T L x0 x1 x2 x3 x4 n e σ) :
    sC F3 0 b68_16 (unw F3 0 (loopR F3 0 (RetQ [MRes.cN 2 8, MRes.t 3] Q) (.block 0 (.seq b68_31 .fin)) (rrI T L x0 x1 x2 x3 x4) n) .fin) e σ := by
  obtain ⟨s, m, acc, Lv, ⟨f, nn, hr⟩, h0, hx, hLv, d0, d1, dL, hmk, hn, hT, e2, e4, e5, e6⟩ := h
  have hL0 : ¬ L = 0 := by omega
  have hL1 : ¬ L = 1 := by omega
  have done : rdList m s acc = (s, acc) → (m = 0 ∨ s.2 ≠ 0) → sC F3 0 b68_16 (unw F3 0 (loopR F3 0 (RetQ [MRes.cN 2 8, MRes.t 3] Q) (.block 0 (.seq b68_31 .fin)) (rrI T L x0 x1 x2 x3 x4) n) .fin) e σ := by
    intro hds hor
    rw [hds] at hT
    subst hT
    simp only at hQ
    have go : ∀ e' : Env, e' 2 = .ptr 0 0 → e' 4 = .ptr 1 0 → e' 5 = .ptr L 0 → sC F3 0 b68_31 (unw F3 0 (RetQ [MRes.cN 2 8, MRes.t 3] Q) .fin) e' σ := by
      intro e' k2 k4 k5
      simp only [F3_app, Z68, x68_20, x68_31, base1, ↓reduceIte, Nat.reduceAdd, Nat.reduceSub, Nat.reduceMul, Nat.reduceEqDiff, Nat.reduceLeDiff, Nat.reduceLT, Int.reduceLT, Int.reduceLE, Int.reduceEq, Int.reduceNe, Int.reduceToNat, Int.reduceAdd, Int.reduceSub, reduceCtorEq, Nat.reduceBEq, Nat.reduceBNe, k2, k4, k5]
      refine ⟨1, s.1, s.2, rfl, ⟨f, nn, hr⟩, fun σ1 r1 f1 => ?_⟩
      have h01 := f1 0 _ h0 (by decide)
      have hx1 := f1 L _ hx hL1
      have r1 : RdS σ1 1 (stT s).1 (stT s).2 := r1
      have w0 : (rdText s.1 s.2).1 = vT s := rfl
      rw [w0]
      generalize stT s = s1 at r1 hQ ⊢
      simp only [F3_app, Z68, x68_20, x68_31, base1, ↓reduceIte, Nat.reduceAdd, Nat.reduceSub, Nat.reduceMul, Nat.reduceEqDiff, Nat.reduceLeDiff, Nat.reduceLT, Int.reduceLT, Int.reduceLE, Int.reduceEq, Int.reduceNe, Int.reduceToNat, Int.reduceAdd, Int.reduceSub, reduceCtorEq, Nat.reduceBEq, Nat.reduceBNe, k2, k4, k5]
      refine ⟨1, _, _, rfl, r1, fun σ2 r2 f2 => ?_⟩
      have h02 := f2 0 _ h01 (by decide)
      have hx2 := f2 L _ hx1 hL1
      have r2 : RdS σ2 1 (stB s1).1 (stB s1).2 := r2
      have w1 : (rdTruth s1.1 s1.2).1 = vB s1 := rfl
      rw [w1]
      generalize stB s1 = s2 at r2 hQ ⊢
      have lc := grow_cell hLv
      have v2 := grow_frame (grow_frame hLv (τ := σ1) fun j c hj hd => f1 j c hj (fun e => d1 (by rw [hd, e]))) (τ := σ2) fun j c hj hd => f2 j c hj (fun e => d1 (by rw [hd, e]))
      have ss : ∀ (d : List AV), hget (hset σ2 L d) L = some d := fun d => set_same hx2
      simp only [F3_app, Z68, x68_20, x68_31, base1, ↓reduceIte, Nat.reduceAdd, Nat.reduceSub, Nat.reduceMul, Nat.reduceEqDiff, Nat.reduceLeDiff, Nat.reduceLT, Int.reduceLT, Int.reduceLE, Int.reduceEq, Int.reduceNe, Int.reduceToNat, Int.reduceAdd, Int.reduceSub, reduceCtorEq, Nat.reduceBEq, Nat.reduceBNe, k2, k4, k5, hx2, ss, set_set, lc]
      refine ⟨1, s2.1, s2.2, rfl, rd_set r2 hL1, fun σ3 f3 => ?_⟩
      have b3 := f3 0 _ (by rw [set_other hL0]; exact h02) (by decide)
      have c3 := f3 L _ (ss _) hL1
      have s0 : ∀ (d : List AV), hget (hset σ3 0 d) 0 = some d := fun d => set_same b3
      generalize rdEnd s2.1 s2.2 = E at hQ ⊢
      by_cases hE : E = 0
      · subst hE
        simp only [if_true] at hQ
        simp only [F3_app, Z68, x68_20, x68_31, base1, ↓reduceIte, Nat.reduceAdd, Nat.reduceSub, Nat.reduceMul, Nat.reduceEqDiff, Nat.reduceLeDiff, Nat.reduceLT, Int.reduceLT, Int.reduceLE, Int.reduceEq, Int.reduceNe, Int.reduceToNat, Int.reduceAdd, Int.reduceSub, reduceCtorEq, Nat.reduceBEq, Nat.reduceBNe, k2, k4, k5, c3, b3, s0, lc]
        refine hQ _ _ ⟨Lv, grow_frame v2 fun j c hj hd => ?_, rfl⟩
        rw [set_other (fun e => d0 (by rw [hd, e]))]
        exact f3 j c (by rw [set_other (fun e => dL (by rw [hd, e]))]; exact hj) (fun e => d1 (by rw [hd, e]))
      · simp only [if_neg hE] at hQ
        simp only [F3_app, Z68, x68_20, x68_31, base1, ↓reduceIte, Nat.reduceAdd, Nat.reduceSub, Nat.reduceMul, Nat.reduceEqDiff, Nat.reduceLeDiff, Nat.reduceLT, Int.reduceLT, Int.reduceLE, Int.reduceEq, Int.reduceNe, Int.reduceToNat, Int.reduceAdd, Int.reduceSub, reduceCtorEq, Nat.reduceBEq, Nat.reduceBNe, k2, k4, k5, c3, b3, s0, hE, lc]
        exact hQ _ _ ⟨.nilslice, .inl ⟨rfl, rfl⟩, rfl⟩
    rcases Nat.eq_zero_or_pos m with hm | hm
    · subst hm
      simp only [F3_app, Z68, base1, ↓reduceIte, Nat.reduceAdd, Nat.reduceSub, Nat.reduceMul, Nat.reduceEqDiff, Nat.reduceLeDiff, Nat.reduceLT, Int.reduceLT, Int.reduceLE, Int.reduceEq, Int.reduceNe, Int.reduceToNat, Int.reduceAdd, Int.reduceSub, reduceCtorEq, Nat.reduceBEq, Nat.reduceBNe, loopR_exit, loopR_ret, e2, e4, e5, e6, cast_zero]
      exact go _ e2 e4 e5
    · have hpos : (0 : Int) < (m : Int) := by omega
      have hs : ¬ s.2 = 0 := by rcases hor with h | h <;> omega
      simp only [F3_app, Z68, base1, ↓reduceIte, Nat.reduceAdd, Nat.reduceSub, Nat.reduceMul, Nat.reduceEqDiff, Nat.reduceLeDiff, Nat.reduceLT, Int.reduceLT, Int.reduceLE, Int.reduceEq, Int.reduceNe, Int.reduceToNat, Int.reduceAdd, Int.reduceSub, reduceCtorEq, Nat.reduceBEq, Nat.reduceBNe, loopR_exit, loopR_ret, e2, e4, e5, e6, hr, hs, hpos]
      exact go _ e2 e4 e5
  cases m with
  | zero => exact done rfl (.inl rfl)
  | succ m =>
    by_cases hs : s.2 = 0
    · have hpos : (0 : Int) < ((m + 1 : Nat) : Int) := by omega
      have hw : IntKind.wrap .i64 (((m + 1 : Nat) : Int) - 1) = (m : Int) := by rw [Gz.wrap64 (by omega)]; omega
      have hT' : rdList m (stT (stT s)) (acc ++ [(vT s, vT (stT s))]) = T := by rw [← hT]; simp [rdList, hs]
      have lc := grow_cell hLv
      simp only [F3_app, Z68, x68_20, x68_31, base1, ↓reduceIte, Nat.reduceAdd, Nat.reduceSub, Nat.reduceMul, Nat.reduceEqDiff, Nat.reduceLeDiff, Nat.reduceLT, Int.reduceLT, Int.reduceLE, Int.reduceEq, Int.reduceNe, Int.reduceToNat, Int.reduceAdd, Int.reduceSub, reduceCtorEq, Nat.reduceBEq, Nat.reduceBNe, loopR_exit, loopR_ret, e2, e4, e5, e6, hr, hx, hs, hpos]
      refine ⟨1, s.1, s.2, rfl, ⟨f, nn, hr⟩, fun σ1 r1 f1 => ?_⟩
      have h01 := f1 0 _ h0 (by decide)
      have hx1 := f1 L _ hx hL1
      have v1 := grow_frame hLv (τ := σ1) fun j c hj hd => f1 j c hj (fun e => d1 (by rw [hd, e]))
      have w0 : (rdText s.1 s.2).1 = vT s := rfl
      have r1 : RdS σ1 1 (stT s).1 (stT s).2 := r1
      rw [w0]
      generalize stT s = s1 at r1 hT' ⊢
      simp only [F3_app, Z68, x68_20, x68_31, base1, ↓reduceIte, Nat.reduceAdd, Nat.reduceSub, Nat.reduceMul, Nat.reduceEqDiff, Nat.reduceLeDiff, Nat.reduceLT, Int.reduceLT, Int.reduceLE, Int.reduceEq, Int.reduceNe, Int.reduceToNat, Int.reduceAdd, Int.reduceSub, reduceCtorEq, Nat.reduceBEq, Nat.reduceBNe, loopR_exit, loopR_ret, e2, e4, e5, e6, hx1]
      refine ⟨1, _, _, rfl, r1, fun σ2 r2 f2 => ?_⟩
      have h02 := f2 0 _ h01 (by decide)
      have hx2 := f2 L _ hx1 hL1
      have v2 := grow_frame v1 (τ := σ2) fun j c hj hd => f2 j c hj (fun e => d1 (by rw [hd, e]))
      have w1 : (rdText s1.1 s1.2).1 = vT s1 := rfl
      have r2 : RdS σ2 1 (stT s1).1 (stT s1).2 := r2
      rw [w1]
      generalize stT s1 = s2 at r2 hT' ⊢
      obtain ⟨v, τ, a1, a2, a3, a4, a5⟩ := grow_one (b := 32) (by decide) v2 (by simp [recs]; omega) [.str (vT s), .str (vT s1)] rfl rfl
      obtain ⟨g0, u0⟩ := a4 0 _ h02 d0
      obtain ⟨gL, uL⟩ := a4 L _ hx2 dL
      obtain ⟨f', nn', hr2⟩ := r2
      obtain ⟨g1, u1⟩ := a4 1 _ hr2 d1
      have px : hget (hpush σ2 [.str (vT s), .str (vT s1)]) L = _ := push_old hx2
      simp only [F3_app, Z68, x68_20, x68_31, base1, ↓reduceIte, Nat.reduceAdd, Nat.reduceSub, Nat.reduceMul, Nat.reduceEqDiff, Nat.reduceLeDiff, Nat.reduceLT, Int.reduceLT, Int.reduceLE, Int.reduceEq, Int.reduceNe, Int.reduceToNat, Int.reduceAdd, Int.reduceSub, reduceCtorEq, Nat.reduceBEq, Nat.reduceBNe, loopR_exit, loopR_ret, e2, e4, e5, e6, hx2, px, a1, a2, a3, gL, hw]
      rw [loopR_normal]
      refine ⟨m, _, _, by omega, .refl _ _ _, s2, m, acc ++ [(vT s, vT s1)], v, ⟨f', nn', by rw [set_other hL1]; exact g1⟩, by rw [set_other hL0]; exact g0, set_same gL, grow_frame (by simpa [recs] using a5) fun j c hj hd => by rw [set_other (fun e => uL (by rw [hd, e]))]; exact hj, u0, u1, uL, by simp; omega, rfl, hT', ?_, ?_, ?_, ?_⟩
      all_goals simp only [putD_some, putD_none, Nat.reduceEqDiff, ↓reduceIte, e2, e4, e5, hw]
    · exact done (by simp [rdList, hs]) (.inr hs)
theorem rdNum_le (rem : List UInt8) (e : Int) : (rdNum rem e).1 ≤ 268435455 := by
  unfold rdNum
  split
  · split
    · split
      · simp
      · simp; omega
    · simp
  · simp
theorem readReply_ok (bs : List UInt8) : Tri Tryz.prog 68 [.imm (rws bs) false false] [] fun r _ => r.pure = true ∧ r = ansR (readReply bs) := by
  refine Tri.frozen (Q := RepQ (readReply bs)) (Tri.of_s c68 F3_sound ?_) (fun r σ hr => ⟨ansR (readReply bs), repQ_frz hr, ansR_pure _, rfl⟩)
  generalize hK : RepQ (readReply bs) = K
  have hK : ∀ r σ, RepQ (readReply bs) r σ → K r σ := by intro r σ h; rw [← hK]; exact h
  by_cases hl : (32768 : Int) < (bs.length : Int)
  · have hn : readReply bs = (RepV.zero, 3) := by unfold readReply; rw [if_pos (by omega)]
    rw [hn] at hK
    simp only [F3_app, Z68, x68_20, x68_31, base1, baseE, ↓reduceIte, Nat.reduceAdd, Nat.reduceSub, Nat.reduceMul, Nat.reduceEqDiff, Nat.reduceLeDiff, Nat.reduceLT, Int.reduceLT, Int.reduceLE, Int.reduceEq, Int.reduceNe, Int.reduceToNat, Int.reduceAdd, Int.reduceSub, reduceCtorEq, Nat.reduceBEq, Nat.reduceBNe, rws_len, hl]
    exact hK _ _ ⟨.nilslice, .inl ⟨rfl, rfl⟩, rfl⟩
  have hn : readReply bs = readReplyF (bs, 0) := by unfold readReply; rw [if_neg (by omega)]
  rw [hn] at hK
  simp only [F3_app, Z68, x68_20, x68_31, base1, baseE, ↓reduceIte, Nat.reduceAdd, Nat.reduceSub, Nat.reduceMul, Nat.reduceEqDiff, Nat.reduceLeDiff, Nat.reduceLT, Int.reduceLT, Int.reduceLE, Int.reduceEq, Int.reduceNe, Int.reduceToNat, Int.reduceAdd, Int.reduceSub, reduceCtorEq, Nat.reduceBEq, Nat.reduceBNe, rws_len, hl]
  refine ⟨1, bs, 0, rfl, ⟨false, false, rfl⟩, fun σ1 r1 f1 => ?_⟩
  have b1 := f1 0 _ rfl (by decide)
  have r1 : RdS σ1 1 (stN (bs, 0)).1 (stN (bs, 0)).2 := r1
  unfold readReplyF at hK
  have v0 : (rdNum bs 0).1 = vN (bs, 0) := rfl
  rw [v0]
  generalize stN (bs, 0) = s1 at r1 hK ⊢
  generalize ((bs, 0) : St) = s0 at hK ⊢
  simp only [F3_app, Z68, x68_20, x68_31, base1, baseE, ↓reduceIte, Nat.reduceAdd, Nat.reduceSub, Nat.reduceMul, Nat.reduceEqDiff, Nat.reduceLeDiff, Nat.reduceLT, Int.reduceLT, Int.reduceLE, Int.reduceEq, Int.reduceNe, Int.reduceToNat, Int.reduceAdd, Int.reduceSub, reduceCtorEq, Nat.reduceBEq, Nat.reduceBNe]
  refine ⟨1, _, _, rfl, r1, fun σ2 r2 f2 => ?_⟩
  have b2 := f2 0 _ b1 (by decide)
  have r2 : RdS σ2 1 (stN s1).1 (stN s1).2 := r2
  generalize stN s1 = s2 at r2 hK ⊢
  have v1 : (rdNum s1.1 s1.2).1 = vN s1 := rfl
  rw [v1]
  simp only [F3_app, Z68, x68_20, x68_31, base1, baseE, ↓reduceIte, Nat.reduceAdd, Nat.reduceSub, Nat.reduceMul, Nat.reduceEqDiff, Nat.reduceLeDiff, Nat.reduceLT, Int.reduceLT, Int.reduceLE, Int.reduceEq, Int.reduceNe, Int.reduceToNat, Int.reduceAdd, Int.reduceSub, reduceCtorEq, Nat.reduceBEq, Nat.reduceBNe]
  refine ⟨1, _, _, rfl, r2, fun σ3 r3 f3 => ?_⟩
  have b3 := f3 0 _ b2 (by decide)
  have r3 : RdS σ3 1 (stN s2).1 (stN s2).2 := r3
  generalize stN s2 = s3 at r3 hK ⊢
  have v2 : (rdNum s2.1 s2.2).1 = vN s2 := rfl
  rw [v2]
  simp only [F3_app, Z68, x68_20, x68_31, base1, baseE, ↓reduceIte, Nat.reduceAdd, Nat.reduceSub, Nat.reduceMul, Nat.reduceEqDiff, Nat.reduceLeDiff, Nat.reduceLT, Int.reduceLT, Int.reduceLE, Int.reduceEq, Int.reduceNe, Int.reduceToNat, Int.reduceAdd, Int.reduceSub, reduceCtorEq, Nat.reduceBEq, Nat.reduceBNe]
  refine ⟨1, _, _, rfl, r3, fun σ4 r4 f4 => ?_⟩
  have b4 := f4 0 _ b3 (by decide)
  have r4 : RdS σ4 1 (stB s3).1 (stB s3).2 := r4
  generalize stB s3 = s4 at r4 hK ⊢
  have v3 : (rdTruth s3.1 s3.2).1 = vB s3 := rfl
  rw [v3]
  simp only [F3_app, Z68, x68_20, x68_31, base1, baseE, ↓reduceIte, Nat.reduceAdd, Nat.reduceSub, Nat.reduceMul, Nat.reduceEqDiff, Nat.reduceLeDiff, Nat.reduceLT, Int.reduceLT, Int.reduceLE, Int.reduceEq, Int.reduceNe, Int.reduceToNat, Int.reduceAdd, Int.reduceSub, reduceCtorEq, Nat.reduceBEq, Nat.reduceBNe]
  refine ⟨1, _, _, rfl, r4, fun σ5 r5 f5 => ?_⟩
  have b5 := f5 0 _ b4 (by decide)
  have r5 : RdS σ5 1 (stT s4).1 (stT s4).2 := r5
  generalize stT s4 = s5 at r5 hK ⊢
  have v4 : (rdText s4.1 s4.2).1 = vT s4 := rfl
  rw [v4]
  have l5 : 1 < σ5.length := by obtain ⟨f, nn, hg⟩ := r5; exact hget_lt hg
  have pn : ∀ c : List AV, hget (hpush σ5 c) σ5.length = some c := fun c => push_new rfl
  simp only [F3_app, Z68, x68_20, x68_31, base1, baseE, ↓reduceIte, Nat.reduceAdd, Nat.reduceSub, Nat.reduceMul, Nat.reduceEqDiff, Nat.reduceLeDiff, Nat.reduceLT, Int.reduceLT, Int.reduceLE, Int.reduceEq, Int.reduceNe, Int.reduceToNat, Int.reduceAdd, Int.reduceSub, reduceCtorEq, Nat.reduceBEq, Nat.reduceBNe, pn]
  refine ⟨1, _, _, rfl, rd_alloc r5, fun σ6 r6 f6 => ?_⟩
  have b6 := f6 0 _ (al_frame b5) (by decide)
  have c6 := f6 σ5.length _ (set_same (pn _)) (by omega)
  have r6 : RdS σ6 1 (stN s5).1 (stN s5).2 := r6
  have n6 := rdNum_nonneg s5.1 s5.2
  have n7 := rdNum_le s5.1 s5.2
  have v5 : (rdNum s5.1 s5.2).1 = vN s5 := rfl
  rw [v5] at n6 n7 ⊢
  generalize stN s5 = s6 at r6 hK ⊢
  generalize vN s5 = m at n6 n7 hK ⊢
  obtain ⟨m, rfl⟩ : ∃ k : Nat, m = (k : Int) := ⟨m.toNat, by omega⟩
  rw [Int.toNat_natCast] at hK
  generalize σ5.length = L at c6 l5
  simp only [F3_app, Z68, x68_20, x68_31, base1, baseE, ↓reduceIte, Nat.reduceAdd, Nat.reduceSub, Nat.reduceMul, Nat.reduceEqDiff, Nat.reduceLeDiff, Nat.reduceLT, Int.reduceLT, Int.reduceLE, Int.reduceEq, Int.reduceNe, Int.reduceToNat, Int.reduceAdd, Int.reduceSub, reduceCtorEq, Nat.reduceBEq, Nat.reduceBNe]
  refine sC_inv (a := b68_16) (rrI (rdList m s6 []) L (vN s0) (vN s1) (vN s2) (vB s3) (vT s4)) m _ _ (.refl _ _ _) ⟨s6, m, [], .nilslice, r6, b6, c6, .inl ⟨rfl, rfl⟩, by simp [LvD], by simp [LvD], by simp [LvD], by simp; omega, rfl, rfl, rfl, rfl, rfl, rfl⟩ (rr_step (rdList m s6 []) L _ _ _ _ _ l5 _ fun r σ h => hK r σ h)
end Go.Proofs.YtgaopohogdinhaaGreatDoor.note
