/- What List does with records, shards, last replies: the packed number of them, the packed bytes of each one behind the other. No condition. -/
import Derived.Test.YtndlgmciplckjabNA
set_option linter.unusedVariables false
set_option linter.unusedSimpArgs false
namespace Go.Proofs.Ytndlgmciplckjab.note
open Go.ChangeShapes Go.WideShapes Go.ChangeAt Go.RowKit Go.Gz
section
variable {C : PCall} {n0 : Nat} {R : MExit → Env → AHeap → Prop} {k : Cont} {e : Env} {σ : AHeap}
abbrev r57_0 : List MOper := [⟨(some 4), .move (.c (.nilslice)), none⟩]
def b57_0 : SCode := .region r57_0
abbrev r57_1 : List MOper := [⟨(some 8), .move (.t 1), none⟩,
  ⟨(some 9), .bin .eql .nilf (.t 8) (.c (.nilfunc)), none⟩,
  ⟨(some 10), .move (.t 9), none⟩,
  ⟨(some 11), .move (.t 0), (some (10, false))⟩,
  ⟨(some 12), .lenSl (.t 11), (some (10, false))⟩,
  ⟨(some 13), .bin .gtr .num (.t 12) (.c (.int .i64 1048576)), (some (10, false))⟩,
  ⟨(some 14), .pick (.t 10) (.c (.bool true)) (.t 13), none⟩]
def b57_1 : SCode := .region r57_1
abbrev r57_2 : List MOper := [⟨(some 4), .move (.c (.nilslice)), none⟩]
def b57_2 : SCode := .region r57_2
def b57_3 : SCode := .seq b57_2 .ret
def b57_4 : SCode := .cond (.t 14) b57_3 .skip
def b57_5 : SCode := .seq b57_1 b57_4
abbrev r57_6 : List MOper := [⟨(some 5), .alloc [.nilslice, .bool false], none⟩]
def b57_6 : SCode := .region r57_6
abbrev r57_7 : List MOper := [⟨(some 15), .move (.t 0), none⟩,
  ⟨(some 16), .lenSl (.t 15), none⟩,
  ⟨(some 17), .buildSlice [.int .i64 0] 1 1 [(0, 1, (.t 16))], none⟩,
  ⟨(some 18), .call 45 [(.t 5), (.t 17)], none⟩]
def b57_7 : SCode := .region r57_7
abbrev r57_8 : List MOper := [⟨(some 19), .move (.t 0), none⟩,
  ⟨(some 20), .lenSl (.t 19), none⟩,
  ⟨(some 21), .move (.c (.int .i64 0)), none⟩]
def b57_8 : SCode := .region r57_8
abbrev r57_9 : List MOper := [⟨(some 22), .bin .lss .num (.t 21) (.t 20), none⟩]
def b57_9 : SCode := .region r57_9
def b57_10 : SCode := .cond (.t 22) .skip (.exit 0)
abbrev r57_11 : List MOper := [⟨(some 23), .indexAddr 4 (.t 19) (.t 21), none⟩,
  ⟨(some 24), .loadN 4 (.t 23), none⟩,
  ⟨(some 7), .alloc [.str [], .str [], .int .i64 0, .int .i64 0], none⟩,
  ⟨none, .store 4 (.t 7) (.t 24), none⟩]
def b57_11 : SCode := .region r57_11
abbrev r57_12 : List MOper := [⟨(some 25), .move (.t 1), none⟩,
  ⟨(some 26), .loadN 4 (.t 7), none⟩,
  ⟨(some 27), .callv (.t 25) [(.t 26)], none⟩,
  ⟨(some 28), .ofBytes (.t 27), none⟩,
  ⟨(some 29), .buildSlice [.str []] 1 1 [(0, 1, (.t 28))], none⟩,
  ⟨(some 30), .call 46 [(.t 5), (.t 29)], none⟩]
def b57_12 : SCode := .region r57_12
def b57_13 : SCode := .seq b57_11 b57_12
def b57_14 : SCode := .block 1 b57_13
abbrev r57_15 : List MOper := [⟨(some 31), .bin .add .num (.t 21) (.c (.int .i64 1)), none⟩,
  ⟨(some 21), .move (.t 31), none⟩]
def b57_15 : SCode := .region r57_15
def b57_16 : SCode := .seq b57_14 b57_15
def b57_17 : SCode := .seq b57_10 b57_16
def b57_18 : SCode := .seq b57_9 b57_17
def b57_19 : SCode := .loop b57_18
def b57_20 : SCode := .block 0 b57_19
def b57_21 : SCode := .seq b57_8 b57_20
abbrev r57_22 : List MOper := [⟨(some 32), .fieldAddr 0 (.t 5), none⟩,
  ⟨(some 33), .load1 (.t 32), none⟩,
  ⟨(some 4), .move (.t 33), none⟩]
def b57_22 : SCode := .region r57_22
def b57_23 : SCode := .seq b57_22 .ret
def b57_24 : SCode := .seq b57_21 b57_23
def b57_25 : SCode := .seq b57_7 b57_24
def b57_26 : SCode := .seq b57_6 b57_25
def b57_27 : SCode := .seq b57_5 b57_26
def b57_28 : SCode := .seq b57_0 b57_27
def s57 : SFunc := ⟨34, [.t 4], b57_28⟩
theorem c57 : sFn Try.prog 57 = some s57 := by kernel_rfl
theorem Z57 : XR b57_0 r57_0 ∧ XR b57_1 r57_1 ∧ XR b57_2 r57_2 ∧ XS b57_3 b57_2 .ret ∧ XC b57_4 (.t 14) b57_3 .skip ∧ XS b57_5 b57_1 b57_4 ∧ XR b57_6 r57_6 ∧ XR b57_7 r57_7 ∧ XR b57_8 r57_8 ∧ XR b57_9 r57_9 ∧ XC b57_10 (.t 22) .skip (.exit 0) ∧ XR b57_11 r57_11 ∧ XR b57_12 r57_12 ∧ XS b57_13 b57_11 b57_12 ∧ XB b57_14 1 b57_13 ∧ XR b57_15 r57_15 ∧ XS b57_16 b57_14 b57_15 ∧ XS b57_17 b57_10 b57_16 ∧ XS b57_18 b57_9 b57_17 ∧ XB b57_20 0 b57_19 ∧ XS b57_21 b57_8 b57_20 ∧ XR b57_22 r57_22 ∧ XS b57_23 b57_22 .ret ∧ XS b57_24 b57_21 b57_23 ∧ XS b57_25 b57_7 b57_24 ∧ XS b57_26 b57_6 b57_25 ∧ XS b57_27 b57_5 b57_26 ∧ XS b57_28 b57_0 b57_27 ∧ XY s57 34 b57_28 [.t 4] := ⟨rfl, rfl, rfl, rfl, sC_cond, rfl, rfl, rfl, rfl, rfl, sC_cond, rfl, rfl, rfl, rfl, rfl, rfl, rfl, rfl, rfl, rfl, rfl, rfl, rfl, rfl, rfl, rfl, rfl, rfl⟩
abbrev r58_0 : List MOper := [⟨(some 1), .box (.t 0), none⟩,
  ⟨(some 2), .move (.c (.nilslice)), none⟩]
def b58_0 : SCode := .region r58_0
abbrev r58_1 : List MOper := [⟨(some 3), .alloc [.nilslice, .bool false], none⟩]
def b58_1 : SCode := .region r58_1
abbrev r58_2 : List MOper := [⟨(some 4), .fieldAddr 0 (.t 1), none⟩,
  ⟨(some 5), .fieldAddr 0 (.t 4), none⟩,
  ⟨(some 6), .load1 (.t 5), none⟩,
  ⟨(some 7), .fieldAddr 0 (.t 1), none⟩,
  ⟨(some 8), .fieldAddr 1 (.t 7), none⟩,
  ⟨(some 9), .load1 (.t 8), none⟩,
  ⟨(some 10), .buildSlice [.str []] 1 2 [(0, 1, (.t 6)), (1, 1, (.t 9))], none⟩,
  ⟨(some 11), .call 46 [(.t 3), (.t 10)], none⟩]
def b58_2 : SCode := .region r58_2
abbrev r58_3 : List MOper := [⟨(some 12), .fieldAddr 2 (.t 1), none⟩,
  ⟨(some 13), .load1 (.t 12), none⟩,
  ⟨(some 14), .fieldAddr 3 (.t 1), none⟩,
  ⟨(some 15), .load1 (.t 14), none⟩,
  ⟨(some 16), .buildSlice [.int .i64 0] 1 2 [(0, 1, (.t 13)), (1, 1, (.t 15))], none⟩,
  ⟨(some 17), .call 45 [(.t 3), (.t 16)], none⟩]
def b58_3 : SCode := .region r58_3
abbrev r58_4 : List MOper := [⟨(some 18), .fieldAddr 0 (.t 3), none⟩,
  ⟨(some 19), .load1 (.t 18), none⟩,
  ⟨(some 2), .move (.t 19), none⟩]
def b58_4 : SCode := .region r58_4
def b58_5 : SCode := .seq b58_4 .ret
def b58_6 : SCode := .seq b58_3 b58_5
def b58_7 : SCode := .seq b58_2 b58_6
def b58_8 : SCode := .seq b58_1 b58_7
def b58_9 : SCode := .seq b58_0 b58_8
def s58 : SFunc := ⟨20, [.t 2], b58_9⟩
theorem c58 : sFn Try.prog 58 = some s58 := by kernel_rfl
theorem Z58 : XR b58_0 r58_0 ∧ XR b58_1 r58_1 ∧ XR b58_2 r58_2 ∧ XR b58_3 r58_3 ∧ XR b58_4 r58_4 ∧ XS b58_5 b58_4 .ret ∧ XS b58_6 b58_3 b58_5 ∧ XS b58_7 b58_2 b58_6 ∧ XS b58_8 b58_1 b58_7 ∧ XS b58_9 b58_0 b58_8 ∧ XY s58 20 b58_9 [.t 2] := ⟨rfl, rfl, rfl, rfl, rfl, rfl, rfl, rfl, rfl, rfl, rfl⟩
abbrev r59_0 : List MOper := [⟨(some 4), .move (.c (.nilslice)), none⟩]
def b59_0 : SCode := .region r59_0
abbrev r59_1 : List MOper := [⟨(some 8), .move (.t 1), none⟩,
  ⟨(some 9), .bin .eql .nilf (.t 8) (.c (.nilfunc)), none⟩,
  ⟨(some 10), .move (.t 9), none⟩,
  ⟨(some 11), .move (.t 0), (some (10, false))⟩,
  ⟨(some 12), .lenSl (.t 11), (some (10, false))⟩,
  ⟨(some 13), .bin .gtr .num (.t 12) (.c (.int .i64 1048576)), (some (10, false))⟩,
  ⟨(some 14), .pick (.t 10) (.c (.bool true)) (.t 13), none⟩]
def b59_1 : SCode := .region r59_1
abbrev r59_2 : List MOper := [⟨(some 4), .move (.c (.nilslice)), none⟩]
def b59_2 : SCode := .region r59_2
def b59_3 : SCode := .seq b59_2 .ret
def b59_4 : SCode := .cond (.t 14) b59_3 .skip
def b59_5 : SCode := .seq b59_1 b59_4
abbrev r59_6 : List MOper := [⟨(some 5), .alloc [.nilslice, .bool false], none⟩]
def b59_6 : SCode := .region r59_6
abbrev r59_7 : List MOper := [⟨(some 15), .move (.t 0), none⟩,
  ⟨(some 16), .lenSl (.t 15), none⟩,
  ⟨(some 17), .buildSlice [.int .i64 0] 1 1 [(0, 1, (.t 16))], none⟩,
  ⟨(some 18), .call 45 [(.t 5), (.t 17)], none⟩]
def b59_7 : SCode := .region r59_7
abbrev r59_8 : List MOper := [⟨(some 19), .move (.t 0), none⟩,
  ⟨(some 20), .lenSl (.t 19), none⟩,
  ⟨(some 21), .move (.c (.int .i64 0)), none⟩]
def b59_8 : SCode := .region r59_8
abbrev r59_9 : List MOper := [⟨(some 22), .bin .lss .num (.t 21) (.t 20), none⟩]
def b59_9 : SCode := .region r59_9
def b59_10 : SCode := .cond (.t 22) .skip (.exit 0)
abbrev r59_11 : List MOper := [⟨(some 23), .indexAddr 2 (.t 19) (.t 21), none⟩,
  ⟨(some 24), .loadN 2 (.t 23), none⟩,
  ⟨(some 7), .alloc [.str [], .str []], none⟩,
  ⟨none, .store 2 (.t 7) (.t 24), none⟩]
def b59_11 : SCode := .region r59_11
abbrev r59_12 : List MOper := [⟨(some 25), .move (.t 1), none⟩,
  ⟨(some 26), .loadN 2 (.t 7), none⟩,
  ⟨(some 27), .callv (.t 25) [(.t 26)], none⟩,
  ⟨(some 28), .ofBytes (.t 27), none⟩,
  ⟨(some 29), .buildSlice [.str []] 1 1 [(0, 1, (.t 28))], none⟩,
  ⟨(some 30), .call 46 [(.t 5), (.t 29)], none⟩]
def b59_12 : SCode := .region r59_12
def b59_13 : SCode := .seq b59_11 b59_12
def b59_14 : SCode := .block 1 b59_13
abbrev r59_15 : List MOper := [⟨(some 31), .bin .add .num (.t 21) (.c (.int .i64 1)), none⟩,
  ⟨(some 21), .move (.t 31), none⟩]
def b59_15 : SCode := .region r59_15
def b59_16 : SCode := .seq b59_14 b59_15
def b59_17 : SCode := .seq b59_10 b59_16
def b59_18 : SCode := .seq b59_9 b59_17
def b59_19 : SCode := .loop b59_18
def b59_20 : SCode := .block 0 b59_19
def b59_21 : SCode := .seq b59_8 b59_20
abbrev r59_22 : List MOper := [⟨(some 32), .fieldAddr 0 (.t 5), none⟩,
  ⟨(some 33), .load1 (.t 32), none⟩,
  ⟨(some 4), .move (.t 33), none⟩]
def b59_22 : SCode := .region r59_22
def b59_23 : SCode := .seq b59_22 .ret
def b59_24 : SCode := .seq b59_21 b59_23
def b59_25 : SCode := .seq b59_7 b59_24
def b59_26 : SCode := .seq b59_6 b59_25
def b59_27 : SCode := .seq b59_5 b59_26
def b59_28 : SCode := .seq b59_0 b59_27
def s59 : SFunc := ⟨34, [.t 4], b59_28⟩
theorem c59 : sFn Try.prog 59 = some s59 := by kernel_rfl
theorem Z59 : XR b59_0 r59_0 ∧ XR b59_1 r59_1 ∧ XR b59_2 r59_2 ∧ XS b59_3 b59_2 .ret ∧ XC b59_4 (.t 14) b59_3 .skip ∧ XS b59_5 b59_1 b59_4 ∧ XR b59_6 r59_6 ∧ XR b59_7 r59_7 ∧ XR b59_8 r59_8 ∧ XR b59_9 r59_9 ∧ XC b59_10 (.t 22) .skip (.exit 0) ∧ XR b59_11 r59_11 ∧ XR b59_12 r59_12 ∧ XS b59_13 b59_11 b59_12 ∧ XB b59_14 1 b59_13 ∧ XR b59_15 r59_15 ∧ XS b59_16 b59_14 b59_15 ∧ XS b59_17 b59_10 b59_16 ∧ XS b59_18 b59_9 b59_17 ∧ XB b59_20 0 b59_19 ∧ XS b59_21 b59_8 b59_20 ∧ XR b59_22 r59_22 ∧ XS b59_23 b59_22 .ret ∧ XS b59_24 b59_21 b59_23 ∧ XS b59_25 b59_7 b59_24 ∧ XS b59_26 b59_6 b59_25 ∧ XS b59_27 b59_5 b59_26 ∧ XS b59_28 b59_0 b59_27 ∧ XY s59 34 b59_28 [.t 4] := ⟨rfl, rfl, rfl, rfl, sC_cond, rfl, rfl, rfl, rfl, rfl, sC_cond, rfl, rfl, rfl, rfl, rfl, rfl, rfl, rfl, rfl, rfl, rfl, rfl, rfl, rfl, rfl, rfl, rfl, rfl⟩
abbrev r60_0 : List MOper := [⟨(some 1), .box (.t 0), none⟩,
  ⟨(some 2), .move (.c (.nilslice)), none⟩]
def b60_0 : SCode := .region r60_0
abbrev r60_1 : List MOper := [⟨(some 3), .alloc [.nilslice, .bool false], none⟩]
def b60_1 : SCode := .region r60_1
abbrev r60_2 : List MOper := [⟨(some 4), .fieldAddr 0 (.t 1), none⟩,
  ⟨(some 5), .load1 (.t 4), none⟩,
  ⟨(some 6), .fieldAddr 1 (.t 1), none⟩,
  ⟨(some 7), .load1 (.t 6), none⟩,
  ⟨(some 8), .buildSlice [.str []] 1 2 [(0, 1, (.t 5)), (1, 1, (.t 7))], none⟩,
  ⟨(some 9), .call 46 [(.t 3), (.t 8)], none⟩]
def b60_2 : SCode := .region r60_2
abbrev r60_3 : List MOper := [⟨(some 10), .fieldAddr 0 (.t 3), none⟩,
  ⟨(some 11), .load1 (.t 10), none⟩,
  ⟨(some 2), .move (.t 11), none⟩]
def b60_3 : SCode := .region r60_3
def b60_4 : SCode := .seq b60_3 .ret
def b60_5 : SCode := .seq b60_2 b60_4
def b60_6 : SCode := .seq b60_1 b60_5
def b60_7 : SCode := .seq b60_0 b60_6
def s60 : SFunc := ⟨12, [.t 2], b60_7⟩
theorem c60 : sFn Try.prog 60 = some s60 := by kernel_rfl
theorem Z60 : XR b60_0 r60_0 ∧ XR b60_1 r60_1 ∧ XR b60_2 r60_2 ∧ XR b60_3 r60_3 ∧ XS b60_4 b60_3 .ret ∧ XS b60_5 b60_2 b60_4 ∧ XS b60_6 b60_1 b60_5 ∧ XS b60_7 b60_0 b60_6 ∧ XY s60 12 b60_7 [.t 2] := ⟨rfl, rfl, rfl, rfl, rfl, rfl, rfl, rfl, rfl⟩
abbrev r61_0 : List MOper := [⟨(some 4), .move (.c (.nilslice)), none⟩]
def b61_0 : SCode := .region r61_0
abbrev r61_1 : List MOper := [⟨(some 8), .move (.t 1), none⟩,
  ⟨(some 9), .bin .eql .nilf (.t 8) (.c (.nilfunc)), none⟩,
  ⟨(some 10), .move (.t 9), none⟩,
  ⟨(some 11), .move (.t 0), (some (10, false))⟩,
  ⟨(some 12), .lenSl (.t 11), (some (10, false))⟩,
  ⟨(some 13), .bin .gtr .num (.t 12) (.c (.int .i64 1048576)), (some (10, false))⟩,
  ⟨(some 14), .pick (.t 10) (.c (.bool true)) (.t 13), none⟩]
def b61_1 : SCode := .region r61_1
abbrev r61_2 : List MOper := [⟨(some 4), .move (.c (.nilslice)), none⟩]
def b61_2 : SCode := .region r61_2
def b61_3 : SCode := .seq b61_2 .ret
def b61_4 : SCode := .cond (.t 14) b61_3 .skip
def b61_5 : SCode := .seq b61_1 b61_4
abbrev r61_6 : List MOper := [⟨(some 5), .alloc [.nilslice, .bool false], none⟩]
def b61_6 : SCode := .region r61_6
abbrev r61_7 : List MOper := [⟨(some 15), .move (.t 0), none⟩,
  ⟨(some 16), .lenSl (.t 15), none⟩,
  ⟨(some 17), .buildSlice [.int .i64 0] 1 1 [(0, 1, (.t 16))], none⟩,
  ⟨(some 18), .call 45 [(.t 5), (.t 17)], none⟩]
def b61_7 : SCode := .region r61_7
abbrev r61_8 : List MOper := [⟨(some 19), .move (.t 0), none⟩,
  ⟨(some 20), .lenSl (.t 19), none⟩,
  ⟨(some 21), .move (.c (.int .i64 0)), none⟩]
def b61_8 : SCode := .region r61_8
abbrev r61_9 : List MOper := [⟨(some 22), .bin .lss .num (.t 21) (.t 20), none⟩]
def b61_9 : SCode := .region r61_9
def b61_10 : SCode := .cond (.t 22) .skip (.exit 0)
abbrev r61_11 : List MOper := [⟨(some 23), .indexAddr 9 (.t 19) (.t 21), none⟩,
  ⟨(some 24), .loadN 9 (.t 23), none⟩,
  ⟨(some 7), .alloc [.int .i64 0, .int .i64 0, .int .i64 0, .int .i64 0, .bool false, .str [], .nilslice, .str [], .bool false], none⟩,
  ⟨none, .store 9 (.t 7) (.t 24), none⟩]
def b61_11 : SCode := .region r61_11
abbrev r61_12 : List MOper := [⟨(some 25), .move (.t 1), none⟩,
  ⟨(some 26), .loadN 9 (.t 7), none⟩,
  ⟨(some 27), .callv (.t 25) [(.t 26)], none⟩,
  ⟨(some 28), .ofBytes (.t 27), none⟩,
  ⟨(some 29), .buildSlice [.str []] 1 1 [(0, 1, (.t 28))], none⟩,
  ⟨(some 30), .call 46 [(.t 5), (.t 29)], none⟩]
def b61_12 : SCode := .region r61_12
def b61_13 : SCode := .seq b61_11 b61_12
def b61_14 : SCode := .block 1 b61_13
abbrev r61_15 : List MOper := [⟨(some 31), .bin .add .num (.t 21) (.c (.int .i64 1)), none⟩,
  ⟨(some 21), .move (.t 31), none⟩]
def b61_15 : SCode := .region r61_15
def b61_16 : SCode := .seq b61_14 b61_15
def b61_17 : SCode := .seq b61_10 b61_16
def b61_18 : SCode := .seq b61_9 b61_17
def b61_19 : SCode := .loop b61_18
def b61_20 : SCode := .block 0 b61_19
def b61_21 : SCode := .seq b61_8 b61_20
abbrev r61_22 : List MOper := [⟨(some 32), .fieldAddr 0 (.t 5), none⟩,
  ⟨(some 33), .load1 (.t 32), none⟩,
  ⟨(some 4), .move (.t 33), none⟩]
def b61_22 : SCode := .region r61_22
def b61_23 : SCode := .seq b61_22 .ret
def b61_24 : SCode := .seq b61_21 b61_23
def b61_25 : SCode := .seq b61_7 b61_24
def b61_26 : SCode := .seq b61_6 b61_25
def b61_27 : SCode := .seq b61_5 b61_26
def b61_28 : SCode := .seq b61_0 b61_27
def s61 : SFunc := ⟨34, [.t 4], b61_28⟩
theorem c61 : sFn Try.prog 61 = some s61 := by kernel_rfl
theorem Z61 : XR b61_0 r61_0 ∧ XR b61_1 r61_1 ∧ XR b61_2 r61_2 ∧ XS b61_3 b61_2 .ret ∧ XC b61_4 (.t 14) b61_3 .skip ∧ XS b61_5 b61_1 b61_4 ∧ XR b61_6 r61_6 ∧ XR b61_7 r61_7 ∧ XR b61_8 r61_8 ∧ XR b61_9 r61_9 ∧ XC b61_10 (.t 22) .skip (.exit 0) ∧ XR b61_11 r61_11 ∧ XR b61_12 r61_12 ∧ XS b61_13 b61_11 b61_12 ∧ XB b61_14 1 b61_13 ∧ XR b61_15 r61_15 ∧ XS b61_16 b61_14 b61_15 ∧ XS b61_17 b61_10 b61_16 ∧ XS b61_18 b61_9 b61_17 ∧ XB b61_20 0 b61_19 ∧ XS b61_21 b61_8 b61_20 ∧ XR b61_22 r61_22 ∧ XS b61_23 b61_22 .ret ∧ XS b61_24 b61_21 b61_23 ∧ XS b61_25 b61_7 b61_24 ∧ XS b61_26 b61_6 b61_25 ∧ XS b61_27 b61_5 b61_26 ∧ XS b61_28 b61_0 b61_27 ∧ XY s61 34 b61_28 [.t 4] := ⟨rfl, rfl, rfl, rfl, sC_cond, rfl, rfl, rfl, rfl, rfl, sC_cond, rfl, rfl, rfl, rfl, rfl, rfl, rfl, rfl, rfl, rfl, rfl, rfl, rfl, rfl, rfl, rfl, rfl, rfl⟩
abbrev r62_0 : List MOper := [⟨(some 1), .box (.t 0), none⟩,
  ⟨(some 2), .move (.c (.nilslice)), none⟩]
def b62_0 : SCode := .region r62_0
abbrev r62_1 : List MOper := [⟨(some 3), .alloc [.nilslice, .bool false], none⟩]
def b62_1 : SCode := .region r62_1
abbrev r62_2 : List MOper := [⟨(some 7), .fieldAddr 1 (.t 1), none⟩,
  ⟨(some 8), .loadN 8 (.t 7), none⟩,
  ⟨(some 9), .call 41 [(.t 8)], none⟩,
  ⟨(some 6), .move (.t 9), none⟩,
  ⟨(some 10), .extract (.t 6) 0, none⟩,
  ⟨(some 11), .extract (.t 6) 1, none⟩,
  ⟨(some 4), .move (.t 10), none⟩,
  ⟨(some 5), .move (.t 11), none⟩]
def b62_2 : SCode := .region r62_2
abbrev r62_3 : List MOper := [⟨(some 12), .fieldAddr 0 (.t 1), none⟩,
  ⟨(some 13), .load1 (.t 12), none⟩,
  ⟨(some 14), .buildSlice [.int .i64 0] 1 1 [(0, 1, (.t 13))], none⟩,
  ⟨(some 15), .call 45 [(.t 3), (.t 14)], none⟩]
def b62_3 : SCode := .region r62_3
abbrev r62_4 : List MOper := [⟨(some 16), .move (.t 4), none⟩,
  ⟨(some 17), .ofBytes (.t 16), none⟩,
  ⟨(some 18), .buildSlice [.str []] 1 1 [(0, 1, (.t 17))], none⟩,
  ⟨(some 19), .call 46 [(.t 3), (.t 18)], none⟩]
def b62_4 : SCode := .region r62_4
abbrev r62_5 : List MOper := [⟨(some 20), .fieldAddr 0 (.t 3), none⟩,
  ⟨(some 21), .load1 (.t 20), none⟩,
  ⟨(some 2), .move (.t 21), none⟩]
def b62_5 : SCode := .region r62_5
def b62_6 : SCode := .seq b62_5 .ret
def b62_7 : SCode := .seq b62_4 b62_6
def b62_8 : SCode := .seq b62_3 b62_7
def b62_9 : SCode := .seq b62_2 b62_8
def b62_10 : SCode := .seq b62_1 b62_9
def b62_11 : SCode := .seq b62_0 b62_10
def s62 : SFunc := ⟨22, [.t 2], b62_11⟩
theorem c62 : sFn Try.prog 62 = some s62 := by kernel_rfl
theorem Z62 : XR b62_0 r62_0 ∧ XR b62_1 r62_1 ∧ XR b62_2 r62_2 ∧ XR b62_3 r62_3 ∧ XR b62_4 r62_4 ∧ XR b62_5 r62_5 ∧ XS b62_6 b62_5 .ret ∧ XS b62_7 b62_4 b62_6 ∧ XS b62_8 b62_3 b62_7 ∧ XS b62_9 b62_2 b62_8 ∧ XS b62_10 b62_1 b62_9 ∧ XS b62_11 b62_0 b62_10 ∧ XY s62 22 b62_11 [.t 2] := ⟨rfl, rfl, rfl, rfl, rfl, rfl, rfl, rfl, rfl, rfl, rfl, rfl, rfl⟩

end
set_option maxHeartbeats 4000000
set_option maxRecDepth 10000
theorem rws_pure (bs : List UInt8) : pureLL (rws bs) = true := pureLL_of fun r hr => by
  obtain ⟨b, _, rfl⟩ := List.mem_map.1 hr
  rfl
theorem imm_pure (bs : List UInt8) (f nn : Bool) : (AV.imm (rws bs) f nn).pure = true := by simp only [AV.pure, rws_pure]
theorem rws_def (bs : List UInt8) : (bs.map fun b => [byteAV b]) = rws bs := _root_.id rfl
theorem packR_pure (bad : Bool) (bs : List UInt8) : (packR bad bs).pure = true := by
  unfold packR
  cases bad
  · simp only [Bool.false_eq_true, if_false, AV.pure, pureL, rws_def, rws_pure, Bool.and_self]
  · rfl
theorem bytes_frz {σ : AHeap} {d n : Nat} {bs : List UInt8} (h : hget σ d = some (bs.map byteAV)) (hn : n = bs.length) : Frz σ (.slice d 0 n none 1) (.imm (rws bs) false false) := by
  subst hn
  refine .slice h (by rw [Nat.mul_one]; exact sub_all (by simp)) (by simp [rws]) ?_ (fun i y z hy hz => ?_)
  · intro r hr
    obtain ⟨b, _, rfl⟩ := List.mem_map.1 hr
    rfl
  · unfold rws at hz
    rw [rows_flat, hy] at hz
    cases hz
    obtain ⟨b, _, rfl⟩ := List.mem_map.1 (List.mem_of_getElem? hy)
    exact .pure rfl
theorem pk_slice {σ : AHeap} {id d : Nat} {bs : List UInt8} {bad : Bool} (h : Pk σ id bs bad (some d)) : hget σ id = some [.slice d 0 bs.length none 1, .bool bad] ∧ hget σ d = some (bs.map byteAV) ∧ d ≠ id := by
  rcases h with ⟨h, _⟩ | ⟨d', h, h1, h2, h3⟩
  · cases h
  · cases h; exact ⟨h2, h3, h1⟩
theorem pk_lt {σ : AHeap} {id d : Nat} {bs : List UInt8} {bad : Bool} (h : Pk σ id bs bad (some d)) : id < σ.length ∧ d < σ.length := ⟨hget_lt (pk_slice h).1, hget_lt (pk_slice h).2.1⟩
theorem out_frz {bs : List UInt8} {r : AV} {σ : AHeap} (h : ∃ d, hget σ d = some (bs.map byteAV) ∧ r = .slice d 0 bs.length none 1) : ∃ r1, Frz σ r r1 ∧ r1.pure = true ∧ r1 = .imm (rws bs) false false := by
  obtain ⟨d, h1, rfl⟩ := h
  exact ⟨_, bytes_frz h1 rfl, imm_pure _ _ _, rfl⟩
theorem ofNil (σ : AHeap) : Gz.ofBytes σ .nilslice = some [] := _root_.id rfl
/-! One item. -/
structure ShV where
  from_ : List UInt8
  to : List UInt8
  node : Int
  epoch : Int
structure LaV where
  seq : Int
  rep : RepV
def recC (p : List UInt8 × List UInt8) : List AV := [.str p.1, .str p.2]
def ShV.cells (s : ShV) : List AV := [.str s.from_, .str s.to, .int .i64 s.node, .int .i64 s.epoch]
def LaV.cells (l : LaV) : List AV := .int .i64 l.seq :: l.rep.cells
def ShV.bytes (s : ShV) : List UInt8 := [s.from_, s.to].flatMap txt ++ [s.node, s.epoch].flatMap u32
def LaV.bytes (l : LaV) : List UInt8 := [l.seq].flatMap u32 ++ [if l.rep.bad = true then [] else l.rep.bytes].flatMap txt
theorem record_ok (p : List UInt8 × List UInt8) (hsz : (txt2 p).length ≤ 900000000) : Tri Try.prog 60 [.agg (recC p)] [] fun r _ => r.pure = true ∧ r = .imm (rws (txt2 p)) false false := by
  refine Tri.frozen (Q := fun r σ => ∃ d, hget σ d = some ((txt2 p).map byteAV) ∧ r = .slice d 0 (txt2 p).length none 1) (Tri.of_s c60 E2_sound ?_) (fun r σ h => out_frz h)
  generalize hK : (fun (r : AV) (σ : AHeap) => ∃ d, hget σ d = some ((txt2 p).map byteAV) ∧ r = .slice d 0 (txt2 p).length none 1) = K
  have hK : ∀ σ d, hget σ d = some ((txt2 p).map byteAV) → K (.slice d 0 (txt2 p).length none 1) σ := by intro σ d h; rw [← hK]; exact ⟨d, h, rfl⟩
  simp only [recC, E2_app, Z60, base1, baseE, ↓reduceIte, Nat.reduceAdd, Nat.reduceSub, Nat.reduceMul, Nat.reduceEqDiff, Nat.reduceLeDiff, Nat.reduceLT, Int.reduceLT, Int.reduceLE, Int.reduceEq, Int.reduceNe, Int.reduceToNat, Int.reduceAdd, Int.reduceSub, reduceCtorEq, Nat.reduceBEq, Nat.reduceBNe]
  have e1 : [] ++ [p.1, p.2].flatMap txt = txt2 p := by simp [txt2]
  refine ⟨1, 2, [p.1, p.2], some 2, [], false, none, rfl, rfl, by decide, by simp, ?_, by simp, .inl ⟨rfl, rfl, rfl⟩, fun σ1 D1 q1 f1 => ?_⟩
  · simp only [total]; simp only [List.nil_append] at e1; rw [e1]; simp only [List.length_nil]; omega
  rw [e1] at q1
  obtain ⟨d, rfl, hd⟩ := pk_some q1 (by simp [txt2, txt, u32])
  obtain ⟨g1, g2, g3⟩ := pk_slice q1
  simp only [E2_app, Z60, base1, baseE, ↓reduceIte, Nat.reduceAdd, Nat.reduceSub, Nat.reduceMul, Nat.reduceEqDiff, Nat.reduceLeDiff, Nat.reduceLT, Int.reduceLT, Int.reduceLE, Int.reduceEq, Int.reduceNe, Int.reduceToNat, Int.reduceAdd, Int.reduceSub, reduceCtorEq, Nat.reduceBEq, Nat.reduceBNe, g1]
  exact hK _ _ g2
theorem shard_ok (s : ShV) (hsz : s.bytes.length ≤ 900000000) : Tri Try.prog 58 [.agg s.cells] [] fun r _ => r.pure = true ∧ r = .imm (rws s.bytes) false false := by
  refine Tri.frozen (Q := fun r σ => ∃ d, hget σ d = some (s.bytes.map byteAV) ∧ r = .slice d 0 s.bytes.length none 1) (Tri.of_s c58 E2_sound ?_) (fun r σ h => out_frz h)
  generalize hK : (fun (r : AV) (σ : AHeap) => ∃ d, hget σ d = some (s.bytes.map byteAV) ∧ r = .slice d 0 s.bytes.length none 1) = K
  have hK : ∀ σ d, hget σ d = some (s.bytes.map byteAV) → K (.slice d 0 s.bytes.length none 1) σ := by intro σ d h; rw [← hK]; exact ⟨d, h, rfl⟩
  have e1 : s.bytes = [] ++ [s.from_, s.to].flatMap txt ++ [s.node, s.epoch].flatMap u32 := rfl
  have e2 : total [s.from_, s.to] + 8 ≤ 900000000 := by
    have : s.bytes.length = total [s.from_, s.to] + 8 := by simp [ShV.bytes, total, u32]; omega
    omega
  simp only [ShV.cells, E2_app, Z58, base1, baseE, ↓reduceIte, Nat.reduceAdd, Nat.reduceSub, Nat.reduceMul, Nat.reduceEqDiff, Nat.reduceLeDiff, Nat.reduceLT, Int.reduceLT, Int.reduceLE, Int.reduceEq, Int.reduceNe, Int.reduceToNat, Int.reduceAdd, Int.reduceSub, reduceCtorEq, Nat.reduceBEq, Nat.reduceBNe]
  refine ⟨1, 2, [s.from_, s.to], some 2, [], false, none, rfl, rfl, by decide, by simp, by simp only [List.length_nil]; omega, by simp, .inl ⟨rfl, rfl, rfl⟩, fun σ1 D1 q1 f1 => ?_⟩
  obtain ⟨d, rfl, hd⟩ := pk_some q1 (by simp [txt, u32])
  have b1 := (f1 0 _ rfl (by decide) (by simp)).1
  obtain ⟨l1, l2⟩ := pk_lt q1
  simp only [E2_app, Z58, base1, baseE, ↓reduceIte, Nat.reduceAdd, Nat.reduceSub, Nat.reduceMul, Nat.reduceEqDiff, Nat.reduceLeDiff, Nat.reduceLT, Int.reduceLT, Int.reduceLE, Int.reduceEq, Int.reduceNe, Int.reduceToNat, Int.reduceAdd, Int.reduceSub, reduceCtorEq, Nat.reduceBEq, Nat.reduceBNe, b1]
  obtain ⟨p1, _⟩ := pk_push q1 [.int .i64 s.node, .int .i64 s.epoch]
  refine ⟨1, σ1.length, [s.node, s.epoch], some 2, _, _, some d, rfl, push_new rfl, by omega, by simp; omega, ?_, p1, fun σ2 D2 q2 f2 => ?_⟩
  · simp only [total] at e2
    simp only [List.nil_append, List.length_cons, List.length_nil]; omega
  rw [← e1] at q2
  obtain ⟨d2, rfl, hd2⟩ := pk_some q2 (by rw [e1]; simp [txt, u32])
  obtain ⟨g1, g2, g3⟩ := pk_slice q2
  simp only [E2_app, Z58, base1, baseE, ↓reduceIte, Nat.reduceAdd, Nat.reduceSub, Nat.reduceMul, Nat.reduceEqDiff, Nat.reduceLeDiff, Nat.reduceLT, Int.reduceLT, Int.reduceLE, Int.reduceEq, Int.reduceNe, Int.reduceToNat, Int.reduceAdd, Int.reduceSub, reduceCtorEq, Nat.reduceBEq, Nat.reduceBNe, g1]
  exact hK _ _ g2
def replyPD (args : List AV) (σ : AHeap) (K : AV → AHeap → Prop) : Prop := ∃ a : RepV, args = [.agg a.cells] ∧ a.bytes.length ≤ 900000000 ∧ K (packR a.bad a.bytes) σ
theorem replyPD_ok (args : List AV) (σ : AHeap) (K : AV → AHeap → Prop) (h : replyPD args σ K) : Tri Try.prog 41 args σ K := by
  obtain ⟨a, rfl, hs, h⟩ := h
  have := Tri.pureD (σ := σ) (Q := fun r => r = packR a.bad a.bytes) (by simp only [pureL, rep_pure, Bool.and_self]) ((reply_ok a hs).mono fun r _ hr => ⟨by rw [hr.2]; exact packR_pure _ _, hr.2⟩)
  exact this.mono fun r σ' hr => by rw [hr.1, hr.2]; exact h
def E3 : PCall := rowQ 41 replyPD (rowQ 45 numD (rowQ 46 textD noCall))
theorem E3_app {f : FuncId} {args : List AV} {σ : AHeap} {K : AV → AHeap → Prop} : E3 f args σ K = rowQ 41 replyPD (rowQ 45 numD (rowQ 46 textD noCall)) f args σ K := _root_.id rfl
theorem E3_sound : Sound Try.prog E3 := rowQ_sound replyPD_ok (rowQ_sound numD_ok (rowQ_sound textD_ok (noCall_sound _)))
theorem last_ok (l : LaV) (hsz : l.rep.bytes.length ≤ 900000000) : Tri Try.prog 62 [.agg l.cells] [] fun r _ => r.pure = true ∧ r = .imm (rws l.bytes) false false := by
  refine Tri.frozen (Q := fun r σ => ∃ d, hget σ d = some (l.bytes.map byteAV) ∧ r = .slice d 0 l.bytes.length none 1) (Tri.of_s c62 E3_sound ?_) (fun r σ h => out_frz h)
  generalize hK : (fun (r : AV) (σ : AHeap) => ∃ d, hget σ d = some (l.bytes.map byteAV) ∧ r = .slice d 0 l.bytes.length none 1) = K
  have hK : ∀ σ d, hget σ d = some (l.bytes.map byteAV) → K (.slice d 0 l.bytes.length none 1) σ := by intro σ d h; rw [← hK]; exact ⟨d, h, rfl⟩
  have e1 : l.bytes = [] ++ [l.seq].flatMap u32 ++ [if l.rep.bad = true then [] else l.rep.bytes].flatMap txt := rfl
  obtain ⟨seq, rep⟩ := l
  simp only at hsz e1
  simp only [LaV.cells, RepV.cells, E3_app, Z62, base1, baseE, ↓reduceIte, Nat.reduceAdd, Nat.reduceSub, Nat.reduceMul, Nat.reduceEqDiff, Nat.reduceLeDiff, Nat.reduceLT, Int.reduceLT, Int.reduceLE, Int.reduceEq, Int.reduceNe, Int.reduceToNat, Int.reduceAdd, Int.reduceSub, reduceCtorEq, Nat.reduceBEq, Nat.reduceBNe]
  refine ⟨rep, rfl, hsz, ?_⟩
  generalize hy : (if rep.bad = true then ([] : List UInt8) else rep.bytes) = y at e1
  unfold packR
  cases hb : rep.bad with
  | true =>
    have hy0 : y = [] := by rw [← hy, if_pos hb]
    simp only [E3_app, Z62, base1, baseE, ↓reduceIte, Nat.reduceAdd, Nat.reduceSub, Nat.reduceMul, Nat.reduceEqDiff, Nat.reduceLeDiff, Nat.reduceLT, Int.reduceLT, Int.reduceLE, Int.reduceEq, Int.reduceNe, Int.reduceToNat, Int.reduceAdd, Int.reduceSub, reduceCtorEq, Nat.reduceBEq, Nat.reduceBNe]
    refine ⟨1, 2, [seq], some 1, [], false, none, rfl, rfl, by decide, by simp, by simp, .inl ⟨rfl, rfl, rfl⟩, fun σ1 D1 q1 f1 => ?_⟩
    obtain ⟨d, rfl, hd⟩ := pk_some q1 (by simp [u32])
    obtain ⟨l1, l2⟩ := pk_lt q1
    simp only [E3_app, Z62, base1, baseE, ↓reduceIte, Nat.reduceAdd, Nat.reduceSub, Nat.reduceMul, Nat.reduceEqDiff, Nat.reduceLeDiff, Nat.reduceLT, Int.reduceLT, Int.reduceLE, Int.reduceEq, Int.reduceNe, Int.reduceToNat, Int.reduceAdd, Int.reduceSub, reduceCtorEq, Nat.reduceBEq, Nat.reduceBNe, ofNil]
    obtain ⟨p1, _⟩ := pk_push q1 [.str []]
    refine ⟨1, σ1.length, [[]], some 1, _, _, some d, rfl, push_new rfl, by omega, by simp; omega, by simp [total, txt, u32], by simp, p1, fun σ2 D2 q2 f2 => ?_⟩
    rw [hy0] at e1
    rw [← e1] at q2
    obtain ⟨d2, rfl, hd2⟩ := pk_some q2 (by rw [e1]; simp [txt, u32])
    obtain ⟨g1, g2, g3⟩ := pk_slice q2
    simp only [E3_app, Z62, base1, baseE, ↓reduceIte, Nat.reduceAdd, Nat.reduceSub, Nat.reduceMul, Nat.reduceEqDiff, Nat.reduceLeDiff, Nat.reduceLT, Int.reduceLT, Int.reduceLE, Int.reduceEq, Int.reduceNe, Int.reduceToNat, Int.reduceAdd, Int.reduceSub, reduceCtorEq, Nat.reduceBEq, Nat.reduceBNe, g1]
    exact hK _ _ g2
  | false =>
    have hy0 : y = rep.bytes := by rw [← hy, if_neg (by simp [hb])]
    simp only [E3_app, Z62, base1, baseE, ↓reduceIte, Nat.reduceAdd, Nat.reduceSub, Nat.reduceMul, Nat.reduceEqDiff, Nat.reduceLeDiff, Nat.reduceLT, Int.reduceLT, Int.reduceLE, Int.reduceEq, Int.reduceNe, Int.reduceToNat, Int.reduceAdd, Int.reduceSub, reduceCtorEq, Nat.reduceBEq, Nat.reduceBNe]
    refine ⟨1, 2, [seq], some 1, [], false, none, rfl, rfl, by decide, by simp, by simp, .inl ⟨rfl, rfl, rfl⟩, fun σ1 D1 q1 f1 => ?_⟩
    obtain ⟨d, rfl, hd⟩ := pk_some q1 (by simp [u32])
    obtain ⟨l1, l2⟩ := pk_lt q1
    simp only [E3_app, Z62, base1, baseE, ↓reduceIte, Nat.reduceAdd, Nat.reduceSub, Nat.reduceMul, Nat.reduceEqDiff, Nat.reduceLeDiff, Nat.reduceLT, Int.reduceLT, Int.reduceLE, Int.reduceEq, Int.reduceNe, Int.reduceToNat, Int.reduceAdd, Int.reduceSub, reduceCtorEq, Nat.reduceBEq, Nat.reduceBNe, rws_def, ofRws]
    obtain ⟨p1, _⟩ := pk_push q1 [.str rep.bytes]
    refine ⟨1, σ1.length, [rep.bytes], some 1, _, _, some d, rfl, push_new rfl, by omega, by simp; omega, by simp [total, txt, u32]; omega, by simp, p1, fun σ2 D2 q2 f2 => ?_⟩
    rw [hy0] at e1
    rw [← e1] at q2
    obtain ⟨d2, rfl, hd2⟩ := pk_some q2 (by rw [e1]; simp [txt, u32])
    obtain ⟨g1, g2, g3⟩ := pk_slice q2
    simp only [E3_app, Z62, base1, baseE, ↓reduceIte, Nat.reduceAdd, Nat.reduceSub, Nat.reduceMul, Nat.reduceEqDiff, Nat.reduceLeDiff, Nat.reduceLT, Int.reduceLT, Int.reduceLE, Int.reduceEq, Int.reduceNe, Int.reduceToNat, Int.reduceAdd, Int.reduceSub, reduceCtorEq, Nat.reduceBEq, Nat.reduceBNe, g1]
    exact hK _ _ g2
/-! Lists. -/
def oneRecD (args : List AV) (σ : AHeap) (K : AV → AHeap → Prop) : Prop := ∃ x : List UInt8 × List UInt8, args = [.agg (recC x)] ∧ (txt2 x).length ≤ 900000000 ∧ K (.imm (rws (txt2 x)) false false) σ
theorem oneRecD_ok (args : List AV) (σ : AHeap) (K : AV → AHeap → Prop) (h : oneRecD args σ K) : Tri Try.prog 60 args σ K := by
  obtain ⟨x, rfl, hs, h⟩ := h
  have := Tri.pureD (σ := σ) (Q := fun r => r = .imm (rws (txt2 x)) false false) (args := [.agg (recC x)]) (rfl) (record_ok x hs)
  exact this.mono fun r σ' hr => by rw [hr.1, hr.2]; exact h
def bytesRec (l : List (List UInt8 × List UInt8)) : List UInt8 := u32 (l.length : Int) ++ l.flatMap fun x => txt (txt2 x)
def GRec : PCall := rowQ 60 oneRecD (rowQ 45 numD (rowQ 46 textD noCall))
theorem GRec_app {f : FuncId} {args : List AV} {σ : AHeap} {K : AV → AHeap → Prop} : GRec f args σ K = rowQ 60 oneRecD (rowQ 45 numD (rowQ 46 textD noCall)) f args σ K := _root_.id rfl
theorem GRec_sound : Sound Try.prog GRec := rowQ_sound oneRecD_ok (rowQ_sound numD_ok (rowQ_sound textD_ok (noCall_sound _)))
def lpRec (l : List (List UInt8 × List UInt8)) (f nn : Bool) (n : Nat) (e : Env) (σ : AHeap) : Prop :=
  ∃ (i d : Nat) (bad : Bool), i ≤ l.length ∧ n = l.length - i ∧ Pk σ 0 (u32 (l.length : Int) ++ (l.take i).flatMap fun x => txt (txt2 x)) bad (some d) ∧
    e 1 = .func 60 [] ∧ e 5 = .ptr 0 0 ∧ e 19 = .imm (l.map recC) f nn ∧ e 20 = .int .i64 (l.length : Int) ∧ e 21 = .int .i64 (i : Int)
theorem stepRec (l : List (List UInt8 × List UInt8)) (f nn : Bool) (hsz : ∀ x ∈ l, (txt2 x).length ≤ 900000000) (hsz2 : (l.flatMap fun x => txt (txt2 x)).length ≤ 900000000) (hsn : l.length ≤ 900000000) (Q : AV → AHeap → Prop) (hQ : ∀ σ d, hget σ d = some ((bytesRec l).map byteAV) → Q (.slice d 0 (bytesRec l).length none 1) σ) (n : Nat) (e : Env) (σ : AHeap) (h : lpRec l f nn n e σ) :
    sC GRec 0 b59_18 (unw GRec 0 (loopR GRec 0 (RetQ [MRes.t 4] Q) (.block 0 (.seq b59_23 .fin)) (lpRec l f nn) n) .fin) e σ := by
  obtain ⟨i, d, bad, hi, hn, hp, h1, h5, h19, h20, h21⟩ := h
  obtain ⟨hp0, hdl⟩ := pk_lt hp
  have hml : (l.map recC).length = l.length := by simp
  rcases Nat.lt_or_ge i l.length with hlt | hge
  · have hlt' : (i : Int) < (l.length : Int) := by omega
    have hge0 : (0 : Int) ≤ (i : Int) := by omega
    obtain ⟨x, hx⟩ : ∃ x, l[i]? = some x := ⟨_, List.getElem?_eq_getElem hlt⟩
    have hxx : (l.map recC)[i]? = some (recC x) := by simp [hx]
    have htk : l.take (i + 1) = l.take i ++ [x] := by rw [List.take_add_one, hx]; rfl
    have hw : IntKind.wrap .i64 ((i : Int) + 1) = ((i + 1 : Nat) : Int) := by rw [Gz.wrap64 (by omega)]; omega
    have htot : ((l.take i).flatMap fun x => txt (txt2 x)).length + (4 + (txt2 x).length) ≤ (l.flatMap fun x => txt (txt2 x)).length := by
      have h1 : l = l.take i ++ x :: l.drop (i + 1) := by
        have := (List.getElem?_eq_some_iff.1 hx).2
        rw [← this, List.getElem_cons_drop, List.take_append_drop]
      conv => rhs; rw [h1]
      simp only [List.flatMap_append, List.flatMap_cons, List.length_append, txt, u32_len]
      omega
    have hcx := hsz x (List.mem_of_getElem? hx)
    simp only [recC] at hxx
    have pn : ∀ (c : List AV), hget (hpush σ c) σ.length = some c := fun c => push_new rfl
    have sn : ∀ (c c' : List AV), hget (hset (hpush σ c) σ.length c') σ.length = some c' := fun c c' => set_same (pn c)
    simp only [GRec_app, Z59, base1, baseE, ↓reduceIte, Nat.reduceAdd, Nat.reduceSub, Nat.reduceMul, Nat.reduceEqDiff, Nat.reduceLeDiff, Nat.reduceLT, Int.reduceLT, Int.reduceLE, Int.reduceEq, Int.reduceNe, Int.reduceToNat, Int.reduceAdd, Int.reduceSub, reduceCtorEq, Nat.reduceBEq, Nat.reduceBNe, loopR_exit, loopR_ret, h1, h5, h19, h20, h21, hlt', hlt, hge0, hxx, hml, Int.toNat_natCast, pn, sn]
    refine ⟨x, rfl, hcx, ?_⟩
    simp only [GRec_app, Z59, base1, baseE, ↓reduceIte, Nat.reduceAdd, Nat.reduceSub, Nat.reduceMul, Nat.reduceEqDiff, Nat.reduceLeDiff, Nat.reduceLT, Int.reduceLT, Int.reduceLE, Int.reduceEq, Int.reduceNe, Int.reduceToNat, Int.reduceAdd, Int.reduceSub, reduceCtorEq, Nat.reduceBEq, Nat.reduceBNe, h1, h5, h19, h20, h21, ofRws]
    generalize hz : ([.str [], .str []] : List AV) = z
    have p1 := (pk_push (pk_set (pk_push hp z).1 (j := σ.length) (c := recC x) (by omega) (by simp; omega)) [AV.str (txt2 x)]).1
    refine ⟨0, σ.length + 1, [txt2 x], some 1, _, _, some d, by simp [set_len, push_len], push_new (by simp [set_len, push_len]), by omega, by simp; omega, ?_, by simp, p1, fun σ1 D1 q1 f3 => ?_⟩
    · have htx : (txt (txt2 x)).length = 4 + (txt2 x).length := by simp only [txt, List.length_append, u32_len]
      simp only [total, List.flatMap_cons, List.flatMap_nil, List.append_nil, List.length_append, u32_len, htx]; omega
    obtain ⟨d1, rfl, hd1⟩ := pk_some q1 (by simp [txt, u32])
    simp only [GRec_app, Z59, base1, baseE, ↓reduceIte, Nat.reduceAdd, Nat.reduceSub, Nat.reduceMul, Nat.reduceEqDiff, Nat.reduceLeDiff, Nat.reduceLT, Int.reduceLT, Int.reduceLE, Int.reduceEq, Int.reduceNe, Int.reduceToNat, Int.reduceAdd, Int.reduceSub, reduceCtorEq, Nat.reduceBEq, Nat.reduceBNe, h1, h5, h19, h20, h21, hw]
    rw [loopR_normal]
    refine ⟨l.length - (i + 1), _, _, by omega, .refl _ _ _, i + 1, d1, bad || [txt2 x].any badT, hlt, rfl, ?_, ?_, ?_, ?_, ?_, ?_⟩
    · have e1 : u32 (l.length : Int) ++ ((l.take (i + 1)).flatMap fun x => txt (txt2 x)) = u32 (l.length : Int) ++ ((l.take i).flatMap fun x => txt (txt2 x)) ++ [txt2 x].flatMap txt := by rw [htk]; simp
      rw [e1]; exact q1
    all_goals simp only [putD_some, putD_none, Nat.reduceEqDiff, ↓reduceIte, h1, h5, h19, h20, h21, hw]
  · have hlt' : ¬ (i : Int) < (l.length : Int) := by omega
    have hie : i = l.length := by omega
    subst hie
    rw [List.take_length] at hp
    obtain ⟨g1, g2, g3⟩ := pk_slice hp
    simp only [GRec_app, Z59, base1, baseE, ↓reduceIte, Nat.reduceAdd, Nat.reduceSub, Nat.reduceMul, Nat.reduceEqDiff, Nat.reduceLeDiff, Nat.reduceLT, Int.reduceLT, Int.reduceLE, Int.reduceEq, Int.reduceNe, Int.reduceToNat, Int.reduceAdd, Int.reduceSub, reduceCtorEq, Nat.reduceBEq, Nat.reduceBNe, loopR_exit, loopR_ret, h1, h5, h19, h20, h21, hlt', g1]
    rw [← List.length_append]
    exact hQ σ d g2
theorem listRec_ok (l : List (List UInt8 × List UInt8)) (f nn : Bool) (hsz : ∀ x ∈ l, (txt2 x).length ≤ 900000000) (hsz2 : (l.flatMap fun x => txt (txt2 x)).length ≤ 900000000) (hsn : l.length ≤ 1048576) : Tri Try.prog 59 [.imm (l.map recC) f nn, .func 60 []] [] fun r _ => r.pure = true ∧ r = .imm (rws (bytesRec l)) false false := by
  refine Tri.frozen (Q := fun r σ => ∃ d, hget σ d = some ((bytesRec l).map byteAV) ∧ r = .slice d 0 (bytesRec l).length none 1) (Tri.of_s c59 GRec_sound ?_) (fun r σ h => out_frz h)
  generalize hK : (fun (r : AV) (σ : AHeap) => ∃ d, hget σ d = some ((bytesRec l).map byteAV) ∧ r = .slice d 0 (bytesRec l).length none 1) = K
  have hK : ∀ σ d, hget σ d = some ((bytesRec l).map byteAV) → K (.slice d 0 (bytesRec l).length none 1) σ := by intro σ d h; rw [← hK]; exact ⟨d, h, rfl⟩
  have hml : (l.map recC).length = l.length := by simp
  have hs : ¬ (1048576 : Int) < (l.length : Int) := by omega
  simp only [GRec_app, Z59, base1, baseE, ↓reduceIte, Nat.reduceAdd, Nat.reduceSub, Nat.reduceMul, Nat.reduceEqDiff, Nat.reduceLeDiff, Nat.reduceLT, Int.reduceLT, Int.reduceLE, Int.reduceEq, Int.reduceNe, Int.reduceToNat, Int.reduceAdd, Int.reduceSub, reduceCtorEq, Nat.reduceBEq, Nat.reduceBNe, hml, hs]
  refine ⟨0, 1, [(l.length : Int)], some 1, [], false, none, rfl, rfl, by decide, by simp, by simp, .inl ⟨rfl, rfl, rfl⟩, fun σ1 D1 q1 f1 => ?_⟩
  obtain ⟨d1, rfl, hd1⟩ := pk_some q1 (by simp [u32])
  simp only [GRec_app, Z59, base1, baseE, ↓reduceIte, Nat.reduceAdd, Nat.reduceSub, Nat.reduceMul, Nat.reduceEqDiff, Nat.reduceLeDiff, Nat.reduceLT, Int.reduceLT, Int.reduceLE, Int.reduceEq, Int.reduceNe, Int.reduceToNat, Int.reduceAdd, Int.reduceSub, reduceCtorEq, Nat.reduceBEq, Nat.reduceBNe, hml]
  refine sC_inv (a := b59_18) (lpRec l f nn) l.length _ σ1 (.refl _ _ _) ⟨0, d1, false || [(l.length : Int)].any badN, Nat.zero_le _, rfl, ?_, rfl, rfl, rfl, rfl, rfl⟩ (stepRec l f nn hsz hsz2 (by omega) _ hK)
  simpa using q1
def oneShD (args : List AV) (σ : AHeap) (K : AV → AHeap → Prop) : Prop := ∃ x : ShV, args = [.agg (ShV.cells x)] ∧ x.bytes.length ≤ 900000000 ∧ K (.imm (rws (ShV.bytes x)) false false) σ
theorem oneShD_ok (args : List AV) (σ : AHeap) (K : AV → AHeap → Prop) (h : oneShD args σ K) : Tri Try.prog 58 args σ K := by
  obtain ⟨x, rfl, hs, h⟩ := h
  have := Tri.pureD (σ := σ) (Q := fun r => r = .imm (rws (ShV.bytes x)) false false) (args := [.agg (ShV.cells x)]) (rfl) (shard_ok x hs)
  exact this.mono fun r σ' hr => by rw [hr.1, hr.2]; exact h
def bytesSh (l : List (ShV)) : List UInt8 := u32 (l.length : Int) ++ l.flatMap fun x => txt (ShV.bytes x)
def GSh : PCall := rowQ 58 oneShD (rowQ 45 numD (rowQ 46 textD noCall))
theorem GSh_app {f : FuncId} {args : List AV} {σ : AHeap} {K : AV → AHeap → Prop} : GSh f args σ K = rowQ 58 oneShD (rowQ 45 numD (rowQ 46 textD noCall)) f args σ K := _root_.id rfl
theorem GSh_sound : Sound Try.prog GSh := rowQ_sound oneShD_ok (rowQ_sound numD_ok (rowQ_sound textD_ok (noCall_sound _)))
def lpSh (l : List (ShV)) (f nn : Bool) (n : Nat) (e : Env) (σ : AHeap) : Prop :=
  ∃ (i d : Nat) (bad : Bool), i ≤ l.length ∧ n = l.length - i ∧ Pk σ 0 (u32 (l.length : Int) ++ (l.take i).flatMap fun x => txt (ShV.bytes x)) bad (some d) ∧
    e 1 = .func 58 [] ∧ e 5 = .ptr 0 0 ∧ e 19 = .imm (l.map ShV.cells) f nn ∧ e 20 = .int .i64 (l.length : Int) ∧ e 21 = .int .i64 (i : Int)
theorem stepSh (l : List (ShV)) (f nn : Bool) (hsz : ∀ x ∈ l, x.bytes.length ≤ 900000000) (hsz2 : (l.flatMap fun x => txt (ShV.bytes x)).length ≤ 900000000) (hsn : l.length ≤ 900000000) (Q : AV → AHeap → Prop) (hQ : ∀ σ d, hget σ d = some ((bytesSh l).map byteAV) → Q (.slice d 0 (bytesSh l).length none 1) σ) (n : Nat) (e : Env) (σ : AHeap) (h : lpSh l f nn n e σ) :
    sC GSh 0 b57_18 (unw GSh 0 (loopR GSh 0 (RetQ [MRes.t 4] Q) (.block 0 (.seq b57_23 .fin)) (lpSh l f nn) n) .fin) e σ := by
  obtain ⟨i, d, bad, hi, hn, hp, h1, h5, h19, h20, h21⟩ := h
  obtain ⟨hp0, hdl⟩ := pk_lt hp
  have hml : (l.map ShV.cells).length = l.length := by simp
  rcases Nat.lt_or_ge i l.length with hlt | hge
  · have hlt' : (i : Int) < (l.length : Int) := by omega
    have hge0 : (0 : Int) ≤ (i : Int) := by omega
    obtain ⟨x, hx⟩ : ∃ x, l[i]? = some x := ⟨_, List.getElem?_eq_getElem hlt⟩
    have hxx : (l.map ShV.cells)[i]? = some (ShV.cells x) := by simp [hx]
    have htk : l.take (i + 1) = l.take i ++ [x] := by rw [List.take_add_one, hx]; rfl
    have hw : IntKind.wrap .i64 ((i : Int) + 1) = ((i + 1 : Nat) : Int) := by rw [Gz.wrap64 (by omega)]; omega
    have htot : ((l.take i).flatMap fun x => txt (ShV.bytes x)).length + (4 + (ShV.bytes x).length) ≤ (l.flatMap fun x => txt (ShV.bytes x)).length := by
      have h1 : l = l.take i ++ x :: l.drop (i + 1) := by
        have := (List.getElem?_eq_some_iff.1 hx).2
        rw [← this, List.getElem_cons_drop, List.take_append_drop]
      conv => rhs; rw [h1]
      simp only [List.flatMap_append, List.flatMap_cons, List.length_append, txt, u32_len]
      omega
    have hcx := hsz x (List.mem_of_getElem? hx)
    simp only [ShV.cells] at hxx
    have pn : ∀ (c : List AV), hget (hpush σ c) σ.length = some c := fun c => push_new rfl
    have sn : ∀ (c c' : List AV), hget (hset (hpush σ c) σ.length c') σ.length = some c' := fun c c' => set_same (pn c)
    simp only [GSh_app, Z57, base1, baseE, ↓reduceIte, Nat.reduceAdd, Nat.reduceSub, Nat.reduceMul, Nat.reduceEqDiff, Nat.reduceLeDiff, Nat.reduceLT, Int.reduceLT, Int.reduceLE, Int.reduceEq, Int.reduceNe, Int.reduceToNat, Int.reduceAdd, Int.reduceSub, reduceCtorEq, Nat.reduceBEq, Nat.reduceBNe, loopR_exit, loopR_ret, h1, h5, h19, h20, h21, hlt', hlt, hge0, hxx, hml, Int.toNat_natCast, pn, sn]
    refine ⟨x, rfl, hcx, ?_⟩
    simp only [GSh_app, Z57, base1, baseE, ↓reduceIte, Nat.reduceAdd, Nat.reduceSub, Nat.reduceMul, Nat.reduceEqDiff, Nat.reduceLeDiff, Nat.reduceLT, Int.reduceLT, Int.reduceLE, Int.reduceEq, Int.reduceNe, Int.reduceToNat, Int.reduceAdd, Int.reduceSub, reduceCtorEq, Nat.reduceBEq, Nat.reduceBNe, h1, h5, h19, h20, h21, ofRws]
    generalize hz : ([.str [], .str [], .int .i64 0, .int .i64 0] : List AV) = z
    have p1 := (pk_push (pk_set (pk_push hp z).1 (j := σ.length) (c := ShV.cells x) (by omega) (by simp; omega)) [AV.str (ShV.bytes x)]).1
    refine ⟨0, σ.length + 1, [ShV.bytes x], some 1, _, _, some d, by simp [set_len, push_len], push_new (by simp [set_len, push_len]), by omega, by simp; omega, ?_, by simp, p1, fun σ1 D1 q1 f3 => ?_⟩
    · have htx : (txt (ShV.bytes x)).length = 4 + (ShV.bytes x).length := by simp only [txt, List.length_append, u32_len]
      simp only [total, List.flatMap_cons, List.flatMap_nil, List.append_nil, List.length_append, u32_len, htx]; omega
    obtain ⟨d1, rfl, hd1⟩ := pk_some q1 (by simp [txt, u32])
    simp only [GSh_app, Z57, base1, baseE, ↓reduceIte, Nat.reduceAdd, Nat.reduceSub, Nat.reduceMul, Nat.reduceEqDiff, Nat.reduceLeDiff, Nat.reduceLT, Int.reduceLT, Int.reduceLE, Int.reduceEq, Int.reduceNe, Int.reduceToNat, Int.reduceAdd, Int.reduceSub, reduceCtorEq, Nat.reduceBEq, Nat.reduceBNe, h1, h5, h19, h20, h21, hw]
    rw [loopR_normal]
    refine ⟨l.length - (i + 1), _, _, by omega, .refl _ _ _, i + 1, d1, bad || [ShV.bytes x].any badT, hlt, rfl, ?_, ?_, ?_, ?_, ?_, ?_⟩
    · have e1 : u32 (l.length : Int) ++ ((l.take (i + 1)).flatMap fun x => txt (ShV.bytes x)) = u32 (l.length : Int) ++ ((l.take i).flatMap fun x => txt (ShV.bytes x)) ++ [ShV.bytes x].flatMap txt := by rw [htk]; simp
      rw [e1]; exact q1
    all_goals simp only [putD_some, putD_none, Nat.reduceEqDiff, ↓reduceIte, h1, h5, h19, h20, h21, hw]
  · have hlt' : ¬ (i : Int) < (l.length : Int) := by omega
    have hie : i = l.length := by omega
    subst hie
    rw [List.take_length] at hp
    obtain ⟨g1, g2, g3⟩ := pk_slice hp
    simp only [GSh_app, Z57, base1, baseE, ↓reduceIte, Nat.reduceAdd, Nat.reduceSub, Nat.reduceMul, Nat.reduceEqDiff, Nat.reduceLeDiff, Nat.reduceLT, Int.reduceLT, Int.reduceLE, Int.reduceEq, Int.reduceNe, Int.reduceToNat, Int.reduceAdd, Int.reduceSub, reduceCtorEq, Nat.reduceBEq, Nat.reduceBNe, loopR_exit, loopR_ret, h1, h5, h19, h20, h21, hlt', g1]
    rw [← List.length_append]
    exact hQ σ d g2
theorem listSh_ok (l : List (ShV)) (f nn : Bool) (hsz : ∀ x ∈ l, x.bytes.length ≤ 900000000) (hsz2 : (l.flatMap fun x => txt (ShV.bytes x)).length ≤ 900000000) (hsn : l.length ≤ 1048576) : Tri Try.prog 57 [.imm (l.map ShV.cells) f nn, .func 58 []] [] fun r _ => r.pure = true ∧ r = .imm (rws (bytesSh l)) false false := by
  refine Tri.frozen (Q := fun r σ => ∃ d, hget σ d = some ((bytesSh l).map byteAV) ∧ r = .slice d 0 (bytesSh l).length none 1) (Tri.of_s c57 GSh_sound ?_) (fun r σ h => out_frz h)
  generalize hK : (fun (r : AV) (σ : AHeap) => ∃ d, hget σ d = some ((bytesSh l).map byteAV) ∧ r = .slice d 0 (bytesSh l).length none 1) = K
  have hK : ∀ σ d, hget σ d = some ((bytesSh l).map byteAV) → K (.slice d 0 (bytesSh l).length none 1) σ := by intro σ d h; rw [← hK]; exact ⟨d, h, rfl⟩
  have hml : (l.map ShV.cells).length = l.length := by simp
  have hs : ¬ (1048576 : Int) < (l.length : Int) := by omega
  simp only [GSh_app, Z57, base1, baseE, ↓reduceIte, Nat.reduceAdd, Nat.reduceSub, Nat.reduceMul, Nat.reduceEqDiff, Nat.reduceLeDiff, Nat.reduceLT, Int.reduceLT, Int.reduceLE, Int.reduceEq, Int.reduceNe, Int.reduceToNat, Int.reduceAdd, Int.reduceSub, reduceCtorEq, Nat.reduceBEq, Nat.reduceBNe, hml, hs]
  refine ⟨0, 1, [(l.length : Int)], some 1, [], false, none, rfl, rfl, by decide, by simp, by simp, .inl ⟨rfl, rfl, rfl⟩, fun σ1 D1 q1 f1 => ?_⟩
  obtain ⟨d1, rfl, hd1⟩ := pk_some q1 (by simp [u32])
  simp only [GSh_app, Z57, base1, baseE, ↓reduceIte, Nat.reduceAdd, Nat.reduceSub, Nat.reduceMul, Nat.reduceEqDiff, Nat.reduceLeDiff, Nat.reduceLT, Int.reduceLT, Int.reduceLE, Int.reduceEq, Int.reduceNe, Int.reduceToNat, Int.reduceAdd, Int.reduceSub, reduceCtorEq, Nat.reduceBEq, Nat.reduceBNe, hml]
  refine sC_inv (a := b57_18) (lpSh l f nn) l.length _ σ1 (.refl _ _ _) ⟨0, d1, false || [(l.length : Int)].any badN, Nat.zero_le _, rfl, ?_, rfl, rfl, rfl, rfl, rfl⟩ (stepSh l f nn hsz hsz2 (by omega) _ hK)
  simpa using q1
def oneLaD (args : List AV) (σ : AHeap) (K : AV → AHeap → Prop) : Prop := ∃ x : LaV, args = [.agg (LaV.cells x)] ∧ x.rep.bytes.length ≤ 900000000 ∧ K (.imm (rws (LaV.bytes x)) false false) σ
theorem oneLaD_ok (args : List AV) (σ : AHeap) (K : AV → AHeap → Prop) (h : oneLaD args σ K) : Tri Try.prog 62 args σ K := by
  obtain ⟨x, rfl, hs, h⟩ := h
  have := Tri.pureD (σ := σ) (Q := fun r => r = .imm (rws (LaV.bytes x)) false false) (args := [.agg (LaV.cells x)]) (by have := rep_pure x.rep; simp only [AV.pure] at this; simp only [pureL, AV.pure, LaV.cells, this, Bool.and_self]) (last_ok x hs)
  exact this.mono fun r σ' hr => by rw [hr.1, hr.2]; exact h
def bytesLa (l : List (LaV)) : List UInt8 := u32 (l.length : Int) ++ l.flatMap fun x => txt (LaV.bytes x)
def GLa : PCall := rowQ 62 oneLaD (rowQ 45 numD (rowQ 46 textD noCall))
theorem GLa_app {f : FuncId} {args : List AV} {σ : AHeap} {K : AV → AHeap → Prop} : GLa f args σ K = rowQ 62 oneLaD (rowQ 45 numD (rowQ 46 textD noCall)) f args σ K := _root_.id rfl
theorem GLa_sound : Sound Try.prog GLa := rowQ_sound oneLaD_ok (rowQ_sound numD_ok (rowQ_sound textD_ok (noCall_sound _)))
def lpLa (l : List (LaV)) (f nn : Bool) (n : Nat) (e : Env) (σ : AHeap) : Prop :=
  ∃ (i d : Nat) (bad : Bool), i ≤ l.length ∧ n = l.length - i ∧ Pk σ 0 (u32 (l.length : Int) ++ (l.take i).flatMap fun x => txt (LaV.bytes x)) bad (some d) ∧
    e 1 = .func 62 [] ∧ e 5 = .ptr 0 0 ∧ e 19 = .imm (l.map LaV.cells) f nn ∧ e 20 = .int .i64 (l.length : Int) ∧ e 21 = .int .i64 (i : Int)
theorem stepLa (l : List (LaV)) (f nn : Bool) (hsz : ∀ x ∈ l, x.rep.bytes.length ≤ 900000000) (hsz2 : (l.flatMap fun x => txt (LaV.bytes x)).length ≤ 900000000) (hsn : l.length ≤ 900000000) (Q : AV → AHeap → Prop) (hQ : ∀ σ d, hget σ d = some ((bytesLa l).map byteAV) → Q (.slice d 0 (bytesLa l).length none 1) σ) (n : Nat) (e : Env) (σ : AHeap) (h : lpLa l f nn n e σ) :
    sC GLa 0 b61_18 (unw GLa 0 (loopR GLa 0 (RetQ [MRes.t 4] Q) (.block 0 (.seq b61_23 .fin)) (lpLa l f nn) n) .fin) e σ := by
  obtain ⟨i, d, bad, hi, hn, hp, h1, h5, h19, h20, h21⟩ := h
  obtain ⟨hp0, hdl⟩ := pk_lt hp
  have hml : (l.map LaV.cells).length = l.length := by simp
  rcases Nat.lt_or_ge i l.length with hlt | hge
  · have hlt' : (i : Int) < (l.length : Int) := by omega
    have hge0 : (0 : Int) ≤ (i : Int) := by omega
    obtain ⟨x, hx⟩ : ∃ x, l[i]? = some x := ⟨_, List.getElem?_eq_getElem hlt⟩
    have hxx : (l.map LaV.cells)[i]? = some (LaV.cells x) := by simp [hx]
    have htk : l.take (i + 1) = l.take i ++ [x] := by rw [List.take_add_one, hx]; rfl
    have hw : IntKind.wrap .i64 ((i : Int) + 1) = ((i + 1 : Nat) : Int) := by rw [Gz.wrap64 (by omega)]; omega
    have htot : ((l.take i).flatMap fun x => txt (LaV.bytes x)).length + (4 + (LaV.bytes x).length) ≤ (l.flatMap fun x => txt (LaV.bytes x)).length := by
      have h1 : l = l.take i ++ x :: l.drop (i + 1) := by
        have := (List.getElem?_eq_some_iff.1 hx).2
        rw [← this, List.getElem_cons_drop, List.take_append_drop]
      conv => rhs; rw [h1]
      simp only [List.flatMap_append, List.flatMap_cons, List.length_append, txt, u32_len]
      omega
    have hcx := hsz x (List.mem_of_getElem? hx)
    simp only [LaV.cells, RepV.cells] at hxx
    have pn : ∀ (c : List AV), hget (hpush σ c) σ.length = some c := fun c => push_new rfl
    have sn : ∀ (c c' : List AV), hget (hset (hpush σ c) σ.length c') σ.length = some c' := fun c c' => set_same (pn c)
    simp only [GLa_app, Z61, base1, baseE, ↓reduceIte, Nat.reduceAdd, Nat.reduceSub, Nat.reduceMul, Nat.reduceEqDiff, Nat.reduceLeDiff, Nat.reduceLT, Int.reduceLT, Int.reduceLE, Int.reduceEq, Int.reduceNe, Int.reduceToNat, Int.reduceAdd, Int.reduceSub, reduceCtorEq, Nat.reduceBEq, Nat.reduceBNe, loopR_exit, loopR_ret, h1, h5, h19, h20, h21, hlt', hlt, hge0, hxx, hml, Int.toNat_natCast, pn, sn]
    refine ⟨x, rfl, hcx, ?_⟩
    simp only [GLa_app, Z61, base1, baseE, ↓reduceIte, Nat.reduceAdd, Nat.reduceSub, Nat.reduceMul, Nat.reduceEqDiff, Nat.reduceLeDiff, Nat.reduceLT, Int.reduceLT, Int.reduceLE, Int.reduceEq, Int.reduceNe, Int.reduceToNat, Int.reduceAdd, Int.reduceSub, reduceCtorEq, Nat.reduceBEq, Nat.reduceBNe, h1, h5, h19, h20, h21, ofRws]
    generalize hz : ([.int .i64 0, .int .i64 0, .int .i64 0, .int .i64 0, .bool false, .str [], .nilslice, .str [], .bool false] : List AV) = z
    have p1 := (pk_push (pk_set (pk_push hp z).1 (j := σ.length) (c := LaV.cells x) (by omega) (by simp; omega)) [AV.str (LaV.bytes x)]).1
    refine ⟨0, σ.length + 1, [LaV.bytes x], some 1, _, _, some d, by simp [set_len, push_len], push_new (by simp [set_len, push_len]), by omega, by simp; omega, ?_, by simp, p1, fun σ1 D1 q1 f3 => ?_⟩
    · have htx : (txt (LaV.bytes x)).length = 4 + (LaV.bytes x).length := by simp only [txt, List.length_append, u32_len]
      simp only [total, List.flatMap_cons, List.flatMap_nil, List.append_nil, List.length_append, u32_len, htx]; omega
    obtain ⟨d1, rfl, hd1⟩ := pk_some q1 (by simp [txt, u32])
    simp only [GLa_app, Z61, base1, baseE, ↓reduceIte, Nat.reduceAdd, Nat.reduceSub, Nat.reduceMul, Nat.reduceEqDiff, Nat.reduceLeDiff, Nat.reduceLT, Int.reduceLT, Int.reduceLE, Int.reduceEq, Int.reduceNe, Int.reduceToNat, Int.reduceAdd, Int.reduceSub, reduceCtorEq, Nat.reduceBEq, Nat.reduceBNe, h1, h5, h19, h20, h21, hw]
    rw [loopR_normal]
    refine ⟨l.length - (i + 1), _, _, by omega, .refl _ _ _, i + 1, d1, bad || [LaV.bytes x].any badT, hlt, rfl, ?_, ?_, ?_, ?_, ?_, ?_⟩
    · have e1 : u32 (l.length : Int) ++ ((l.take (i + 1)).flatMap fun x => txt (LaV.bytes x)) = u32 (l.length : Int) ++ ((l.take i).flatMap fun x => txt (LaV.bytes x)) ++ [LaV.bytes x].flatMap txt := by rw [htk]; simp
      rw [e1]; exact q1
    all_goals simp only [putD_some, putD_none, Nat.reduceEqDiff, ↓reduceIte, h1, h5, h19, h20, h21, hw]
  · have hlt' : ¬ (i : Int) < (l.length : Int) := by omega
    have hie : i = l.length := by omega
    subst hie
    rw [List.take_length] at hp
    obtain ⟨g1, g2, g3⟩ := pk_slice hp
    simp only [GLa_app, Z61, base1, baseE, ↓reduceIte, Nat.reduceAdd, Nat.reduceSub, Nat.reduceMul, Nat.reduceEqDiff, Nat.reduceLeDiff, Nat.reduceLT, Int.reduceLT, Int.reduceLE, Int.reduceEq, Int.reduceNe, Int.reduceToNat, Int.reduceAdd, Int.reduceSub, reduceCtorEq, Nat.reduceBEq, Nat.reduceBNe, loopR_exit, loopR_ret, h1, h5, h19, h20, h21, hlt', g1]
    rw [← List.length_append]
    exact hQ σ d g2
theorem listLa_ok (l : List (LaV)) (f nn : Bool) (hsz : ∀ x ∈ l, x.rep.bytes.length ≤ 900000000) (hsz2 : (l.flatMap fun x => txt (LaV.bytes x)).length ≤ 900000000) (hsn : l.length ≤ 1048576) : Tri Try.prog 61 [.imm (l.map LaV.cells) f nn, .func 62 []] [] fun r _ => r.pure = true ∧ r = .imm (rws (bytesLa l)) false false := by
  refine Tri.frozen (Q := fun r σ => ∃ d, hget σ d = some ((bytesLa l).map byteAV) ∧ r = .slice d 0 (bytesLa l).length none 1) (Tri.of_s c61 GLa_sound ?_) (fun r σ h => out_frz h)
  generalize hK : (fun (r : AV) (σ : AHeap) => ∃ d, hget σ d = some ((bytesLa l).map byteAV) ∧ r = .slice d 0 (bytesLa l).length none 1) = K
  have hK : ∀ σ d, hget σ d = some ((bytesLa l).map byteAV) → K (.slice d 0 (bytesLa l).length none 1) σ := by intro σ d h; rw [← hK]; exact ⟨d, h, rfl⟩
  have hml : (l.map LaV.cells).length = l.length := by simp
  have hs : ¬ (1048576 : Int) < (l.length : Int) := by omega
  simp only [GLa_app, Z61, base1, baseE, ↓reduceIte, Nat.reduceAdd, Nat.reduceSub, Nat.reduceMul, Nat.reduceEqDiff, Nat.reduceLeDiff, Nat.reduceLT, Int.reduceLT, Int.reduceLE, Int.reduceEq, Int.reduceNe, Int.reduceToNat, Int.reduceAdd, Int.reduceSub, reduceCtorEq, Nat.reduceBEq, Nat.reduceBNe, hml, hs]
  refine ⟨0, 1, [(l.length : Int)], some 1, [], false, none, rfl, rfl, by decide, by simp, by simp, .inl ⟨rfl, rfl, rfl⟩, fun σ1 D1 q1 f1 => ?_⟩
  obtain ⟨d1, rfl, hd1⟩ := pk_some q1 (by simp [u32])
  simp only [GLa_app, Z61, base1, baseE, ↓reduceIte, Nat.reduceAdd, Nat.reduceSub, Nat.reduceMul, Nat.reduceEqDiff, Nat.reduceLeDiff, Nat.reduceLT, Int.reduceLT, Int.reduceLE, Int.reduceEq, Int.reduceNe, Int.reduceToNat, Int.reduceAdd, Int.reduceSub, reduceCtorEq, Nat.reduceBEq, Nat.reduceBNe, hml]
  refine sC_inv (a := b61_18) (lpLa l f nn) l.length _ σ1 (.refl _ _ _) ⟨0, d1, false || [(l.length : Int)].any badN, Nat.zero_le _, rfl, ?_, rfl, rfl, rfl, rfl, rfl⟩ (stepLa l f nn hsz hsz2 (by omega) _ hK)
  simpa using q1
end Go.Proofs.Ytndlgmciplckjab.note

/- What ReadList reads: records, shards, last replies, or why there are none, as functions of the bytes. No condition. -/
set_option linter.unusedVariables false
set_option linter.unusedSimpArgs false
namespace Go.Proofs.Ytndlgmciplckjab.note
open Go.ChangeShapes Go.WideShapes Go.ChangeAt Go.RowKit Go.Gz
section
variable {C : PCall} {n0 : Nat} {R : MExit → Env → AHeap → Prop} {k : Cont} {e : Env} {σ : AHeap}
abbrev r71_0 : List MOper := [⟨(some 4), .move (.c (.nilslice)), none⟩,
  ⟨(some 5), .move (.c (.int .i64 0)), none⟩]
def b71_0 : SCode := .region r71_0
abbrev r71_1 : List MOper := [⟨(some 13), .move (.t 1), none⟩,
  ⟨(some 14), .bin .eql .nilf (.t 13) (.c (.nilfunc)), none⟩]
def b71_1 : SCode := .region r71_1
abbrev r71_2 : List MOper := [⟨(some 4), .move (.c (.nilslice)), none⟩,
  ⟨(some 5), .move (.c (.int .i64 1)), none⟩]
def b71_2 : SCode := .region r71_2
def b71_3 : SCode := .seq b71_2 .ret
def b71_4 : SCode := .cond (.t 14) b71_3 .skip
def b71_5 : SCode := .seq b71_1 b71_4
abbrev r71_6 : List MOper := [⟨(some 15), .move (.t 0), none⟩,
  ⟨(some 16), .build [.nilslice, .int .i64 0] [(0, 1, (.t 15))], none⟩,
  ⟨(some 17), .box (.t 16), none⟩,
  ⟨(some 6), .move (.t 17), none⟩]
def b71_6 : SCode := .region r71_6
abbrev r71_7 : List MOper := [⟨(some 7), .move (.c (.nilslice)), none⟩]
def b71_7 : SCode := .region r71_7
abbrev r71_8 : List MOper := [⟨(some 18), .move (.t 6), none⟩,
  ⟨(some 19), .call 51 [(.t 18)], none⟩,
  ⟨(some 8), .move (.t 19), none⟩]
def b71_8 : SCode := .region r71_8
abbrev r71_9 : List MOper := [⟨(some 20), .move (.t 8), none⟩,
  ⟨(some 21), .bin .gtr .num (.t 20) (.c (.int .i64 0)), none⟩,
  ⟨(some 22), .move (.t 21), none⟩,
  ⟨(some 23), .move (.t 6), (some (22, true))⟩,
  ⟨(some 24), .nilCheck (.t 23), (some (22, true))⟩,
  ⟨(some 25), .fieldAddr 1 (.t 24), (some (22, true))⟩,
  ⟨(some 26), .load1 (.t 25), (some (22, true))⟩,
  ⟨(some 27), .bin .eql .num (.t 26) (.c (.int .i64 0)), (some (22, true))⟩,
  ⟨(some 28), .pick (.t 22) (.t 27) (.c (.bool false)), none⟩]
def b71_9 : SCode := .region r71_9
def b71_10 : SCode := .cond (.t 28) .skip (.exit 0)
def b71_11 : SCode := .seq b71_9 b71_10
abbrev r71_12 : List MOper := [⟨(some 31), .move (.t 6), none⟩,
  ⟨(some 32), .call 64 [(.t 31)], none⟩,
  ⟨(some 9), .move (.t 32), none⟩]
def b71_12 : SCode := .region r71_12
abbrev r71_13 : List MOper := [⟨(some 33), .move (.t 6), none⟩,
  ⟨(some 34), .nilCheck (.t 33), none⟩,
  ⟨(some 35), .fieldAddr 1 (.t 34), none⟩,
  ⟨(some 36), .load1 (.t 35), none⟩,
  ⟨(some 37), .bin .neq .num (.t 36) (.c (.int .i64 0)), none⟩]
def b71_13 : SCode := .region r71_13
def b71_14 : SCode := .cond (.t 37) (.exit 0) .skip
def b71_15 : SCode := .seq b71_13 b71_14
abbrev r71_16 : List MOper := [⟨(some 39), .move (.t 1), none⟩,
  ⟨(some 40), .move (.t 9), none⟩,
  ⟨(some 41), .toBytes (.t 40), none⟩,
  ⟨(some 42), .callv (.t 39) [(.t 41)], none⟩,
  ⟨(some 38), .move (.t 42), none⟩,
  ⟨(some 43), .extract (.t 38) 0, none⟩,
  ⟨(some 44), .extract (.t 38) 1, none⟩,
  ⟨(some 10), .alloc [.str [], .str [], .int .i64 0, .int .i64 0], none⟩,
  ⟨none, .store 4 (.t 10) (.t 43), none⟩,
  ⟨(some 11), .move (.t 44), none⟩]
def b71_16 : SCode := .region r71_16
abbrev r71_17 : List MOper := [⟨(some 45), .move (.t 11), none⟩,
  ⟨(some 46), .bin .neq .num (.t 45) (.c (.int .i64 0)), none⟩]
def b71_17 : SCode := .region r71_17
abbrev r71_18 : List MOper := [⟨(some 47), .move (.t 11), none⟩,
  ⟨(some 4), .move (.c (.nilslice)), none⟩,
  ⟨(some 5), .move (.t 47), none⟩]
def b71_18 : SCode := .region r71_18
def b71_19 : SCode := .seq b71_18 .ret
def b71_20 : SCode := .cond (.t 46) b71_19 .skip
def b71_21 : SCode := .seq b71_17 b71_20
abbrev r71_22 : List MOper := [⟨(some 48), .move (.t 7), none⟩,
  ⟨(some 49), .loadN 4 (.t 10), none⟩,
  ⟨(some 50), .buildSlice [.str [], .str [], .int .i64 0, .int .i64 0] 4 1 [(0, 4, (.t 49))], none⟩,
  ⟨(some 51), .append 4 48 (.t 48) (.t 50), none⟩,
  ⟨(some 7), .move (.t 51), none⟩]
def b71_22 : SCode := .region r71_22
def b71_23 : SCode := .seq b71_21 b71_22
def b71_24 : SCode := .seq b71_16 b71_23
def b71_25 : SCode := .seq b71_15 b71_24
def b71_26 : SCode := .seq b71_12 b71_25
def b71_27 : SCode := .block 1 b71_26
abbrev r71_28 : List MOper := [⟨(some 29), .move (.t 8), none⟩,
  ⟨(some 30), .bin .sub .num (.t 29) (.c (.int .i64 1)), none⟩,
  ⟨(some 8), .move (.t 30), none⟩]
def b71_28 : SCode := .region r71_28
def b71_29 : SCode := .seq b71_27 b71_28
def b71_30 : SCode := .seq b71_11 b71_29
def b71_31 : SCode := .loop b71_30
def b71_32 : SCode := .block 0 b71_31
def b71_33 : SCode := .seq b71_8 b71_32
abbrev r71_34 : List MOper := [⟨(some 52), .move (.t 6), none⟩,
  ⟨(some 53), .call 52 [(.t 52)], none⟩,
  ⟨(some 12), .move (.t 53), none⟩]
def b71_34 : SCode := .region r71_34
abbrev r71_35 : List MOper := [⟨(some 54), .move (.t 12), none⟩,
  ⟨(some 55), .bin .neq .num (.t 54) (.c (.int .i64 0)), none⟩]
def b71_35 : SCode := .region r71_35
abbrev r71_36 : List MOper := [⟨(some 56), .move (.t 12), none⟩,
  ⟨(some 4), .move (.c (.nilslice)), none⟩,
  ⟨(some 5), .move (.t 56), none⟩]
def b71_36 : SCode := .region r71_36
def b71_37 : SCode := .seq b71_36 .ret
def b71_38 : SCode := .cond (.t 55) b71_37 .skip
def b71_39 : SCode := .seq b71_35 b71_38
def b71_40 : SCode := .seq b71_34 b71_39
abbrev r71_41 : List MOper := [⟨(some 57), .move (.t 7), none⟩,
  ⟨(some 4), .move (.t 57), none⟩,
  ⟨(some 5), .move (.c (.int .i64 0)), none⟩]
def b71_41 : SCode := .region r71_41
def b71_42 : SCode := .seq b71_41 .ret
def b71_43 : SCode := .seq b71_40 b71_42
def b71_44 : SCode := .seq b71_33 b71_43
def b71_45 : SCode := .seq b71_7 b71_44
def b71_46 : SCode := .seq b71_6 b71_45
def b71_47 : SCode := .seq b71_5 b71_46
def b71_48 : SCode := .seq b71_0 b71_47
def s71 : SFunc := ⟨58, [.t 4, .t 5], b71_48⟩
theorem c71 : sFn Try.prog 71 = some s71 := by kernel_rfl
theorem x71_40 : XS b71_40 b71_34 b71_39 := rfl
theorem x71_43 : XS b71_43 b71_40 b71_42 := rfl
theorem Z71 : XR b71_0 r71_0 ∧ XR b71_1 r71_1 ∧ XR b71_2 r71_2 ∧ XS b71_3 b71_2 .ret ∧ XC b71_4 (.t 14) b71_3 .skip ∧ XS b71_5 b71_1 b71_4 ∧ XR b71_6 r71_6 ∧ XR b71_7 r71_7 ∧ XR b71_8 r71_8 ∧ XR b71_9 r71_9 ∧ XC b71_10 (.t 28) .skip (.exit 0) ∧ XS b71_11 b71_9 b71_10 ∧ XR b71_12 r71_12 ∧ XR b71_13 r71_13 ∧ XC b71_14 (.t 37) (.exit 0) .skip ∧ XS b71_15 b71_13 b71_14 ∧ XR b71_16 r71_16 ∧ XR b71_17 r71_17 ∧ XR b71_18 r71_18 ∧ XS b71_19 b71_18 .ret ∧ XC b71_20 (.t 46) b71_19 .skip ∧ XS b71_21 b71_17 b71_20 ∧ XR b71_22 r71_22 ∧ XS b71_23 b71_21 b71_22 ∧ XS b71_24 b71_16 b71_23 ∧ XS b71_25 b71_15 b71_24 ∧ XS b71_26 b71_12 b71_25 ∧ XB b71_27 1 b71_26 ∧ XR b71_28 r71_28 ∧ XS b71_29 b71_27 b71_28 ∧ XS b71_30 b71_11 b71_29 ∧ XB b71_32 0 b71_31 ∧ XS b71_33 b71_8 b71_32 ∧ XR b71_34 r71_34 ∧ XR b71_35 r71_35 ∧ XR b71_36 r71_36 ∧ XS b71_37 b71_36 .ret ∧ XC b71_38 (.t 55) b71_37 .skip ∧ XS b71_39 b71_35 b71_38 ∧ XR b71_41 r71_41 ∧ XS b71_42 b71_41 .ret ∧ XS b71_44 b71_33 b71_43 ∧ XS b71_45 b71_7 b71_44 ∧ XS b71_46 b71_6 b71_45 ∧ XS b71_47 b71_5 b71_46 ∧ XS b71_48 b71_0 b71_47 ∧ XY s71 58 b71_48 [.t 4, .t 5] := ⟨rfl, rfl, rfl, rfl, sC_cond, rfl, rfl, rfl, rfl, rfl, sC_cond, rfl, rfl, rfl, sC_cond, rfl, rfl, rfl, rfl, rfl, sC_cond, rfl, rfl, rfl, rfl, rfl, rfl, rfl, rfl, rfl, rfl, rfl, rfl, rfl, rfl, rfl, rfl, sC_cond, rfl, rfl, rfl, rfl, rfl, rfl, rfl, rfl, rfl⟩
abbrev r72_0 : List MOper := [⟨(some 2), .alloc [.str [], .str [], .int .i64 0, .int .i64 0], none⟩,
  ⟨(some 3), .move (.c (.int .i64 0)), none⟩]
def b72_0 : SCode := .region r72_0
abbrev r72_1 : List MOper := [⟨(some 6), .move (.t 0), none⟩,
  ⟨(some 7), .build [.nilslice, .int .i64 0] [(0, 1, (.t 6))], none⟩,
  ⟨(some 8), .box (.t 7), none⟩,
  ⟨(some 4), .move (.t 8), none⟩]
def b72_1 : SCode := .region r72_1
abbrev r72_2 : List MOper := [⟨(some 9), .move (.t 4), none⟩,
  ⟨(some 10), .call 64 [(.t 9)], none⟩,
  ⟨(some 11), .move (.t 4), none⟩,
  ⟨(some 12), .call 64 [(.t 11)], none⟩,
  ⟨(some 13), .build [.str [], .str []] [(0, 1, (.t 10)), (1, 1, (.t 12))], none⟩,
  ⟨(some 14), .move (.t 4), none⟩,
  ⟨(some 15), .call 51 [(.t 14)], none⟩,
  ⟨(some 16), .move (.t 4), none⟩,
  ⟨(some 17), .call 51 [(.t 16)], none⟩,
  ⟨(some 18), .build [.str [], .str [], .int .i64 0, .int .i64 0] [(0, 2, (.t 13)), (2, 1, (.t 15)), (3, 1, (.t 17))], none⟩,
  ⟨(some 5), .alloc [.str [], .str [], .int .i64 0, .int .i64 0], none⟩,
  ⟨none, .store 4 (.t 5) (.t 18), none⟩]
def b72_2 : SCode := .region r72_2
abbrev t72_3 : LTree := (.quiet ⟨(some 19), .loadN 4 (.t 5), none⟩ 0
  (.quiet ⟨(some 20), .move (.t 4), none⟩ 1
  (.loud ⟨(some 21), .call 52 [(.t 20)], none⟩ [0]
  (.loud ⟨none, .store 4 (.t 2) (.t 19), none⟩ []
  (.quiet ⟨(some 3), .move (.t 21), none⟩ 4
  .leaf) .stop) .stop)))
def b72_3 : SCode := .draw t72_3
def b72_4 : SCode := .seq b72_3 .ret
def b72_5 : SCode := .seq b72_2 b72_4
def b72_6 : SCode := .seq b72_1 b72_5
def b72_7 : SCode := .seq b72_0 b72_6
def s72 : SFunc := ⟨22, [.cN 2 4, .t 3], b72_7⟩
theorem c72 : sFn Try.prog 72 = some s72 := by kernel_rfl
theorem Z72 : XR b72_0 r72_0 ∧ XR b72_1 r72_1 ∧ XR b72_2 r72_2 ∧ XT b72_3 t72_3 ∧ XS b72_4 b72_3 .ret ∧ XS b72_5 b72_2 b72_4 ∧ XS b72_6 b72_1 b72_5 ∧ XS b72_7 b72_0 b72_6 ∧ XY s72 22 b72_7 [.cN 2 4, .t 3] := ⟨rfl, rfl, rfl, rfl, rfl, rfl, rfl, rfl, rfl⟩
abbrev r73_0 : List MOper := [⟨(some 4), .move (.c (.nilslice)), none⟩,
  ⟨(some 5), .move (.c (.int .i64 0)), none⟩]
def b73_0 : SCode := .region r73_0
abbrev r73_1 : List MOper := [⟨(some 13), .move (.t 1), none⟩,
  ⟨(some 14), .bin .eql .nilf (.t 13) (.c (.nilfunc)), none⟩]
def b73_1 : SCode := .region r73_1
abbrev r73_2 : List MOper := [⟨(some 4), .move (.c (.nilslice)), none⟩,
  ⟨(some 5), .move (.c (.int .i64 1)), none⟩]
def b73_2 : SCode := .region r73_2
def b73_3 : SCode := .seq b73_2 .ret
def b73_4 : SCode := .cond (.t 14) b73_3 .skip
def b73_5 : SCode := .seq b73_1 b73_4
abbrev r73_6 : List MOper := [⟨(some 15), .move (.t 0), none⟩,
  ⟨(some 16), .build [.nilslice, .int .i64 0] [(0, 1, (.t 15))], none⟩,
  ⟨(some 17), .box (.t 16), none⟩,
  ⟨(some 6), .move (.t 17), none⟩]
def b73_6 : SCode := .region r73_6
abbrev r73_7 : List MOper := [⟨(some 7), .move (.c (.nilslice)), none⟩]
def b73_7 : SCode := .region r73_7
abbrev r73_8 : List MOper := [⟨(some 18), .move (.t 6), none⟩,
  ⟨(some 19), .call 51 [(.t 18)], none⟩,
  ⟨(some 8), .move (.t 19), none⟩]
def b73_8 : SCode := .region r73_8
abbrev r73_9 : List MOper := [⟨(some 20), .move (.t 8), none⟩,
  ⟨(some 21), .bin .gtr .num (.t 20) (.c (.int .i64 0)), none⟩,
  ⟨(some 22), .move (.t 21), none⟩,
  ⟨(some 23), .move (.t 6), (some (22, true))⟩,
  ⟨(some 24), .nilCheck (.t 23), (some (22, true))⟩,
  ⟨(some 25), .fieldAddr 1 (.t 24), (some (22, true))⟩,
  ⟨(some 26), .load1 (.t 25), (some (22, true))⟩,
  ⟨(some 27), .bin .eql .num (.t 26) (.c (.int .i64 0)), (some (22, true))⟩,
  ⟨(some 28), .pick (.t 22) (.t 27) (.c (.bool false)), none⟩]
def b73_9 : SCode := .region r73_9
def b73_10 : SCode := .cond (.t 28) .skip (.exit 0)
def b73_11 : SCode := .seq b73_9 b73_10
abbrev r73_12 : List MOper := [⟨(some 31), .move (.t 6), none⟩,
  ⟨(some 32), .call 64 [(.t 31)], none⟩,
  ⟨(some 9), .move (.t 32), none⟩]
def b73_12 : SCode := .region r73_12
abbrev r73_13 : List MOper := [⟨(some 33), .move (.t 6), none⟩,
  ⟨(some 34), .nilCheck (.t 33), none⟩,
  ⟨(some 35), .fieldAddr 1 (.t 34), none⟩,
  ⟨(some 36), .load1 (.t 35), none⟩,
  ⟨(some 37), .bin .neq .num (.t 36) (.c (.int .i64 0)), none⟩]
def b73_13 : SCode := .region r73_13
def b73_14 : SCode := .cond (.t 37) (.exit 0) .skip
def b73_15 : SCode := .seq b73_13 b73_14
abbrev r73_16 : List MOper := [⟨(some 39), .move (.t 1), none⟩,
  ⟨(some 40), .move (.t 9), none⟩,
  ⟨(some 41), .toBytes (.t 40), none⟩,
  ⟨(some 42), .callv (.t 39) [(.t 41)], none⟩,
  ⟨(some 38), .move (.t 42), none⟩,
  ⟨(some 43), .extract (.t 38) 0, none⟩,
  ⟨(some 44), .extract (.t 38) 1, none⟩,
  ⟨(some 10), .alloc [.str [], .str []], none⟩,
  ⟨none, .store 2 (.t 10) (.t 43), none⟩,
  ⟨(some 11), .move (.t 44), none⟩]
def b73_16 : SCode := .region r73_16
abbrev r73_17 : List MOper := [⟨(some 45), .move (.t 11), none⟩,
  ⟨(some 46), .bin .neq .num (.t 45) (.c (.int .i64 0)), none⟩]
def b73_17 : SCode := .region r73_17
abbrev r73_18 : List MOper := [⟨(some 47), .move (.t 11), none⟩,
  ⟨(some 4), .move (.c (.nilslice)), none⟩,
  ⟨(some 5), .move (.t 47), none⟩]
def b73_18 : SCode := .region r73_18
def b73_19 : SCode := .seq b73_18 .ret
def b73_20 : SCode := .cond (.t 46) b73_19 .skip
def b73_21 : SCode := .seq b73_17 b73_20
abbrev r73_22 : List MOper := [⟨(some 48), .move (.t 7), none⟩,
  ⟨(some 49), .loadN 2 (.t 10), none⟩,
  ⟨(some 50), .buildSlice [.str [], .str []] 2 1 [(0, 2, (.t 49))], none⟩,
  ⟨(some 51), .append 2 32 (.t 48) (.t 50), none⟩,
  ⟨(some 7), .move (.t 51), none⟩]
def b73_22 : SCode := .region r73_22
def b73_23 : SCode := .seq b73_21 b73_22
def b73_24 : SCode := .seq b73_16 b73_23
def b73_25 : SCode := .seq b73_15 b73_24
def b73_26 : SCode := .seq b73_12 b73_25
def b73_27 : SCode := .block 1 b73_26
abbrev r73_28 : List MOper := [⟨(some 29), .move (.t 8), none⟩,
  ⟨(some 30), .bin .sub .num (.t 29) (.c (.int .i64 1)), none⟩,
  ⟨(some 8), .move (.t 30), none⟩]
def b73_28 : SCode := .region r73_28
def b73_29 : SCode := .seq b73_27 b73_28
def b73_30 : SCode := .seq b73_11 b73_29
def b73_31 : SCode := .loop b73_30
def b73_32 : SCode := .block 0 b73_31
def b73_33 : SCode := .seq b73_8 b73_32
abbrev r73_34 : List MOper := [⟨(some 52), .move (.t 6), none⟩,
  ⟨(some 53), .call 52 [(.t 52)], none⟩,
  ⟨(some 12), .move (.t 53), none⟩]
def b73_34 : SCode := .region r73_34
abbrev r73_35 : List MOper := [⟨(some 54), .move (.t 12), none⟩,
  ⟨(some 55), .bin .neq .num (.t 54) (.c (.int .i64 0)), none⟩]
def b73_35 : SCode := .region r73_35
abbrev r73_36 : List MOper := [⟨(some 56), .move (.t 12), none⟩,
  ⟨(some 4), .move (.c (.nilslice)), none⟩,
  ⟨(some 5), .move (.t 56), none⟩]
def b73_36 : SCode := .region r73_36
def b73_37 : SCode := .seq b73_36 .ret
def b73_38 : SCode := .cond (.t 55) b73_37 .skip
def b73_39 : SCode := .seq b73_35 b73_38
def b73_40 : SCode := .seq b73_34 b73_39
abbrev r73_41 : List MOper := [⟨(some 57), .move (.t 7), none⟩,
  ⟨(some 4), .move (.t 57), none⟩,
  ⟨(some 5), .move (.c (.int .i64 0)), none⟩]
def b73_41 : SCode := .region r73_41
def b73_42 : SCode := .seq b73_41 .ret
def b73_43 : SCode := .seq b73_40 b73_42
def b73_44 : SCode := .seq b73_33 b73_43
def b73_45 : SCode := .seq b73_7 b73_44
def b73_46 : SCode := .seq b73_6 b73_45
def b73_47 : SCode := .seq b73_5 b73_46
def b73_48 : SCode := .seq b73_0 b73_47
def s73 : SFunc := ⟨58, [.t 4, .t 5], b73_48⟩
theorem c73 : sFn Try.prog 73 = some s73 := by kernel_rfl
theorem x73_40 : XS b73_40 b73_34 b73_39 := rfl
theorem x73_43 : XS b73_43 b73_40 b73_42 := rfl
theorem Z73 : XR b73_0 r73_0 ∧ XR b73_1 r73_1 ∧ XR b73_2 r73_2 ∧ XS b73_3 b73_2 .ret ∧ XC b73_4 (.t 14) b73_3 .skip ∧ XS b73_5 b73_1 b73_4 ∧ XR b73_6 r73_6 ∧ XR b73_7 r73_7 ∧ XR b73_8 r73_8 ∧ XR b73_9 r73_9 ∧ XC b73_10 (.t 28) .skip (.exit 0) ∧ XS b73_11 b73_9 b73_10 ∧ XR b73_12 r73_12 ∧ XR b73_13 r73_13 ∧ XC b73_14 (.t 37) (.exit 0) .skip ∧ XS b73_15 b73_13 b73_14 ∧ XR b73_16 r73_16 ∧ XR b73_17 r73_17 ∧ XR b73_18 r73_18 ∧ XS b73_19 b73_18 .ret ∧ XC b73_20 (.t 46) b73_19 .skip ∧ XS b73_21 b73_17 b73_20 ∧ XR b73_22 r73_22 ∧ XS b73_23 b73_21 b73_22 ∧ XS b73_24 b73_16 b73_23 ∧ XS b73_25 b73_15 b73_24 ∧ XS b73_26 b73_12 b73_25 ∧ XB b73_27 1 b73_26 ∧ XR b73_28 r73_28 ∧ XS b73_29 b73_27 b73_28 ∧ XS b73_30 b73_11 b73_29 ∧ XB b73_32 0 b73_31 ∧ XS b73_33 b73_8 b73_32 ∧ XR b73_34 r73_34 ∧ XR b73_35 r73_35 ∧ XR b73_36 r73_36 ∧ XS b73_37 b73_36 .ret ∧ XC b73_38 (.t 55) b73_37 .skip ∧ XS b73_39 b73_35 b73_38 ∧ XR b73_41 r73_41 ∧ XS b73_42 b73_41 .ret ∧ XS b73_44 b73_33 b73_43 ∧ XS b73_45 b73_7 b73_44 ∧ XS b73_46 b73_6 b73_45 ∧ XS b73_47 b73_5 b73_46 ∧ XS b73_48 b73_0 b73_47 ∧ XY s73 58 b73_48 [.t 4, .t 5] := ⟨rfl, rfl, rfl, rfl, sC_cond, rfl, rfl, rfl, rfl, rfl, sC_cond, rfl, rfl, rfl, sC_cond, rfl, rfl, rfl, rfl, rfl, sC_cond, rfl, rfl, rfl, rfl, rfl, rfl, rfl, rfl, rfl, rfl, rfl, rfl, rfl, rfl, rfl, rfl, sC_cond, rfl, rfl, rfl, rfl, rfl, rfl, rfl, rfl, rfl⟩
abbrev r74_0 : List MOper := [⟨(some 2), .alloc [.str [], .str []], none⟩,
  ⟨(some 3), .move (.c (.int .i64 0)), none⟩]
def b74_0 : SCode := .region r74_0
abbrev r74_1 : List MOper := [⟨(some 6), .move (.t 0), none⟩,
  ⟨(some 7), .build [.nilslice, .int .i64 0] [(0, 1, (.t 6))], none⟩,
  ⟨(some 8), .box (.t 7), none⟩,
  ⟨(some 4), .move (.t 8), none⟩]
def b74_1 : SCode := .region r74_1
abbrev r74_2 : List MOper := [⟨(some 9), .move (.t 4), none⟩,
  ⟨(some 10), .call 64 [(.t 9)], none⟩,
  ⟨(some 11), .move (.t 4), none⟩,
  ⟨(some 12), .call 64 [(.t 11)], none⟩,
  ⟨(some 13), .build [.str [], .str []] [(0, 1, (.t 10)), (1, 1, (.t 12))], none⟩,
  ⟨(some 5), .alloc [.str [], .str []], none⟩,
  ⟨none, .store 2 (.t 5) (.t 13), none⟩]
def b74_2 : SCode := .region r74_2
abbrev t74_3 : LTree := (.quiet ⟨(some 14), .loadN 2 (.t 5), none⟩ 0
  (.quiet ⟨(some 15), .move (.t 4), none⟩ 1
  (.loud ⟨(some 16), .call 52 [(.t 15)], none⟩ [0]
  (.loud ⟨none, .store 2 (.t 2) (.t 14), none⟩ []
  (.quiet ⟨(some 3), .move (.t 16), none⟩ 4
  .leaf) .stop) .stop)))
def b74_3 : SCode := .draw t74_3
def b74_4 : SCode := .seq b74_3 .ret
def b74_5 : SCode := .seq b74_2 b74_4
def b74_6 : SCode := .seq b74_1 b74_5
def b74_7 : SCode := .seq b74_0 b74_6
def s74 : SFunc := ⟨17, [.cN 2 2, .t 3], b74_7⟩
theorem c74 : sFn Try.prog 74 = some s74 := by kernel_rfl
theorem Z74 : XR b74_0 r74_0 ∧ XR b74_1 r74_1 ∧ XR b74_2 r74_2 ∧ XT b74_3 t74_3 ∧ XS b74_4 b74_3 .ret ∧ XS b74_5 b74_2 b74_4 ∧ XS b74_6 b74_1 b74_5 ∧ XS b74_7 b74_0 b74_6 ∧ XY s74 17 b74_7 [.cN 2 2, .t 3] := ⟨rfl, rfl, rfl, rfl, rfl, rfl, rfl, rfl, rfl⟩
abbrev r75_0 : List MOper := [⟨(some 4), .move (.c (.nilslice)), none⟩,
  ⟨(some 5), .move (.c (.int .i64 0)), none⟩]
def b75_0 : SCode := .region r75_0
abbrev r75_1 : List MOper := [⟨(some 13), .move (.t 1), none⟩,
  ⟨(some 14), .bin .eql .nilf (.t 13) (.c (.nilfunc)), none⟩]
def b75_1 : SCode := .region r75_1
abbrev r75_2 : List MOper := [⟨(some 4), .move (.c (.nilslice)), none⟩,
  ⟨(some 5), .move (.c (.int .i64 1)), none⟩]
def b75_2 : SCode := .region r75_2
def b75_3 : SCode := .seq b75_2 .ret
def b75_4 : SCode := .cond (.t 14) b75_3 .skip
def b75_5 : SCode := .seq b75_1 b75_4
abbrev r75_6 : List MOper := [⟨(some 15), .move (.t 0), none⟩,
  ⟨(some 16), .build [.nilslice, .int .i64 0] [(0, 1, (.t 15))], none⟩,
  ⟨(some 17), .box (.t 16), none⟩,
  ⟨(some 6), .move (.t 17), none⟩]
def b75_6 : SCode := .region r75_6
abbrev r75_7 : List MOper := [⟨(some 7), .move (.c (.nilslice)), none⟩]
def b75_7 : SCode := .region r75_7
abbrev r75_8 : List MOper := [⟨(some 18), .move (.t 6), none⟩,
  ⟨(some 19), .call 51 [(.t 18)], none⟩,
  ⟨(some 8), .move (.t 19), none⟩]
def b75_8 : SCode := .region r75_8
abbrev r75_9 : List MOper := [⟨(some 20), .move (.t 8), none⟩,
  ⟨(some 21), .bin .gtr .num (.t 20) (.c (.int .i64 0)), none⟩,
  ⟨(some 22), .move (.t 21), none⟩,
  ⟨(some 23), .move (.t 6), (some (22, true))⟩,
  ⟨(some 24), .nilCheck (.t 23), (some (22, true))⟩,
  ⟨(some 25), .fieldAddr 1 (.t 24), (some (22, true))⟩,
  ⟨(some 26), .load1 (.t 25), (some (22, true))⟩,
  ⟨(some 27), .bin .eql .num (.t 26) (.c (.int .i64 0)), (some (22, true))⟩,
  ⟨(some 28), .pick (.t 22) (.t 27) (.c (.bool false)), none⟩]
def b75_9 : SCode := .region r75_9
def b75_10 : SCode := .cond (.t 28) .skip (.exit 0)
def b75_11 : SCode := .seq b75_9 b75_10
abbrev r75_12 : List MOper := [⟨(some 31), .move (.t 6), none⟩,
  ⟨(some 32), .call 64 [(.t 31)], none⟩,
  ⟨(some 9), .move (.t 32), none⟩]
def b75_12 : SCode := .region r75_12
abbrev r75_13 : List MOper := [⟨(some 33), .move (.t 6), none⟩,
  ⟨(some 34), .nilCheck (.t 33), none⟩,
  ⟨(some 35), .fieldAddr 1 (.t 34), none⟩,
  ⟨(some 36), .load1 (.t 35), none⟩,
  ⟨(some 37), .bin .neq .num (.t 36) (.c (.int .i64 0)), none⟩]
def b75_13 : SCode := .region r75_13
def b75_14 : SCode := .cond (.t 37) (.exit 0) .skip
def b75_15 : SCode := .seq b75_13 b75_14
abbrev r75_16 : List MOper := [⟨(some 39), .move (.t 1), none⟩,
  ⟨(some 40), .move (.t 9), none⟩,
  ⟨(some 41), .toBytes (.t 40), none⟩,
  ⟨(some 42), .callv (.t 39) [(.t 41)], none⟩,
  ⟨(some 38), .move (.t 42), none⟩,
  ⟨(some 43), .extract (.t 38) 0, none⟩,
  ⟨(some 44), .extract (.t 38) 1, none⟩,
  ⟨(some 10), .alloc [.int .i64 0, .int .i64 0, .int .i64 0, .int .i64 0, .bool false, .str [], .nilslice, .str [], .bool false], none⟩,
  ⟨none, .store 9 (.t 10) (.t 43), none⟩,
  ⟨(some 11), .move (.t 44), none⟩]
def b75_16 : SCode := .region r75_16
abbrev r75_17 : List MOper := [⟨(some 45), .move (.t 11), none⟩,
  ⟨(some 46), .bin .neq .num (.t 45) (.c (.int .i64 0)), none⟩]
def b75_17 : SCode := .region r75_17
abbrev r75_18 : List MOper := [⟨(some 47), .move (.t 11), none⟩,
  ⟨(some 4), .move (.c (.nilslice)), none⟩,
  ⟨(some 5), .move (.t 47), none⟩]
def b75_18 : SCode := .region r75_18
def b75_19 : SCode := .seq b75_18 .ret
def b75_20 : SCode := .cond (.t 46) b75_19 .skip
def b75_21 : SCode := .seq b75_17 b75_20
abbrev r75_22 : List MOper := [⟨(some 48), .move (.t 7), none⟩,
  ⟨(some 49), .loadN 9 (.t 10), none⟩,
  ⟨(some 50), .buildSlice [.int .i64 0, .int .i64 0, .int .i64 0, .int .i64 0, .bool false, .str [], .nilslice, .str [], .bool false] 9 1 [(0, 9, (.t 49))], none⟩,
  ⟨(some 51), .append 9 104 (.t 48) (.t 50), none⟩,
  ⟨(some 7), .move (.t 51), none⟩]
def b75_22 : SCode := .region r75_22
def b75_23 : SCode := .seq b75_21 b75_22
def b75_24 : SCode := .seq b75_16 b75_23
def b75_25 : SCode := .seq b75_15 b75_24
def b75_26 : SCode := .seq b75_12 b75_25
def b75_27 : SCode := .block 1 b75_26
abbrev r75_28 : List MOper := [⟨(some 29), .move (.t 8), none⟩,
  ⟨(some 30), .bin .sub .num (.t 29) (.c (.int .i64 1)), none⟩,
  ⟨(some 8), .move (.t 30), none⟩]
def b75_28 : SCode := .region r75_28
def b75_29 : SCode := .seq b75_27 b75_28
def b75_30 : SCode := .seq b75_11 b75_29
def b75_31 : SCode := .loop b75_30
def b75_32 : SCode := .block 0 b75_31
def b75_33 : SCode := .seq b75_8 b75_32
abbrev r75_34 : List MOper := [⟨(some 52), .move (.t 6), none⟩,
  ⟨(some 53), .call 52 [(.t 52)], none⟩,
  ⟨(some 12), .move (.t 53), none⟩]
def b75_34 : SCode := .region r75_34
abbrev r75_35 : List MOper := [⟨(some 54), .move (.t 12), none⟩,
  ⟨(some 55), .bin .neq .num (.t 54) (.c (.int .i64 0)), none⟩]
def b75_35 : SCode := .region r75_35
abbrev r75_36 : List MOper := [⟨(some 56), .move (.t 12), none⟩,
  ⟨(some 4), .move (.c (.nilslice)), none⟩,
  ⟨(some 5), .move (.t 56), none⟩]
def b75_36 : SCode := .region r75_36
def b75_37 : SCode := .seq b75_36 .ret
def b75_38 : SCode := .cond (.t 55) b75_37 .skip
def b75_39 : SCode := .seq b75_35 b75_38
def b75_40 : SCode := .seq b75_34 b75_39
abbrev r75_41 : List MOper := [⟨(some 57), .move (.t 7), none⟩,
  ⟨(some 4), .move (.t 57), none⟩,
  ⟨(some 5), .move (.c (.int .i64 0)), none⟩]
def b75_41 : SCode := .region r75_41
def b75_42 : SCode := .seq b75_41 .ret
def b75_43 : SCode := .seq b75_40 b75_42
def b75_44 : SCode := .seq b75_33 b75_43
def b75_45 : SCode := .seq b75_7 b75_44
def b75_46 : SCode := .seq b75_6 b75_45
def b75_47 : SCode := .seq b75_5 b75_46
def b75_48 : SCode := .seq b75_0 b75_47
def s75 : SFunc := ⟨58, [.t 4, .t 5], b75_48⟩
theorem c75 : sFn Try.prog 75 = some s75 := by kernel_rfl
theorem x75_40 : XS b75_40 b75_34 b75_39 := rfl
theorem x75_43 : XS b75_43 b75_40 b75_42 := rfl
theorem Z75 : XR b75_0 r75_0 ∧ XR b75_1 r75_1 ∧ XR b75_2 r75_2 ∧ XS b75_3 b75_2 .ret ∧ XC b75_4 (.t 14) b75_3 .skip ∧ XS b75_5 b75_1 b75_4 ∧ XR b75_6 r75_6 ∧ XR b75_7 r75_7 ∧ XR b75_8 r75_8 ∧ XR b75_9 r75_9 ∧ XC b75_10 (.t 28) .skip (.exit 0) ∧ XS b75_11 b75_9 b75_10 ∧ XR b75_12 r75_12 ∧ XR b75_13 r75_13 ∧ XC b75_14 (.t 37) (.exit 0) .skip ∧ XS b75_15 b75_13 b75_14 ∧ XR b75_16 r75_16 ∧ XR b75_17 r75_17 ∧ XR b75_18 r75_18 ∧ XS b75_19 b75_18 .ret ∧ XC b75_20 (.t 46) b75_19 .skip ∧ XS b75_21 b75_17 b75_20 ∧ XR b75_22 r75_22 ∧ XS b75_23 b75_21 b75_22 ∧ XS b75_24 b75_16 b75_23 ∧ XS b75_25 b75_15 b75_24 ∧ XS b75_26 b75_12 b75_25 ∧ XB b75_27 1 b75_26 ∧ XR b75_28 r75_28 ∧ XS b75_29 b75_27 b75_28 ∧ XS b75_30 b75_11 b75_29 ∧ XB b75_32 0 b75_31 ∧ XS b75_33 b75_8 b75_32 ∧ XR b75_34 r75_34 ∧ XR b75_35 r75_35 ∧ XR b75_36 r75_36 ∧ XS b75_37 b75_36 .ret ∧ XC b75_38 (.t 55) b75_37 .skip ∧ XS b75_39 b75_35 b75_38 ∧ XR b75_41 r75_41 ∧ XS b75_42 b75_41 .ret ∧ XS b75_44 b75_33 b75_43 ∧ XS b75_45 b75_7 b75_44 ∧ XS b75_46 b75_6 b75_45 ∧ XS b75_47 b75_5 b75_46 ∧ XS b75_48 b75_0 b75_47 ∧ XY s75 58 b75_48 [.t 4, .t 5] := ⟨rfl, rfl, rfl, rfl, sC_cond, rfl, rfl, rfl, rfl, rfl, sC_cond, rfl, rfl, rfl, sC_cond, rfl, rfl, rfl, rfl, rfl, sC_cond, rfl, rfl, rfl, rfl, rfl, rfl, rfl, rfl, rfl, rfl, rfl, rfl, rfl, rfl, rfl, rfl, sC_cond, rfl, rfl, rfl, rfl, rfl, rfl, rfl, rfl, rfl⟩
abbrev r76_0 : List MOper := [⟨(some 2), .alloc [.int .i64 0, .int .i64 0, .int .i64 0, .int .i64 0, .bool false, .str [], .nilslice, .str [], .bool false], none⟩,
  ⟨(some 3), .move (.c (.int .i64 0)), none⟩]
def b76_0 : SCode := .region r76_0
abbrev r76_1 : List MOper := [⟨(some 9), .move (.t 0), none⟩,
  ⟨(some 10), .build [.nilslice, .int .i64 0] [(0, 1, (.t 9))], none⟩,
  ⟨(some 11), .box (.t 10), none⟩,
  ⟨(some 4), .move (.t 11), none⟩]
def b76_1 : SCode := .region r76_1
abbrev r76_2 : List MOper := [⟨(some 12), .move (.t 4), none⟩,
  ⟨(some 13), .call 51 [(.t 12)], none⟩,
  ⟨(some 14), .build [.int .i64 0, .int .i64 0, .int .i64 0, .int .i64 0, .bool false, .str [], .nilslice, .str [], .bool false] [(0, 1, (.t 13))], none⟩,
  ⟨(some 5), .alloc [.int .i64 0, .int .i64 0, .int .i64 0, .int .i64 0, .bool false, .str [], .nilslice, .str [], .bool false], none⟩,
  ⟨none, .store 9 (.t 5) (.t 14), none⟩]
def b76_2 : SCode := .region r76_2
abbrev r76_3 : List MOper := [⟨(some 15), .move (.t 4), none⟩,
  ⟨(some 16), .call 64 [(.t 15)], none⟩,
  ⟨(some 6), .move (.t 16), none⟩]
def b76_3 : SCode := .region r76_3
abbrev r76_4 : List MOper := [⟨(some 17), .move (.t 4), none⟩,
  ⟨(some 18), .call 52 [(.t 17)], none⟩,
  ⟨(some 7), .move (.t 18), none⟩]
def b76_4 : SCode := .region r76_4
abbrev r76_5 : List MOper := [⟨(some 19), .move (.t 7), none⟩,
  ⟨(some 20), .bin .neq .num (.t 19) (.c (.int .i64 0)), none⟩]
def b76_5 : SCode := .region r76_5
abbrev r76_6 : List MOper := [⟨(some 21), .build [.int .i64 0, .int .i64 0, .int .i64 0, .int .i64 0, .bool false, .str [], .nilslice, .str [], .bool false] [], none⟩,
  ⟨(some 22), .move (.t 7), none⟩,
  ⟨none, .store 9 (.t 2) (.t 21), none⟩,
  ⟨(some 3), .move (.t 22), none⟩]
def b76_6 : SCode := .region r76_6
def b76_7 : SCode := .seq b76_6 .ret
def b76_8 : SCode := .cond (.t 20) b76_7 .skip
def b76_9 : SCode := .seq b76_5 b76_8
def b76_10 : SCode := .seq b76_4 b76_9
abbrev r76_11 : List MOper := [⟨(some 8), .move (.c (.int .i64 0)), none⟩]
def b76_11 : SCode := .region r76_11
abbrev r76_12 : List MOper := [⟨(some 24), .move (.t 6), none⟩,
  ⟨(some 25), .toBytes (.t 24), none⟩,
  ⟨(some 26), .call 65 [(.t 25)], none⟩,
  ⟨(some 23), .move (.t 26), none⟩,
  ⟨(some 27), .extract (.t 23) 0, none⟩,
  ⟨(some 28), .extract (.t 23) 1, none⟩,
  ⟨(some 29), .fieldAddr 1 (.t 5), none⟩,
  ⟨none, .store 8 (.t 29) (.t 27), none⟩,
  ⟨(some 8), .move (.t 28), none⟩]
def b76_12 : SCode := .region r76_12
abbrev r76_13 : List MOper := [⟨(some 30), .loadN 9 (.t 5), none⟩,
  ⟨(some 31), .move (.t 8), none⟩,
  ⟨none, .store 9 (.t 2) (.t 30), none⟩,
  ⟨(some 3), .move (.t 31), none⟩]
def b76_13 : SCode := .region r76_13
def b76_14 : SCode := .seq b76_13 .ret
def b76_15 : SCode := .seq b76_12 b76_14
def b76_16 : SCode := .seq b76_11 b76_15
def b76_17 : SCode := .seq b76_10 b76_16
def b76_18 : SCode := .seq b76_3 b76_17
def b76_19 : SCode := .seq b76_2 b76_18
def b76_20 : SCode := .seq b76_1 b76_19
def b76_21 : SCode := .seq b76_0 b76_20
def s76 : SFunc := ⟨32, [.cN 2 9, .t 3], b76_21⟩
theorem c76 : sFn Try.prog 76 = some s76 := by kernel_rfl
theorem Z76 : XR b76_0 r76_0 ∧ XR b76_1 r76_1 ∧ XR b76_2 r76_2 ∧ XR b76_3 r76_3 ∧ XR b76_4 r76_4 ∧ XR b76_5 r76_5 ∧ XR b76_6 r76_6 ∧ XS b76_7 b76_6 .ret ∧ XC b76_8 (.t 20) b76_7 .skip ∧ XS b76_9 b76_5 b76_8 ∧ XS b76_10 b76_4 b76_9 ∧ XR b76_11 r76_11 ∧ XR b76_12 r76_12 ∧ XR b76_13 r76_13 ∧ XS b76_14 b76_13 .ret ∧ XS b76_15 b76_12 b76_14 ∧ XS b76_16 b76_11 b76_15 ∧ XS b76_17 b76_10 b76_16 ∧ XS b76_18 b76_3 b76_17 ∧ XS b76_19 b76_2 b76_18 ∧ XS b76_20 b76_1 b76_19 ∧ XS b76_21 b76_0 b76_20 ∧ XY s76 32 b76_21 [.cN 2 9, .t 3] := ⟨rfl, rfl, rfl, rfl, rfl, rfl, rfl, rfl, sC_cond, rfl, rfl, rfl, rfl, rfl, rfl, rfl, rfl, rfl, rfl, rfl, rfl, rfl, rfl⟩

end
set_option maxHeartbeats 4000000
set_option maxRecDepth 10000
theorem given_bytes {σ : AHeap} {d : Nat} {bs : List UInt8} (h : hget σ d = some (bs.map byteAV)) : Given σ d (.slice d 0 bs.length none 1) (.imm (rws bs) false false) := by
  refine .inr (.inr ⟨0, bs.length, none, 1, _, rws bs, rfl, rfl, h, ?_, by simp [rws], ?_, rws_pure bs⟩)
  · unfold rws
    rw [rows_flat, Nat.mul_one]
    exact sub_all (by simp)
  · intro r hr
    obtain ⟨b, _, rfl⟩ := List.mem_map.1 hr
    rfl
theorem give_bytes {f : FuncId} {bs : List UInt8} {σ : AHeap} {d : Nat} {Q : AV → Prop} (hd : hget σ d = some (bs.map byteAV)) (h : Tri Try.prog f [.imm (rws bs) false false] [] fun r _ => r.pure = true ∧ Q r) :
    Tri Try.prog f [.slice d 0 bs.length none 1] σ fun r σ' => Q r ∧ σ' = hkill σ d := Tri.give (args := [.slice d 0 bs.length none 1]) (args1 := [.imm (rws bs) false false]) d rfl (given1 (given_bytes hd)) h
theorem give_bytes2 {f : FuncId} {bs : List UInt8} {σ : AHeap} {d : Nat} {y : AV} {Q : AV → Prop} (hd : hget σ d = some (bs.map byteAV)) (hy : y.pure = true) (h : Tri Try.prog f [.imm (rws bs) false false, y] [] fun r _ => r.pure = true ∧ Q r) :
    Tri Try.prog f [.slice d 0 bs.length none 1, y] σ fun r σ' => Q r ∧ σ' = hkill σ d := Tri.give (args := [.slice d 0 bs.length none 1, y]) (args1 := [.imm (rws bs) false false, y]) d rfl (given2 (given_bytes hd) (.inl ⟨rfl, hy⟩)) h
theorem Fr1.kill {σ : AHeap} {c : List AV} {id : Nat} : Fr1 σ (hkill (hpush σ c) σ.length) id := fun j d hj _ => by
  have := hget_lt hj
  rw [kill_other (by omega)]; exact push_old hj
theorem Fr1.get {σ σ' : AHeap} {id : Nat} {rem : List UInt8} {e : Int} (h : ∀ j c, hget σ j = some c → hget σ' j = some c) (hr : RdS σ id rem e) : RdS σ' id rem e := by
  obtain ⟨f, nn, hg⟩ := hr
  exact ⟨f, nn, h _ _ hg⟩
/-! One item. -/
def ShV.zero : ShV := ⟨[], [], 0, 0⟩
def LaV.zero : LaV := ⟨0, RepV.zero⟩
def ansRec (p : (List UInt8 × List UInt8) × Int) : AV := .tuple [.agg (recC p.1), .int .i64 p.2]
def ansSh (p : ShV × Int) : AV := .tuple [.agg p.1.cells, .int .i64 p.2]
def ansLa (p : LaV × Int) : AV := .tuple [.agg p.1.cells, .int .i64 p.2]
theorem ansRec_pure (p : (List UInt8 × List UInt8) × Int) : (ansRec p).pure = true := rfl
theorem ansSh_pure (p : ShV × Int) : (ansSh p).pure = true := rfl
theorem la_pure (l : LaV) : (AV.agg l.cells).pure = true := by have := rep_pure l.rep; simp only [AV.pure] at this; simp only [AV.pure, LaV.cells, pureL, this, Bool.and_self]
theorem ansLa_pure (p : LaV × Int) : (ansLa p).pure = true := by have := la_pure p.1; simp only [AV.pure] at this; simp only [ansLa, AV.pure, pureL, this, Bool.and_self]
def unrecG (s0 s1 s2 : St) : (List UInt8 × List UInt8) × Int := ((vT s0, vT s1), rdEnd s2.1 s2.2)
def unrec (bs : List UInt8) : (List UInt8 × List UInt8) × Int := unrecG (bs, 0) (stT (bs, 0)) (stT (stT (bs, 0)))
theorem unrecord_ok (bs : List UInt8) : Tri Try.prog 74 [.imm (rws bs) false false] [] fun r _ => r.pure = true ∧ r = ansRec (unrec bs) := by
  refine Tri.frozen (Q := fun r _ => r = ansRec (unrec bs)) (Tri.of_s c74 F3_sound ?_) (fun r σ hr => ⟨r, .pure (by rw [hr]; exact ansRec_pure _), by rw [hr]; exact ansRec_pure _, hr⟩)
  generalize hK : (fun (r : AV) (_ : AHeap) => r = ansRec (unrec bs)) = K
  have hK : ∀ σ, K (ansRec (unrec bs)) σ := by intro σ; rw [← hK]
  simp only [F3_app, Z74, base1, baseE, ↓reduceIte, Nat.reduceAdd, Nat.reduceSub, Nat.reduceMul, Nat.reduceEqDiff, Nat.reduceLeDiff, Nat.reduceLT, Int.reduceLT, Int.reduceLE, Int.reduceEq, Int.reduceNe, Int.reduceToNat, Int.reduceAdd, Int.reduceSub, reduceCtorEq, Nat.reduceBEq, Nat.reduceBNe]
  refine ⟨1, bs, 0, rfl, ⟨false, false, rfl⟩, fun σ1 r1 f1 => ?_⟩
  have b1 := f1 0 _ rfl (by decide)
  have r1 : RdS σ1 1 (stT (bs, 0)).1 (stT (bs, 0)).2 := r1
  unfold unrec at hK
  have v0 : (rdText bs 0).1 = vT (bs, 0) := rfl
  rw [v0]
  generalize stT (bs, 0) = s1 at r1 hK ⊢
  generalize ((bs, 0) : St) = s0 at hK ⊢
  simp only [F3_app, Z74, base1, baseE, ↓reduceIte, Nat.reduceAdd, Nat.reduceSub, Nat.reduceMul, Nat.reduceEqDiff, Nat.reduceLeDiff, Nat.reduceLT, Int.reduceLT, Int.reduceLE, Int.reduceEq, Int.reduceNe, Int.reduceToNat, Int.reduceAdd, Int.reduceSub, reduceCtorEq, Nat.reduceBEq, Nat.reduceBNe]
  refine ⟨1, _, _, rfl, r1, fun σ2 r2 f2 => ?_⟩
  have b2 := f2 0 _ b1 (by decide)
  have r2 : RdS σ2 1 (stT s1).1 (stT s1).2 := r2
  generalize stT s1 = s2 at r2 hK ⊢
  have v1 : (rdText s1.1 s1.2).1 = vT s1 := rfl
  rw [v1]
  have l2 : 1 < σ2.length := by obtain ⟨f, nn, hg⟩ := r2; exact hget_lt hg
  have pn : ∀ c : List AV, hget (hpush σ2 c) σ2.length = some c := fun c => push_new rfl
  have sn : ∀ c c' : List AV, hget (hset (hpush σ2 c) σ2.length c') σ2.length = some c' := fun c c' => set_same (pn c)
  simp only [F3_app, Z74, base1, baseE, ↓reduceIte, Nat.reduceAdd, Nat.reduceSub, Nat.reduceMul, Nat.reduceEqDiff, Nat.reduceLeDiff, Nat.reduceLT, Int.reduceLT, Int.reduceLE, Int.reduceEq, Int.reduceNe, Int.reduceToNat, Int.reduceAdd, Int.reduceSub, reduceCtorEq, Nat.reduceBEq, Nat.reduceBNe, pn, sn]
  refine ⟨1, s2.1, s2.2, rfl, rd_alloc r2, fun σ3 f3 => ?_⟩
  have b3 := f3 0 _ (al_frame b2) (by decide)
  have c3 := f3 σ2.length _ (sn _ _) (by omega)
  have s0' : ∀ (d : List AV), hget (hset σ3 0 d) 0 = some d := fun d => set_same b3
  unfold unrecG at hK
  simp only [F3_app, Z74, base1, baseE, ↓reduceIte, Nat.reduceAdd, Nat.reduceSub, Nat.reduceMul, Nat.reduceEqDiff, Nat.reduceLeDiff, Nat.reduceLT, Int.reduceLT, Int.reduceLE, Int.reduceEq, Int.reduceNe, Int.reduceToNat, Int.reduceAdd, Int.reduceSub, reduceCtorEq, Nat.reduceBEq, Nat.reduceBNe, b3, c3, s0']
  exact hK _
def unshG (s0 s1 s2 s3 s4 : St) : ShV × Int := (⟨vT s0, vT s1, vN s2, vN s3⟩, rdEnd s4.1 s4.2)
def unsh (bs : List UInt8) : ShV × Int := unshG (bs, 0) (stT (bs, 0)) (stT (stT (bs, 0))) (stN (stT (stT (bs, 0)))) (stN (stN (stT (stT (bs, 0)))))
theorem unshard_ok (bs : List UInt8) : Tri Try.prog 72 [.imm (rws bs) false false] [] fun r _ => r.pure = true ∧ r = ansSh (unsh bs) := by
  refine Tri.frozen (Q := fun r _ => r = ansSh (unsh bs)) (Tri.of_s c72 F3_sound ?_) (fun r σ hr => ⟨r, .pure (by rw [hr]; exact ansSh_pure _), by rw [hr]; exact ansSh_pure _, hr⟩)
  generalize hK : (fun (r : AV) (_ : AHeap) => r = ansSh (unsh bs)) = K
  have hK : ∀ σ, K (ansSh (unsh bs)) σ := by intro σ; rw [← hK]
  simp only [F3_app, Z72, base1, baseE, ↓reduceIte, Nat.reduceAdd, Nat.reduceSub, Nat.reduceMul, Nat.reduceEqDiff, Nat.reduceLeDiff, Nat.reduceLT, Int.reduceLT, Int.reduceLE, Int.reduceEq, Int.reduceNe, Int.reduceToNat, Int.reduceAdd, Int.reduceSub, reduceCtorEq, Nat.reduceBEq, Nat.reduceBNe]
  refine ⟨1, bs, 0, rfl, ⟨false, false, rfl⟩, fun σ1 r1 f1 => ?_⟩
  have b1 := f1 0 _ rfl (by decide)
  have r1 : RdS σ1 1 (stT (bs, 0)).1 (stT (bs, 0)).2 := r1
  unfold unsh at hK
  have v0 : (rdText bs 0).1 = vT (bs, 0) := rfl
  rw [v0]
  generalize stT (bs, 0) = s1 at r1 hK ⊢
  generalize ((bs, 0) : St) = s0 at hK ⊢
  simp only [F3_app, Z72, base1, baseE, ↓reduceIte, Nat.reduceAdd, Nat.reduceSub, Nat.reduceMul, Nat.reduceEqDiff, Nat.reduceLeDiff, Nat.reduceLT, Int.reduceLT, Int.reduceLE, Int.reduceEq, Int.reduceNe, Int.reduceToNat, Int.reduceAdd, Int.reduceSub, reduceCtorEq, Nat.reduceBEq, Nat.reduceBNe]
  refine ⟨1, _, _, rfl, r1, fun σ2 r2 f2 => ?_⟩
  have b2 := f2 0 _ b1 (by decide)
  have r2 : RdS σ2 1 (stT s1).1 (stT s1).2 := r2
  generalize stT s1 = s2 at r2 hK ⊢
  have v1 : (rdText s1.1 s1.2).1 = vT s1 := rfl
  rw [v1]
  simp only [F3_app, Z72, base1, baseE, ↓reduceIte, Nat.reduceAdd, Nat.reduceSub, Nat.reduceMul, Nat.reduceEqDiff, Nat.reduceLeDiff, Nat.reduceLT, Int.reduceLT, Int.reduceLE, Int.reduceEq, Int.reduceNe, Int.reduceToNat, Int.reduceAdd, Int.reduceSub, reduceCtorEq, Nat.reduceBEq, Nat.reduceBNe]
  refine ⟨1, _, _, rfl, r2, fun σ3 r3 f3 => ?_⟩
  have b3 := f3 0 _ b2 (by decide)
  have r3 : RdS σ3 1 (stN s2).1 (stN s2).2 := r3
  generalize stN s2 = s3 at r3 hK ⊢
  have v2 : (rdNum s2.1 s2.2).1 = vN s2 := rfl
  rw [v2]
  simp only [F3_app, Z72, base1, baseE, ↓reduceIte, Nat.reduceAdd, Nat.reduceSub, Nat.reduceMul, Nat.reduceEqDiff, Nat.reduceLeDiff, Nat.reduceLT, Int.reduceLT, Int.reduceLE, Int.reduceEq, Int.reduceNe, Int.reduceToNat, Int.reduceAdd, Int.reduceSub, reduceCtorEq, Nat.reduceBEq, Nat.reduceBNe]
  refine ⟨1, _, _, rfl, r3, fun σ4 r4 f4 => ?_⟩
  have b4 := f4 0 _ b3 (by decide)
  have r4 : RdS σ4 1 (stN s3).1 (stN s3).2 := r4
  generalize stN s3 = s4 at r4 hK ⊢
  have v3 : (rdNum s3.1 s3.2).1 = vN s3 := rfl
  rw [v3]
  have l4 : 1 < σ4.length := by obtain ⟨f, nn, hg⟩ := r4; exact hget_lt hg
  have pn : ∀ c : List AV, hget (hpush σ4 c) σ4.length = some c := fun c => push_new rfl
  have sn : ∀ c c' : List AV, hget (hset (hpush σ4 c) σ4.length c') σ4.length = some c' := fun c c' => set_same (pn c)
  simp only [F3_app, Z72, base1, baseE, ↓reduceIte, Nat.reduceAdd, Nat.reduceSub, Nat.reduceMul, Nat.reduceEqDiff, Nat.reduceLeDiff, Nat.reduceLT, Int.reduceLT, Int.reduceLE, Int.reduceEq, Int.reduceNe, Int.reduceToNat, Int.reduceAdd, Int.reduceSub, reduceCtorEq, Nat.reduceBEq, Nat.reduceBNe, pn, sn]
  refine ⟨1, s4.1, s4.2, rfl, rd_alloc r4, fun σ5 f5 => ?_⟩
  have b5 := f5 0 _ (al_frame b4) (by decide)
  have c5 := f5 σ4.length _ (sn _ _) (by omega)
  have s0' : ∀ (d : List AV), hget (hset σ5 0 d) 0 = some d := fun d => set_same b5
  unfold unshG at hK
  simp only [F3_app, Z72, base1, baseE, ↓reduceIte, Nat.reduceAdd, Nat.reduceSub, Nat.reduceMul, Nat.reduceEqDiff, Nat.reduceLeDiff, Nat.reduceLT, Int.reduceLT, Int.reduceLE, Int.reduceEq, Int.reduceNe, Int.reduceToNat, Int.reduceAdd, Int.reduceSub, reduceCtorEq, Nat.reduceBEq, Nat.reduceBNe, b5, c5, s0']
  exact hK _
def replyRD (args : List AV) (σ : AHeap) (K : AV → AHeap → Prop) : Prop := ∃ (d : Nat) (bs : List UInt8), args = [.slice d 0 bs.length none 1] ∧ hget σ d = some (bs.map byteAV) ∧ K (ansR (readReply bs)) (hkill σ d)
theorem replyRD_ok (args : List AV) (σ : AHeap) (K : AV → AHeap → Prop) (h : replyRD args σ K) : Tri Try.prog 65 args σ K := by
  obtain ⟨d, bs, rfl, hd, h⟩ := h
  exact (give_bytes hd (readReply_ok bs)).mono fun r σ' hr => by rw [hr.1, hr.2]; exact h
def F4 : PCall := rowQ 65 replyRD (rowQ 51 numRD (rowQ 64 textRD (rowQ 52 endRD noCall)))
theorem F4_app {f : FuncId} {args : List AV} {σ : AHeap} {K : AV → AHeap → Prop} : F4 f args σ K = rowQ 65 replyRD (rowQ 51 numRD (rowQ 64 textRD (rowQ 52 endRD noCall))) f args σ K := _root_.id rfl
theorem F4_sound : Sound Try.prog F4 := rowQ_sound replyRD_ok (rowQ_sound numRD_ok (rowQ_sound textRD_ok (rowQ_sound endRD_ok (noCall_sound _))))
theorem frz_zeroLa (σ : AHeap) (E : Int) : Frz σ (.tuple [.agg [.int .i64 0, .int .i64 0, .int .i64 0, .int .i64 0, .bool false, .str [], .nilslice, .str [], .bool false], .int .i64 E]) (ansLa (LaV.zero, E)) := by
  refine .tuple rfl (fun i x y hx hy => ?_)
  match i with
  | 0 =>
    simp at hx hy
    subst hx; subst hy
    refine .agg rfl (fun i x y hx hy => ?_)
    match i with
    | 0 | 1 | 2 | 3 | 4 | 5 | 7 | 8 => simp [LaV.zero, LaV.cells, RepV.zero, RepV.cells] at hx hy; subst hx; subst hy; exact .pure rfl
    | 6 => simp [LaV.zero, LaV.cells, RepV.zero, RepV.cells, recs] at hx hy; subst hx; subst hy; exact .nil
    | n + 9 => simp at hx
  | 1 => simp at hx hy; subst hx; subst hy; exact .pure rfl
  | n + 2 => simp at hx
def unlaG (s0 s1 s2 : St) : LaV × Int := if rdEnd s2.1 s2.2 = 0 then (⟨vN s0, (readReply (vT s1)).1⟩, (readReply (vT s1)).2) else (LaV.zero, rdEnd s2.1 s2.2)
def unla (bs : List UInt8) : LaV × Int := unlaG (bs, 0) (stN (bs, 0)) (stT (stN (bs, 0)))
theorem unlast_ok (bs : List UInt8) : Tri Try.prog 76 [.imm (rws bs) false false] [] fun r _ => r.pure = true ∧ r = ansLa (unla bs) := by
  refine Tri.frozen (Q := fun r σ => Frz σ r (ansLa (unla bs))) (Tri.of_s c76 F4_sound ?_) (fun r σ hr => ⟨_, hr, ansLa_pure _, rfl⟩)
  generalize hK : (fun (r : AV) (σ : AHeap) => Frz σ r (ansLa (unla bs))) = K
  have hK : ∀ r σ, Frz σ r (ansLa (unla bs)) → K r σ := by intro r σ hr; rw [← hK]; exact hr
  simp only [F4_app, Z76, base1, baseE, ↓reduceIte, Nat.reduceAdd, Nat.reduceSub, Nat.reduceMul, Nat.reduceEqDiff, Nat.reduceLeDiff, Nat.reduceLT, Int.reduceLT, Int.reduceLE, Int.reduceEq, Int.reduceNe, Int.reduceToNat, Int.reduceAdd, Int.reduceSub, reduceCtorEq, Nat.reduceBEq, Nat.reduceBNe]
  refine ⟨1, bs, 0, rfl, ⟨false, false, rfl⟩, fun σ1 r1 f1 => ?_⟩
  have b1 := f1 0 _ rfl (by decide)
  have r1 : RdS σ1 1 (stN (bs, 0)).1 (stN (bs, 0)).2 := r1
  unfold unla at hK
  have v0 : (rdNum bs 0).1 = vN (bs, 0) := rfl
  rw [v0]
  generalize stN (bs, 0) = s1 at r1 hK ⊢
  generalize ((bs, 0) : St) = s0 at hK ⊢
  have l1 : 1 < σ1.length := by obtain ⟨f, nn, hg⟩ := r1; exact hget_lt hg
  have pn : ∀ c : List AV, hget (hpush σ1 c) σ1.length = some c := fun c => push_new rfl
  have sn : ∀ c c' : List AV, hget (hset (hpush σ1 c) σ1.length c') σ1.length = some c' := fun c c' => set_same (pn c)
  simp only [F4_app, Z76, base1, baseE, ↓reduceIte, Nat.reduceAdd, Nat.reduceSub, Nat.reduceMul, Nat.reduceEqDiff, Nat.reduceLeDiff, Nat.reduceLT, Int.reduceLT, Int.reduceLE, Int.reduceEq, Int.reduceNe, Int.reduceToNat, Int.reduceAdd, Int.reduceSub, reduceCtorEq, Nat.reduceBEq, Nat.reduceBNe, pn, sn]
  refine ⟨1, _, _, rfl, rd_alloc r1, fun σ2 r2 f2 => ?_⟩
  have b2 := f2 0 _ (al_frame b1) (by decide)
  have c2 := f2 σ1.length _ (sn _ _) (by omega)
  have r2 : RdS σ2 1 (stT s1).1 (stT s1).2 := r2
  generalize stT s1 = s2 at r2 hK ⊢
  have v1 : (rdText s1.1 s1.2).1 = vT s1 := rfl
  rw [v1]
  simp only [F4_app, Z76, base1, baseE, ↓reduceIte, Nat.reduceAdd, Nat.reduceSub, Nat.reduceMul, Nat.reduceEqDiff, Nat.reduceLeDiff, Nat.reduceLT, Int.reduceLT, Int.reduceLE, Int.reduceEq, Int.reduceNe, Int.reduceToNat, Int.reduceAdd, Int.reduceSub, reduceCtorEq, Nat.reduceBEq, Nat.reduceBNe]
  refine ⟨1, _, _, rfl, r2, fun σ3 f3 => ?_⟩
  have b3 := f3 0 _ b2 (by decide)
  have c3 := f3 σ1.length _ c2 (by omega)
  generalize σ1.length = L at c3 l1
  have hL0 : ¬ L = 0 := by omega
  unfold unlaG at hK
  have z0 : ∀ (d : List AV), hget (hset σ3 0 d) 0 = some d := fun d => set_same b3
  generalize rdEnd s2.1 s2.2 = E at hK ⊢
  by_cases hE : E = 0
  · subst hE
    simp only [if_true] at hK
    simp only [F4_app, Z76, base1, baseE, ↓reduceIte, Nat.reduceAdd, Nat.reduceSub, Nat.reduceMul, Nat.reduceEqDiff, Nat.reduceLeDiff, Nat.reduceLT, Int.reduceLT, Int.reduceLE, Int.reduceEq, Int.reduceNe, Int.reduceToNat, Int.reduceAdd, Int.reduceSub, reduceCtorEq, Nat.reduceBEq, Nat.reduceBNe, b3, c3, z0]
    refine ⟨σ3.length, vT s1, rfl, push_new rfl, ?_⟩
    have l3 := hget_lt c3
    have b4 : hget (hkill (hpush σ3 ((vT s1).map byteAV)) σ3.length) 0 = _ := Fr1.kill (id := σ3.length) 0 _ b3 (by omega)
    have c4 : hget (hkill (hpush σ3 ((vT s1).map byteAV)) σ3.length) L = _ := Fr1.kill (id := σ3.length) L _ c3 (by omega)
    generalize hkill (hpush σ3 ((vT s1).map byteAV)) σ3.length = σ4 at b4 c4 ⊢
    generalize readReply (vT s1) = w at hK ⊢
    obtain ⟨⟨client, seq, err, found, val, l, next, more⟩, e⟩ := w
    have sL : ∀ d : List AV, hget (hset σ4 L d) L = some d := fun d => set_same c4
    have b5 : ∀ d : List AV, hget (hset σ4 L d) 0 = _ := fun d => (set_other hL0).trans b4
    have z1 : ∀ (d c : List AV), hget (hset (hset σ4 L d) 0 c) 0 = some c := fun d c => set_same (b5 d)
    simp only [F4_app, Z76, base1, baseE, ↓reduceIte, Nat.reduceAdd, Nat.reduceSub, Nat.reduceMul, Nat.reduceEqDiff, Nat.reduceLeDiff, Nat.reduceLT, Int.reduceLT, Int.reduceLE, Int.reduceEq, Int.reduceNe, Int.reduceToNat, Int.reduceAdd, Int.reduceSub, reduceCtorEq, Nat.reduceBEq, Nat.reduceBNe, ansR, RepV.cells, b4, c4, sL, b5, z1]
    exact hK _ _ (.pure (ansLa_pure (⟨vN s0, ⟨client, seq, err, found, val, l, next, more⟩⟩, e)))
  · simp only [if_neg hE] at hK
    simp only [F4_app, Z76, base1, baseE, ↓reduceIte, Nat.reduceAdd, Nat.reduceSub, Nat.reduceMul, Nat.reduceEqDiff, Nat.reduceLeDiff, Nat.reduceLT, Int.reduceLT, Int.reduceLE, Int.reduceEq, Int.reduceNe, Int.reduceToNat, Int.reduceAdd, Int.reduceSub, reduceCtorEq, Nat.reduceBEq, Nat.reduceBNe, b3, c3, z0, hE]
    exact hK _ _ (frz_zeroLa _ E)
/-! Lists. -/
def finRec (s : St) (acc : List (List UInt8 × List UInt8)) : List (List UInt8 × List UInt8) × Int := if rdEnd s.1 s.2 = 0 then (acc, 0) else ([], rdEnd s.1 s.2)
def lstRec : Nat → St → List (List UInt8 × List UInt8) → List (List UInt8 × List UInt8) × Int
  | 0, s, acc => finRec s acc
  | k + 1, s, acc => if s.2 = 0 then (if (stT s).2 = 0 then (if (unrec (vT s)).2 = 0 then lstRec k (stT s) (acc ++ [(unrec (vT s)).1]) else ([], (unrec (vT s)).2)) else finRec (stT s) acc) else finRec s acc
def readRec (bs : List UInt8) : List (List UInt8 × List UInt8) × Int := lstRec (vN (bs, 0)).toNat (stN (bs, 0)) []
def unRecD (args : List AV) (σ : AHeap) (K : AV → AHeap → Prop) : Prop := ∃ (d : Nat) (bs : List UInt8), args = [.slice d 0 bs.length none 1] ∧ hget σ d = some (bs.map byteAV) ∧ K (ansRec (unrec bs)) (hkill σ d)
theorem unRecD_ok (args : List AV) (σ : AHeap) (K : AV → AHeap → Prop) (h : unRecD args σ K) : Tri Try.prog 74 args σ K := by
  obtain ⟨d, bs, rfl, hd, h⟩ := h
  exact (give_bytes hd (unrecord_ok bs)).mono fun r σ' hr => by rw [hr.1, hr.2]; exact h
def HRec : PCall := rowQ 74 unRecD (rowQ 51 numRD (rowQ 64 textRD (rowQ 52 endRD noCall)))
theorem HRec_app {f : FuncId} {args : List AV} {σ : AHeap} {K : AV → AHeap → Prop} : HRec f args σ K = rowQ 74 unRecD (rowQ 51 numRD (rowQ 64 textRD (rowQ 52 endRD noCall))) f args σ K := _root_.id rfl
theorem HRec_sound : Sound Try.prog HRec := rowQ_sound unRecD_ok (rowQ_sound numRD_ok (rowQ_sound textRD_ok (rowQ_sound endRD_ok (noCall_sound _))))
def rlRec (T : List (List UInt8 × List UInt8) × Int) (n : Nat) (e : Env) (σ : AHeap) : Prop :=
  ∃ (s : St) (m : Nat) (Lv : AV) (l : List (List UInt8 × List UInt8)), RdS σ 0 s.1 s.2 ∧ Grow σ Lv 2 (l.map recC) ∧ LvD Lv ≠ some 0 ∧ m + l.length ≤ 500000000 ∧ n = m ∧ lstRec m s l = T ∧ e 1 = .func 74 [] ∧ e 6 = .ptr 0 0 ∧ e 7 = Lv ∧ e 8 = .int .i64 (m : Int)
def LstRecQ (T : List (List UInt8 × List UInt8) × Int) (r : AV) (σ : AHeap) : Prop := ∃ Lv, Grow σ Lv 2 (T.1.map recC) ∧ r = .tuple [Lv, .int .i64 T.2]
theorem rlStepRec (T : List (List UInt8 × List UInt8) × Int) (Q : AV → AHeap → Prop) (hQ : ∀ r σ, LstRecQ T r σ → Q r σ) (n : Nat) (e : Env) (σ : AHeap) (h : rlRec T n e σ) :
    sC HRec 0 b73_30 (unw HRec 0 (loopR HRec 0 (RetQ [MRes.t 4, MRes.t 5] Q) (.block 0 (.seq b73_43 .fin)) (rlRec T) n) .fin) e σ := by
  obtain ⟨s, m, Lv, l, hr0, hLv, d0, hmk, hn, hT, e1, e6, e7, e8⟩ := h
  have go : ∀ (s : St) (e' : Env) (σ : AHeap), RdS σ 0 s.1 s.2 → Grow σ Lv 2 (l.map recC) → finRec s l = T → e' 6 = .ptr 0 0 → e' 7 = Lv → sC HRec 0 b73_43 (unw HRec 0 (RetQ [MRes.t 4, MRes.t 5] Q) .fin) e' σ := by
    intro s e' σ hr hv hT k6 k7
    have lc := grow_cell hv
    simp only [HRec_app, Z73, x73_40, x73_43, base1, ↓reduceIte, Nat.reduceAdd, Nat.reduceSub, Nat.reduceMul, Nat.reduceEqDiff, Nat.reduceLeDiff, Nat.reduceLT, Int.reduceLT, Int.reduceLE, Int.reduceEq, Int.reduceNe, Int.reduceToNat, Int.reduceAdd, Int.reduceSub, reduceCtorEq, Nat.reduceBEq, Nat.reduceBNe, k6, k7]
    refine ⟨0, s.1, s.2, rfl, hr, fun σ1 f1 => ?_⟩
    have v1 := grow_frame hv (τ := σ1) fun j c hj hd => f1 j c hj (fun e => d0 (by rw [hd, e]))
    unfold finRec at hT
    generalize rdEnd s.1 s.2 = E at hT ⊢
    by_cases hE : E = 0
    · subst hE
      rw [if_pos rfl] at hT
      subst hT
      simp only [HRec_app, Z73, x73_40, x73_43, base1, ↓reduceIte, Nat.reduceAdd, Nat.reduceSub, Nat.reduceMul, Nat.reduceEqDiff, Nat.reduceLeDiff, Nat.reduceLT, Int.reduceLT, Int.reduceLE, Int.reduceEq, Int.reduceNe, Int.reduceToNat, Int.reduceAdd, Int.reduceSub, reduceCtorEq, Nat.reduceBEq, Nat.reduceBNe, k6, k7, lc]
      exact hQ _ _ ⟨Lv, v1, rfl⟩
    · rw [if_neg hE] at hT
      subst hT
      simp only [HRec_app, Z73, x73_40, x73_43, base1, ↓reduceIte, Nat.reduceAdd, Nat.reduceSub, Nat.reduceMul, Nat.reduceEqDiff, Nat.reduceLeDiff, Nat.reduceLT, Int.reduceLT, Int.reduceLE, Int.reduceEq, Int.reduceNe, Int.reduceToNat, Int.reduceAdd, Int.reduceSub, reduceCtorEq, Nat.reduceBEq, Nat.reduceBNe, k6, k7, lc, hE]
      exact hQ _ _ ⟨.nilslice, .inl ⟨rfl, rfl⟩, rfl⟩
  have lc := grow_cell hLv
  cases m with
  | zero =>
    obtain ⟨f, nn, hr⟩ := hr0
    simp only [HRec_app, Z73, base1, ↓reduceIte, Nat.reduceAdd, Nat.reduceSub, Nat.reduceMul, Nat.reduceEqDiff, Nat.reduceLeDiff, Nat.reduceLT, Int.reduceLT, Int.reduceLE, Int.reduceEq, Int.reduceNe, Int.reduceToNat, Int.reduceAdd, Int.reduceSub, reduceCtorEq, Nat.reduceBEq, Nat.reduceBNe, loopR_exit, loopR_ret, e1, e6, e7, e8, cast_zero]
    exact go s _ _ ⟨f, nn, hr⟩ hLv hT e6 e7
  | succ m =>
    have hpos : (0 : Int) < ((m + 1 : Nat) : Int) := by omega
    by_cases hs : s.2 = 0
    · have hw : IntKind.wrap .i64 (((m + 1 : Nat) : Int) - 1) = (m : Int) := by rw [Gz.wrap64 (by omega)]; omega
      simp only [lstRec, hs, if_true] at hT
      obtain ⟨f, nn, hr⟩ := hr0
      simp only [HRec_app, Z73, x73_40, base1, ↓reduceIte, Nat.reduceAdd, Nat.reduceSub, Nat.reduceMul, Nat.reduceEqDiff, Nat.reduceLeDiff, Nat.reduceLT, Int.reduceLT, Int.reduceLE, Int.reduceEq, Int.reduceNe, Int.reduceToNat, Int.reduceAdd, Int.reduceSub, reduceCtorEq, Nat.reduceBEq, Nat.reduceBNe, loopR_exit, loopR_ret, e1, e6, e7, e8, hr, hs, hpos]
      refine ⟨0, s.1, 0, rfl, ⟨f, nn, by rw [hr, hs]⟩, fun σ1 r1 f1 => ?_⟩
      have v1 := grow_frame hLv (τ := σ1) fun j c hj hd => f1 j c hj (fun e => d0 (by rw [hd, e]))
      have hst : stT s = ((rdText s.1 0).2.1, (rdText s.1 0).2.2) := by simp [stT, hs]
      have hvt : vT s = (rdText s.1 0).1 := by simp [vT, hs]
      rw [hst, hvt] at hT
      generalize rdText s.1 0 = w at r1 hT ⊢
      obtain ⟨x, rem, ee⟩ := w
      simp only at r1 hT
      obtain ⟨f', nn', hg1⟩ := r1
      by_cases hee : ee = 0
      · subst hee
        simp only [if_true] at hT
        have hp1 : 0 < σ1.length := hget_lt hg1
        have hpn : hget (hpush σ1 (x.map byteAV)) σ1.length = some (x.map byteAV) := push_new rfl
        simp only [HRec_app, Z73, x73_40, base1, ↓reduceIte, Nat.reduceAdd, Nat.reduceSub, Nat.reduceMul, Nat.reduceEqDiff, Nat.reduceLeDiff, Nat.reduceLT, Int.reduceLT, Int.reduceLE, Int.reduceEq, Int.reduceNe, Int.reduceToNat, Int.reduceAdd, Int.reduceSub, reduceCtorEq, Nat.reduceBEq, Nat.reduceBNe, loopR_exit, loopR_ret, e1, e6, e7, e8, hg1, grown]
        refine ⟨σ1.length, x, rfl, hpn, ?_⟩
        have fk : ∀ j c, hget σ1 j = some c → hget (hkill (hpush σ1 (x.map byteAV)) σ1.length) j = some c := fun j c hj => Fr1.kill (id := σ1.length) j c hj (by have := hget_lt hj; omega)
        have v2 := grow_frame v1 (τ := hkill (hpush σ1 (x.map byteAV)) σ1.length) fun j c hj hd => fk j c hj
        have hg2 := fk _ _ hg1
        generalize hkill (hpush σ1 (x.map byteAV)) σ1.length = σ2 at v2 hg2 ⊢
        have hl2 := hget_lt hg2
        generalize unrec x = w at hT ⊢
        obtain ⟨y, e2⟩ := w
        simp only at hT
        have pn : ∀ c : List AV, hget (hpush σ2 c) σ2.length = some c := fun c => push_new rfl
        have sn : ∀ c c' : List AV, hget (hset (hpush σ2 c) σ2.length c') σ2.length = some c' := fun c c' => set_same (pn c)
        by_cases h3 : e2 = 0
        · subst h3
          simp only [if_true] at hT
          simp only [ansRec, recC]
          generalize hz : ([.str [], .str []] : List AV) = z
          have v3 := grow_frame v2 (τ := hset (hpush σ2 z) σ2.length (recC y)) fun j c hj hd => al_frame hj
          have hg3 : hget (hset (hpush σ2 z) σ2.length (recC y)) 0 = _ := al_frame hg2
          have hs3 : (hset (hpush σ2 z) σ2.length (recC y)).length = σ2.length + 1 := by rw [set_len, push_len]
          obtain ⟨v, τ, a1, a2, a3, a4, a5⟩ := grow_one (b := 32) (by decide) v3 (by simp; omega) (recC y) rfl rfl
          obtain ⟨g0, u0⟩ := a4 0 _ hg3 d0
          rw [hs3] at a1
          simp only [recC] at a1
          subst hz
          simp only [HRec_app, Z73, x73_40, base1, ↓reduceIte, Nat.reduceAdd, Nat.reduceSub, Nat.reduceMul, Nat.reduceEqDiff, Nat.reduceLeDiff, Nat.reduceLT, Int.reduceLT, Int.reduceLE, Int.reduceEq, Int.reduceNe, Int.reduceToNat, Int.reduceAdd, Int.reduceSub, reduceCtorEq, Nat.reduceBEq, Nat.reduceBNe, loopR_exit, loopR_ret, e1, e6, e7, e8, pn, sn, set_len, push_len, a1, a2, a3, hw]
          rw [loopR_normal]
          refine ⟨m, _, _, by omega, .refl _ _ _, (rem, 0), m, v, l ++ [y], ⟨f', nn', g0⟩, by simpa using a5, u0, by simp; omega, rfl, hT, ?_, ?_, ?_, ?_⟩
          all_goals simp only [putD_some, putD_none, Nat.reduceEqDiff, ↓reduceIte, e1, e6, e7, e8, hw]
        · rw [if_neg h3] at hT
          subst hT
          simp only [ansRec, recC, HRec_app, Z73, x73_40, base1, ↓reduceIte, Nat.reduceAdd, Nat.reduceSub, Nat.reduceMul, Nat.reduceEqDiff, Nat.reduceLeDiff, Nat.reduceLT, Int.reduceLT, Int.reduceLE, Int.reduceEq, Int.reduceNe, Int.reduceToNat, Int.reduceAdd, Int.reduceSub, reduceCtorEq, Nat.reduceBEq, Nat.reduceBNe, loopR_exit, loopR_ret, e1, e6, e7, e8, pn, sn, h3]
          exact hQ _ _ ⟨.nilslice, .inl ⟨rfl, rfl⟩, rfl⟩
      · rw [if_neg hee] at hT
        simp only [HRec_app, Z73, x73_40, base1, ↓reduceIte, Nat.reduceAdd, Nat.reduceSub, Nat.reduceMul, Nat.reduceEqDiff, Nat.reduceLeDiff, Nat.reduceLT, Int.reduceLT, Int.reduceLE, Int.reduceEq, Int.reduceNe, Int.reduceToNat, Int.reduceAdd, Int.reduceSub, reduceCtorEq, Nat.reduceBEq, Nat.reduceBNe, loopR_exit, loopR_ret, e1, e6, e7, e8, hg1, hee]
        exact go (rem, ee) _ _ ⟨f', nn', hg1⟩ v1 hT (by simp only [putD_some, putD_none, Nat.reduceEqDiff, ↓reduceIte, e6]) (by simp only [putD_some, putD_none, Nat.reduceEqDiff, ↓reduceIte, e7])
    · simp only [lstRec, if_neg hs] at hT
      obtain ⟨f, nn, hr⟩ := hr0
      simp only [HRec_app, Z73, x73_40, base1, ↓reduceIte, Nat.reduceAdd, Nat.reduceSub, Nat.reduceMul, Nat.reduceEqDiff, Nat.reduceLeDiff, Nat.reduceLT, Int.reduceLT, Int.reduceLE, Int.reduceEq, Int.reduceNe, Int.reduceToNat, Int.reduceAdd, Int.reduceSub, reduceCtorEq, Nat.reduceBEq, Nat.reduceBNe, loopR_exit, loopR_ret, e1, e6, e7, e8, hr, hs, hpos]
      exact go s _ _ ⟨f, nn, hr⟩ hLv hT e6 e7
theorem rowsRec_pure (l : List (List UInt8 × List UInt8)) : pureLL (l.map recC) = true := pureLL_of fun r hr => by
  obtain ⟨x, _, rfl⟩ := List.mem_map.1 hr
  rfl
def ansLRec (p : List (List UInt8 × List UInt8) × Int) : AV := .tuple [.imm (p.1.map recC) false false, .int .i64 p.2]
theorem ansLRec_pure (p : List (List UInt8 × List UInt8) × Int) : (ansLRec p).pure = true := by simp only [ansLRec, AV.pure, pureL, rowsRec_pure, Bool.and_self]
theorem readRec_ok (bs : List UInt8) : Tri Try.prog 73 [.imm (rws bs) false false, .func 74 []] [] fun r _ => r.pure = true ∧ r = ansLRec (readRec bs) := by
  refine Tri.frozen (Q := LstRecQ (readRec bs)) (Tri.of_s c73 HRec_sound ?_) (fun r σ hr => ?_)
  · generalize hK : LstRecQ (readRec bs) = K
    have hK : ∀ r σ, LstRecQ (readRec bs) r σ → K r σ := by intro r σ h; rw [← hK]; exact h
    simp only [HRec_app, Z73, x73_40, x73_43, base1, baseE, ↓reduceIte, Nat.reduceAdd, Nat.reduceSub, Nat.reduceMul, Nat.reduceEqDiff, Nat.reduceLeDiff, Nat.reduceLT, Int.reduceLT, Int.reduceLE, Int.reduceEq, Int.reduceNe, Int.reduceToNat, Int.reduceAdd, Int.reduceSub, reduceCtorEq, Nat.reduceBEq, Nat.reduceBNe, rws_len]
    refine ⟨0, bs, 0, rfl, ⟨false, false, rfl⟩, fun σ1 r1 f1 => ?_⟩
    have hnn := rdNum_nonneg bs 0
    have hle := rdNum_le bs 0
    have r1 : RdS σ1 0 (stN (bs, 0)).1 (stN (bs, 0)).2 := r1
    unfold readRec vN at hK
    simp only at hK
    generalize stN (bs, 0) = s1 at r1 hK ⊢
    generalize (rdNum bs 0).1 = m at hnn hle hK ⊢
    obtain ⟨m, rfl⟩ : ∃ k : Nat, m = (k : Int) := ⟨m.toNat, by omega⟩
    rw [Int.toNat_natCast] at hK
    simp only [HRec_app, Z73, x73_40, x73_43, base1, baseE, ↓reduceIte, Nat.reduceAdd, Nat.reduceSub, Nat.reduceMul, Nat.reduceEqDiff, Nat.reduceLeDiff, Nat.reduceLT, Int.reduceLT, Int.reduceLE, Int.reduceEq, Int.reduceNe, Int.reduceToNat, Int.reduceAdd, Int.reduceSub, reduceCtorEq, Nat.reduceBEq, Nat.reduceBNe]
    exact sC_inv (a := b73_30) (rlRec (lstRec m s1 [])) m _ _ (.refl _ _ _) ⟨s1, m, .nilslice, [], r1, .inl ⟨rfl, rfl⟩, by simp [LvD], by simp; omega, rfl, rfl, rfl, rfl, rfl, rfl⟩ (rlStepRec (lstRec m s1 []) _ fun r σ h => hK r σ h)
  · obtain ⟨Lv, hg, rfl⟩ := hr
    refine ⟨ansLRec (readRec bs), .tuple rfl (fun i x y hx hy => ?_), ansLRec_pure _, rfl⟩
    match i with
    | 0 => simp at hx hy; subst hx; subst hy; exact grow_frz hg (rowsRec_pure _)
    | 1 => simp at hx hy; subst hx; subst hy; exact .pure rfl
    | n + 2 => simp at hx
def finSh (s : St) (acc : List (ShV)) : List (ShV) × Int := if rdEnd s.1 s.2 = 0 then (acc, 0) else ([], rdEnd s.1 s.2)
def lstSh : Nat → St → List (ShV) → List (ShV) × Int
  | 0, s, acc => finSh s acc
  | k + 1, s, acc => if s.2 = 0 then (if (stT s).2 = 0 then (if (unsh (vT s)).2 = 0 then lstSh k (stT s) (acc ++ [(unsh (vT s)).1]) else ([], (unsh (vT s)).2)) else finSh (stT s) acc) else finSh s acc
def readSh (bs : List UInt8) : List (ShV) × Int := lstSh (vN (bs, 0)).toNat (stN (bs, 0)) []
def unShD (args : List AV) (σ : AHeap) (K : AV → AHeap → Prop) : Prop := ∃ (d : Nat) (bs : List UInt8), args = [.slice d 0 bs.length none 1] ∧ hget σ d = some (bs.map byteAV) ∧ K (ansSh (unsh bs)) (hkill σ d)
theorem unShD_ok (args : List AV) (σ : AHeap) (K : AV → AHeap → Prop) (h : unShD args σ K) : Tri Try.prog 72 args σ K := by
  obtain ⟨d, bs, rfl, hd, h⟩ := h
  exact (give_bytes hd (unshard_ok bs)).mono fun r σ' hr => by rw [hr.1, hr.2]; exact h
def HSh : PCall := rowQ 72 unShD (rowQ 51 numRD (rowQ 64 textRD (rowQ 52 endRD noCall)))
theorem HSh_app {f : FuncId} {args : List AV} {σ : AHeap} {K : AV → AHeap → Prop} : HSh f args σ K = rowQ 72 unShD (rowQ 51 numRD (rowQ 64 textRD (rowQ 52 endRD noCall))) f args σ K := _root_.id rfl
theorem HSh_sound : Sound Try.prog HSh := rowQ_sound unShD_ok (rowQ_sound numRD_ok (rowQ_sound textRD_ok (rowQ_sound endRD_ok (noCall_sound _))))
def rlSh (T : List (ShV) × Int) (n : Nat) (e : Env) (σ : AHeap) : Prop :=
  ∃ (s : St) (m : Nat) (Lv : AV) (l : List (ShV)), RdS σ 0 s.1 s.2 ∧ Grow σ Lv 4 (l.map ShV.cells) ∧ LvD Lv ≠ some 0 ∧ m + l.length ≤ 500000000 ∧ n = m ∧ lstSh m s l = T ∧ e 1 = .func 72 [] ∧ e 6 = .ptr 0 0 ∧ e 7 = Lv ∧ e 8 = .int .i64 (m : Int)
def LstShQ (T : List (ShV) × Int) (r : AV) (σ : AHeap) : Prop := ∃ Lv, Grow σ Lv 4 (T.1.map ShV.cells) ∧ r = .tuple [Lv, .int .i64 T.2]
theorem rlStepSh (T : List (ShV) × Int) (Q : AV → AHeap → Prop) (hQ : ∀ r σ, LstShQ T r σ → Q r σ) (n : Nat) (e : Env) (σ : AHeap) (h : rlSh T n e σ) :
    sC HSh 0 b71_30 (unw HSh 0 (loopR HSh 0 (RetQ [MRes.t 4, MRes.t 5] Q) (.block 0 (.seq b71_43 .fin)) (rlSh T) n) .fin) e σ := by
  obtain ⟨s, m, Lv, l, hr0, hLv, d0, hmk, hn, hT, e1, e6, e7, e8⟩ := h
  have go : ∀ (s : St) (e' : Env) (σ : AHeap), RdS σ 0 s.1 s.2 → Grow σ Lv 4 (l.map ShV.cells) → finSh s l = T → e' 6 = .ptr 0 0 → e' 7 = Lv → sC HSh 0 b71_43 (unw HSh 0 (RetQ [MRes.t 4, MRes.t 5] Q) .fin) e' σ := by
    intro s e' σ hr hv hT k6 k7
    have lc := grow_cell hv
    simp only [HSh_app, Z71, x71_40, x71_43, base1, ↓reduceIte, Nat.reduceAdd, Nat.reduceSub, Nat.reduceMul, Nat.reduceEqDiff, Nat.reduceLeDiff, Nat.reduceLT, Int.reduceLT, Int.reduceLE, Int.reduceEq, Int.reduceNe, Int.reduceToNat, Int.reduceAdd, Int.reduceSub, reduceCtorEq, Nat.reduceBEq, Nat.reduceBNe, k6, k7]
    refine ⟨0, s.1, s.2, rfl, hr, fun σ1 f1 => ?_⟩
    have v1 := grow_frame hv (τ := σ1) fun j c hj hd => f1 j c hj (fun e => d0 (by rw [hd, e]))
    unfold finSh at hT
    generalize rdEnd s.1 s.2 = E at hT ⊢
    by_cases hE : E = 0
    · subst hE
      rw [if_pos rfl] at hT
      subst hT
      simp only [HSh_app, Z71, x71_40, x71_43, base1, ↓reduceIte, Nat.reduceAdd, Nat.reduceSub, Nat.reduceMul, Nat.reduceEqDiff, Nat.reduceLeDiff, Nat.reduceLT, Int.reduceLT, Int.reduceLE, Int.reduceEq, Int.reduceNe, Int.reduceToNat, Int.reduceAdd, Int.reduceSub, reduceCtorEq, Nat.reduceBEq, Nat.reduceBNe, k6, k7, lc]
      exact hQ _ _ ⟨Lv, v1, rfl⟩
    · rw [if_neg hE] at hT
      subst hT
      simp only [HSh_app, Z71, x71_40, x71_43, base1, ↓reduceIte, Nat.reduceAdd, Nat.reduceSub, Nat.reduceMul, Nat.reduceEqDiff, Nat.reduceLeDiff, Nat.reduceLT, Int.reduceLT, Int.reduceLE, Int.reduceEq, Int.reduceNe, Int.reduceToNat, Int.reduceAdd, Int.reduceSub, reduceCtorEq, Nat.reduceBEq, Nat.reduceBNe, k6, k7, lc, hE]
      exact hQ _ _ ⟨.nilslice, .inl ⟨rfl, rfl⟩, rfl⟩
  have lc := grow_cell hLv
  cases m with
  | zero =>
    obtain ⟨f, nn, hr⟩ := hr0
    simp only [HSh_app, Z71, base1, ↓reduceIte, Nat.reduceAdd, Nat.reduceSub, Nat.reduceMul, Nat.reduceEqDiff, Nat.reduceLeDiff, Nat.reduceLT, Int.reduceLT, Int.reduceLE, Int.reduceEq, Int.reduceNe, Int.reduceToNat, Int.reduceAdd, Int.reduceSub, reduceCtorEq, Nat.reduceBEq, Nat.reduceBNe, loopR_exit, loopR_ret, e1, e6, e7, e8, cast_zero]
    exact go s _ _ ⟨f, nn, hr⟩ hLv hT e6 e7
  | succ m =>
    have hpos : (0 : Int) < ((m + 1 : Nat) : Int) := by omega
    by_cases hs : s.2 = 0
    · have hw : IntKind.wrap .i64 (((m + 1 : Nat) : Int) - 1) = (m : Int) := by rw [Gz.wrap64 (by omega)]; omega
      simp only [lstSh, hs, if_true] at hT
      obtain ⟨f, nn, hr⟩ := hr0
      simp only [HSh_app, Z71, x71_40, base1, ↓reduceIte, Nat.reduceAdd, Nat.reduceSub, Nat.reduceMul, Nat.reduceEqDiff, Nat.reduceLeDiff, Nat.reduceLT, Int.reduceLT, Int.reduceLE, Int.reduceEq, Int.reduceNe, Int.reduceToNat, Int.reduceAdd, Int.reduceSub, reduceCtorEq, Nat.reduceBEq, Nat.reduceBNe, loopR_exit, loopR_ret, e1, e6, e7, e8, hr, hs, hpos]
      refine ⟨0, s.1, 0, rfl, ⟨f, nn, by rw [hr, hs]⟩, fun σ1 r1 f1 => ?_⟩
      have v1 := grow_frame hLv (τ := σ1) fun j c hj hd => f1 j c hj (fun e => d0 (by rw [hd, e]))
      have hst : stT s = ((rdText s.1 0).2.1, (rdText s.1 0).2.2) := by simp [stT, hs]
      have hvt : vT s = (rdText s.1 0).1 := by simp [vT, hs]
      rw [hst, hvt] at hT
      generalize rdText s.1 0 = w at r1 hT ⊢
      obtain ⟨x, rem, ee⟩ := w
      simp only at r1 hT
      obtain ⟨f', nn', hg1⟩ := r1
      by_cases hee : ee = 0
      · subst hee
        simp only [if_true] at hT
        have hp1 : 0 < σ1.length := hget_lt hg1
        have hpn : hget (hpush σ1 (x.map byteAV)) σ1.length = some (x.map byteAV) := push_new rfl
        simp only [HSh_app, Z71, x71_40, base1, ↓reduceIte, Nat.reduceAdd, Nat.reduceSub, Nat.reduceMul, Nat.reduceEqDiff, Nat.reduceLeDiff, Nat.reduceLT, Int.reduceLT, Int.reduceLE, Int.reduceEq, Int.reduceNe, Int.reduceToNat, Int.reduceAdd, Int.reduceSub, reduceCtorEq, Nat.reduceBEq, Nat.reduceBNe, loopR_exit, loopR_ret, e1, e6, e7, e8, hg1, grown]
        refine ⟨σ1.length, x, rfl, hpn, ?_⟩
        have fk : ∀ j c, hget σ1 j = some c → hget (hkill (hpush σ1 (x.map byteAV)) σ1.length) j = some c := fun j c hj => Fr1.kill (id := σ1.length) j c hj (by have := hget_lt hj; omega)
        have v2 := grow_frame v1 (τ := hkill (hpush σ1 (x.map byteAV)) σ1.length) fun j c hj hd => fk j c hj
        have hg2 := fk _ _ hg1
        generalize hkill (hpush σ1 (x.map byteAV)) σ1.length = σ2 at v2 hg2 ⊢
        have hl2 := hget_lt hg2
        generalize unsh x = w at hT ⊢
        obtain ⟨y, e2⟩ := w
        simp only at hT
        have pn : ∀ c : List AV, hget (hpush σ2 c) σ2.length = some c := fun c => push_new rfl
        have sn : ∀ c c' : List AV, hget (hset (hpush σ2 c) σ2.length c') σ2.length = some c' := fun c c' => set_same (pn c)
        by_cases h3 : e2 = 0
        · subst h3
          simp only [if_true] at hT
          simp only [ansSh, ShV.cells]
          generalize hz : ([.str [], .str [], .int .i64 0, .int .i64 0] : List AV) = z
          have v3 := grow_frame v2 (τ := hset (hpush σ2 z) σ2.length (ShV.cells y)) fun j c hj hd => al_frame hj
          have hg3 : hget (hset (hpush σ2 z) σ2.length (ShV.cells y)) 0 = _ := al_frame hg2
          have hs3 : (hset (hpush σ2 z) σ2.length (ShV.cells y)).length = σ2.length + 1 := by rw [set_len, push_len]
          obtain ⟨v, τ, a1, a2, a3, a4, a5⟩ := grow_one (b := 48) (by decide) v3 (by simp; omega) (ShV.cells y) rfl rfl
          obtain ⟨g0, u0⟩ := a4 0 _ hg3 d0
          rw [hs3] at a1
          simp only [ShV.cells] at a1
          subst hz
          simp only [HSh_app, Z71, x71_40, base1, ↓reduceIte, Nat.reduceAdd, Nat.reduceSub, Nat.reduceMul, Nat.reduceEqDiff, Nat.reduceLeDiff, Nat.reduceLT, Int.reduceLT, Int.reduceLE, Int.reduceEq, Int.reduceNe, Int.reduceToNat, Int.reduceAdd, Int.reduceSub, reduceCtorEq, Nat.reduceBEq, Nat.reduceBNe, loopR_exit, loopR_ret, e1, e6, e7, e8, pn, sn, set_len, push_len, a1, a2, a3, hw]
          rw [loopR_normal]
          refine ⟨m, _, _, by omega, .refl _ _ _, (rem, 0), m, v, l ++ [y], ⟨f', nn', g0⟩, by simpa using a5, u0, by simp; omega, rfl, hT, ?_, ?_, ?_, ?_⟩
          all_goals simp only [putD_some, putD_none, Nat.reduceEqDiff, ↓reduceIte, e1, e6, e7, e8, hw]
        · rw [if_neg h3] at hT
          subst hT
          simp only [ansSh, ShV.cells, HSh_app, Z71, x71_40, base1, ↓reduceIte, Nat.reduceAdd, Nat.reduceSub, Nat.reduceMul, Nat.reduceEqDiff, Nat.reduceLeDiff, Nat.reduceLT, Int.reduceLT, Int.reduceLE, Int.reduceEq, Int.reduceNe, Int.reduceToNat, Int.reduceAdd, Int.reduceSub, reduceCtorEq, Nat.reduceBEq, Nat.reduceBNe, loopR_exit, loopR_ret, e1, e6, e7, e8, pn, sn, h3]
          exact hQ _ _ ⟨.nilslice, .inl ⟨rfl, rfl⟩, rfl⟩
      · rw [if_neg hee] at hT
        simp only [HSh_app, Z71, x71_40, base1, ↓reduceIte, Nat.reduceAdd, Nat.reduceSub, Nat.reduceMul, Nat.reduceEqDiff, Nat.reduceLeDiff, Nat.reduceLT, Int.reduceLT, Int.reduceLE, Int.reduceEq, Int.reduceNe, Int.reduceToNat, Int.reduceAdd, Int.reduceSub, reduceCtorEq, Nat.reduceBEq, Nat.reduceBNe, loopR_exit, loopR_ret, e1, e6, e7, e8, hg1, hee]
        exact go (rem, ee) _ _ ⟨f', nn', hg1⟩ v1 hT (by simp only [putD_some, putD_none, Nat.reduceEqDiff, ↓reduceIte, e6]) (by simp only [putD_some, putD_none, Nat.reduceEqDiff, ↓reduceIte, e7])
    · simp only [lstSh, if_neg hs] at hT
      obtain ⟨f, nn, hr⟩ := hr0
      simp only [HSh_app, Z71, x71_40, base1, ↓reduceIte, Nat.reduceAdd, Nat.reduceSub, Nat.reduceMul, Nat.reduceEqDiff, Nat.reduceLeDiff, Nat.reduceLT, Int.reduceLT, Int.reduceLE, Int.reduceEq, Int.reduceNe, Int.reduceToNat, Int.reduceAdd, Int.reduceSub, reduceCtorEq, Nat.reduceBEq, Nat.reduceBNe, loopR_exit, loopR_ret, e1, e6, e7, e8, hr, hs, hpos]
      exact go s _ _ ⟨f, nn, hr⟩ hLv hT e6 e7
theorem rowsSh_pure (l : List (ShV)) : pureLL (l.map ShV.cells) = true := pureLL_of fun r hr => by
  obtain ⟨x, _, rfl⟩ := List.mem_map.1 hr
  rfl
def ansLSh (p : List (ShV) × Int) : AV := .tuple [.imm (p.1.map ShV.cells) false false, .int .i64 p.2]
theorem ansLSh_pure (p : List (ShV) × Int) : (ansLSh p).pure = true := by simp only [ansLSh, AV.pure, pureL, rowsSh_pure, Bool.and_self]
theorem readSh_ok (bs : List UInt8) : Tri Try.prog 71 [.imm (rws bs) false false, .func 72 []] [] fun r _ => r.pure = true ∧ r = ansLSh (readSh bs) := by
  refine Tri.frozen (Q := LstShQ (readSh bs)) (Tri.of_s c71 HSh_sound ?_) (fun r σ hr => ?_)
  · generalize hK : LstShQ (readSh bs) = K
    have hK : ∀ r σ, LstShQ (readSh bs) r σ → K r σ := by intro r σ h; rw [← hK]; exact h
    simp only [HSh_app, Z71, x71_40, x71_43, base1, baseE, ↓reduceIte, Nat.reduceAdd, Nat.reduceSub, Nat.reduceMul, Nat.reduceEqDiff, Nat.reduceLeDiff, Nat.reduceLT, Int.reduceLT, Int.reduceLE, Int.reduceEq, Int.reduceNe, Int.reduceToNat, Int.reduceAdd, Int.reduceSub, reduceCtorEq, Nat.reduceBEq, Nat.reduceBNe, rws_len]
    refine ⟨0, bs, 0, rfl, ⟨false, false, rfl⟩, fun σ1 r1 f1 => ?_⟩
    have hnn := rdNum_nonneg bs 0
    have hle := rdNum_le bs 0
    have r1 : RdS σ1 0 (stN (bs, 0)).1 (stN (bs, 0)).2 := r1
    unfold readSh vN at hK
    simp only at hK
    generalize stN (bs, 0) = s1 at r1 hK ⊢
    generalize (rdNum bs 0).1 = m at hnn hle hK ⊢
    obtain ⟨m, rfl⟩ : ∃ k : Nat, m = (k : Int) := ⟨m.toNat, by omega⟩
    rw [Int.toNat_natCast] at hK
    simp only [HSh_app, Z71, x71_40, x71_43, base1, baseE, ↓reduceIte, Nat.reduceAdd, Nat.reduceSub, Nat.reduceMul, Nat.reduceEqDiff, Nat.reduceLeDiff, Nat.reduceLT, Int.reduceLT, Int.reduceLE, Int.reduceEq, Int.reduceNe, Int.reduceToNat, Int.reduceAdd, Int.reduceSub, reduceCtorEq, Nat.reduceBEq, Nat.reduceBNe]
    exact sC_inv (a := b71_30) (rlSh (lstSh m s1 [])) m _ _ (.refl _ _ _) ⟨s1, m, .nilslice, [], r1, .inl ⟨rfl, rfl⟩, by simp [LvD], by simp; omega, rfl, rfl, rfl, rfl, rfl, rfl⟩ (rlStepSh (lstSh m s1 []) _ fun r σ h => hK r σ h)
  · obtain ⟨Lv, hg, rfl⟩ := hr
    refine ⟨ansLSh (readSh bs), .tuple rfl (fun i x y hx hy => ?_), ansLSh_pure _, rfl⟩
    match i with
    | 0 => simp at hx hy; subst hx; subst hy; exact grow_frz hg (rowsSh_pure _)
    | 1 => simp at hx hy; subst hx; subst hy; exact .pure rfl
    | n + 2 => simp at hx
def finLa (s : St) (acc : List (LaV)) : List (LaV) × Int := if rdEnd s.1 s.2 = 0 then (acc, 0) else ([], rdEnd s.1 s.2)
def lstLa : Nat → St → List (LaV) → List (LaV) × Int
  | 0, s, acc => finLa s acc
  | k + 1, s, acc => if s.2 = 0 then (if (stT s).2 = 0 then (if (unla (vT s)).2 = 0 then lstLa k (stT s) (acc ++ [(unla (vT s)).1]) else ([], (unla (vT s)).2)) else finLa (stT s) acc) else finLa s acc
def readLa (bs : List UInt8) : List (LaV) × Int := lstLa (vN (bs, 0)).toNat (stN (bs, 0)) []
def unLaD (args : List AV) (σ : AHeap) (K : AV → AHeap → Prop) : Prop := ∃ (d : Nat) (bs : List UInt8), args = [.slice d 0 bs.length none 1] ∧ hget σ d = some (bs.map byteAV) ∧ K (ansLa (unla bs)) (hkill σ d)
theorem unLaD_ok (args : List AV) (σ : AHeap) (K : AV → AHeap → Prop) (h : unLaD args σ K) : Tri Try.prog 76 args σ K := by
  obtain ⟨d, bs, rfl, hd, h⟩ := h
  exact (give_bytes hd (unlast_ok bs)).mono fun r σ' hr => by rw [hr.1, hr.2]; exact h
def HLa : PCall := rowQ 76 unLaD (rowQ 51 numRD (rowQ 64 textRD (rowQ 52 endRD noCall)))
theorem HLa_app {f : FuncId} {args : List AV} {σ : AHeap} {K : AV → AHeap → Prop} : HLa f args σ K = rowQ 76 unLaD (rowQ 51 numRD (rowQ 64 textRD (rowQ 52 endRD noCall))) f args σ K := _root_.id rfl
theorem HLa_sound : Sound Try.prog HLa := rowQ_sound unLaD_ok (rowQ_sound numRD_ok (rowQ_sound textRD_ok (rowQ_sound endRD_ok (noCall_sound _))))
def rlLa (T : List (LaV) × Int) (n : Nat) (e : Env) (σ : AHeap) : Prop :=
  ∃ (s : St) (m : Nat) (Lv : AV) (l : List (LaV)), RdS σ 0 s.1 s.2 ∧ Grow σ Lv 9 (l.map LaV.cells) ∧ LvD Lv ≠ some 0 ∧ m + l.length ≤ 500000000 ∧ n = m ∧ lstLa m s l = T ∧ e 1 = .func 76 [] ∧ e 6 = .ptr 0 0 ∧ e 7 = Lv ∧ e 8 = .int .i64 (m : Int)
def LstLaQ (T : List (LaV) × Int) (r : AV) (σ : AHeap) : Prop := ∃ Lv, Grow σ Lv 9 (T.1.map LaV.cells) ∧ r = .tuple [Lv, .int .i64 T.2]
theorem rlStepLa (T : List (LaV) × Int) (Q : AV → AHeap → Prop) (hQ : ∀ r σ, LstLaQ T r σ → Q r σ) (n : Nat) (e : Env) (σ : AHeap) (h : rlLa T n e σ) :
    sC HLa 0 b75_30 (unw HLa 0 (loopR HLa 0 (RetQ [MRes.t 4, MRes.t 5] Q) (.block 0 (.seq b75_43 .fin)) (rlLa T) n) .fin) e σ := by
  obtain ⟨s, m, Lv, l, hr0, hLv, d0, hmk, hn, hT, e1, e6, e7, e8⟩ := h
  have go : ∀ (s : St) (e' : Env) (σ : AHeap), RdS σ 0 s.1 s.2 → Grow σ Lv 9 (l.map LaV.cells) → finLa s l = T → e' 6 = .ptr 0 0 → e' 7 = Lv → sC HLa 0 b75_43 (unw HLa 0 (RetQ [MRes.t 4, MRes.t 5] Q) .fin) e' σ := by
    intro s e' σ hr hv hT k6 k7
    have lc := grow_cell hv
    simp only [HLa_app, Z75, x75_40, x75_43, base1, ↓reduceIte, Nat.reduceAdd, Nat.reduceSub, Nat.reduceMul, Nat.reduceEqDiff, Nat.reduceLeDiff, Nat.reduceLT, Int.reduceLT, Int.reduceLE, Int.reduceEq, Int.reduceNe, Int.reduceToNat, Int.reduceAdd, Int.reduceSub, reduceCtorEq, Nat.reduceBEq, Nat.reduceBNe, k6, k7]
    refine ⟨0, s.1, s.2, rfl, hr, fun σ1 f1 => ?_⟩
    have v1 := grow_frame hv (τ := σ1) fun j c hj hd => f1 j c hj (fun e => d0 (by rw [hd, e]))
    unfold finLa at hT
    generalize rdEnd s.1 s.2 = E at hT ⊢
    by_cases hE : E = 0
    · subst hE
      rw [if_pos rfl] at hT
      subst hT
      simp only [HLa_app, Z75, x75_40, x75_43, base1, ↓reduceIte, Nat.reduceAdd, Nat.reduceSub, Nat.reduceMul, Nat.reduceEqDiff, Nat.reduceLeDiff, Nat.reduceLT, Int.reduceLT, Int.reduceLE, Int.reduceEq, Int.reduceNe, Int.reduceToNat, Int.reduceAdd, Int.reduceSub, reduceCtorEq, Nat.reduceBEq, Nat.reduceBNe, k6, k7, lc]
      exact hQ _ _ ⟨Lv, v1, rfl⟩
    · rw [if_neg hE] at hT
      subst hT
      simp only [HLa_app, Z75, x75_40, x75_43, base1, ↓reduceIte, Nat.reduceAdd, Nat.reduceSub, Nat.reduceMul, Nat.reduceEqDiff, Nat.reduceLeDiff, Nat.reduceLT, Int.reduceLT, Int.reduceLE, Int.reduceEq, Int.reduceNe, Int.reduceToNat, Int.reduceAdd, Int.reduceSub, reduceCtorEq, Nat.reduceBEq, Nat.reduceBNe, k6, k7, lc, hE]
      exact hQ _ _ ⟨.nilslice, .inl ⟨rfl, rfl⟩, rfl⟩
  have lc := grow_cell hLv
  cases m with
  | zero =>
    obtain ⟨f, nn, hr⟩ := hr0
    simp only [HLa_app, Z75, base1, ↓reduceIte, Nat.reduceAdd, Nat.reduceSub, Nat.reduceMul, Nat.reduceEqDiff, Nat.reduceLeDiff, Nat.reduceLT, Int.reduceLT, Int.reduceLE, Int.reduceEq, Int.reduceNe, Int.reduceToNat, Int.reduceAdd, Int.reduceSub, reduceCtorEq, Nat.reduceBEq, Nat.reduceBNe, loopR_exit, loopR_ret, e1, e6, e7, e8, cast_zero]
    exact go s _ _ ⟨f, nn, hr⟩ hLv hT e6 e7
  | succ m =>
    have hpos : (0 : Int) < ((m + 1 : Nat) : Int) := by omega
    by_cases hs : s.2 = 0
    · have hw : IntKind.wrap .i64 (((m + 1 : Nat) : Int) - 1) = (m : Int) := by rw [Gz.wrap64 (by omega)]; omega
      simp only [lstLa, hs, if_true] at hT
      obtain ⟨f, nn, hr⟩ := hr0
      simp only [HLa_app, Z75, x75_40, base1, ↓reduceIte, Nat.reduceAdd, Nat.reduceSub, Nat.reduceMul, Nat.reduceEqDiff, Nat.reduceLeDiff, Nat.reduceLT, Int.reduceLT, Int.reduceLE, Int.reduceEq, Int.reduceNe, Int.reduceToNat, Int.reduceAdd, Int.reduceSub, reduceCtorEq, Nat.reduceBEq, Nat.reduceBNe, loopR_exit, loopR_ret, e1, e6, e7, e8, hr, hs, hpos]
      refine ⟨0, s.1, 0, rfl, ⟨f, nn, by rw [hr, hs]⟩, fun σ1 r1 f1 => ?_⟩
      have v1 := grow_frame hLv (τ := σ1) fun j c hj hd => f1 j c hj (fun e => d0 (by rw [hd, e]))
      have hst : stT s = ((rdText s.1 0).2.1, (rdText s.1 0).2.2) := by simp [stT, hs]
      have hvt : vT s = (rdText s.1 0).1 := by simp [vT, hs]
      rw [hst, hvt] at hT
      generalize rdText s.1 0 = w at r1 hT ⊢
      obtain ⟨x, rem, ee⟩ := w
      simp only at r1 hT
      obtain ⟨f', nn', hg1⟩ := r1
      by_cases hee : ee = 0
      · subst hee
        simp only [if_true] at hT
        have hp1 : 0 < σ1.length := hget_lt hg1
        have hpn : hget (hpush σ1 (x.map byteAV)) σ1.length = some (x.map byteAV) := push_new rfl
        simp only [HLa_app, Z75, x75_40, base1, ↓reduceIte, Nat.reduceAdd, Nat.reduceSub, Nat.reduceMul, Nat.reduceEqDiff, Nat.reduceLeDiff, Nat.reduceLT, Int.reduceLT, Int.reduceLE, Int.reduceEq, Int.reduceNe, Int.reduceToNat, Int.reduceAdd, Int.reduceSub, reduceCtorEq, Nat.reduceBEq, Nat.reduceBNe, loopR_exit, loopR_ret, e1, e6, e7, e8, hg1, grown]
        refine ⟨σ1.length, x, rfl, hpn, ?_⟩
        have fk : ∀ j c, hget σ1 j = some c → hget (hkill (hpush σ1 (x.map byteAV)) σ1.length) j = some c := fun j c hj => Fr1.kill (id := σ1.length) j c hj (by have := hget_lt hj; omega)
        have v2 := grow_frame v1 (τ := hkill (hpush σ1 (x.map byteAV)) σ1.length) fun j c hj hd => fk j c hj
        have hg2 := fk _ _ hg1
        generalize hkill (hpush σ1 (x.map byteAV)) σ1.length = σ2 at v2 hg2 ⊢
        have hl2 := hget_lt hg2
        generalize unla x = w at hT ⊢
        obtain ⟨y, e2⟩ := w
        simp only at hT
        have pn : ∀ c : List AV, hget (hpush σ2 c) σ2.length = some c := fun c => push_new rfl
        have sn : ∀ c c' : List AV, hget (hset (hpush σ2 c) σ2.length c') σ2.length = some c' := fun c c' => set_same (pn c)
        by_cases h3 : e2 = 0
        · subst h3
          simp only [if_true] at hT
          simp only [ansLa, LaV.cells, RepV.cells]
          generalize hz : ([.int .i64 0, .int .i64 0, .int .i64 0, .int .i64 0, .bool false, .str [], .nilslice, .str [], .bool false] : List AV) = z
          have v3 := grow_frame v2 (τ := hset (hpush σ2 z) σ2.length (LaV.cells y)) fun j c hj hd => al_frame hj
          have hg3 : hget (hset (hpush σ2 z) σ2.length (LaV.cells y)) 0 = _ := al_frame hg2
          have hs3 : (hset (hpush σ2 z) σ2.length (LaV.cells y)).length = σ2.length + 1 := by rw [set_len, push_len]
          obtain ⟨v, τ, a1, a2, a3, a4, a5⟩ := grow_one (b := 104) (by decide) v3 (by simp; omega) (LaV.cells y) rfl rfl
          obtain ⟨g0, u0⟩ := a4 0 _ hg3 d0
          rw [hs3] at a1
          simp only [LaV.cells, RepV.cells] at a1
          subst hz
          simp only [HLa_app, Z75, x75_40, base1, ↓reduceIte, Nat.reduceAdd, Nat.reduceSub, Nat.reduceMul, Nat.reduceEqDiff, Nat.reduceLeDiff, Nat.reduceLT, Int.reduceLT, Int.reduceLE, Int.reduceEq, Int.reduceNe, Int.reduceToNat, Int.reduceAdd, Int.reduceSub, reduceCtorEq, Nat.reduceBEq, Nat.reduceBNe, loopR_exit, loopR_ret, e1, e6, e7, e8, pn, sn, set_len, push_len, a1, a2, a3, hw]
          rw [loopR_normal]
          refine ⟨m, _, _, by omega, .refl _ _ _, (rem, 0), m, v, l ++ [y], ⟨f', nn', g0⟩, by simpa using a5, u0, by simp; omega, rfl, hT, ?_, ?_, ?_, ?_⟩
          all_goals simp only [putD_some, putD_none, Nat.reduceEqDiff, ↓reduceIte, e1, e6, e7, e8, hw]
        · rw [if_neg h3] at hT
          subst hT
          simp only [ansLa, LaV.cells, RepV.cells, HLa_app, Z75, x75_40, base1, ↓reduceIte, Nat.reduceAdd, Nat.reduceSub, Nat.reduceMul, Nat.reduceEqDiff, Nat.reduceLeDiff, Nat.reduceLT, Int.reduceLT, Int.reduceLE, Int.reduceEq, Int.reduceNe, Int.reduceToNat, Int.reduceAdd, Int.reduceSub, reduceCtorEq, Nat.reduceBEq, Nat.reduceBNe, loopR_exit, loopR_ret, e1, e6, e7, e8, pn, sn, h3]
          exact hQ _ _ ⟨.nilslice, .inl ⟨rfl, rfl⟩, rfl⟩
      · rw [if_neg hee] at hT
        simp only [HLa_app, Z75, x75_40, base1, ↓reduceIte, Nat.reduceAdd, Nat.reduceSub, Nat.reduceMul, Nat.reduceEqDiff, Nat.reduceLeDiff, Nat.reduceLT, Int.reduceLT, Int.reduceLE, Int.reduceEq, Int.reduceNe, Int.reduceToNat, Int.reduceAdd, Int.reduceSub, reduceCtorEq, Nat.reduceBEq, Nat.reduceBNe, loopR_exit, loopR_ret, e1, e6, e7, e8, hg1, hee]
        exact go (rem, ee) _ _ ⟨f', nn', hg1⟩ v1 hT (by simp only [putD_some, putD_none, Nat.reduceEqDiff, ↓reduceIte, e6]) (by simp only [putD_some, putD_none, Nat.reduceEqDiff, ↓reduceIte, e7])
    · simp only [lstLa, if_neg hs] at hT
      obtain ⟨f, nn, hr⟩ := hr0
      simp only [HLa_app, Z75, x75_40, base1, ↓reduceIte, Nat.reduceAdd, Nat.reduceSub, Nat.reduceMul, Nat.reduceEqDiff, Nat.reduceLeDiff, Nat.reduceLT, Int.reduceLT, Int.reduceLE, Int.reduceEq, Int.reduceNe, Int.reduceToNat, Int.reduceAdd, Int.reduceSub, reduceCtorEq, Nat.reduceBEq, Nat.reduceBNe, loopR_exit, loopR_ret, e1, e6, e7, e8, hr, hs, hpos]
      exact go s _ _ ⟨f, nn, hr⟩ hLv hT e6 e7
theorem rowsLa_pure (l : List (LaV)) : pureLL (l.map LaV.cells) = true := pureLL_of fun r hr => by
  obtain ⟨x, _, rfl⟩ := List.mem_map.1 hr
  simpa [AV.pure] using la_pure x
def ansLLa (p : List (LaV) × Int) : AV := .tuple [.imm (p.1.map LaV.cells) false false, .int .i64 p.2]
theorem ansLLa_pure (p : List (LaV) × Int) : (ansLLa p).pure = true := by simp only [ansLLa, AV.pure, pureL, rowsLa_pure, Bool.and_self]
theorem readLa_ok (bs : List UInt8) : Tri Try.prog 75 [.imm (rws bs) false false, .func 76 []] [] fun r _ => r.pure = true ∧ r = ansLLa (readLa bs) := by
  refine Tri.frozen (Q := LstLaQ (readLa bs)) (Tri.of_s c75 HLa_sound ?_) (fun r σ hr => ?_)
  · generalize hK : LstLaQ (readLa bs) = K
    have hK : ∀ r σ, LstLaQ (readLa bs) r σ → K r σ := by intro r σ h; rw [← hK]; exact h
    simp only [HLa_app, Z75, x75_40, x75_43, base1, baseE, ↓reduceIte, Nat.reduceAdd, Nat.reduceSub, Nat.reduceMul, Nat.reduceEqDiff, Nat.reduceLeDiff, Nat.reduceLT, Int.reduceLT, Int.reduceLE, Int.reduceEq, Int.reduceNe, Int.reduceToNat, Int.reduceAdd, Int.reduceSub, reduceCtorEq, Nat.reduceBEq, Nat.reduceBNe, rws_len]
    refine ⟨0, bs, 0, rfl, ⟨false, false, rfl⟩, fun σ1 r1 f1 => ?_⟩
    have hnn := rdNum_nonneg bs 0
    have hle := rdNum_le bs 0
    have r1 : RdS σ1 0 (stN (bs, 0)).1 (stN (bs, 0)).2 := r1
    unfold readLa vN at hK
    simp only at hK
    generalize stN (bs, 0) = s1 at r1 hK ⊢
    generalize (rdNum bs 0).1 = m at hnn hle hK ⊢
    obtain ⟨m, rfl⟩ : ∃ k : Nat, m = (k : Int) := ⟨m.toNat, by omega⟩
    rw [Int.toNat_natCast] at hK
    simp only [HLa_app, Z75, x75_40, x75_43, base1, baseE, ↓reduceIte, Nat.reduceAdd, Nat.reduceSub, Nat.reduceMul, Nat.reduceEqDiff, Nat.reduceLeDiff, Nat.reduceLT, Int.reduceLT, Int.reduceLE, Int.reduceEq, Int.reduceNe, Int.reduceToNat, Int.reduceAdd, Int.reduceSub, reduceCtorEq, Nat.reduceBEq, Nat.reduceBNe]
    exact sC_inv (a := b75_30) (rlLa (lstLa m s1 [])) m _ _ (.refl _ _ _) ⟨s1, m, .nilslice, [], r1, .inl ⟨rfl, rfl⟩, by simp [LvD], by simp; omega, rfl, rfl, rfl, rfl, rfl, rfl⟩ (rlStepLa (lstLa m s1 []) _ fun r σ h => hK r σ h)
  · obtain ⟨Lv, hg, rfl⟩ := hr
    refine ⟨ansLLa (readLa bs), .tuple rfl (fun i x y hx hy => ?_), ansLLa_pure _, rfl⟩
    match i with
    | 0 => simp at hx hy; subst hx; subst hy; exact grow_frz hg (rowsLa_pure _)
    | 1 => simp at hx hy; subst hx; subst hy; exact .pure rfl
    | n + 2 => simp at hx
end Go.Proofs.Ytndlgmciplckjab.note

/- Parties, numbers, kinds, no ask, no reply, whole spans: what the functions that May calls answer. No condition. -/
set_option linter.unusedVariables false
set_option linter.unusedSimpArgs false
namespace Go.Proofs.Ytndlgmciplckjab.note
open Go.ChangeShapes Go.WideShapes Go.ChangeAt Go.RowKit Go.Gz
section
variable {C : PCall} {n0 : Nat} {R : MExit → Env → AHeap → Prop} {k : Cont} {e : Env} {σ : AHeap}
abbrev r20_0 : List MOper := [⟨(some 2), .move (.c (.bool false)), none⟩]
def b20_0 : SCode := .region r20_0
abbrev r20_1 : List MOper := [⟨(some 3), .move (.t 0), none⟩,
  ⟨(some 4), .bin .geq .num (.t 3) (.c (.int .i64 0)), none⟩,
  ⟨(some 5), .move (.t 4), none⟩,
  ⟨(some 6), .move (.t 0), (some (5, true))⟩,
  ⟨(some 7), .bin .leq .num (.t 6) (.c (.int .i64 5)), (some (5, true))⟩,
  ⟨(some 8), .pick (.t 5) (.t 7) (.c (.bool false)), none⟩,
  ⟨(some 9), .move (.t 8), none⟩,
  ⟨(some 10), .move (.t 0), (some (9, false))⟩,
  ⟨(some 11), .bin .geq .num (.t 10) (.c (.int .i64 100)), (some (9, false))⟩,
  ⟨(some 12), .move (.t 11), (some (9, false))⟩,
  ⟨(some 13), .move (.t 0), (some (12, true))⟩,
  ⟨(some 14), .bin .lss .num (.t 13) (.c (.int .i64 104)), (some (12, true))⟩,
  ⟨(some 15), .pick (.t 12) (.t 14) (.c (.bool false)), (some (9, false))⟩,
  ⟨(some 16), .pick (.t 9) (.c (.bool true)) (.t 15), none⟩,
  ⟨(some 2), .move (.t 16), none⟩]
def b20_1 : SCode := .region r20_1
def b20_2 : SCode := .seq b20_1 .ret
def b20_3 : SCode := .seq b20_0 b20_2
def s20 : SFunc := ⟨17, [.t 2], b20_3⟩
theorem c20 : sFn Try.prog 20 = some s20 := by kernel_rfl
theorem Z20 : XR b20_0 r20_0 ∧ XR b20_1 r20_1 ∧ XS b20_2 b20_1 .ret ∧ XS b20_3 b20_0 b20_2 ∧ XY s20 17 b20_3 [.t 2] := ⟨rfl, rfl, rfl, rfl, rfl⟩
abbrev r21_0 : List MOper := [⟨(some 2), .move (.c (.bool false)), none⟩]
def b21_0 : SCode := .region r21_0
abbrev r21_1 : List MOper := [⟨(some 3), .move (.t 0), none⟩,
  ⟨(some 4), .bin .geq .num (.t 3) (.c (.int .i64 0)), none⟩,
  ⟨(some 5), .move (.t 4), none⟩,
  ⟨(some 6), .move (.t 0), (some (5, true))⟩,
  ⟨(some 7), .bin .leq .num (.t 6) (.c (.int .i64 268435455)), (some (5, true))⟩,
  ⟨(some 8), .pick (.t 5) (.t 7) (.c (.bool false)), none⟩,
  ⟨(some 2), .move (.t 8), none⟩]
def b21_1 : SCode := .region r21_1
def b21_2 : SCode := .seq b21_1 .ret
def b21_3 : SCode := .seq b21_0 b21_2
def s21 : SFunc := ⟨9, [.t 2], b21_3⟩
theorem c21 : sFn Try.prog 21 = some s21 := by kernel_rfl
theorem Z21 : XR b21_0 r21_0 ∧ XR b21_1 r21_1 ∧ XS b21_2 b21_1 .ret ∧ XS b21_3 b21_0 b21_2 ∧ XY s21 9 b21_3 [.t 2] := ⟨rfl, rfl, rfl, rfl, rfl⟩
abbrev r22_0 : List MOper := [⟨(some 4), .move (.c (.bool false)), none⟩]
def b22_0 : SCode := .region r22_0
abbrev r22_1 : List MOper := [⟨(some 7), .move (.t 1), none⟩,
  ⟨(some 8), .lenSl (.t 7), none⟩,
  ⟨(some 9), .move (.c (.int .i64 0)), none⟩]
def b22_1 : SCode := .region r22_1
abbrev r22_2 : List MOper := [⟨(some 10), .bin .lss .num (.t 9) (.t 8), none⟩]
def b22_2 : SCode := .region r22_2
def b22_3 : SCode := .cond (.t 10) .skip (.exit 0)
abbrev r22_4 : List MOper := [⟨(some 11), .indexAddr 1 (.t 7) (.t 9), none⟩,
  ⟨(some 12), .load1 (.t 11), none⟩,
  ⟨(some 6), .move (.t 12), none⟩]
def b22_4 : SCode := .region r22_4
abbrev r22_5 : List MOper := [⟨(some 13), .move (.t 6), none⟩,
  ⟨(some 14), .move (.t 0), none⟩,
  ⟨(some 15), .bin .eql .num (.t 13) (.t 14), none⟩]
def b22_5 : SCode := .region r22_5
abbrev r22_6 : List MOper := [⟨(some 4), .move (.c (.bool true)), none⟩]
def b22_6 : SCode := .region r22_6
def b22_7 : SCode := .seq b22_6 .ret
def b22_8 : SCode := .cond (.t 15) b22_7 .skip
def b22_9 : SCode := .seq b22_5 b22_8
def b22_10 : SCode := .seq b22_4 b22_9
def b22_11 : SCode := .block 1 b22_10
abbrev r22_12 : List MOper := [⟨(some 16), .bin .add .num (.t 9) (.c (.int .i64 1)), none⟩,
  ⟨(some 9), .move (.t 16), none⟩]
def b22_12 : SCode := .region r22_12
def b22_13 : SCode := .seq b22_11 b22_12
def b22_14 : SCode := .seq b22_3 b22_13
def b22_15 : SCode := .seq b22_2 b22_14
def b22_16 : SCode := .loop b22_15
def b22_17 : SCode := .block 0 b22_16
def b22_18 : SCode := .seq b22_1 b22_17
abbrev r22_19 : List MOper := [⟨(some 4), .move (.c (.bool false)), none⟩]
def b22_19 : SCode := .region r22_19
def b22_20 : SCode := .seq b22_19 .ret
def b22_21 : SCode := .seq b22_18 b22_20
def b22_22 : SCode := .seq b22_0 b22_21
def s22 : SFunc := ⟨17, [.t 4], b22_22⟩
theorem c22 : sFn Try.prog 22 = some s22 := by kernel_rfl
theorem Z22 : XR b22_0 r22_0 ∧ XR b22_1 r22_1 ∧ XR b22_2 r22_2 ∧ XC b22_3 (.t 10) .skip (.exit 0) ∧ XR b22_4 r22_4 ∧ XR b22_5 r22_5 ∧ XR b22_6 r22_6 ∧ XS b22_7 b22_6 .ret ∧ XC b22_8 (.t 15) b22_7 .skip ∧ XS b22_9 b22_5 b22_8 ∧ XS b22_10 b22_4 b22_9 ∧ XB b22_11 1 b22_10 ∧ XR b22_12 r22_12 ∧ XS b22_13 b22_11 b22_12 ∧ XS b22_14 b22_3 b22_13 ∧ XS b22_15 b22_2 b22_14 ∧ XB b22_17 0 b22_16 ∧ XS b22_18 b22_1 b22_17 ∧ XR b22_19 r22_19 ∧ XS b22_20 b22_19 .ret ∧ XS b22_21 b22_18 b22_20 ∧ XS b22_22 b22_0 b22_21 ∧ XY s22 17 b22_22 [.t 4] := ⟨rfl, rfl, rfl, sC_cond, rfl, rfl, rfl, rfl, sC_cond, rfl, rfl, rfl, rfl, rfl, rfl, rfl, rfl, rfl, rfl, rfl, rfl, rfl, rfl⟩
abbrev r42_0 : List MOper := [⟨(some 1), .box (.t 0), none⟩,
  ⟨(some 2), .move (.c (.bool false)), none⟩]
def b42_0 : SCode := .region r42_0
abbrev r42_1 : List MOper := [⟨(some 3), .loadN 8 (.t 1), none⟩,
  ⟨(some 4), .build [.int .i64 0, .int .i64 0, .int .i64 0, .str [], .str [], .str [], .str [], .int .i64 0] [], none⟩,
  ⟨(some 5), .bin .eql (.flat [.i, .i, .i, .s, .s, .s, .s, .i]) (.t 3) (.t 4), none⟩,
  ⟨(some 2), .move (.t 5), none⟩]
def b42_1 : SCode := .region r42_1
def b42_2 : SCode := .seq b42_1 .ret
def b42_3 : SCode := .seq b42_0 b42_2
def s42 : SFunc := ⟨6, [.t 2], b42_3⟩
theorem c42 : sFn Try.prog 42 = some s42 := by kernel_rfl
theorem Z42 : XR b42_0 r42_0 ∧ XR b42_1 r42_1 ∧ XS b42_2 b42_1 .ret ∧ XS b42_3 b42_0 b42_2 ∧ XY s42 6 b42_3 [.t 2] := ⟨rfl, rfl, rfl, rfl, rfl⟩
abbrev r43_0 : List MOper := [⟨(some 1), .box (.t 0), none⟩,
  ⟨(some 2), .move (.c (.bool false)), none⟩]
def b43_0 : SCode := .region r43_0
abbrev r43_1 : List MOper := [⟨(some 3), .fieldAddr 0 (.t 1), none⟩,
  ⟨(some 4), .load1 (.t 3), none⟩,
  ⟨(some 5), .bin .eql .num (.t 4) (.c (.int .i64 0)), none⟩,
  ⟨(some 6), .move (.t 5), none⟩,
  ⟨(some 7), .fieldAddr 1 (.t 1), (some (6, true))⟩,
  ⟨(some 8), .load1 (.t 7), (some (6, true))⟩,
  ⟨(some 9), .bin .eql .num (.t 8) (.c (.int .i64 0)), (some (6, true))⟩,
  ⟨(some 10), .pick (.t 6) (.t 9) (.c (.bool false)), none⟩,
  ⟨(some 11), .move (.t 10), none⟩,
  ⟨(some 12), .fieldAddr 2 (.t 1), (some (11, true))⟩,
  ⟨(some 13), .load1 (.t 12), (some (11, true))⟩,
  ⟨(some 14), .bin .eql .num (.t 13) (.c (.int .i64 0)), (some (11, true))⟩,
  ⟨(some 15), .pick (.t 11) (.t 14) (.c (.bool false)), none⟩,
  ⟨(some 16), .move (.t 15), none⟩,
  ⟨(some 17), .fieldAddr 3 (.t 1), (some (16, true))⟩,
  ⟨(some 18), .load1 (.t 17), (some (16, true))⟩,
  ⟨(some 19), .un .not (.t 18), (some (16, true))⟩,
  ⟨(some 20), .pick (.t 16) (.t 19) (.c (.bool false)), none⟩,
  ⟨(some 21), .move (.t 20), none⟩,
  ⟨(some 22), .fieldAddr 4 (.t 1), (some (21, true))⟩,
  ⟨(some 23), .load1 (.t 22), (some (21, true))⟩,
  ⟨(some 24), .bin .eql .num (.t 23) (.c (.str [])), (some (21, true))⟩,
  ⟨(some 25), .pick (.t 21) (.t 24) (.c (.bool false)), none⟩,
  ⟨(some 26), .move (.t 25), none⟩,
  ⟨(some 27), .fieldAddr 5 (.t 1), (some (26, true))⟩,
  ⟨(some 28), .load1 (.t 27), (some (26, true))⟩,
  ⟨(some 29), .lenSl (.t 28), (some (26, true))⟩,
  ⟨(some 30), .bin .eql .num (.t 29) (.c (.int .i64 0)), (some (26, true))⟩,
  ⟨(some 31), .pick (.t 26) (.t 30) (.c (.bool false)), none⟩,
  ⟨(some 32), .move (.t 31), none⟩,
  ⟨(some 33), .fieldAddr 6 (.t 1), (some (32, true))⟩,
  ⟨(some 34), .load1 (.t 33), (some (32, true))⟩,
  ⟨(some 35), .bin .eql .num (.t 34) (.c (.str [])), (some (32, true))⟩,
  ⟨(some 36), .pick (.t 32) (.t 35) (.c (.bool false)), none⟩,
  ⟨(some 37), .move (.t 36), none⟩,
  ⟨(some 38), .fieldAddr 7 (.t 1), (some (37, true))⟩,
  ⟨(some 39), .load1 (.t 38), (some (37, true))⟩,
  ⟨(some 40), .un .not (.t 39), (some (37, true))⟩,
  ⟨(some 41), .pick (.t 37) (.t 40) (.c (.bool false)), none⟩,
  ⟨(some 2), .move (.t 41), none⟩]
def b43_1 : SCode := .region r43_1
def b43_2 : SCode := .seq b43_1 .ret
def b43_3 : SCode := .seq b43_0 b43_2
def s43 : SFunc := ⟨42, [.t 2], b43_3⟩
theorem c43 : sFn Try.prog 43 = some s43 := by kernel_rfl
theorem Z43 : XR b43_0 r43_0 ∧ XR b43_1 r43_1 ∧ XS b43_2 b43_1 .ret ∧ XS b43_3 b43_0 b43_2 ∧ XY s43 42 b43_3 [.t 2] := ⟨rfl, rfl, rfl, rfl, rfl⟩
abbrev r56_0 : List MOper := [⟨(some 2), .move (.c (.bool false)), none⟩]
def b56_0 : SCode := .region r56_0
abbrev r56_1 : List MOper := [⟨(some 3), .move (.c (.str [])), none⟩]
def b56_1 : SCode := .region r56_1
abbrev r56_2 : List MOper := [⟨(some 6), .move (.t 0), none⟩,
  ⟨(some 7), .lenSl (.t 6), none⟩,
  ⟨(some 8), .move (.c (.int .i64 0)), none⟩]
def b56_2 : SCode := .region r56_2
abbrev r56_3 : List MOper := [⟨(some 9), .bin .lss .num (.t 8) (.t 7), none⟩]
def b56_3 : SCode := .region r56_3
def b56_4 : SCode := .cond (.t 9) .skip (.exit 0)
abbrev r56_5 : List MOper := [⟨(some 10), .move (.t 8), none⟩,
  ⟨(some 11), .indexAddr 2 (.t 6) (.t 8), none⟩,
  ⟨(some 12), .loadN 2 (.t 11), none⟩,
  ⟨(some 5), .alloc [.str [], .str []], none⟩,
  ⟨(some 4), .move (.t 10), none⟩,
  ⟨none, .store 2 (.t 5) (.t 12), none⟩]
def b56_5 : SCode := .region r56_5
abbrev r56_6 : List MOper := [⟨(some 13), .loadN 2 (.t 5), none⟩,
  ⟨(some 14), .call 69 [(.t 13)], none⟩,
  ⟨(some 15), .move (.t 14), none⟩,
  ⟨(some 16), .fieldAddr 0 (.t 5), (some (15, false))⟩,
  ⟨(some 17), .load1 (.t 16), (some (15, false))⟩,
  ⟨(some 18), .move (.t 3), (some (15, false))⟩,
  ⟨(some 19), .bin .neq .num (.t 17) (.t 18), (some (15, false))⟩,
  ⟨(some 20), .pick (.t 15) (.c (.bool true)) (.t 19), none⟩,
  ⟨(some 21), .move (.t 20), none⟩,
  ⟨(some 22), .move (.t 4), (some (21, false))⟩,
  ⟨(some 23), .bin .gtr .num (.t 22) (.c (.int .i64 0)), (some (21, false))⟩,
  ⟨(some 24), .move (.t 23), (some (21, false))⟩,
  ⟨(some 25), .move (.t 3), (some (24, true))⟩,
  ⟨(some 26), .bin .eql .num (.t 25) (.c (.str [])), (some (24, true))⟩,
  ⟨(some 27), .pick (.t 24) (.t 26) (.c (.bool false)), (some (21, false))⟩,
  ⟨(some 28), .pick (.t 21) (.c (.bool true)) (.t 27), none⟩]
def b56_6 : SCode := .region r56_6
abbrev r56_7 : List MOper := [⟨(some 2), .move (.c (.bool false)), none⟩]
def b56_7 : SCode := .region r56_7
def b56_8 : SCode := .seq b56_7 .ret
def b56_9 : SCode := .cond (.t 28) b56_8 .skip
def b56_10 : SCode := .seq b56_6 b56_9
abbrev r56_11 : List MOper := [⟨(some 29), .fieldAddr 1 (.t 5), none⟩,
  ⟨(some 30), .load1 (.t 29), none⟩,
  ⟨(some 3), .move (.t 30), none⟩]
def b56_11 : SCode := .region r56_11
def b56_12 : SCode := .seq b56_10 b56_11
def b56_13 : SCode := .seq b56_5 b56_12
def b56_14 : SCode := .block 1 b56_13
abbrev r56_15 : List MOper := [⟨(some 31), .bin .add .num (.t 8) (.c (.int .i64 1)), none⟩,
  ⟨(some 8), .move (.t 31), none⟩]
def b56_15 : SCode := .region r56_15
def b56_16 : SCode := .seq b56_14 b56_15
def b56_17 : SCode := .seq b56_4 b56_16
def b56_18 : SCode := .seq b56_3 b56_17
def b56_19 : SCode := .loop b56_18
def b56_20 : SCode := .block 0 b56_19
def b56_21 : SCode := .seq b56_2 b56_20
abbrev r56_22 : List MOper := [⟨(some 32), .move (.t 0), none⟩,
  ⟨(some 33), .lenSl (.t 32), none⟩,
  ⟨(some 34), .bin .gtr .num (.t 33) (.c (.int .i64 0)), none⟩,
  ⟨(some 35), .move (.t 34), none⟩,
  ⟨(some 36), .move (.t 3), (some (35, true))⟩,
  ⟨(some 37), .bin .eql .num (.t 36) (.c (.str [])), (some (35, true))⟩,
  ⟨(some 38), .pick (.t 35) (.t 37) (.c (.bool false)), none⟩,
  ⟨(some 2), .move (.t 38), none⟩]
def b56_22 : SCode := .region r56_22
def b56_23 : SCode := .seq b56_22 .ret
def b56_24 : SCode := .seq b56_21 b56_23
def b56_25 : SCode := .seq b56_1 b56_24
def b56_26 : SCode := .seq b56_0 b56_25
def s56 : SFunc := ⟨39, [.t 2], b56_26⟩
theorem c56 : sFn Try.prog 56 = some s56 := by kernel_rfl
theorem Z56 : XR b56_0 r56_0 ∧ XR b56_1 r56_1 ∧ XR b56_2 r56_2 ∧ XR b56_3 r56_3 ∧ XC b56_4 (.t 9) .skip (.exit 0) ∧ XR b56_5 r56_5 ∧ XR b56_6 r56_6 ∧ XR b56_7 r56_7 ∧ XS b56_8 b56_7 .ret ∧ XC b56_9 (.t 28) b56_8 .skip ∧ XS b56_10 b56_6 b56_9 ∧ XR b56_11 r56_11 ∧ XS b56_12 b56_10 b56_11 ∧ XS b56_13 b56_5 b56_12 ∧ XB b56_14 1 b56_13 ∧ XR b56_15 r56_15 ∧ XS b56_16 b56_14 b56_15 ∧ XS b56_17 b56_4 b56_16 ∧ XS b56_18 b56_3 b56_17 ∧ XB b56_20 0 b56_19 ∧ XS b56_21 b56_2 b56_20 ∧ XR b56_22 r56_22 ∧ XS b56_23 b56_22 .ret ∧ XS b56_24 b56_21 b56_23 ∧ XS b56_25 b56_1 b56_24 ∧ XS b56_26 b56_0 b56_25 ∧ XY s56 39 b56_26 [.t 2] := ⟨rfl, rfl, rfl, rfl, sC_cond, rfl, rfl, rfl, rfl, sC_cond, rfl, rfl, rfl, rfl, rfl, rfl, rfl, rfl, rfl, rfl, rfl, rfl, rfl, rfl, rfl, rfl, rfl⟩
abbrev r69_0 : List MOper := [⟨(some 1), .box (.t 0), none⟩,
  ⟨(some 2), .move (.c (.bool false)), none⟩]
def b69_0 : SCode := .region r69_0
abbrev r69_1 : List MOper := [⟨(some 3), .fieldAddr 1 (.t 1), none⟩,
  ⟨(some 4), .load1 (.t 3), none⟩,
  ⟨(some 5), .bin .neq .num (.t 4) (.c (.str [])), none⟩,
  ⟨(some 6), .move (.t 5), none⟩,
  ⟨(some 7), .fieldAddr 1 (.t 1), (some (6, true))⟩,
  ⟨(some 8), .load1 (.t 7), (some (6, true))⟩,
  ⟨(some 9), .fieldAddr 0 (.t 1), (some (6, true))⟩,
  ⟨(some 10), .load1 (.t 9), (some (6, true))⟩,
  ⟨(some 11), .bin .leq .num (.t 8) (.t 10), (some (6, true))⟩,
  ⟨(some 12), .pick (.t 6) (.t 11) (.c (.bool false)), none⟩,
  ⟨(some 2), .move (.t 12), none⟩]
def b69_1 : SCode := .region r69_1
def b69_2 : SCode := .seq b69_1 .ret
def b69_3 : SCode := .seq b69_0 b69_2
def s69 : SFunc := ⟨13, [.t 2], b69_3⟩
theorem c69 : sFn Try.prog 69 = some s69 := by kernel_rfl
theorem Z69 : XR b69_0 r69_0 ∧ XR b69_1 r69_1 ∧ XS b69_2 b69_1 .ret ∧ XS b69_3 b69_0 b69_2 ∧ XY s69 13 b69_3 [.t 2] := ⟨rfl, rfl, rfl, rfl, rfl⟩

end
set_option maxHeartbeats 4000000
set_option maxRecDepth 10000
theorem push_new' {σ : AHeap} {c : List AV} : hget (hpush σ c) (List.length σ) = some c := push_new rfl
/-! Numbers, parties, kinds. -/
def partyB (n : Int) : Bool := (decide (0 ≤ n) && decide (n ≤ 5)) || (decide (100 ≤ n) && decide (n < 104))
theorem party_ok (n : Int) : Tri Try.prog 20 [.int .i64 n] [] fun r _ => r.pure = true ∧ r = .bool (partyB n) := by
  refine Tri.of_s c20 (noCall_sound _) ?_
  cases h1 : decide (0 ≤ n) <;> cases h2 : decide (n ≤ 5) <;> cases h3 : decide (100 ≤ n) <;> cases h4 : decide (n < 104) <;>
    (simp only [Z20, base1, baseE, ↓reduceIte, Nat.reduceAdd, Nat.reduceSub, Nat.reduceMul, Nat.reduceEqDiff, Nat.reduceLeDiff, Nat.reduceLT, Int.reduceLT, Int.reduceLE, Int.reduceEq, Int.reduceNe, Int.reduceToNat, Int.reduceAdd, Int.reduceSub, reduceCtorEq, Nat.reduceBEq, Nat.reduceBNe, h1, h2, h3, h4]; exact ⟨rfl, by simp only [partyB, h1, h2, h3, h4]; rfl⟩)
def numB (n : Int) : Bool := decide (0 ≤ n) && decide (n ≤ 268435455)
theorem number_ok (n : Int) : Tri Try.prog 21 [.int .i64 n] [] fun r _ => r.pure = true ∧ r = .bool (numB n) := by
  refine Tri.of_s c21 (noCall_sound _) ?_
  cases h1 : decide (0 ≤ n) <;> cases h2 : decide (n ≤ 268435455) <;>
    (simp only [Z21, base1, baseE, ↓reduceIte, Nat.reduceAdd, Nat.reduceSub, Nat.reduceMul, Nat.reduceEqDiff, Nat.reduceLeDiff, Nat.reduceLT, Int.reduceLT, Int.reduceLE, Int.reduceEq, Int.reduceNe, Int.reduceToNat, Int.reduceAdd, Int.reduceSub, reduceCtorEq, Nat.reduceBEq, Nat.reduceBNe, h1, h2]; exact ⟨rfl, by simp only [numB, h1, h2]; rfl⟩)
def partyD : List AV → AHeap → (AV → AHeap → Prop) → Prop
  | [.int .i64 n], σ, K => K (.bool (partyB n)) σ
  | _, _, _ => False
theorem partyD_eq {n : Int} {σ : AHeap} {K : AV → AHeap → Prop} : partyD [.int .i64 n] σ K = K (.bool (partyB n)) σ := _root_.id rfl
theorem partyD_ok (args : List AV) (σ : AHeap) (K : AV → AHeap → Prop) (h : partyD args σ K) : Tri Try.prog 20 args σ K := by
  unfold partyD at h
  split at h
  · exact (Tri.pureD rfl (party_ok _) _).mono fun r σ' hr => by rw [hr.1, hr.2]; exact h
  · exact h.elim
def numberD : List AV → AHeap → (AV → AHeap → Prop) → Prop
  | [.int .i64 n], σ, K => K (.bool (numB n)) σ
  | _, _, _ => False
theorem numberD_eq {n : Int} {σ : AHeap} {K : AV → AHeap → Prop} : numberD [.int .i64 n] σ K = K (.bool (numB n)) σ := _root_.id rfl
theorem numberD_ok (args : List AV) (σ : AHeap) (K : AV → AHeap → Prop) (h : numberD args σ K) : Tri Try.prog 21 args σ K := by
  unfold numberD at h
  split at h
  · exact (Tri.pureD rfl (number_ok _) _).mono fun r σ' hr => by rw [hr.1, hr.2]; exact h
  · exact h.elim
def hasI (k : Int) (ks : List Int) (cs : List AV) (s : Nat) (σ0 : AHeap) (n : Nat) (e : Env) (σ : AHeap) : Prop :=
  ∃ i : Nat, i ≤ ks.length ∧ n = ks.length - i ∧ σ = σ0 ∧ (ks.take i).contains k = false ∧ e 0 = .int .i64 k ∧ e 7 = .slice s 0 ks.length (some ks.length) 1 ∧ e 8 = .int .i64 (ks.length : Int) ∧ e 9 = .int .i64 (i : Int)
theorem has_step (k : Int) (ks : List Int) (s : Nat) (σ0 : AHeap) (hs : hget σ0 s = some (ks.map fun n => AV.int .i64 n)) (hl : ks.length ≤ 1000) (Q : AV → AHeap → Prop) (hQ : Q (.bool (ks.contains k)) σ0) (n0 n : Nat) (e : Env) (σ : AHeap) (h : hasI k ks [] s σ0 n e σ) :
    sC noCall n0 b22_15 (unw noCall n0 (loopR noCall n0 (RetQ [MRes.t 4] Q) (.block 0 (.seq b22_20 .fin)) (hasI k ks [] s σ0) n) .fin) e σ := by
  obtain ⟨i, hi, hn, rfl, ht, h0, h7, h8, h9⟩ := h
  rcases Nat.lt_or_ge i ks.length with hlt | hge
  · have hlt' : (i : Int) < (ks.length : Int) := by omega
    have hge0 : (0 : Int) ≤ (i : Int) := by omega
    obtain ⟨x, hx⟩ : ∃ x, ks[i]? = some x := ⟨_, List.getElem?_eq_getElem hlt⟩
    have hxx : (ks.map fun n => AV.int .i64 n)[i]? = some (.int .i64 x) := by simp [hx]
    have htk : ks.take (i + 1) = ks.take i ++ [x] := by rw [List.take_add_one, hx]; rfl
    have hw : IntKind.wrap .i64 ((i : Int) + 1) = ((i + 1 : Nat) : Int) := by rw [Gz.wrap64 (by omega)]; omega
    by_cases hxk : x = k
    · have hc : ks.contains k = true := by rw [List.contains_iff_mem]; rw [← hxk]; exact List.mem_of_getElem? hx
      rw [hc] at hQ
      simp only [Z22, base1, baseE, ↓reduceIte, Nat.reduceAdd, Nat.reduceSub, Nat.reduceMul, Nat.reduceEqDiff, Nat.reduceLeDiff, Nat.reduceLT, Int.reduceLT, Int.reduceLE, Int.reduceEq, Int.reduceNe, Int.reduceToNat, Int.reduceAdd, Int.reduceSub, reduceCtorEq, Nat.reduceBEq, Nat.reduceBNe, loopR_exit, loopR_ret, h0, h7, h8, h9, hlt', hlt, hge0, hs, hxx, hxk, Int.toNat_natCast]
      exact hQ
    · simp only [Z22, base1, baseE, ↓reduceIte, Nat.reduceAdd, Nat.reduceSub, Nat.reduceMul, Nat.reduceEqDiff, Nat.reduceLeDiff, Nat.reduceLT, Int.reduceLT, Int.reduceLE, Int.reduceEq, Int.reduceNe, Int.reduceToNat, Int.reduceAdd, Int.reduceSub, reduceCtorEq, Nat.reduceBEq, Nat.reduceBNe, loopR_exit, loopR_ret, h0, h7, h8, h9, hlt', hlt, hge0, hs, hxx, hxk, hw, Int.toNat_natCast]
      rw [loopR_normal]
      refine ⟨ks.length - (i + 1), _, _, by omega, .refl _ _ _, i + 1, hlt, rfl, rfl, ?_, ?_, ?_, ?_, ?_⟩
      · have e1 : (ks.take i ++ [x]).contains k = ((ks.take i).contains k || [x].contains k) := by
          rw [Bool.eq_iff_iff]; simp
        rw [htk, e1, ht]
        have : ¬ k = x := fun e => hxk e.symm
        simp [this]
      all_goals simp only [putD_some, putD_none, Nat.reduceEqDiff, ↓reduceIte, h0, h7, h8, h9, hw]
  · have hlt' : ¬ (i : Int) < (ks.length : Int) := by omega
    have hie : i = ks.length := by omega
    subst hie
    rw [List.take_length] at ht
    rw [ht] at hQ
    simp only [Z22, base1, baseE, ↓reduceIte, Nat.reduceAdd, Nat.reduceSub, Nat.reduceMul, Nat.reduceEqDiff, Nat.reduceLeDiff, Nat.reduceLT, Int.reduceLT, Int.reduceLE, Int.reduceEq, Int.reduceNe, Int.reduceToNat, Int.reduceAdd, Int.reduceSub, reduceCtorEq, Nat.reduceBEq, Nat.reduceBNe, loopR_exit, loopR_ret, h0, h7, h8, h9, hlt']
    exact hQ
def intsL : List AV → Option (List Int)
  | [] => some []
  | .int .i64 n :: r => match intsL r with
    | some l => some (n :: l)
    | none => none
  | _ => none
theorem intsL_nil : intsL [] = some [] := _root_.id rfl
theorem intsL_cons {n : Int} {r : List AV} {l : List Int} (h : intsL r = some l) : intsL (.int .i64 n :: r) = some (n :: l) := by simp only [intsL, h]
theorem intsL_eq : ∀ {cs : List AV} {l : List Int}, intsL cs = some l → cs = l.map fun n => AV.int .i64 n
  | [], l, h => by cases h; rfl
  | .int .i64 n :: r, l, h => by
    simp only [intsL] at h
    split at h
    · rename_i l' hl; cases h; rw [intsL_eq hl]; rfl
    · cases h
theorem intsL_2 {a b : Int} : intsL [.int .i64 a, .int .i64 b] = some [a, b] := _root_.id rfl
theorem intsL_6 {a b c d e f : Int} : intsL [.int .i64 a, .int .i64 b, .int .i64 c, .int .i64 d, .int .i64 e, .int .i64 f] = some [a, b, c, d, e, f] := _root_.id rfl
def hasK (k : Int) (len : Nat) (o : Option (List AV)) (σ : AHeap) (K : AV → AHeap → Prop) : Prop :=
  match o with
  | some cs => (match intsL cs with | some ks => ks.length = len ∧ len ≤ 1000 ∧ K (.bool (ks.contains k)) σ | none => False)
  | none => False
theorem hasK_2 {k a b : Int} {σ : AHeap} {K : AV → AHeap → Prop} : hasK k 2 (some [.int .i64 a, .int .i64 b]) σ K = K (.bool ([a, b].contains k)) σ := by simp [hasK, intsL_2]
theorem hasK_6 {k a b c d e f : Int} {σ : AHeap} {K : AV → AHeap → Prop} : hasK k 6 (some [.int .i64 a, .int .i64 b, .int .i64 c, .int .i64 d, .int .i64 e, .int .i64 f]) σ K = K (.bool ([a, b, c, d, e, f].contains k)) σ := by simp [hasK, intsL_6]
def hasD : List AV → AHeap → (AV → AHeap → Prop) → Prop
  | [.int .i64 k, .slice s 0 len (some c) 1], σ, K => c = len ∧ hasK k len (hget σ s) σ K
  | _, _, _ => False
theorem hasD_eq {k : Int} {s len : Nat} {σ : AHeap} {K : AV → AHeap → Prop} : hasD [.int .i64 k, .slice s 0 len (some len) 1] σ K = hasK k len (hget σ s) σ K := by simp [hasD]
theorem hasD_ok (args : List AV) (σ : AHeap) (K : AV → AHeap → Prop) (h : hasD args σ K) : Tri Try.prog 22 args σ K := by
  unfold hasD at h
  split at h
  · obtain ⟨rfl, h⟩ := h
    rename_i k s len
    unfold hasK at h
    split at h
    · rename_i cs hcs
      split at h
      · rename_i ks hks
        obtain ⟨rfl, hl, h⟩ := h
        rw [intsL_eq hks] at hcs
        refine Tri.of_s c22 (noCall_sound _) ?_
        simp only [Z22, base1, baseE, ↓reduceIte, Nat.reduceAdd, Nat.reduceSub, Nat.reduceMul, Nat.reduceEqDiff, Nat.reduceLeDiff, Nat.reduceLT, Int.reduceLT, Int.reduceLE, Int.reduceEq, Int.reduceNe, Int.reduceToNat, Int.reduceAdd, Int.reduceSub, reduceCtorEq, Nat.reduceBEq, Nat.reduceBNe]
        exact sC_inv (a := b22_15) (hasI k ks [] s σ) ks.length _ σ (.refl _ _ _) ⟨0, Nat.zero_le _, rfl, rfl, rfl, rfl, rfl, rfl, rfl⟩ (has_step k ks s σ hcs hl K h σ.length)
      · exact h.elim
    · exact h.elim
  · exact h.elim
/-! No ask, no reply. -/
def noAskB (a : AskV) : Bool := decide (a.do_ = 0) && (decide (a.client = 0) && (decide (a.seq = 0) && (decide (a.text = []) && (decide (a.val = []) && (decide (a.from_ = []) && (decide (a.to = []) && decide (a.limit = 0)))))))
theorem noAsk_ok (a : AskV) : Tri Try.prog 42 [.agg a.cells] [] fun r _ => r.pure = true ∧ r = .bool (noAskB a) := by
  refine Tri.of_s c42 (noCall_sound _) ?_
  simp only [AskV.cells, Z42, base1, baseE, ↓reduceIte, Nat.reduceAdd, Nat.reduceSub, Nat.reduceMul, Nat.reduceEqDiff, Nat.reduceLeDiff, Nat.reduceLT, Int.reduceLT, Int.reduceLE, Int.reduceEq, Int.reduceNe, Int.reduceToNat, Int.reduceAdd, Int.reduceSub, reduceCtorEq, Nat.reduceBEq, Nat.reduceBNe]
  exact ⟨rfl, rfl⟩
def noRepB (r : RepV) : Bool := decide (r.client = 0) && (decide (r.seq = 0) && (decide (r.err = 0) && ((!r.found) && (decide (r.val = []) && (decide ((r.l.length : Int) = 0) && (decide (r.next = []) && !r.more))))))
theorem recs_len (l : List (List UInt8 × List UInt8)) : (recs l).length = l.length := by simp [recs]
theorem noReply_ok (a : RepV) : Tri Try.prog 43 [.agg a.cells] [] fun r _ => r.pure = true ∧ r = .bool (noRepB a) := by
  refine Tri.of_s c43 (noCall_sound _) ?_
  cases h1 : decide (a.client = 0) with
  | false =>
    simp only [RepV.cells, Z43, base1, baseE, ↓reduceIte, Nat.reduceAdd, Nat.reduceSub, Nat.reduceMul, Nat.reduceEqDiff, Nat.reduceLeDiff, Nat.reduceLT, Int.reduceLT, Int.reduceLE, Int.reduceEq, Int.reduceNe, Int.reduceToNat, Int.reduceAdd, Int.reduceSub, reduceCtorEq, Nat.reduceBEq, Nat.reduceBNe, recs_len, h1]
    exact ⟨rfl, by simp only [noRepB, h1]; rfl⟩
  | true =>
    cases h2 : decide (a.seq = 0) with
    | false =>
      simp only [RepV.cells, Z43, base1, baseE, ↓reduceIte, Nat.reduceAdd, Nat.reduceSub, Nat.reduceMul, Nat.reduceEqDiff, Nat.reduceLeDiff, Nat.reduceLT, Int.reduceLT, Int.reduceLE, Int.reduceEq, Int.reduceNe, Int.reduceToNat, Int.reduceAdd, Int.reduceSub, reduceCtorEq, Nat.reduceBEq, Nat.reduceBNe, recs_len, h1, h2]
      exact ⟨rfl, by simp only [noRepB, h1, h2]; rfl⟩
    | true =>
      cases h3 : decide (a.err = 0) with
      | false =>
        simp only [RepV.cells, Z43, base1, baseE, ↓reduceIte, Nat.reduceAdd, Nat.reduceSub, Nat.reduceMul, Nat.reduceEqDiff, Nat.reduceLeDiff, Nat.reduceLT, Int.reduceLT, Int.reduceLE, Int.reduceEq, Int.reduceNe, Int.reduceToNat, Int.reduceAdd, Int.reduceSub, reduceCtorEq, Nat.reduceBEq, Nat.reduceBNe, recs_len, h1, h2, h3]
        exact ⟨rfl, by simp only [noRepB, h1, h2, h3]; rfl⟩
      | true =>
        cases h4 : a.found with
        | false =>
          cases h5 : decide (a.val = []) with
          | false =>
            simp only [RepV.cells, Z43, base1, baseE, ↓reduceIte, Nat.reduceAdd, Nat.reduceSub, Nat.reduceMul, Nat.reduceEqDiff, Nat.reduceLeDiff, Nat.reduceLT, Int.reduceLT, Int.reduceLE, Int.reduceEq, Int.reduceNe, Int.reduceToNat, Int.reduceAdd, Int.reduceSub, reduceCtorEq, Nat.reduceBEq, Nat.reduceBNe, recs_len, h1, h2, h3, h4, h5]
            exact ⟨rfl, by simp only [noRepB, h1, h2, h3, h4, h5]; rfl⟩
          | true =>
            cases h6 : decide ((a.l.length : Int) = 0) with
            | false =>
              simp only [RepV.cells, Z43, base1, baseE, ↓reduceIte, Nat.reduceAdd, Nat.reduceSub, Nat.reduceMul, Nat.reduceEqDiff, Nat.reduceLeDiff, Nat.reduceLT, Int.reduceLT, Int.reduceLE, Int.reduceEq, Int.reduceNe, Int.reduceToNat, Int.reduceAdd, Int.reduceSub, reduceCtorEq, Nat.reduceBEq, Nat.reduceBNe, recs_len, h1, h2, h3, h4, h5, h6]
              exact ⟨rfl, by simp only [noRepB, h1, h2, h3, h4, h5, h6]; rfl⟩
            | true =>
              cases h7 : decide (a.next = []) with
              | false =>
                simp only [RepV.cells, Z43, base1, baseE, ↓reduceIte, Nat.reduceAdd, Nat.reduceSub, Nat.reduceMul, Nat.reduceEqDiff, Nat.reduceLeDiff, Nat.reduceLT, Int.reduceLT, Int.reduceLE, Int.reduceEq, Int.reduceNe, Int.reduceToNat, Int.reduceAdd, Int.reduceSub, reduceCtorEq, Nat.reduceBEq, Nat.reduceBNe, recs_len, h1, h2, h3, h4, h5, h6, h7]
                exact ⟨rfl, by simp only [noRepB, h1, h2, h3, h4, h5, h6, h7]; rfl⟩
              | true =>
                cases h8 : a.more with
                | false =>
                  simp only [RepV.cells, Z43, base1, baseE, ↓reduceIte, Nat.reduceAdd, Nat.reduceSub, Nat.reduceMul, Nat.reduceEqDiff, Nat.reduceLeDiff, Nat.reduceLT, Int.reduceLT, Int.reduceLE, Int.reduceEq, Int.reduceNe, Int.reduceToNat, Int.reduceAdd, Int.reduceSub, reduceCtorEq, Nat.reduceBEq, Nat.reduceBNe, recs_len, h1, h2, h3, h4, h5, h6, h7, h8]
                  exact ⟨rfl, by simp only [noRepB, h1, h2, h3, h4, h5, h6, h7, h8]; rfl⟩
                | true =>
                  simp only [RepV.cells, Z43, base1, baseE, ↓reduceIte, Nat.reduceAdd, Nat.reduceSub, Nat.reduceMul, Nat.reduceEqDiff, Nat.reduceLeDiff, Nat.reduceLT, Int.reduceLT, Int.reduceLE, Int.reduceEq, Int.reduceNe, Int.reduceToNat, Int.reduceAdd, Int.reduceSub, reduceCtorEq, Nat.reduceBEq, Nat.reduceBNe, recs_len, h1, h2, h3, h4, h5, h6, h7, h8]
                  exact ⟨rfl, by simp only [noRepB, h1, h2, h3, h4, h5, h6, h7, h8]; rfl⟩
        | true =>
          simp only [RepV.cells, Z43, base1, baseE, ↓reduceIte, Nat.reduceAdd, Nat.reduceSub, Nat.reduceMul, Nat.reduceEqDiff, Nat.reduceLeDiff, Nat.reduceLT, Int.reduceLT, Int.reduceLE, Int.reduceEq, Int.reduceNe, Int.reduceToNat, Int.reduceAdd, Int.reduceSub, reduceCtorEq, Nat.reduceBEq, Nat.reduceBNe, recs_len, h1, h2, h3, h4]
          exact ⟨rfl, by simp only [noRepB, h1, h2, h3, h4]; rfl⟩
/-! Spans. -/
def leB (x y : List UInt8) : Bool := lessBytes x y || x == y
def emptyB (p : List UInt8 × List UInt8) : Bool := decide (p.2 ≠ []) && leB p.2 p.1
theorem empty_ok (p : List UInt8 × List UInt8) : Tri Try.prog 69 [.agg (recC p)] [] fun r _ => r.pure = true ∧ r = .bool (emptyB p) := by
  refine Tri.of_s c69 (noCall_sound _) ?_
  have hle : (lessBytes p.2 p.1 || p.2 == p.1) = leB p.2 p.1 := rfl
  cases h1 : decide (p.2 ≠ []) with
  | false =>
    simp only [recC, Z69, base1, baseE, ↓reduceIte, Nat.reduceAdd, Nat.reduceSub, Nat.reduceMul, Nat.reduceEqDiff, Nat.reduceLeDiff, Nat.reduceLT, Int.reduceLT, Int.reduceLE, Int.reduceEq, Int.reduceNe, Int.reduceToNat, Int.reduceAdd, Int.reduceSub, reduceCtorEq, Nat.reduceBEq, Nat.reduceBNe, h1]
    exact ⟨rfl, by simp only [emptyB, h1]; rfl⟩
  | true =>
    simp only [recC, Z69, base1, baseE, ↓reduceIte, Nat.reduceAdd, Nat.reduceSub, Nat.reduceMul, Nat.reduceEqDiff, Nat.reduceLeDiff, Nat.reduceLT, Int.reduceLT, Int.reduceLE, Int.reduceEq, Int.reduceNe, Int.reduceToNat, Int.reduceAdd, Int.reduceSub, reduceCtorEq, Nat.reduceBEq, Nat.reduceBNe, h1]
    exact ⟨rfl, by simp only [emptyB, h1, leB]; rfl⟩
def emptyD : List AV → AHeap → (AV → AHeap → Prop) → Prop
  | [.agg [.str f, .str t]], σ, K => K (.bool (emptyB (f, t))) σ
  | _, _, _ => False
theorem emptyD_eq {f t : List UInt8} {σ : AHeap} {K : AV → AHeap → Prop} : emptyD [.agg [.str f, .str t]] σ K = K (.bool (emptyB (f, t))) σ := _root_.id rfl
theorem emptyD_ok (args : List AV) (σ : AHeap) (K : AV → AHeap → Prop) (h : emptyD args σ K) : Tri Try.prog 69 args σ K := by
  unfold emptyD at h
  split at h
  · rename_i f t
    exact (Tri.pureD rfl (empty_ok (f, t)) _).mono fun r σ' hr => by rw [hr.1, hr.2]; exact h
  · exact h.elim
def wholeG : Nat → List UInt8 → List (List UInt8 × List UInt8) → Bool
  | i, at_, [] => decide (0 < i) && decide (at_ = [])
  | i, at_, s :: r => if emptyB s || decide (s.1 ≠ at_) || (decide (0 < i) && decide (at_ = [])) then false else wholeG (i + 1) s.2 r
def wholeB (l : List (List UInt8 × List UInt8)) : Bool := wholeG 0 [] l
def W1 : PCall := rowQ 69 emptyD noCall
theorem W1_app {f : FuncId} {args : List AV} {σ : AHeap} {K : AV → AHeap → Prop} : W1 f args σ K = rowQ 69 emptyD noCall f args σ K := _root_.id rfl
theorem W1_sound : Sound Try.prog W1 := rowQ_sound emptyD_ok (noCall_sound _)
def whI (l : List (List UInt8 × List UInt8)) (n : Nat) (e : Env) (σ : AHeap) : Prop :=
  ∃ (i : Nat) (at_ : List UInt8), i ≤ l.length ∧ n = l.length - i ∧ wholeG i at_ (l.drop i) = wholeB l ∧ e 0 = .imm (l.map recC) false false ∧ e 3 = .str at_ ∧ e 6 = .imm (l.map recC) false false ∧ e 7 = .int .i64 (l.length : Int) ∧ e 8 = .int .i64 (i : Int)
theorem wh_step (l : List (List UInt8 × List UInt8)) (hl : l.length ≤ 1000000) (n : Nat) (e : Env) (σ : AHeap) (h : whI l n e σ) :
    sC W1 0 b56_18 (unw W1 0 (loopR W1 0 (RetQ [MRes.t 2] fun r _ => r.pure = true ∧ r = .bool (wholeB l)) (.block 0 (.seq b56_23 .fin)) (whI l) n) .fin) e σ := by
  obtain ⟨i, at_, hi, hn, hG, h0, h3, h6, h7, h8⟩ := h
  have hml : (l.map recC).length = l.length := by simp
  rcases Nat.lt_or_ge i l.length with hlt | hge
  · have hlt' : (i : Int) < (l.length : Int) := by omega
    have hge0 : (0 : Int) ≤ (i : Int) := by omega
    obtain ⟨x, hx⟩ : ∃ x, l[i]? = some x := ⟨_, List.getElem?_eq_getElem hlt⟩
    have hxx : (l.map recC)[i]? = some [.str x.1, .str x.2] := by simp [hx, recC]
    have hw : IntKind.wrap .i64 ((i : Int) + 1) = ((i + 1 : Nat) : Int) := by rw [Gz.wrap64 (by omega)]; omega
    have hdr : l.drop i = x :: l.drop (i + 1) := by
      rw [List.drop_eq_getElem_cons hlt]; congr 1
      exact Option.some.inj ((List.getElem?_eq_getElem hlt).symm.trans hx)
    rw [hdr] at hG
    simp only [wholeG] at hG
    have sn : ∀ c c' : List AV, hget (hset (hpush σ c) (List.length σ) c') (List.length σ) = some c' := fun c c' => set_same push_new'
    have hi0 : decide ((0 : Int) < (i : Int)) = decide (0 < i) := by by_cases h : 0 < i <;> simp [h] <;> omega
    have hp : (x.1, x.2) = x := rfl
    have bad : ∀ (σ' : AHeap), (emptyB x || decide (x.1 ≠ at_) || (decide (0 < i) && decide (at_ = []))) = true → (AV.bool false).pure = true ∧ AV.bool false = .bool (wholeB l) := by
      intro σ' hb
      rw [hb, if_pos rfl] at hG
      exact ⟨rfl, by rw [← hG]⟩
    have good : (emptyB x || decide (x.1 ≠ at_) || (decide (0 < i) && decide (at_ = []))) = false → wholeG (i + 1) x.2 (l.drop (i + 1)) = wholeB l := by
      intro hb
      rw [hb] at hG
      simpa using hG
    cases g1 : emptyB x with
    | true =>
      simp only [W1_app, Z56, base1, baseE, ↓reduceIte, Nat.reduceAdd, Nat.reduceSub, Nat.reduceMul, Nat.reduceEqDiff, Nat.reduceLeDiff, Nat.reduceLT, Int.reduceLT, Int.reduceLE, Int.reduceEq, Int.reduceNe, Int.reduceToNat, Int.reduceAdd, Int.reduceSub, reduceCtorEq, Nat.reduceBEq, Nat.reduceBNe, loopR_exit, loopR_ret, emptyD_eq, h0, h3, h6, h7, h8, hlt', hlt, hge0, hxx, hml, hw, Int.toNat_natCast, push_new', sn, hp, g1]
      exact bad σ (by simp [g1])
    | false =>
      cases g2 : decide (x.1 ≠ at_) with
      | true =>
        simp only [W1_app, Z56, base1, baseE, ↓reduceIte, Nat.reduceAdd, Nat.reduceSub, Nat.reduceMul, Nat.reduceEqDiff, Nat.reduceLeDiff, Nat.reduceLT, Int.reduceLT, Int.reduceLE, Int.reduceEq, Int.reduceNe, Int.reduceToNat, Int.reduceAdd, Int.reduceSub, reduceCtorEq, Nat.reduceBEq, Nat.reduceBNe, loopR_exit, loopR_ret, emptyD_eq, h0, h3, h6, h7, h8, hlt', hlt, hge0, hxx, hml, hw, Int.toNat_natCast, push_new', sn, hp, g1, g2]
        exact bad σ (by simp [g1, g2])
      | false =>
        have fin : ∀ e' : Env, ∀ σ', wholeG (i + 1) x.2 (l.drop (i + 1)) = wholeB l → e' 0 = .imm (l.map recC) false false → e' 3 = .str x.2 → e' 6 = .imm (l.map recC) false false → e' 7 = .int .i64 (l.length : Int) → e' 8 = .int .i64 ((i + 1 : Nat) : Int) → loopR W1 0 (RetQ [MRes.t 2] fun r _ => r.pure = true ∧ r = .bool (wholeB l)) (.block 0 (.seq b56_23 .fin)) (whI l) n .normal e' σ' := by
          intro e' σ' hg k0 k3 k6 k7 k8
          rw [loopR_normal]
          exact ⟨l.length - (i + 1), _, _, by omega, .refl _ _ _, i + 1, x.2, hlt, rfl, hg, k0, k3, k6, k7, k8⟩
        cases g3 : decide (0 < i) with
        | false =>
          have gg := good (by simp [g1, g2, g3])
          simp only [W1_app, Z56, base1, baseE, ↓reduceIte, Nat.reduceAdd, Nat.reduceSub, Nat.reduceMul, Nat.reduceEqDiff, Nat.reduceLeDiff, Nat.reduceLT, Int.reduceLT, Int.reduceLE, Int.reduceEq, Int.reduceNe, Int.reduceToNat, Int.reduceAdd, Int.reduceSub, reduceCtorEq, Nat.reduceBEq, Nat.reduceBNe, loopR_exit, loopR_ret, emptyD_eq, h0, h3, h6, h7, h8, hlt', hlt, hge0, hxx, hml, hw, Int.toNat_natCast, push_new', sn, hp, g1, g2, hi0, g3]
          refine fin _ _ gg ?_ ?_ ?_ ?_ ?_
          all_goals simp only [putD_some, putD_none, Nat.reduceEqDiff, ↓reduceIte, h0, h3, h6, h7, h8, hw]
        | true =>
          cases g4 : decide (at_ = []) with
          | true =>
            simp only [W1_app, Z56, base1, baseE, ↓reduceIte, Nat.reduceAdd, Nat.reduceSub, Nat.reduceMul, Nat.reduceEqDiff, Nat.reduceLeDiff, Nat.reduceLT, Int.reduceLT, Int.reduceLE, Int.reduceEq, Int.reduceNe, Int.reduceToNat, Int.reduceAdd, Int.reduceSub, reduceCtorEq, Nat.reduceBEq, Nat.reduceBNe, loopR_exit, loopR_ret, emptyD_eq, h0, h3, h6, h7, h8, hlt', hlt, hge0, hxx, hml, hw, Int.toNat_natCast, push_new', sn, hp, g1, g2, hi0, g3, g4]
            exact bad σ (by simp [g1, g2, g3, g4])
          | false =>
            have gg := good (by simp [g1, g2, g3, g4])
            simp only [W1_app, Z56, base1, baseE, ↓reduceIte, Nat.reduceAdd, Nat.reduceSub, Nat.reduceMul, Nat.reduceEqDiff, Nat.reduceLeDiff, Nat.reduceLT, Int.reduceLT, Int.reduceLE, Int.reduceEq, Int.reduceNe, Int.reduceToNat, Int.reduceAdd, Int.reduceSub, reduceCtorEq, Nat.reduceBEq, Nat.reduceBNe, loopR_exit, loopR_ret, emptyD_eq, h0, h3, h6, h7, h8, hlt', hlt, hge0, hxx, hml, hw, Int.toNat_natCast, push_new', sn, hp, g1, g2, hi0, g3, g4]
            refine fin _ _ gg ?_ ?_ ?_ ?_ ?_
            all_goals simp only [putD_some, putD_none, Nat.reduceEqDiff, ↓reduceIte, h0, h3, h6, h7, h8, hw]
  · have hlt' : ¬ (i : Int) < (l.length : Int) := by omega
    have hie : i = l.length := by omega
    subst hie
    have hd0 : l.drop l.length = [] := List.drop_length
    rw [hd0] at hG
    simp only [wholeG] at hG
    have hi0 : decide ((0 : Int) < (l.length : Int)) = decide (0 < l.length) := by by_cases h : 0 < l.length <;> simp [h] <;> omega
    cases g1 : decide (0 < l.length) <;> cases g2 : decide (at_ = []) <;>
      (simp only [W1_app, Z56, base1, baseE, ↓reduceIte, Nat.reduceAdd, Nat.reduceSub, Nat.reduceMul, Nat.reduceEqDiff, Nat.reduceLeDiff, Nat.reduceLT, Int.reduceLT, Int.reduceLE, Int.reduceEq, Int.reduceNe, Int.reduceToNat, Int.reduceAdd, Int.reduceSub, reduceCtorEq, Nat.reduceBEq, Nat.reduceBNe, loopR_exit, loopR_ret, h0, h3, h6, h7, h8, hlt', hml, hi0, g1, g2]; exact ⟨rfl, by rw [← hG, g1, g2]; rfl⟩)
theorem whole_ok (l : List (List UInt8 × List UInt8)) (hl : l.length ≤ 1000000) : Tri Try.prog 56 [.imm (l.map recC) false false] [] fun r _ => r.pure = true ∧ r = .bool (wholeB l) := by
  refine Tri.of_s c56 W1_sound ?_
  have hml : (l.map recC).length = l.length := by simp
  simp only [W1_app, Z56, base1, baseE, ↓reduceIte, Nat.reduceAdd, Nat.reduceSub, Nat.reduceMul, Nat.reduceEqDiff, Nat.reduceLeDiff, Nat.reduceLT, Int.reduceLT, Int.reduceLE, Int.reduceEq, Int.reduceNe, Int.reduceToNat, Int.reduceAdd, Int.reduceSub, reduceCtorEq, Nat.reduceBEq, Nat.reduceBNe, hml]
  exact sC_inv (a := b56_18) (whI l) l.length _ _ (.refl _ _ _) ⟨0, [], Nat.zero_le _, rfl, rfl, rfl, rfl, rfl, rfl, rfl⟩ (wh_step l hl)
end Go.Proofs.Ytndlgmciplckjab.note

/- Which notes may be: what May answers, as a truth that is counted from the note. No condition. -/
set_option linter.unusedVariables false
set_option linter.unusedSimpArgs false
namespace Go.Proofs.Ytndlgmciplckjab.note
open Go.ChangeShapes Go.WideShapes Go.ChangeAt Go.RowKit Go.Gz
section
variable {C : PCall} {n0 : Nat} {R : MExit → Env → AHeap → Prop} {k : Cont} {e : Env} {σ : AHeap}
abbrev r23_0 : List MOper := [⟨(some 1), .box (.t 0), none⟩,
  ⟨(some 2), .move (.c (.bool false)), none⟩]
def b23_0 : SCode := .region r23_0
abbrev r23_1 : List MOper := [⟨(some 8), .fieldAddr 5 (.t 1), none⟩,
  ⟨(some 9), .loadN 8 (.t 8), none⟩,
  ⟨(some 10), .call 40 [(.t 9)], none⟩,
  ⟨(some 7), .move (.t 10), none⟩,
  ⟨(some 11), .extract (.t 7) 0, none⟩,
  ⟨(some 12), .extract (.t 7) 1, none⟩,
  ⟨(some 3), .move (.t 11), none⟩,
  ⟨(some 4), .move (.t 12), none⟩]
def b23_1 : SCode := .region r23_1
abbrev r23_2 : List MOper := [⟨(some 14), .fieldAddr 13 (.t 1), none⟩,
  ⟨(some 15), .loadN 8 (.t 14), none⟩,
  ⟨(some 16), .call 41 [(.t 15)], none⟩,
  ⟨(some 13), .move (.t 16), none⟩,
  ⟨(some 17), .extract (.t 13) 0, none⟩,
  ⟨(some 18), .extract (.t 13) 1, none⟩,
  ⟨(some 5), .move (.t 17), none⟩,
  ⟨(some 6), .move (.t 18), none⟩]
def b23_2 : SCode := .region r23_2
abbrev r23_3 : List MOper := [⟨(some 19), .move (.t 4), none⟩,
  ⟨(some 20), .bin .eql .num (.t 19) (.c (.int .i64 0)), none⟩,
  ⟨(some 21), .move (.t 20), none⟩,
  ⟨(some 22), .move (.t 6), (some (21, true))⟩,
  ⟨(some 23), .bin .eql .num (.t 22) (.c (.int .i64 0)), (some (21, true))⟩,
  ⟨(some 24), .pick (.t 21) (.t 23) (.c (.bool false)), none⟩,
  ⟨(some 25), .move (.t 24), none⟩,
  ⟨(some 26), .fieldAddr 0 (.t 1), (some (25, true))⟩,
  ⟨(some 27), .load1 (.t 26), (some (25, true))⟩,
  ⟨(some 28), .bin .eql .num (.t 27) (.c (.int .i64 1)), (some (25, true))⟩,
  ⟨(some 29), .move (.t 28), (some (25, true))⟩,
  ⟨(some 30), .fieldAddr 5 (.t 1), (some (29, false))⟩,
  ⟨(some 31), .loadN 8 (.t 30), (some (29, false))⟩,
  ⟨(some 32), .call 42 [(.t 31)], (some (29, false))⟩,
  ⟨(some 33), .pick (.t 29) (.c (.bool true)) (.t 32), (some (25, true))⟩,
  ⟨(some 34), .pick (.t 25) (.t 33) (.c (.bool false)), none⟩,
  ⟨(some 35), .move (.t 34), none⟩,
  ⟨(some 36), .fieldAddr 0 (.t 1), (some (35, true))⟩,
  ⟨(some 37), .load1 (.t 36), (some (35, true))⟩,
  ⟨(some 38), .bin .eql .num (.t 37) (.c (.int .i64 2)), (some (35, true))⟩,
  ⟨(some 39), .move (.t 38), (some (35, true))⟩,
  ⟨(some 40), .fieldAddr 13 (.t 1), (some (39, false))⟩,
  ⟨(some 41), .loadN 8 (.t 40), (some (39, false))⟩,
  ⟨(some 42), .call 43 [(.t 41)], (some (39, false))⟩,
  ⟨(some 43), .pick (.t 39) (.c (.bool true)) (.t 42), (some (35, true))⟩,
  ⟨(some 44), .pick (.t 35) (.t 43) (.c (.bool false)), none⟩,
  ⟨(some 2), .move (.t 44), none⟩]
def b23_3 : SCode := .region r23_3
def b23_4 : SCode := .seq b23_3 .ret
def b23_5 : SCode := .seq b23_2 b23_4
def b23_6 : SCode := .seq b23_1 b23_5
def b23_7 : SCode := .seq b23_0 b23_6
def s23 : SFunc := ⟨45, [.t 2], b23_7⟩
theorem c23 : sFn Try.prog 23 = some s23 := by kernel_rfl
theorem Z23 : XR b23_0 r23_0 ∧ XR b23_1 r23_1 ∧ XR b23_2 r23_2 ∧ XR b23_3 r23_3 ∧ XS b23_4 b23_3 .ret ∧ XS b23_5 b23_2 b23_4 ∧ XS b23_6 b23_1 b23_5 ∧ XS b23_7 b23_0 b23_6 ∧ XY s23 45 b23_7 [.t 2] := ⟨rfl, rfl, rfl, rfl, rfl, rfl, rfl, rfl, rfl⟩

end
set_option maxHeartbeats 4000000
set_option maxRecDepth 10000
structure NoteV where
  kind : Int
  from_ : Int
  to : Int
  epoch : Int
  tick : Int
  ask : AskV
  rep : RepV
  sf : List UInt8
  st : List UInt8
  l : List (List UInt8 × List UInt8)
  last : List LaV
  aep : Int
  sh : List ShV
def NoteV.cells (n : NoteV) : List AV := [.int .i64 n.kind, .int .i64 n.from_, .int .i64 n.to, .int .i64 n.epoch, .int .i64 n.tick,
  .int .i64 n.ask.do_, .int .i64 n.ask.client, .int .i64 n.ask.seq, .str n.ask.text, .str n.ask.val, .str n.ask.from_, .str n.ask.to, .int .i64 n.ask.limit,
  .int .i64 n.rep.client, .int .i64 n.rep.seq, .int .i64 n.rep.err, .bool n.rep.found, .str n.rep.val, .imm (recs n.rep.l) false false, .str n.rep.next, .bool n.rep.more,
  .str n.sf, .str n.st, .imm (n.l.map recC) false false, .imm (n.last.map LaV.cells) false false, .int .i64 n.aep, .imm (n.sh.map ShV.cells) false false]
theorem note_pure (n : NoteV) : (AV.agg n.cells).pure = true := by
  have h1 := recs_pure n.rep.l
  have h2 := rowsRec_pure n.l
  have h3 := rowsLa_pure n.last
  have h4 := rowsSh_pure n.sh
  simp only [AV.pure, NoteV.cells, pureL, h1, h2, h3, h4, Bool.and_self]
/-- What is not too great to be packed. -/
structure NoteV.sz (n : NoteV) : Prop where
  ask : total n.ask.texts ≤ 900000000
  rep : n.rep.bytes.length ≤ 900000000
  span : total [n.sf, n.st] ≤ 100000000
  l : n.l.length ≤ 1000000
  last : n.last.length ≤ 1000000
  sh : n.sh.length ≤ 1000000
  recz : ∀ x ∈ n.l, (txt2 x).length ≤ 900000000
  la : ∀ x ∈ n.last, x.rep.bytes.length ≤ 900000000
  shs : ∀ x ∈ n.sh, x.bytes.length ≤ 900000000
  recs : (n.l.flatMap fun x => txt (txt2 x)).length ≤ 100000000
  las : (n.last.flatMap fun x => txt x.bytes).length ≤ 100000000
  shsum : (n.sh.flatMap fun x => txt x.bytes).length ≤ 100000000
/-! Asks. -/
theorem packR_t {bs : List UInt8} : packR true bs = .tuple [.nilslice, .int .i64 1] := _root_.id rfl
theorem packR_f {bs : List UInt8} : packR false bs = .tuple [.imm (rws bs) false false, .int .i64 0] := _root_.id rfl
def askPD : List AV → AHeap → (AV → AHeap → Prop) → Prop
  | [.agg [.int .i64 a, .int .i64 b, .int .i64 c, .str t, .str v, .str f, .str o, .int .i64 l]], σ, K => total (AskV.texts ⟨a, b, c, t, v, f, o, l⟩) ≤ 900000000 ∧ K (packR (AskV.bad ⟨a, b, c, t, v, f, o, l⟩) (AskV.bytes ⟨a, b, c, t, v, f, o, l⟩)) σ
  | _, _, _ => False
theorem askPD_eq {a : AskV} {σ : AHeap} {K : AV → AHeap → Prop} : askPD [.agg [.int .i64 a.do_, .int .i64 a.client, .int .i64 a.seq, .str a.text, .str a.val, .str a.from_, .str a.to, .int .i64 a.limit]] σ K = (total a.texts ≤ 900000000 ∧ K (packR a.bad a.bytes) σ) := _root_.id rfl
theorem askPD_ok (args : List AV) (σ : AHeap) (K : AV → AHeap → Prop) (h : askPD args σ K) : Tri Try.prog 40 args σ K := by
  unfold askPD at h
  split at h
  · rename_i a b c t v f o l
    have := Tri.pureD (σ := σ) (Q := fun r => r = packR (AskV.bad ⟨a, b, c, t, v, f, o, l⟩) (AskV.bytes ⟨a, b, c, t, v, f, o, l⟩)) rfl ((ask_ok ⟨a, b, c, t, v, f, o, l⟩ h.1).mono fun r _ hr => ⟨by rw [hr.2]; exact packR_pure _ _, hr.2⟩)
    exact this.mono fun r σ' hr => by rw [hr.1, hr.2]; exact h.2
  · exact h.elim
def repPD : List AV → AHeap → (AV → AHeap → Prop) → Prop
  | [.agg [.int .i64 a, .int .i64 b, .int .i64 c, .bool t, .str v, .imm rs false false, .str o, .bool l]], σ, K => ∃ r : RepV, AV.agg r.cells = .agg [.int .i64 a, .int .i64 b, .int .i64 c, .bool t, .str v, .imm rs false false, .str o, .bool l] ∧ r.bytes.length ≤ 900000000 ∧ K (packR r.bad r.bytes) σ
  | _, _, _ => False
theorem recs_inj : ∀ {l m : List (List UInt8 × List UInt8)}, recs l = recs m → l = m
  | [], [], _ => rfl
  | [], _ :: _, h => by simp [recs] at h
  | _ :: _, [], h => by simp [recs] at h
  | p :: l, q :: m, h => by
    simp only [recs, List.map_cons, List.cons.injEq, AV.str.injEq, and_true] at h
    obtain ⟨⟨h1, h2⟩, h3⟩ := h
    rw [recs_inj (l := l) (m := m) h3, show p = q from Prod.ext h1 h2]
theorem rep_inj {r s : RepV} (h : AV.agg r.cells = .agg s.cells) : r = s := by
  cases r; cases s
  simp only [RepV.cells, AV.agg.injEq, List.cons.injEq, AV.int.injEq, AV.bool.injEq, AV.str.injEq, AV.imm.injEq, and_true, true_and] at h
  obtain ⟨h1, h2, h3, h4, h5, h6, h7, h8⟩ := h
  have h6 := recs_inj h6
  subst h1; subst h2; subst h3; subst h4; subst h5; subst h6; subst h7; subst h8
  rfl
theorem repPD_eq {a : RepV} {σ : AHeap} {K : AV → AHeap → Prop} : repPD [.agg [.int .i64 a.client, .int .i64 a.seq, .int .i64 a.err, .bool a.found, .str a.val, .imm (recs a.l) false false, .str a.next, .bool a.more]] σ K = (a.bytes.length ≤ 900000000 ∧ K (packR a.bad a.bytes) σ) := by
  apply propext
  refine ⟨fun ⟨r, h1, h2, h3⟩ => ?_, fun h => ⟨a, rfl, h.1, h.2⟩⟩
  have : r = a := rep_inj h1
  subst this
  exact ⟨h2, h3⟩
theorem repPD_ok (args : List AV) (σ : AHeap) (K : AV → AHeap → Prop) (h : repPD args σ K) : Tri Try.prog 41 args σ K := by
  unfold repPD at h
  split at h
  · obtain ⟨r, h1, h2, h3⟩ := h
    refine replyPD_ok _ _ _ ⟨r, by rw [h1], h2, h3⟩
  · exact h.elim
def noAskD : List AV → AHeap → (AV → AHeap → Prop) → Prop
  | [.agg [.int .i64 a, .int .i64 b, .int .i64 c, .str t, .str v, .str f, .str o, .int .i64 l]], σ, K => K (.bool (noAskB ⟨a, b, c, t, v, f, o, l⟩)) σ
  | _, _, _ => False
theorem noAskD_eq {a : AskV} {σ : AHeap} {K : AV → AHeap → Prop} : noAskD [.agg [.int .i64 a.do_, .int .i64 a.client, .int .i64 a.seq, .str a.text, .str a.val, .str a.from_, .str a.to, .int .i64 a.limit]] σ K = K (.bool (noAskB a)) σ := _root_.id rfl
theorem noAskD_ok (args : List AV) (σ : AHeap) (K : AV → AHeap → Prop) (h : noAskD args σ K) : Tri Try.prog 42 args σ K := by
  unfold noAskD at h
  split at h
  · rename_i a b c t v f o l
    exact (Tri.pureD rfl (noAsk_ok ⟨a, b, c, t, v, f, o, l⟩) σ).mono fun r σ' hr => by rw [hr.1, hr.2]; exact h
  · exact h.elim
def noRepD (args : List AV) (σ : AHeap) (K : AV → AHeap → Prop) : Prop := ∃ r : RepV, args = [.agg r.cells] ∧ K (.bool (noRepB r)) σ
theorem noRepD_eq {a : RepV} {σ : AHeap} {K : AV → AHeap → Prop} : noRepD [.agg [.int .i64 a.client, .int .i64 a.seq, .int .i64 a.err, .bool a.found, .str a.val, .imm (recs a.l) false false, .str a.next, .bool a.more]] σ K = K (.bool (noRepB a)) σ := by
  apply propext
  refine ⟨fun ⟨r, h1, h2⟩ => ?_, fun h => ⟨a, rfl, h⟩⟩
  have : a = r := rep_inj (List.cons.inj h1).1
  subst this
  exact h2
theorem noRepD_ok (args : List AV) (σ : AHeap) (K : AV → AHeap → Prop) (h : noRepD args σ K) : Tri Try.prog 43 args σ K := by
  obtain ⟨r, rfl, h⟩ := h
  exact (Tri.pureD (by simp only [pureL, rep_pure, Bool.and_self]) (noReply_ok r) σ).mono fun r σ' hr => by rw [hr.1, hr.2]; exact h
def asksB (n : NoteV) : Bool := !n.ask.bad && !n.rep.bad && (decide (n.kind = 1) || noAskB n.ask) && (decide (n.kind = 2) || noRepB n.rep)
def M1 : PCall := rowQ 40 askPD (rowQ 41 repPD (rowQ 42 noAskD (rowQ 43 noRepD noCall)))
theorem M1_app {f : FuncId} {args : List AV} {σ : AHeap} {K : AV → AHeap → Prop} : M1 f args σ K = rowQ 40 askPD (rowQ 41 repPD (rowQ 42 noAskD (rowQ 43 noRepD noCall))) f args σ K := _root_.id rfl
theorem M1_sound : Sound Try.prog M1 := rowQ_sound askPD_ok (rowQ_sound repPD_ok (rowQ_sound noAskD_ok (rowQ_sound noRepD_ok (noCall_sound _))))
theorem asks_ok (n : NoteV) (hs : n.sz) : Tri Try.prog 23 [.agg n.cells] [] fun r _ => r.pure = true ∧ r = .bool (asksB n) := by
  refine Tri.of_s c23 M1_sound ?_
  have s1 := hs.ask
  have s2 := hs.rep
  cases h1 : n.ask.bad <;> cases h2 : n.rep.bad <;> cases h3 : decide (n.kind = 1) <;> cases h4 : noAskB n.ask <;> cases h5 : decide (n.kind = 2) <;> cases h6 : noRepB n.rep <;>
    (simp only [NoteV.cells, M1_app, Z23, base1, baseE, ↓reduceIte, Nat.reduceAdd, Nat.reduceSub, Nat.reduceMul, Nat.reduceEqDiff, Nat.reduceLeDiff, Nat.reduceLT, Int.reduceLT, Int.reduceLE, Int.reduceEq, Int.reduceNe, Int.reduceToNat, Int.reduceAdd, Int.reduceSub, reduceCtorEq, Nat.reduceBEq, Nat.reduceBNe, askPD_eq, repPD_eq, noAskD_eq, noRepD_eq, s1, s2, h1, h2, h3, h4, h5, h6, packR_t, packR_f]; exact ⟨rfl, by simp only [asksB, h1, h2, h3, h4, h5, h6]; rfl⟩)
end Go.Proofs.Ytndlgmciplckjab.note

/- Which notes may be: what May answers, as a truth that is counted from the note. No condition. -/
set_option linter.unusedVariables false
set_option linter.unusedSimpArgs false
namespace Go.Proofs.Ytndlgmciplckjab.note
open Go.ChangeShapes Go.WideShapes Go.ChangeAt Go.RowKit Go.Gz
section
variable {C : PCall} {n0 : Nat} {R : MExit → Env → AHeap → Prop} {k : Cont} {e : Env} {σ : AHeap}
abbrev r44_0 : List MOper := [⟨(some 2), .box (.t 0), none⟩,
  ⟨(some 4), .move (.c (.bool false)), none⟩]
def b44_0 : SCode := .region r44_0
abbrev r44_1 : List MOper := [⟨(some 8), .move (.t 1), none⟩,
  ⟨(some 9), .bin .lss .num (.t 8) (.c (.int .i64 1)), none⟩,
  ⟨(some 10), .move (.t 9), none⟩,
  ⟨(some 11), .move (.t 1), (some (10, false))⟩,
  ⟨(some 12), .bin .gtr .num (.t 11) (.c (.int .i64 5)), (some (10, false))⟩,
  ⟨(some 13), .pick (.t 10) (.c (.bool true)) (.t 12), none⟩,
  ⟨(some 14), .move (.t 13), none⟩,
  ⟨(some 15), .fieldAddr 1 (.t 2), (some (14, false))⟩,
  ⟨(some 16), .load1 (.t 15), (some (14, false))⟩,
  ⟨(some 17), .lenSl (.t 16), (some (14, false))⟩,
  ⟨(some 18), .bin .lss .num (.t 17) (.c (.int .i64 1)), (some (14, false))⟩,
  ⟨(some 19), .pick (.t 14) (.c (.bool true)) (.t 18), none⟩,
  ⟨(some 20), .move (.t 19), none⟩,
  ⟨(some 21), .fieldAddr 1 (.t 2), (some (20, false))⟩,
  ⟨(some 22), .load1 (.t 21), (some (20, false))⟩,
  ⟨(some 23), .lenSl (.t 22), (some (20, false))⟩,
  ⟨(some 24), .bin .gtr .num (.t 23) (.c (.int .i64 12)), (some (20, false))⟩,
  ⟨(some 25), .pick (.t 20) (.c (.bool true)) (.t 24), none⟩,
  ⟨(some 26), .move (.t 25), none⟩,
  ⟨(some 27), .fieldAddr 0 (.t 2), (some (26, false))⟩,
  ⟨(some 28), .load1 (.t 27), (some (26, false))⟩,
  ⟨(some 29), .bin .lss .num (.t 28) (.c (.int .i64 1)), (some (26, false))⟩,
  ⟨(some 30), .pick (.t 26) (.c (.bool true)) (.t 29), none⟩]
def b44_1 : SCode := .region r44_1
abbrev r44_2 : List MOper := [⟨(some 4), .move (.c (.bool false)), none⟩]
def b44_2 : SCode := .region r44_2
def b44_3 : SCode := .seq b44_2 .ret
def b44_4 : SCode := .cond (.t 30) b44_3 .skip
def b44_5 : SCode := .seq b44_1 b44_4
abbrev r44_6 : List MOper := [⟨(some 5), .move (.c (.nilslice)), none⟩]
def b44_6 : SCode := .region r44_6
abbrev r44_7 : List MOper := [⟨(some 31), .fieldAddr 1 (.t 2), none⟩,
  ⟨(some 32), .load1 (.t 31), none⟩,
  ⟨(some 33), .lenSl (.t 32), none⟩,
  ⟨(some 34), .move (.c (.int .i64 0)), none⟩]
def b44_7 : SCode := .region r44_7
abbrev r44_8 : List MOper := [⟨(some 35), .bin .lss .num (.t 34) (.t 33), none⟩]
def b44_8 : SCode := .region r44_8
def b44_9 : SCode := .cond (.t 35) .skip (.exit 0)
abbrev r44_10 : List MOper := [⟨(some 36), .indexAddr 4 (.t 32) (.t 34), none⟩,
  ⟨(some 37), .loadN 4 (.t 36), none⟩,
  ⟨(some 7), .alloc [.str [], .str [], .int .i64 0, .int .i64 0], none⟩,
  ⟨none, .store 4 (.t 7) (.t 37), none⟩]
def b44_10 : SCode := .region r44_10
abbrev r44_11 : List MOper := [⟨(some 38), .fieldAddr 2 (.t 7), none⟩,
  ⟨(some 39), .load1 (.t 38), none⟩,
  ⟨(some 40), .bin .lss .num (.t 39) (.c (.int .i64 1)), none⟩,
  ⟨(some 41), .move (.t 40), none⟩,
  ⟨(some 42), .fieldAddr 2 (.t 7), (some (41, false))⟩,
  ⟨(some 43), .load1 (.t 42), (some (41, false))⟩,
  ⟨(some 44), .move (.t 1), (some (41, false))⟩,
  ⟨(some 45), .bin .gtr .num (.t 43) (.t 44), (some (41, false))⟩,
  ⟨(some 46), .pick (.t 41) (.c (.bool true)) (.t 45), none⟩,
  ⟨(some 47), .move (.t 46), none⟩,
  ⟨(some 48), .fieldAddr 3 (.t 7), (some (47, false))⟩,
  ⟨(some 49), .load1 (.t 48), (some (47, false))⟩,
  ⟨(some 50), .bin .lss .num (.t 49) (.c (.int .i64 1)), (some (47, false))⟩,
  ⟨(some 51), .pick (.t 47) (.c (.bool true)) (.t 50), none⟩,
  ⟨(some 52), .move (.t 51), none⟩,
  ⟨(some 53), .fieldAddr 3 (.t 7), (some (52, false))⟩,
  ⟨(some 54), .load1 (.t 53), (some (52, false))⟩,
  ⟨(some 55), .fieldAddr 0 (.t 2), (some (52, false))⟩,
  ⟨(some 56), .load1 (.t 55), (some (52, false))⟩,
  ⟨(some 57), .bin .gtr .num (.t 54) (.t 56), (some (52, false))⟩,
  ⟨(some 58), .pick (.t 52) (.c (.bool true)) (.t 57), none⟩]
def b44_11 : SCode := .region r44_11
abbrev r44_12 : List MOper := [⟨(some 4), .move (.c (.bool false)), none⟩]
def b44_12 : SCode := .region r44_12
def b44_13 : SCode := .seq b44_12 .ret
def b44_14 : SCode := .cond (.t 58) b44_13 .skip
def b44_15 : SCode := .seq b44_11 b44_14
abbrev r44_16 : List MOper := [⟨(some 59), .move (.t 5), none⟩,
  ⟨(some 60), .fieldAddr 0 (.t 7), none⟩,
  ⟨(some 61), .loadN 2 (.t 60), none⟩,
  ⟨(some 62), .buildSlice [.str [], .str []] 2 1 [(0, 2, (.t 61))], none⟩,
  ⟨(some 63), .append 2 32 (.t 59) (.t 62), none⟩,
  ⟨(some 5), .move (.t 63), none⟩]
def b44_16 : SCode := .region r44_16
def b44_17 : SCode := .seq b44_15 b44_16
def b44_18 : SCode := .seq b44_10 b44_17
def b44_19 : SCode := .block 1 b44_18
abbrev r44_20 : List MOper := [⟨(some 64), .bin .add .num (.t 34) (.c (.int .i64 1)), none⟩,
  ⟨(some 34), .move (.t 64), none⟩]
def b44_20 : SCode := .region r44_20
def b44_21 : SCode := .seq b44_19 b44_20
def b44_22 : SCode := .seq b44_9 b44_21
def b44_23 : SCode := .seq b44_8 b44_22
def b44_24 : SCode := .loop b44_23
def b44_25 : SCode := .block 0 b44_24
def b44_26 : SCode := .seq b44_7 b44_25
abbrev r44_27 : List MOper := [⟨(some 65), .move (.t 5), none⟩,
  ⟨(some 66), .call 56 [(.t 65)], none⟩,
  ⟨(some 4), .move (.t 66), none⟩]
def b44_27 : SCode := .region r44_27
def b44_28 : SCode := .seq b44_27 .ret
def b44_29 : SCode := .seq b44_26 b44_28
def b44_30 : SCode := .seq b44_6 b44_29
def b44_31 : SCode := .seq b44_5 b44_30
def b44_32 : SCode := .seq b44_0 b44_31
def s44 : SFunc := ⟨67, [.t 4], b44_32⟩
theorem c44 : sFn Try.prog 44 = some s44 := by kernel_rfl
theorem Z44 : XR b44_0 r44_0 ∧ XR b44_1 r44_1 ∧ XR b44_2 r44_2 ∧ XS b44_3 b44_2 .ret ∧ XC b44_4 (.t 30) b44_3 .skip ∧ XS b44_5 b44_1 b44_4 ∧ XR b44_6 r44_6 ∧ XR b44_7 r44_7 ∧ XR b44_8 r44_8 ∧ XC b44_9 (.t 35) .skip (.exit 0) ∧ XR b44_10 r44_10 ∧ XR b44_11 r44_11 ∧ XR b44_12 r44_12 ∧ XS b44_13 b44_12 .ret ∧ XC b44_14 (.t 58) b44_13 .skip ∧ XS b44_15 b44_11 b44_14 ∧ XR b44_16 r44_16 ∧ XS b44_17 b44_15 b44_16 ∧ XS b44_18 b44_10 b44_17 ∧ XB b44_19 1 b44_18 ∧ XR b44_20 r44_20 ∧ XS b44_21 b44_19 b44_20 ∧ XS b44_22 b44_9 b44_21 ∧ XS b44_23 b44_8 b44_22 ∧ XB b44_25 0 b44_24 ∧ XS b44_26 b44_7 b44_25 ∧ XR b44_27 r44_27 ∧ XS b44_28 b44_27 .ret ∧ XS b44_29 b44_26 b44_28 ∧ XS b44_30 b44_6 b44_29 ∧ XS b44_31 b44_5 b44_30 ∧ XS b44_32 b44_0 b44_31 ∧ XY s44 67 b44_32 [.t 4] := ⟨rfl, rfl, rfl, rfl, sC_cond, rfl, rfl, rfl, rfl, sC_cond, rfl, rfl, rfl, rfl, sC_cond, rfl, rfl, rfl, rfl, rfl, rfl, rfl, rfl, rfl, rfl, rfl, rfl, rfl, rfl, rfl, rfl, rfl, rfl⟩

end
set_option maxHeartbeats 4000000
set_option maxRecDepth 10000
theorem map_inj {α β : Type} {f : α → β} (hf : ∀ a b, f a = f b → a = b) : ∀ {l m : List α}, l.map f = m.map f → l = m
  | [], [], _ => rfl
  | [], _ :: _, h => by simp at h
  | _ :: _, [], h => by simp at h
  | p :: l, q :: m, h => by
    simp only [List.map_cons, List.cons.injEq] at h
    rw [map_inj hf h.2, hf _ _ h.1]
theorem recC_inj (a b : List UInt8 × List UInt8) (h : recC a = recC b) : a = b := by
  simp only [recC, List.cons.injEq, AV.str.injEq, and_true] at h
  exact Prod.ext h.1 h.2
theorem la_inj (a b : LaV) (h : a.cells = b.cells) : a = b := by
  simp only [LaV.cells, List.cons.injEq, AV.int.injEq, true_and] at h
  have := rep_inj (r := a.rep) (s := b.rep) (by rw [h.2])
  cases a; cases b
  simp only at h this
  rw [h.1, this]
theorem sh_inj (a b : ShV) (h : a.cells = b.cells) : a = b := by
  cases a; cases b
  simp only [ShV.cells, List.cons.injEq, AV.str.injEq, AV.int.injEq, true_and, and_true] at h
  obtain ⟨h1, h2, h3, h4⟩ := h
  rw [h1, h2, h3, h4]
theorem note_inj {n m : NoteV} (h : AV.agg n.cells = .agg m.cells) : n = m := by
  simp only [NoteV.cells, AV.agg.injEq, List.cons.injEq, AV.int.injEq, AV.bool.injEq, AV.str.injEq, AV.imm.injEq, and_true, true_and] at h
  obtain ⟨h1, h2, h3, h4, h5, a1, a2, a3, a4, a5, a6, a7, a8, r1, r2, r3, r4, r5, r6, r7, r8, s1, s2, l1, l2, e1, l3⟩ := h
  have r6 := recs_inj r6
  have l1 := map_inj recC_inj l1
  have l2 := map_inj la_inj l2
  have l3 := map_inj sh_inj l3
  obtain ⟨k, f, t, ep, ti, ⟨b1, b2, b3, b4, b5, b6, b7, b8⟩, ⟨c1, c2, c3, c4, c5, c6, c7, c8⟩, sf, st, l, la, ae, sh⟩ := n
  obtain ⟨k', f', t', ep', ti', ⟨b1', b2', b3', b4', b5', b6', b7', b8'⟩, ⟨c1', c2', c3', c4', c5', c6', c7', c8'⟩, sf', st', l', la', ae', sh'⟩ := m
  simp only at *
  subst h1 h2 h3 h4 h5 a1 a2 a3 a4 a5 a6 a7 a8 r1 r2 r3 r4 r5 r6 r7 r8 s1 s2 l1 l2 e1 l3
  rfl
/-! The atlas. -/
def shOk (ep : Int) (s : ShV) : Bool := !decide (s.node < 1) && (!decide (5 < s.node) && (!decide (s.epoch < 1) && !decide (ep < s.epoch)))
def ShV.span (s : ShV) : List UInt8 × List UInt8 := (s.from_, s.to)
def atlasB (ep : Int) (sh : List ShV) : Bool := !decide ((sh.length : Int) < 1) && (!decide (12 < (sh.length : Int)) && (!decide (ep < 1) && (sh.all (shOk ep) && wholeB (sh.map ShV.span))))
theorem grow_given {σ : AHeap} {Lv : AV} {w : Nat} {rows : List (List AV)} (h : Grow σ Lv w rows) (hp : pureLL rows = true) : ∃ d, Given σ d Lv (.imm rows false false) := by
  rcases h with ⟨rfl, rfl⟩ | ⟨d, rfl, h1, h2, h3⟩
  · exact ⟨0, .inr (.inl ⟨rfl, rfl⟩)⟩
  · exact ⟨d, .inr (.inr ⟨0, rows.length, none, w, _, rows, rfl, rfl, h1, sub_all (flat_len h2).symm, rfl, h2, hp⟩)⟩
def wholeLD (args : List AV) (σ : AHeap) (K : AV → AHeap → Prop) : Prop := ∃ (Lv : AV) (l : List (List UInt8 × List UInt8)), args = [Lv] ∧ Grow σ Lv 2 (l.map recC) ∧ l.length ≤ 1000000 ∧ ∀ σ', K (.bool (wholeB l)) σ'
theorem wholeLD_ok (args : List AV) (σ : AHeap) (K : AV → AHeap → Prop) (h : wholeLD args σ K) : Tri Try.prog 56 args σ K := by
  obtain ⟨Lv, l, rfl, hg, hl, h⟩ := h
  obtain ⟨d, hd⟩ := grow_given hg (rowsRec_pure l)
  exact (Tri.give (args := [Lv]) (args1 := [.imm (l.map recC) false false]) d rfl (given1 hd) (whole_ok l hl)).mono fun r σ' hr => by rw [hr.1]; exact h _
def A1 : PCall := rowQ 56 wholeLD noCall
theorem A1_app {f : FuncId} {args : List AV} {σ : AHeap} {K : AV → AHeap → Prop} : A1 f args σ K = rowQ 56 wholeLD noCall f args σ K := _root_.id rfl
theorem A1_sound : Sound Try.prog A1 := rowQ_sound wholeLD_ok (noCall_sound _)
def amI (ep : Int) (sh : List ShV) (n : Nat) (e : Env) (σ : AHeap) : Prop :=
  ∃ (i : Nat) (Lv : AV), i ≤ sh.length ∧ n = sh.length - i ∧ hget σ 0 = some [.int .i64 ep, .imm (sh.map ShV.cells) false false] ∧ Grow σ Lv 2 (((sh.take i).map ShV.span).map recC) ∧ LvD Lv ≠ some 0 ∧ (sh.take i).all (shOk ep) = true ∧
    e 1 = .int .i64 5 ∧ e 2 = .ptr 0 0 ∧ e 5 = Lv ∧ e 32 = .imm (sh.map ShV.cells) false false ∧ e 33 = .int .i64 (sh.length : Int) ∧ e 34 = .int .i64 (i : Int)
theorem am_step (ep : Int) (sh : List ShV) (hl : sh.length ≤ 1000000) (Q : AV → AHeap → Prop) (hF : sh.all (shOk ep) = false → ∀ σ, Q (.bool false) σ) (hT : sh.all (shOk ep) = true → ∀ σ, Q (.bool (wholeB (sh.map ShV.span))) σ) (n : Nat) (e : Env) (σ : AHeap) (h : amI ep sh n e σ) :
    sC A1 0 b44_23 (unw A1 0 (loopR A1 0 (RetQ [MRes.t 4] Q) (.block 0 (.seq b44_28 .fin)) (amI ep sh) n) .fin) e σ := by
  obtain ⟨i, Lv, hi, hn, g0, hLv, d0, hall, e1, e2, e5, e32, e33, e34⟩ := h
  have hml : (sh.map ShV.cells).length = sh.length := by simp
  have h0l := hget_lt g0
  rcases Nat.lt_or_ge i sh.length with hlt | hge
  · have hlt' : (i : Int) < (sh.length : Int) := by omega
    have hge0 : (0 : Int) ≤ (i : Int) := by omega
    obtain ⟨x, hx⟩ : ∃ x, sh[i]? = some x := ⟨_, List.getElem?_eq_getElem hlt⟩
    have hxx : (sh.map ShV.cells)[i]? = some [.str x.from_, .str x.to, .int .i64 x.node, .int .i64 x.epoch] := by simp [hx, ShV.cells]
    have hw : IntKind.wrap .i64 ((i : Int) + 1) = ((i + 1 : Nat) : Int) := by rw [Gz.wrap64 (by omega)]; omega
    have htk : sh.take (i + 1) = sh.take i ++ [x] := by rw [List.take_add_one, hx]; rfl
    have sn : ∀ c c' : List AV, hget (hset (hpush σ c) (List.length σ) c') (List.length σ) = some c' := fun c c' => set_same push_new'
    have s0 : ∀ c c' : List AV, hget (hset (hpush σ c) (List.length σ) c') 0 = some [.int .i64 ep, .imm (sh.map ShV.cells) false false] := fun c c' => al_frame g0
    have bad : shOk ep x = false → ∀ σ, Q (.bool false) σ := fun hb => hF (by
      rw [Bool.eq_false_iff]; intro ha
      have := List.all_eq_true.1 ha x (List.mem_of_getElem? hx)
      rw [hb] at this; cases this)
    cases h1 : decide (x.node < 1) with
    | true =>
      simp only [A1_app, Z44, base1, ↓reduceIte, Nat.reduceAdd, Nat.reduceSub, Nat.reduceMul, Nat.reduceEqDiff, Nat.reduceLeDiff, Nat.reduceLT, Int.reduceLT, Int.reduceLE, Int.reduceEq, Int.reduceNe, Int.reduceToNat, Int.reduceAdd, Int.reduceSub, reduceCtorEq, Nat.reduceBEq, Nat.reduceBNe, loopR_exit, loopR_ret, e1, e2, e5, e32, e33, e34, hlt', hlt, hge0, hxx, hml, Int.toNat_natCast, push_new', sn, s0, h1]
      exact bad (by simp only [shOk, h1]; rfl) _
    | false =>
    cases h2 : decide (5 < x.node) with
    | true =>
      simp only [A1_app, Z44, base1, ↓reduceIte, Nat.reduceAdd, Nat.reduceSub, Nat.reduceMul, Nat.reduceEqDiff, Nat.reduceLeDiff, Nat.reduceLT, Int.reduceLT, Int.reduceLE, Int.reduceEq, Int.reduceNe, Int.reduceToNat, Int.reduceAdd, Int.reduceSub, reduceCtorEq, Nat.reduceBEq, Nat.reduceBNe, loopR_exit, loopR_ret, e1, e2, e5, e32, e33, e34, hlt', hlt, hge0, hxx, hml, Int.toNat_natCast, push_new', sn, s0, h1, h2]
      exact bad (by simp only [shOk, h1, h2]; rfl) _
    | false =>
    cases h3 : decide (x.epoch < 1) with
    | true =>
      simp only [A1_app, Z44, base1, ↓reduceIte, Nat.reduceAdd, Nat.reduceSub, Nat.reduceMul, Nat.reduceEqDiff, Nat.reduceLeDiff, Nat.reduceLT, Int.reduceLT, Int.reduceLE, Int.reduceEq, Int.reduceNe, Int.reduceToNat, Int.reduceAdd, Int.reduceSub, reduceCtorEq, Nat.reduceBEq, Nat.reduceBNe, loopR_exit, loopR_ret, e1, e2, e5, e32, e33, e34, hlt', hlt, hge0, hxx, hml, Int.toNat_natCast, push_new', sn, s0, h1, h2, h3]
      exact bad (by simp only [shOk, h1, h2, h3]; rfl) _
    | false =>
    cases h4 : decide (ep < x.epoch) with
    | true =>
      simp only [A1_app, Z44, base1, ↓reduceIte, Nat.reduceAdd, Nat.reduceSub, Nat.reduceMul, Nat.reduceEqDiff, Nat.reduceLeDiff, Nat.reduceLT, Int.reduceLT, Int.reduceLE, Int.reduceEq, Int.reduceNe, Int.reduceToNat, Int.reduceAdd, Int.reduceSub, reduceCtorEq, Nat.reduceBEq, Nat.reduceBNe, loopR_exit, loopR_ret, e1, e2, e5, e32, e33, e34, hlt', hlt, hge0, hxx, hml, Int.toNat_natCast, push_new', sn, s0, h1, h2, h3, h4]
      exact bad (by simp only [shOk, h1, h2, h3, h4]; rfl) _
    | false =>
    generalize hz : ([.str [], .str [], .int .i64 0, .int .i64 0] : List AV) = z at sn s0
    have v1 := grow_frame hLv (τ := hset (hpush σ z) σ.length x.cells) fun j c hj hd => al_frame hj
    have hs3 : (hset (hpush σ z) σ.length x.cells).length = σ.length + 1 := by rw [set_len, push_len]
    obtain ⟨v, τ, a1, a2, a3, a4, a5⟩ := grow_one (b := 32) (by decide) v1 (by simp; omega) (recC x.span) rfl rfl
    obtain ⟨q0, u0⟩ := a4 0 _ (al_frame g0) d0
    have lc := grow_cell hLv
    rw [hs3] at a1
    simp only [recC, ShV.span, ShV.cells] at a1
    subst hz
    simp only [A1_app, Z44, base1, ↓reduceIte, Nat.reduceAdd, Nat.reduceSub, Nat.reduceMul, Nat.reduceEqDiff, Nat.reduceLeDiff, Nat.reduceLT, Int.reduceLT, Int.reduceLE, Int.reduceEq, Int.reduceNe, Int.reduceToNat, Int.reduceAdd, Int.reduceSub, reduceCtorEq, Nat.reduceBEq, Nat.reduceBNe, loopR_exit, loopR_ret, e1, e2, e5, e32, e33, e34, hlt', hlt, hge0, hxx, hml, Int.toNat_natCast, push_new', sn, s0, h1, h2, h3, h4, set_len, push_len, a1, a2, a3, hw]
    rw [loopR_normal]
    refine ⟨sh.length - (i + 1), _, _, by omega, .refl _ _ _, i + 1, v, hlt, rfl, q0, ?_, u0, ?_, ?_, ?_, ?_, ?_, ?_, ?_⟩
    · rw [htk]; simpa using a5
    · rw [htk, List.all_append, hall]
      simp only [List.all_cons, List.all_nil, shOk, h1, h2, h3, h4]; rfl
    all_goals simp only [putD_some, putD_none, Nat.reduceEqDiff, ↓reduceIte, e1, e2, e5, e32, e33, e34, hw]
  · have hlt' : ¬ (i : Int) < (sh.length : Int) := by omega
    have hie : i = sh.length := by omega
    subst hie
    rw [List.take_length] at hLv hall
    simp only [A1_app, Z44, base1, ↓reduceIte, Nat.reduceAdd, Nat.reduceSub, Nat.reduceMul, Nat.reduceEqDiff, Nat.reduceLeDiff, Nat.reduceLT, Int.reduceLT, Int.reduceLE, Int.reduceEq, Int.reduceNe, Int.reduceToNat, Int.reduceAdd, Int.reduceSub, reduceCtorEq, Nat.reduceBEq, Nat.reduceBNe, loopR_exit, loopR_ret, e1, e2, e5, e32, e33, e34, hlt']
    exact ⟨Lv, sh.map ShV.span, rfl, hLv, by simpa using hl, fun σ' => by simp only [A1_app, Z44, base1, ↓reduceIte, Nat.reduceAdd, Nat.reduceSub, Nat.reduceMul, Nat.reduceEqDiff, Nat.reduceLeDiff, Nat.reduceLT, Int.reduceLT, Int.reduceLE, Int.reduceEq, Int.reduceNe, Int.reduceToNat, Int.reduceAdd, Int.reduceSub, reduceCtorEq, Nat.reduceBEq, Nat.reduceBNe]; exact hT hall σ'⟩
theorem atlas_ok (ep : Int) (sh : List ShV) (hl : sh.length ≤ 1000000) : Tri Try.prog 44 [.agg [.int .i64 ep, .imm (sh.map ShV.cells) false false], .int .i64 5] [] fun r _ => r.pure = true ∧ r = .bool (atlasB ep sh) := by
  refine Tri.of_s c44 A1_sound ?_
  have hml : (sh.map ShV.cells).length = sh.length := by simp
  cases h1 : decide ((sh.length : Int) < 1) with
  | true => simp only [A1_app, Z44, base1, baseE, ↓reduceIte, Nat.reduceAdd, Nat.reduceSub, Nat.reduceMul, Nat.reduceEqDiff, Nat.reduceLeDiff, Nat.reduceLT, Int.reduceLT, Int.reduceLE, Int.reduceEq, Int.reduceNe, Int.reduceToNat, Int.reduceAdd, Int.reduceSub, reduceCtorEq, Nat.reduceBEq, Nat.reduceBNe, hml, h1]; exact ⟨rfl, by simp only [atlasB, h1]; rfl⟩
  | false =>
  cases h2 : decide (12 < (sh.length : Int)) with
  | true => simp only [A1_app, Z44, base1, baseE, ↓reduceIte, Nat.reduceAdd, Nat.reduceSub, Nat.reduceMul, Nat.reduceEqDiff, Nat.reduceLeDiff, Nat.reduceLT, Int.reduceLT, Int.reduceLE, Int.reduceEq, Int.reduceNe, Int.reduceToNat, Int.reduceAdd, Int.reduceSub, reduceCtorEq, Nat.reduceBEq, Nat.reduceBNe, hml, h1, h2]; exact ⟨rfl, by simp only [atlasB, h1, h2]; rfl⟩
  | false =>
  cases h3 : decide (ep < 1) with
  | true => simp only [A1_app, Z44, base1, baseE, ↓reduceIte, Nat.reduceAdd, Nat.reduceSub, Nat.reduceMul, Nat.reduceEqDiff, Nat.reduceLeDiff, Nat.reduceLT, Int.reduceLT, Int.reduceLE, Int.reduceEq, Int.reduceNe, Int.reduceToNat, Int.reduceAdd, Int.reduceSub, reduceCtorEq, Nat.reduceBEq, Nat.reduceBNe, hml, h1, h2, h3]; exact ⟨rfl, by simp only [atlasB, h1, h2, h3]; rfl⟩
  | false =>
  simp only [A1_app, Z44, base1, baseE, ↓reduceIte, Nat.reduceAdd, Nat.reduceSub, Nat.reduceMul, Nat.reduceEqDiff, Nat.reduceLeDiff, Nat.reduceLT, Int.reduceLT, Int.reduceLE, Int.reduceEq, Int.reduceNe, Int.reduceToNat, Int.reduceAdd, Int.reduceSub, reduceCtorEq, Nat.reduceBEq, Nat.reduceBNe, hml, h1, h2, h3]
  refine sC_inv (a := b44_23) (amI ep sh) sh.length _ _ (.refl _ _ _) ⟨0, .nilslice, Nat.zero_le _, rfl, rfl, .inl ⟨rfl, rfl⟩, by simp [LvD], rfl, rfl, rfl, rfl, rfl, rfl, rfl⟩ (am_step ep sh hl _ (fun hf σ => ⟨rfl, ?_⟩) (fun ht σ => ⟨rfl, ?_⟩))
  · simp only [atlasB, h1, h2, h3, hf]; rfl
  · simp only [atlasB, h1, h2, h3, ht]; rfl
end Go.Proofs.Ytndlgmciplckjab.note
