/- What List does with records, shards, last replies: the packed number of them, the packed bytes of each one behind the other. No condition. -/
import Derived.Test.YtndlgmciplckjaaNAsk
set_option linter.unusedVariables false
set_option linter.unusedSimpArgs false
namespace Go.Proofs.Ytndlgmciplckjaa.note
open Go.ChangeShapes Go.WideShapes Go.ChangeAt Go.RowKit Go.Gz
section
variable {C : PCall} {n0 : Nat} {R : MExit → Env → AHeap → Prop} {k : Cont} {e : Env} {σ : AHeap}
abbrev r67_0 : List MOper := [⟨(some 4), .move (.c (.nilslice)), none⟩]
def b67_0 : SCode := .region r67_0
abbrev r67_1 : List MOper := [⟨(some 8), .move (.t 1), none⟩,
  ⟨(some 9), .bin .eql .nilf (.t 8) (.c (.nilfunc)), none⟩,
  ⟨(some 10), .move (.t 9), none⟩,
  ⟨(some 11), .move (.t 0), (some (10, false))⟩,
  ⟨(some 12), .lenSl (.t 11), (some (10, false))⟩,
  ⟨(some 13), .bin .gtr .num (.t 12) (.c (.int .i64 1048576)), (some (10, false))⟩,
  ⟨(some 14), .pick (.t 10) (.c (.bool true)) (.t 13), none⟩]
def b67_1 : SCode := .region r67_1
abbrev r67_2 : List MOper := [⟨(some 4), .move (.c (.nilslice)), none⟩]
def b67_2 : SCode := .region r67_2
def b67_3 : SCode := .seq b67_2 .ret
def b67_4 : SCode := .cond (.t 14) b67_3 .skip
def b67_5 : SCode := .seq b67_1 b67_4
abbrev r67_6 : List MOper := [⟨(some 5), .alloc [.nilslice, .bool false], none⟩]
def b67_6 : SCode := .region r67_6
abbrev r67_7 : List MOper := [⟨(some 15), .move (.t 0), none⟩,
  ⟨(some 16), .lenSl (.t 15), none⟩,
  ⟨(some 17), .buildSlice [.int .i64 0] 1 1 [(0, 1, (.t 16))], none⟩,
  ⟨(some 18), .call 29 [(.t 5), (.t 17)], none⟩]
def b67_7 : SCode := .region r67_7
abbrev r67_8 : List MOper := [⟨(some 19), .move (.t 0), none⟩,
  ⟨(some 20), .lenSl (.t 19), none⟩,
  ⟨(some 21), .move (.c (.int .i64 0)), none⟩]
def b67_8 : SCode := .region r67_8
abbrev r67_9 : List MOper := [⟨(some 22), .bin .lss .num (.t 21) (.t 20), none⟩]
def b67_9 : SCode := .region r67_9
def b67_10 : SCode := .cond (.t 22) .skip (.exit 0)
abbrev r67_11 : List MOper := [⟨(some 23), .indexAddr 4 (.t 19) (.t 21), none⟩,
  ⟨(some 24), .loadN 4 (.t 23), none⟩,
  ⟨(some 7), .alloc [.str [], .str [], .int .i64 0, .int .i64 0], none⟩,
  ⟨none, .store 4 (.t 7) (.t 24), none⟩]
def b67_11 : SCode := .region r67_11
abbrev r67_12 : List MOper := [⟨(some 25), .move (.t 1), none⟩,
  ⟨(some 26), .loadN 4 (.t 7), none⟩,
  ⟨(some 27), .callv (.t 25) [(.t 26)], none⟩,
  ⟨(some 28), .ofBytes (.t 27), none⟩,
  ⟨(some 29), .buildSlice [.str []] 1 1 [(0, 1, (.t 28))], none⟩,
  ⟨(some 30), .call 31 [(.t 5), (.t 29)], none⟩]
def b67_12 : SCode := .region r67_12
def b67_13 : SCode := .seq b67_11 b67_12
def b67_14 : SCode := .block 1 b67_13
abbrev r67_15 : List MOper := [⟨(some 31), .bin .add .num (.t 21) (.c (.int .i64 1)), none⟩,
  ⟨(some 21), .move (.t 31), none⟩]
def b67_15 : SCode := .region r67_15
def b67_16 : SCode := .seq b67_14 b67_15
def b67_17 : SCode := .seq b67_10 b67_16
def b67_18 : SCode := .seq b67_9 b67_17
def b67_19 : SCode := .loop b67_18
def b67_20 : SCode := .block 0 b67_19
def b67_21 : SCode := .seq b67_8 b67_20
abbrev r67_22 : List MOper := [⟨(some 32), .fieldAddr 0 (.t 5), none⟩,
  ⟨(some 33), .load1 (.t 32), none⟩,
  ⟨(some 4), .move (.t 33), none⟩]
def b67_22 : SCode := .region r67_22
def b67_23 : SCode := .seq b67_22 .ret
def b67_24 : SCode := .seq b67_21 b67_23
def b67_25 : SCode := .seq b67_7 b67_24
def b67_26 : SCode := .seq b67_6 b67_25
def b67_27 : SCode := .seq b67_5 b67_26
def b67_28 : SCode := .seq b67_0 b67_27
def s67 : SFunc := ⟨34, [.t 4], b67_28⟩
theorem c67 : sFn Try.prog 67 = some s67 := by kernel_rfl
theorem Z67 : XR b67_0 r67_0 ∧ XR b67_1 r67_1 ∧ XR b67_2 r67_2 ∧ XS b67_3 b67_2 .ret ∧ XC b67_4 (.t 14) b67_3 .skip ∧ XS b67_5 b67_1 b67_4 ∧ XR b67_6 r67_6 ∧ XR b67_7 r67_7 ∧ XR b67_8 r67_8 ∧ XR b67_9 r67_9 ∧ XC b67_10 (.t 22) .skip (.exit 0) ∧ XR b67_11 r67_11 ∧ XR b67_12 r67_12 ∧ XS b67_13 b67_11 b67_12 ∧ XB b67_14 1 b67_13 ∧ XR b67_15 r67_15 ∧ XS b67_16 b67_14 b67_15 ∧ XS b67_17 b67_10 b67_16 ∧ XS b67_18 b67_9 b67_17 ∧ XB b67_20 0 b67_19 ∧ XS b67_21 b67_8 b67_20 ∧ XR b67_22 r67_22 ∧ XS b67_23 b67_22 .ret ∧ XS b67_24 b67_21 b67_23 ∧ XS b67_25 b67_7 b67_24 ∧ XS b67_26 b67_6 b67_25 ∧ XS b67_27 b67_5 b67_26 ∧ XS b67_28 b67_0 b67_27 ∧ XY s67 34 b67_28 [.t 4] := ⟨rfl, rfl, rfl, rfl, sC_cond, rfl, rfl, rfl, rfl, rfl, sC_cond, rfl, rfl, rfl, rfl, rfl, rfl, rfl, rfl, rfl, rfl, rfl, rfl, rfl, rfl, rfl, rfl, rfl, rfl⟩
abbrev r68_0 : List MOper := [⟨(some 1), .box (.t 0), none⟩,
  ⟨(some 2), .move (.c (.nilslice)), none⟩]
def b68_0 : SCode := .region r68_0
abbrev r68_1 : List MOper := [⟨(some 3), .alloc [.nilslice, .bool false], none⟩]
def b68_1 : SCode := .region r68_1
abbrev r68_2 : List MOper := [⟨(some 4), .fieldAddr 0 (.t 1), none⟩,
  ⟨(some 5), .fieldAddr 0 (.t 4), none⟩,
  ⟨(some 6), .load1 (.t 5), none⟩,
  ⟨(some 7), .fieldAddr 0 (.t 1), none⟩,
  ⟨(some 8), .fieldAddr 1 (.t 7), none⟩,
  ⟨(some 9), .load1 (.t 8), none⟩,
  ⟨(some 10), .buildSlice [.str []] 1 2 [(0, 1, (.t 6)), (1, 1, (.t 9))], none⟩,
  ⟨(some 11), .call 31 [(.t 3), (.t 10)], none⟩]
def b68_2 : SCode := .region r68_2
abbrev r68_3 : List MOper := [⟨(some 12), .fieldAddr 2 (.t 1), none⟩,
  ⟨(some 13), .load1 (.t 12), none⟩,
  ⟨(some 14), .fieldAddr 3 (.t 1), none⟩,
  ⟨(some 15), .load1 (.t 14), none⟩,
  ⟨(some 16), .buildSlice [.int .i64 0] 1 2 [(0, 1, (.t 13)), (1, 1, (.t 15))], none⟩,
  ⟨(some 17), .call 29 [(.t 3), (.t 16)], none⟩]
def b68_3 : SCode := .region r68_3
abbrev r68_4 : List MOper := [⟨(some 18), .fieldAddr 0 (.t 3), none⟩,
  ⟨(some 19), .load1 (.t 18), none⟩,
  ⟨(some 2), .move (.t 19), none⟩]
def b68_4 : SCode := .region r68_4
def b68_5 : SCode := .seq b68_4 .ret
def b68_6 : SCode := .seq b68_3 b68_5
def b68_7 : SCode := .seq b68_2 b68_6
def b68_8 : SCode := .seq b68_1 b68_7
def b68_9 : SCode := .seq b68_0 b68_8
def s68 : SFunc := ⟨20, [.t 2], b68_9⟩
theorem c68 : sFn Try.prog 68 = some s68 := by kernel_rfl
theorem Z68 : XR b68_0 r68_0 ∧ XR b68_1 r68_1 ∧ XR b68_2 r68_2 ∧ XR b68_3 r68_3 ∧ XR b68_4 r68_4 ∧ XS b68_5 b68_4 .ret ∧ XS b68_6 b68_3 b68_5 ∧ XS b68_7 b68_2 b68_6 ∧ XS b68_8 b68_1 b68_7 ∧ XS b68_9 b68_0 b68_8 ∧ XY s68 20 b68_9 [.t 2] := ⟨rfl, rfl, rfl, rfl, rfl, rfl, rfl, rfl, rfl, rfl, rfl⟩
abbrev r69_0 : List MOper := [⟨(some 4), .move (.c (.nilslice)), none⟩]
def b69_0 : SCode := .region r69_0
abbrev r69_1 : List MOper := [⟨(some 8), .move (.t 1), none⟩,
  ⟨(some 9), .bin .eql .nilf (.t 8) (.c (.nilfunc)), none⟩,
  ⟨(some 10), .move (.t 9), none⟩,
  ⟨(some 11), .move (.t 0), (some (10, false))⟩,
  ⟨(some 12), .lenSl (.t 11), (some (10, false))⟩,
  ⟨(some 13), .bin .gtr .num (.t 12) (.c (.int .i64 1048576)), (some (10, false))⟩,
  ⟨(some 14), .pick (.t 10) (.c (.bool true)) (.t 13), none⟩]
def b69_1 : SCode := .region r69_1
abbrev r69_2 : List MOper := [⟨(some 4), .move (.c (.nilslice)), none⟩]
def b69_2 : SCode := .region r69_2
def b69_3 : SCode := .seq b69_2 .ret
def b69_4 : SCode := .cond (.t 14) b69_3 .skip
def b69_5 : SCode := .seq b69_1 b69_4
abbrev r69_6 : List MOper := [⟨(some 5), .alloc [.nilslice, .bool false], none⟩]
def b69_6 : SCode := .region r69_6
abbrev r69_7 : List MOper := [⟨(some 15), .move (.t 0), none⟩,
  ⟨(some 16), .lenSl (.t 15), none⟩,
  ⟨(some 17), .buildSlice [.int .i64 0] 1 1 [(0, 1, (.t 16))], none⟩,
  ⟨(some 18), .call 29 [(.t 5), (.t 17)], none⟩]
def b69_7 : SCode := .region r69_7
abbrev r69_8 : List MOper := [⟨(some 19), .move (.t 0), none⟩,
  ⟨(some 20), .lenSl (.t 19), none⟩,
  ⟨(some 21), .move (.c (.int .i64 0)), none⟩]
def b69_8 : SCode := .region r69_8
abbrev r69_9 : List MOper := [⟨(some 22), .bin .lss .num (.t 21) (.t 20), none⟩]
def b69_9 : SCode := .region r69_9
def b69_10 : SCode := .cond (.t 22) .skip (.exit 0)
abbrev r69_11 : List MOper := [⟨(some 23), .indexAddr 2 (.t 19) (.t 21), none⟩,
  ⟨(some 24), .loadN 2 (.t 23), none⟩,
  ⟨(some 7), .alloc [.str [], .str []], none⟩,
  ⟨none, .store 2 (.t 7) (.t 24), none⟩]
def b69_11 : SCode := .region r69_11
abbrev r69_12 : List MOper := [⟨(some 25), .move (.t 1), none⟩,
  ⟨(some 26), .loadN 2 (.t 7), none⟩,
  ⟨(some 27), .callv (.t 25) [(.t 26)], none⟩,
  ⟨(some 28), .ofBytes (.t 27), none⟩,
  ⟨(some 29), .buildSlice [.str []] 1 1 [(0, 1, (.t 28))], none⟩,
  ⟨(some 30), .call 31 [(.t 5), (.t 29)], none⟩]
def b69_12 : SCode := .region r69_12
def b69_13 : SCode := .seq b69_11 b69_12
def b69_14 : SCode := .block 1 b69_13
abbrev r69_15 : List MOper := [⟨(some 31), .bin .add .num (.t 21) (.c (.int .i64 1)), none⟩,
  ⟨(some 21), .move (.t 31), none⟩]
def b69_15 : SCode := .region r69_15
def b69_16 : SCode := .seq b69_14 b69_15
def b69_17 : SCode := .seq b69_10 b69_16
def b69_18 : SCode := .seq b69_9 b69_17
def b69_19 : SCode := .loop b69_18
def b69_20 : SCode := .block 0 b69_19
def b69_21 : SCode := .seq b69_8 b69_20
abbrev r69_22 : List MOper := [⟨(some 32), .fieldAddr 0 (.t 5), none⟩,
  ⟨(some 33), .load1 (.t 32), none⟩,
  ⟨(some 4), .move (.t 33), none⟩]
def b69_22 : SCode := .region r69_22
def b69_23 : SCode := .seq b69_22 .ret
def b69_24 : SCode := .seq b69_21 b69_23
def b69_25 : SCode := .seq b69_7 b69_24
def b69_26 : SCode := .seq b69_6 b69_25
def b69_27 : SCode := .seq b69_5 b69_26
def b69_28 : SCode := .seq b69_0 b69_27
def s69 : SFunc := ⟨34, [.t 4], b69_28⟩
theorem c69 : sFn Try.prog 69 = some s69 := by kernel_rfl
theorem Z69 : XR b69_0 r69_0 ∧ XR b69_1 r69_1 ∧ XR b69_2 r69_2 ∧ XS b69_3 b69_2 .ret ∧ XC b69_4 (.t 14) b69_3 .skip ∧ XS b69_5 b69_1 b69_4 ∧ XR b69_6 r69_6 ∧ XR b69_7 r69_7 ∧ XR b69_8 r69_8 ∧ XR b69_9 r69_9 ∧ XC b69_10 (.t 22) .skip (.exit 0) ∧ XR b69_11 r69_11 ∧ XR b69_12 r69_12 ∧ XS b69_13 b69_11 b69_12 ∧ XB b69_14 1 b69_13 ∧ XR b69_15 r69_15 ∧ XS b69_16 b69_14 b69_15 ∧ XS b69_17 b69_10 b69_16 ∧ XS b69_18 b69_9 b69_17 ∧ XB b69_20 0 b69_19 ∧ XS b69_21 b69_8 b69_20 ∧ XR b69_22 r69_22 ∧ XS b69_23 b69_22 .ret ∧ XS b69_24 b69_21 b69_23 ∧ XS b69_25 b69_7 b69_24 ∧ XS b69_26 b69_6 b69_25 ∧ XS b69_27 b69_5 b69_26 ∧ XS b69_28 b69_0 b69_27 ∧ XY s69 34 b69_28 [.t 4] := ⟨rfl, rfl, rfl, rfl, sC_cond, rfl, rfl, rfl, rfl, rfl, sC_cond, rfl, rfl, rfl, rfl, rfl, rfl, rfl, rfl, rfl, rfl, rfl, rfl, rfl, rfl, rfl, rfl, rfl, rfl⟩
abbrev r70_0 : List MOper := [⟨(some 1), .box (.t 0), none⟩,
  ⟨(some 2), .move (.c (.nilslice)), none⟩]
def b70_0 : SCode := .region r70_0
abbrev r70_1 : List MOper := [⟨(some 3), .alloc [.nilslice, .bool false], none⟩]
def b70_1 : SCode := .region r70_1
abbrev r70_2 : List MOper := [⟨(some 4), .fieldAddr 0 (.t 1), none⟩,
  ⟨(some 5), .load1 (.t 4), none⟩,
  ⟨(some 6), .fieldAddr 1 (.t 1), none⟩,
  ⟨(some 7), .load1 (.t 6), none⟩,
  ⟨(some 8), .buildSlice [.str []] 1 2 [(0, 1, (.t 5)), (1, 1, (.t 7))], none⟩,
  ⟨(some 9), .call 31 [(.t 3), (.t 8)], none⟩]
def b70_2 : SCode := .region r70_2
abbrev r70_3 : List MOper := [⟨(some 10), .fieldAddr 0 (.t 3), none⟩,
  ⟨(some 11), .load1 (.t 10), none⟩,
  ⟨(some 2), .move (.t 11), none⟩]
def b70_3 : SCode := .region r70_3
def b70_4 : SCode := .seq b70_3 .ret
def b70_5 : SCode := .seq b70_2 b70_4
def b70_6 : SCode := .seq b70_1 b70_5
def b70_7 : SCode := .seq b70_0 b70_6
def s70 : SFunc := ⟨12, [.t 2], b70_7⟩
theorem c70 : sFn Try.prog 70 = some s70 := by kernel_rfl
theorem Z70 : XR b70_0 r70_0 ∧ XR b70_1 r70_1 ∧ XR b70_2 r70_2 ∧ XR b70_3 r70_3 ∧ XS b70_4 b70_3 .ret ∧ XS b70_5 b70_2 b70_4 ∧ XS b70_6 b70_1 b70_5 ∧ XS b70_7 b70_0 b70_6 ∧ XY s70 12 b70_7 [.t 2] := ⟨rfl, rfl, rfl, rfl, rfl, rfl, rfl, rfl, rfl⟩
abbrev r71_0 : List MOper := [⟨(some 4), .move (.c (.nilslice)), none⟩]
def b71_0 : SCode := .region r71_0
abbrev r71_1 : List MOper := [⟨(some 8), .move (.t 1), none⟩,
  ⟨(some 9), .bin .eql .nilf (.t 8) (.c (.nilfunc)), none⟩,
  ⟨(some 10), .move (.t 9), none⟩,
  ⟨(some 11), .move (.t 0), (some (10, false))⟩,
  ⟨(some 12), .lenSl (.t 11), (some (10, false))⟩,
  ⟨(some 13), .bin .gtr .num (.t 12) (.c (.int .i64 1048576)), (some (10, false))⟩,
  ⟨(some 14), .pick (.t 10) (.c (.bool true)) (.t 13), none⟩]
def b71_1 : SCode := .region r71_1
abbrev r71_2 : List MOper := [⟨(some 4), .move (.c (.nilslice)), none⟩]
def b71_2 : SCode := .region r71_2
def b71_3 : SCode := .seq b71_2 .ret
def b71_4 : SCode := .cond (.t 14) b71_3 .skip
def b71_5 : SCode := .seq b71_1 b71_4
abbrev r71_6 : List MOper := [⟨(some 5), .alloc [.nilslice, .bool false], none⟩]
def b71_6 : SCode := .region r71_6
abbrev r71_7 : List MOper := [⟨(some 15), .move (.t 0), none⟩,
  ⟨(some 16), .lenSl (.t 15), none⟩,
  ⟨(some 17), .buildSlice [.int .i64 0] 1 1 [(0, 1, (.t 16))], none⟩,
  ⟨(some 18), .call 29 [(.t 5), (.t 17)], none⟩]
def b71_7 : SCode := .region r71_7
abbrev r71_8 : List MOper := [⟨(some 19), .move (.t 0), none⟩,
  ⟨(some 20), .lenSl (.t 19), none⟩,
  ⟨(some 21), .move (.c (.int .i64 0)), none⟩]
def b71_8 : SCode := .region r71_8
abbrev r71_9 : List MOper := [⟨(some 22), .bin .lss .num (.t 21) (.t 20), none⟩]
def b71_9 : SCode := .region r71_9
def b71_10 : SCode := .cond (.t 22) .skip (.exit 0)
abbrev r71_11 : List MOper := [⟨(some 23), .indexAddr 9 (.t 19) (.t 21), none⟩,
  ⟨(some 24), .loadN 9 (.t 23), none⟩,
  ⟨(some 7), .alloc [.int .i64 0, .int .i64 0, .int .i64 0, .int .i64 0, .bool false, .str [], .nilslice, .str [], .bool false], none⟩,
  ⟨none, .store 9 (.t 7) (.t 24), none⟩]
def b71_11 : SCode := .region r71_11
abbrev r71_12 : List MOper := [⟨(some 25), .move (.t 1), none⟩,
  ⟨(some 26), .loadN 9 (.t 7), none⟩,
  ⟨(some 27), .callv (.t 25) [(.t 26)], none⟩,
  ⟨(some 28), .ofBytes (.t 27), none⟩,
  ⟨(some 29), .buildSlice [.str []] 1 1 [(0, 1, (.t 28))], none⟩,
  ⟨(some 30), .call 31 [(.t 5), (.t 29)], none⟩]
def b71_12 : SCode := .region r71_12
def b71_13 : SCode := .seq b71_11 b71_12
def b71_14 : SCode := .block 1 b71_13
abbrev r71_15 : List MOper := [⟨(some 31), .bin .add .num (.t 21) (.c (.int .i64 1)), none⟩,
  ⟨(some 21), .move (.t 31), none⟩]
def b71_15 : SCode := .region r71_15
def b71_16 : SCode := .seq b71_14 b71_15
def b71_17 : SCode := .seq b71_10 b71_16
def b71_18 : SCode := .seq b71_9 b71_17
def b71_19 : SCode := .loop b71_18
def b71_20 : SCode := .block 0 b71_19
def b71_21 : SCode := .seq b71_8 b71_20
abbrev r71_22 : List MOper := [⟨(some 32), .fieldAddr 0 (.t 5), none⟩,
  ⟨(some 33), .load1 (.t 32), none⟩,
  ⟨(some 4), .move (.t 33), none⟩]
def b71_22 : SCode := .region r71_22
def b71_23 : SCode := .seq b71_22 .ret
def b71_24 : SCode := .seq b71_21 b71_23
def b71_25 : SCode := .seq b71_7 b71_24
def b71_26 : SCode := .seq b71_6 b71_25
def b71_27 : SCode := .seq b71_5 b71_26
def b71_28 : SCode := .seq b71_0 b71_27
def s71 : SFunc := ⟨34, [.t 4], b71_28⟩
theorem c71 : sFn Try.prog 71 = some s71 := by kernel_rfl
theorem Z71 : XR b71_0 r71_0 ∧ XR b71_1 r71_1 ∧ XR b71_2 r71_2 ∧ XS b71_3 b71_2 .ret ∧ XC b71_4 (.t 14) b71_3 .skip ∧ XS b71_5 b71_1 b71_4 ∧ XR b71_6 r71_6 ∧ XR b71_7 r71_7 ∧ XR b71_8 r71_8 ∧ XR b71_9 r71_9 ∧ XC b71_10 (.t 22) .skip (.exit 0) ∧ XR b71_11 r71_11 ∧ XR b71_12 r71_12 ∧ XS b71_13 b71_11 b71_12 ∧ XB b71_14 1 b71_13 ∧ XR b71_15 r71_15 ∧ XS b71_16 b71_14 b71_15 ∧ XS b71_17 b71_10 b71_16 ∧ XS b71_18 b71_9 b71_17 ∧ XB b71_20 0 b71_19 ∧ XS b71_21 b71_8 b71_20 ∧ XR b71_22 r71_22 ∧ XS b71_23 b71_22 .ret ∧ XS b71_24 b71_21 b71_23 ∧ XS b71_25 b71_7 b71_24 ∧ XS b71_26 b71_6 b71_25 ∧ XS b71_27 b71_5 b71_26 ∧ XS b71_28 b71_0 b71_27 ∧ XY s71 34 b71_28 [.t 4] := ⟨rfl, rfl, rfl, rfl, sC_cond, rfl, rfl, rfl, rfl, rfl, sC_cond, rfl, rfl, rfl, rfl, rfl, rfl, rfl, rfl, rfl, rfl, rfl, rfl, rfl, rfl, rfl, rfl, rfl, rfl⟩
abbrev r72_0 : List MOper := [⟨(some 1), .box (.t 0), none⟩,
  ⟨(some 2), .move (.c (.nilslice)), none⟩]
def b72_0 : SCode := .region r72_0
abbrev r72_1 : List MOper := [⟨(some 3), .alloc [.nilslice, .bool false], none⟩]
def b72_1 : SCode := .region r72_1
abbrev r72_2 : List MOper := [⟨(some 7), .fieldAddr 1 (.t 1), none⟩,
  ⟨(some 8), .loadN 8 (.t 7), none⟩,
  ⟨(some 9), .call 32 [(.t 8)], none⟩,
  ⟨(some 6), .move (.t 9), none⟩,
  ⟨(some 10), .extract (.t 6) 0, none⟩,
  ⟨(some 11), .extract (.t 6) 1, none⟩,
  ⟨(some 4), .move (.t 10), none⟩,
  ⟨(some 5), .move (.t 11), none⟩]
def b72_2 : SCode := .region r72_2
abbrev r72_3 : List MOper := [⟨(some 12), .fieldAddr 0 (.t 1), none⟩,
  ⟨(some 13), .load1 (.t 12), none⟩,
  ⟨(some 14), .buildSlice [.int .i64 0] 1 1 [(0, 1, (.t 13))], none⟩,
  ⟨(some 15), .call 29 [(.t 3), (.t 14)], none⟩]
def b72_3 : SCode := .region r72_3
abbrev r72_4 : List MOper := [⟨(some 16), .move (.t 4), none⟩,
  ⟨(some 17), .ofBytes (.t 16), none⟩,
  ⟨(some 18), .buildSlice [.str []] 1 1 [(0, 1, (.t 17))], none⟩,
  ⟨(some 19), .call 31 [(.t 3), (.t 18)], none⟩]
def b72_4 : SCode := .region r72_4
abbrev r72_5 : List MOper := [⟨(some 20), .fieldAddr 0 (.t 3), none⟩,
  ⟨(some 21), .load1 (.t 20), none⟩,
  ⟨(some 2), .move (.t 21), none⟩]
def b72_5 : SCode := .region r72_5
def b72_6 : SCode := .seq b72_5 .ret
def b72_7 : SCode := .seq b72_4 b72_6
def b72_8 : SCode := .seq b72_3 b72_7
def b72_9 : SCode := .seq b72_2 b72_8
def b72_10 : SCode := .seq b72_1 b72_9
def b72_11 : SCode := .seq b72_0 b72_10
def s72 : SFunc := ⟨22, [.t 2], b72_11⟩
theorem c72 : sFn Try.prog 72 = some s72 := by kernel_rfl
theorem Z72 : XR b72_0 r72_0 ∧ XR b72_1 r72_1 ∧ XR b72_2 r72_2 ∧ XR b72_3 r72_3 ∧ XR b72_4 r72_4 ∧ XR b72_5 r72_5 ∧ XS b72_6 b72_5 .ret ∧ XS b72_7 b72_4 b72_6 ∧ XS b72_8 b72_3 b72_7 ∧ XS b72_9 b72_2 b72_8 ∧ XS b72_10 b72_1 b72_9 ∧ XS b72_11 b72_0 b72_10 ∧ XY s72 22 b72_11 [.t 2] := ⟨rfl, rfl, rfl, rfl, rfl, rfl, rfl, rfl, rfl, rfl, rfl, rfl, rfl⟩

end
set_option maxHeartbeats 4000000
set_option maxRecDepth 10000
theorem rws_pure (bs : List UInt8) : pureLL (rws bs) = true := pureLL_of fun r hr => by
  obtain ⟨b, _, rfl⟩ := List.mem_map.1 hr
  rfl
theorem imm_pure (bs : List UInt8) (f nn : Bool) : (AV.imm (rws bs) f nn).pure = true := by simp only [AV.pure, rws_pure]
theorem rws_def (bs : List UInt8) : (bs.map fun b => [byteAV b]) = rws bs := _root_.id rfl
theorem packR_pure (bad : Bool) (bs : List UInt8) : (packR bad bs).pure = true := by
  unfold packR
  cases bad
  · simp only [Bool.false_eq_true, if_false, AV.pure, pureL, rws_def, rws_pure, Bool.and_self]
  · rfl
theorem bytes_frz {σ : AHeap} {d n : Nat} {bs : List UInt8} (h : hget σ d = some (bs.map byteAV)) (hn : n = bs.length) : Frz σ (.slice d 0 n none 1) (.imm (rws bs) false false) := by
  subst hn
  refine .slice h (by rw [Nat.mul_one]; exact sub_all (by simp)) (by simp [rws]) ?_ (fun i y z hy hz => ?_)
  · intro r hr
    obtain ⟨b, _, rfl⟩ := List.mem_map.1 hr
    rfl
  · unfold rws at hz
    rw [rows_flat, hy] at hz
    cases hz
    obtain ⟨b, _, rfl⟩ := List.mem_map.1 (List.mem_of_getElem? hy)
    exact .pure rfl
theorem pk_slice {σ : AHeap} {id d : Nat} {bs : List UInt8} {bad : Bool} (h : Pk σ id bs bad (some d)) : hget σ id = some [.slice d 0 bs.length none 1, .bool bad] ∧ hget σ d = some (bs.map byteAV) ∧ d ≠ id := by
  rcases h with ⟨h, _⟩ | ⟨d', h, h1, h2, h3⟩
  · cases h
  · cases h; exact ⟨h2, h3, h1⟩
theorem pk_lt {σ : AHeap} {id d : Nat} {bs : List UInt8} {bad : Bool} (h : Pk σ id bs bad (some d)) : id < σ.length ∧ d < σ.length := ⟨hget_lt (pk_slice h).1, hget_lt (pk_slice h).2.1⟩
theorem out_frz {bs : List UInt8} {r : AV} {σ : AHeap} (h : ∃ d, hget σ d = some (bs.map byteAV) ∧ r = .slice d 0 bs.length none 1) : ∃ r1, Frz σ r r1 ∧ r1.pure = true ∧ r1 = .imm (rws bs) false false := by
  obtain ⟨d, h1, rfl⟩ := h
  exact ⟨_, bytes_frz h1 rfl, imm_pure _ _ _, rfl⟩
theorem ofNil (σ : AHeap) : Gz.ofBytes σ .nilslice = some [] := _root_.id rfl
/-! One item. -/
structure ShV where
  from_ : List UInt8
  to : List UInt8
  node : Int
  epoch : Int
structure LaV where
  seq : Int
  rep : RepV
def recC (p : List UInt8 × List UInt8) : List AV := [.str p.1, .str p.2]
def ShV.cells (s : ShV) : List AV := [.str s.from_, .str s.to, .int .i64 s.node, .int .i64 s.epoch]
def LaV.cells (l : LaV) : List AV := .int .i64 l.seq :: l.rep.cells
def ShV.bytes (s : ShV) : List UInt8 := [s.from_, s.to].flatMap txt ++ [s.node, s.epoch].flatMap u32
def LaV.bytes (l : LaV) : List UInt8 := [l.seq].flatMap u32 ++ [if l.rep.bad = true then [] else l.rep.bytes].flatMap txt
theorem record_ok (p : List UInt8 × List UInt8) (hsz : (txt2 p).length ≤ 900000000) : Tri Try.prog 70 [.agg (recC p)] [] fun r _ => r.pure = true ∧ r = .imm (rws (txt2 p)) false false := by
  refine Tri.frozen (Q := fun r σ => ∃ d, hget σ d = some ((txt2 p).map byteAV) ∧ r = .slice d 0 (txt2 p).length none 1) (Tri.of_s c70 E2_sound ?_) (fun r σ h => out_frz h)
  generalize hK : (fun (r : AV) (σ : AHeap) => ∃ d, hget σ d = some ((txt2 p).map byteAV) ∧ r = .slice d 0 (txt2 p).length none 1) = K
  have hK : ∀ σ d, hget σ d = some ((txt2 p).map byteAV) → K (.slice d 0 (txt2 p).length none 1) σ := by intro σ d h; rw [← hK]; exact ⟨d, h, rfl⟩
  simp only [recC, E2_app, Z70, base1, baseE, ↓reduceIte, Nat.reduceAdd, Nat.reduceSub, Nat.reduceMul, Nat.reduceEqDiff, Nat.reduceLeDiff, Nat.reduceLT, Int.reduceLT, Int.reduceLE, Int.reduceEq, Int.reduceNe, Int.reduceToNat, Int.reduceAdd, Int.reduceSub, reduceCtorEq, Nat.reduceBEq, Nat.reduceBNe]
  have e1 : [] ++ [p.1, p.2].flatMap txt = txt2 p := by simp [txt2]
  refine ⟨1, 2, [p.1, p.2], some 2, [], false, none, rfl, rfl, by decide, by simp, ?_, by simp, .inl ⟨rfl, rfl, rfl⟩, fun σ1 D1 q1 f1 => ?_⟩
  · simp only [total]; simp only [List.nil_append] at e1; rw [e1]; simp only [List.length_nil]; omega
  rw [e1] at q1
  obtain ⟨d, rfl, hd⟩ := pk_some q1 (by simp [txt2, txt, u32])
  obtain ⟨g1, g2, g3⟩ := pk_slice q1
  simp only [E2_app, Z70, base1, baseE, ↓reduceIte, Nat.reduceAdd, Nat.reduceSub, Nat.reduceMul, Nat.reduceEqDiff, Nat.reduceLeDiff, Nat.reduceLT, Int.reduceLT, Int.reduceLE, Int.reduceEq, Int.reduceNe, Int.reduceToNat, Int.reduceAdd, Int.reduceSub, reduceCtorEq, Nat.reduceBEq, Nat.reduceBNe, g1]
  exact hK _ _ g2
theorem shard_ok (s : ShV) (hsz : s.bytes.length ≤ 900000000) : Tri Try.prog 68 [.agg s.cells] [] fun r _ => r.pure = true ∧ r = .imm (rws s.bytes) false false := by
  refine Tri.frozen (Q := fun r σ => ∃ d, hget σ d = some (s.bytes.map byteAV) ∧ r = .slice d 0 s.bytes.length none 1) (Tri.of_s c68 E2_sound ?_) (fun r σ h => out_frz h)
  generalize hK : (fun (r : AV) (σ : AHeap) => ∃ d, hget σ d = some (s.bytes.map byteAV) ∧ r = .slice d 0 s.bytes.length none 1) = K
  have hK : ∀ σ d, hget σ d = some (s.bytes.map byteAV) → K (.slice d 0 s.bytes.length none 1) σ := by intro σ d h; rw [← hK]; exact ⟨d, h, rfl⟩
  have e1 : s.bytes = [] ++ [s.from_, s.to].flatMap txt ++ [s.node, s.epoch].flatMap u32 := rfl
  have e2 : total [s.from_, s.to] + 8 ≤ 900000000 := by
    have : s.bytes.length = total [s.from_, s.to] + 8 := by simp [ShV.bytes, total, u32]; omega
    omega
  simp only [ShV.cells, E2_app, Z68, base1, baseE, ↓reduceIte, Nat.reduceAdd, Nat.reduceSub, Nat.reduceMul, Nat.reduceEqDiff, Nat.reduceLeDiff, Nat.reduceLT, Int.reduceLT, Int.reduceLE, Int.reduceEq, Int.reduceNe, Int.reduceToNat, Int.reduceAdd, Int.reduceSub, reduceCtorEq, Nat.reduceBEq, Nat.reduceBNe]
  refine ⟨1, 2, [s.from_, s.to], some 2, [], false, none, rfl, rfl, by decide, by simp, by simp only [List.length_nil]; omega, by simp, .inl ⟨rfl, rfl, rfl⟩, fun σ1 D1 q1 f1 => ?_⟩
  obtain ⟨d, rfl, hd⟩ := pk_some q1 (by simp [txt, u32])
  have b1 := (f1 0 _ rfl (by decide) (by simp)).1
  obtain ⟨l1, l2⟩ := pk_lt q1
  simp only [E2_app, Z68, base1, baseE, ↓reduceIte, Nat.reduceAdd, Nat.reduceSub, Nat.reduceMul, Nat.reduceEqDiff, Nat.reduceLeDiff, Nat.reduceLT, Int.reduceLT, Int.reduceLE, Int.reduceEq, Int.reduceNe, Int.reduceToNat, Int.reduceAdd, Int.reduceSub, reduceCtorEq, Nat.reduceBEq, Nat.reduceBNe, b1]
  obtain ⟨p1, _⟩ := pk_push q1 [.int .i64 s.node, .int .i64 s.epoch]
  refine ⟨1, σ1.length, [s.node, s.epoch], some 2, _, _, some d, rfl, push_new rfl, by omega, by simp; omega, ?_, p1, fun σ2 D2 q2 f2 => ?_⟩
  · simp only [total] at e2
    simp only [List.nil_append, List.length_cons, List.length_nil]; omega
  rw [← e1] at q2
  obtain ⟨d2, rfl, hd2⟩ := pk_some q2 (by rw [e1]; simp [txt, u32])
  obtain ⟨g1, g2, g3⟩ := pk_slice q2
  simp only [E2_app, Z68, base1, baseE, ↓reduceIte, Nat.reduceAdd, Nat.reduceSub, Nat.reduceMul, Nat.reduceEqDiff, Nat.reduceLeDiff, Nat.reduceLT, Int.reduceLT, Int.reduceLE, Int.reduceEq, Int.reduceNe, Int.reduceToNat, Int.reduceAdd, Int.reduceSub, reduceCtorEq, Nat.reduceBEq, Nat.reduceBNe, g1]
  exact hK _ _ g2
def replyPD (args : List AV) (σ : AHeap) (K : AV → AHeap → Prop) : Prop := ∃ a : RepV, args = [.agg a.cells] ∧ a.bytes.length ≤ 900000000 ∧ K (packR a.bad a.bytes) σ
theorem replyPD_ok (args : List AV) (σ : AHeap) (K : AV → AHeap → Prop) (h : replyPD args σ K) : Tri Try.prog 32 args σ K := by
  obtain ⟨a, rfl, hs, h⟩ := h
  have := Tri.pureD (σ := σ) (Q := fun r => r = packR a.bad a.bytes) (by simp only [pureL, rep_pure, Bool.and_self]) ((reply_ok a hs).mono fun r _ hr => ⟨by rw [hr.2]; exact packR_pure _ _, hr.2⟩)
  exact this.mono fun r σ' hr => by rw [hr.1, hr.2]; exact h
def E3 : PCall := rowQ 32 replyPD (rowQ 29 numD (rowQ 31 textD noCall))
theorem E3_app {f : FuncId} {args : List AV} {σ : AHeap} {K : AV → AHeap → Prop} : E3 f args σ K = rowQ 32 replyPD (rowQ 29 numD (rowQ 31 textD noCall)) f args σ K := _root_.id rfl
theorem E3_sound : Sound Try.prog E3 := rowQ_sound replyPD_ok (rowQ_sound numD_ok (rowQ_sound textD_ok (noCall_sound _)))
theorem last_ok (l : LaV) (hsz : l.rep.bytes.length ≤ 900000000) : Tri Try.prog 72 [.agg l.cells] [] fun r _ => r.pure = true ∧ r = .imm (rws l.bytes) false false := by
  refine Tri.frozen (Q := fun r σ => ∃ d, hget σ d = some (l.bytes.map byteAV) ∧ r = .slice d 0 l.bytes.length none 1) (Tri.of_s c72 E3_sound ?_) (fun r σ h => out_frz h)
  generalize hK : (fun (r : AV) (σ : AHeap) => ∃ d, hget σ d = some (l.bytes.map byteAV) ∧ r = .slice d 0 l.bytes.length none 1) = K
  have hK : ∀ σ d, hget σ d = some (l.bytes.map byteAV) → K (.slice d 0 l.bytes.length none 1) σ := by intro σ d h; rw [← hK]; exact ⟨d, h, rfl⟩
  have e1 : l.bytes = [] ++ [l.seq].flatMap u32 ++ [if l.rep.bad = true then [] else l.rep.bytes].flatMap txt := rfl
  obtain ⟨seq, rep⟩ := l
  simp only at hsz e1
  simp only [LaV.cells, RepV.cells, E3_app, Z72, base1, baseE, ↓reduceIte, Nat.reduceAdd, Nat.reduceSub, Nat.reduceMul, Nat.reduceEqDiff, Nat.reduceLeDiff, Nat.reduceLT, Int.reduceLT, Int.reduceLE, Int.reduceEq, Int.reduceNe, Int.reduceToNat, Int.reduceAdd, Int.reduceSub, reduceCtorEq, Nat.reduceBEq, Nat.reduceBNe]
  refine ⟨rep, rfl, hsz, ?_⟩
  generalize hy : (if rep.bad = true then ([] : List UInt8) else rep.bytes) = y at e1
  unfold packR
  cases hb : rep.bad with
  | true =>
    have hy0 : y = [] := by rw [← hy, if_pos hb]
    simp only [E3_app, Z72, base1, baseE, ↓reduceIte, Nat.reduceAdd, Nat.reduceSub, Nat.reduceMul, Nat.reduceEqDiff, Nat.reduceLeDiff, Nat.reduceLT, Int.reduceLT, Int.reduceLE, Int.reduceEq, Int.reduceNe, Int.reduceToNat, Int.reduceAdd, Int.reduceSub, reduceCtorEq, Nat.reduceBEq, Nat.reduceBNe]
    refine ⟨1, 2, [seq], some 1, [], false, none, rfl, rfl, by decide, by simp, by simp, .inl ⟨rfl, rfl, rfl⟩, fun σ1 D1 q1 f1 => ?_⟩
    obtain ⟨d, rfl, hd⟩ := pk_some q1 (by simp [u32])
    obtain ⟨l1, l2⟩ := pk_lt q1
    simp only [E3_app, Z72, base1, baseE, ↓reduceIte, Nat.reduceAdd, Nat.reduceSub, Nat.reduceMul, Nat.reduceEqDiff, Nat.reduceLeDiff, Nat.reduceLT, Int.reduceLT, Int.reduceLE, Int.reduceEq, Int.reduceNe, Int.reduceToNat, Int.reduceAdd, Int.reduceSub, reduceCtorEq, Nat.reduceBEq, Nat.reduceBNe, ofNil]
    obtain ⟨p1, _⟩ := pk_push q1 [.str []]
    refine ⟨1, σ1.length, [[]], some 1, _, _, some d, rfl, push_new rfl, by omega, by simp; omega, by simp [total, txt, u32], by simp, p1, fun σ2 D2 q2 f2 => ?_⟩
    rw [hy0] at e1
    rw [← e1] at q2
    obtain ⟨d2, rfl, hd2⟩ := pk_some q2 (by rw [e1]; simp [txt, u32])
    obtain ⟨g1, g2, g3⟩ := pk_slice q2
    simp only [E3_app, Z72, base1, baseE, ↓reduceIte, Nat.reduceAdd, Nat.reduceSub, Nat.reduceMul, Nat.reduceEqDiff, Nat.reduceLeDiff, Nat.reduceLT, Int.reduceLT, Int.reduceLE, Int.reduceEq, Int.reduceNe, Int.reduceToNat, Int.reduceAdd, Int.reduceSub, reduceCtorEq, Nat.reduceBEq, Nat.reduceBNe, g1]
    exact hK _ _ g2
  | false =>
    have hy0 : y = rep.bytes := by rw [← hy, if_neg (by simp [hb])]
    simp only [E3_app, Z72, base1, baseE, ↓reduceIte, Nat.reduceAdd, Nat.reduceSub, Nat.reduceMul, Nat.reduceEqDiff, Nat.reduceLeDiff, Nat.reduceLT, Int.reduceLT, Int.reduceLE, Int.reduceEq, Int.reduceNe, Int.reduceToNat, Int.reduceAdd, Int.reduceSub, reduceCtorEq, Nat.reduceBEq, Nat.reduceBNe]
    refine ⟨1, 2, [seq], some 1, [], false, none, rfl, rfl, by decide, by simp, by simp, .inl ⟨rfl, rfl, rfl⟩, fun σ1 D1 q1 f1 => ?_⟩
    obtain ⟨d, rfl, hd⟩ := pk_some q1 (by simp [u32])
    obtain ⟨l1, l2⟩ := pk_lt q1
    simp only [E3_app, Z72, base1, baseE, ↓reduceIte, Nat.reduceAdd, Nat.reduceSub, Nat.reduceMul, Nat.reduceEqDiff, Nat.reduceLeDiff, Nat.reduceLT, Int.reduceLT, Int.reduceLE, Int.reduceEq, Int.reduceNe, Int.reduceToNat, Int.reduceAdd, Int.reduceSub, reduceCtorEq, Nat.reduceBEq, Nat.reduceBNe, rws_def, ofRws]
    obtain ⟨p1, _⟩ := pk_push q1 [.str rep.bytes]
    refine ⟨1, σ1.length, [rep.bytes], some 1, _, _, some d, rfl, push_new rfl, by omega, by simp; omega, by simp [total, txt, u32]; omega, by simp, p1, fun σ2 D2 q2 f2 => ?_⟩
    rw [hy0] at e1
    rw [← e1] at q2
    obtain ⟨d2, rfl, hd2⟩ := pk_some q2 (by rw [e1]; simp [txt, u32])
    obtain ⟨g1, g2, g3⟩ := pk_slice q2
    simp only [E3_app, Z72, base1, baseE, ↓reduceIte, Nat.reduceAdd, Nat.reduceSub, Nat.reduceMul, Nat.reduceEqDiff, Nat.reduceLeDiff, Nat.reduceLT, Int.reduceLT, Int.reduceLE, Int.reduceEq, Int.reduceNe, Int.reduceToNat, Int.reduceAdd, Int.reduceSub, reduceCtorEq, Nat.reduceBEq, Nat.reduceBNe, g1]
    exact hK _ _ g2
/-! Lists. -/
def oneRecD (args : List AV) (σ : AHeap) (K : AV → AHeap → Prop) : Prop := ∃ x : List UInt8 × List UInt8, args = [.agg (recC x)] ∧ (txt2 x).length ≤ 900000000 ∧ K (.imm (rws (txt2 x)) false false) σ
theorem oneRecD_ok (args : List AV) (σ : AHeap) (K : AV → AHeap → Prop) (h : oneRecD args σ K) : Tri Try.prog 70 args σ K := by
  obtain ⟨x, rfl, hs, h⟩ := h
  have := Tri.pureD (σ := σ) (Q := fun r => r = .imm (rws (txt2 x)) false false) (args := [.agg (recC x)]) (rfl) (record_ok x hs)
  exact this.mono fun r σ' hr => by rw [hr.1, hr.2]; exact h
def bytesRec (l : List (List UInt8 × List UInt8)) : List UInt8 := u32 (l.length : Int) ++ l.flatMap fun x => txt (txt2 x)
def GRec : PCall := rowQ 70 oneRecD (rowQ 29 numD (rowQ 31 textD noCall))
theorem GRec_app {f : FuncId} {args : List AV} {σ : AHeap} {K : AV → AHeap → Prop} : GRec f args σ K = rowQ 70 oneRecD (rowQ 29 numD (rowQ 31 textD noCall)) f args σ K := _root_.id rfl
theorem GRec_sound : Sound Try.prog GRec := rowQ_sound oneRecD_ok (rowQ_sound numD_ok (rowQ_sound textD_ok (noCall_sound _)))
def lpRec (l : List (List UInt8 × List UInt8)) (f nn : Bool) (n : Nat) (e : Env) (σ : AHeap) : Prop :=
  ∃ (i d : Nat) (bad : Bool), i ≤ l.length ∧ n = l.length - i ∧ Pk σ 0 (u32 (l.length : Int) ++ (l.take i).flatMap fun x => txt (txt2 x)) bad (some d) ∧
    e 1 = .func 70 [] ∧ e 5 = .ptr 0 0 ∧ e 19 = .imm (l.map recC) f nn ∧ e 20 = .int .i64 (l.length : Int) ∧ e 21 = .int .i64 (i : Int)
theorem stepRec (l : List (List UInt8 × List UInt8)) (f nn : Bool) (hsz : ∀ x ∈ l, (txt2 x).length ≤ 900000000) (hsz2 : (l.flatMap fun x => txt (txt2 x)).length ≤ 900000000) (hsn : l.length ≤ 900000000) (Q : AV → AHeap → Prop) (hQ : ∀ σ d, hget σ d = some ((bytesRec l).map byteAV) → Q (.slice d 0 (bytesRec l).length none 1) σ) (n : Nat) (e : Env) (σ : AHeap) (h : lpRec l f nn n e σ) :
    sC GRec 0 b69_18 (unw GRec 0 (loopR GRec 0 (RetQ [MRes.t 4] Q) (.block 0 (.seq b69_23 .fin)) (lpRec l f nn) n) .fin) e σ := by
  obtain ⟨i, d, bad, hi, hn, hp, h1, h5, h19, h20, h21⟩ := h
  obtain ⟨hp0, hdl⟩ := pk_lt hp
  have hml : (l.map recC).length = l.length := by simp
  rcases Nat.lt_or_ge i l.length with hlt | hge
  · have hlt' : (i : Int) < (l.length : Int) := by omega
    have hge0 : (0 : Int) ≤ (i : Int) := by omega
    obtain ⟨x, hx⟩ : ∃ x, l[i]? = some x := ⟨_, List.getElem?_eq_getElem hlt⟩
    have hxx : (l.map recC)[i]? = some (recC x) := by simp [hx]
    have htk : l.take (i + 1) = l.take i ++ [x] := by rw [List.take_add_one, hx]; rfl
    have hw : IntKind.wrap .i64 ((i : Int) + 1) = ((i + 1 : Nat) : Int) := by rw [Gz.wrap64 (by omega)]; omega
    have htot : ((l.take i).flatMap fun x => txt (txt2 x)).length + (4 + (txt2 x).length) ≤ (l.flatMap fun x => txt (txt2 x)).length := by
      have h1 : l = l.take i ++ x :: l.drop (i + 1) := by
        have := (List.getElem?_eq_some_iff.1 hx).2
        rw [← this, List.getElem_cons_drop, List.take_append_drop]
      conv => rhs; rw [h1]
      simp only [List.flatMap_append, List.flatMap_cons, List.length_append, txt, u32_len]
      omega
    have hcx := hsz x (List.mem_of_getElem? hx)
    simp only [recC] at hxx
    have pn : ∀ (c : List AV), hget (hpush σ c) σ.length = some c := fun c => push_new rfl
    have sn : ∀ (c c' : List AV), hget (hset (hpush σ c) σ.length c') σ.length = some c' := fun c c' => set_same (pn c)
    simp only [GRec_app, Z69, base1, baseE, ↓reduceIte, Nat.reduceAdd, Nat.reduceSub, Nat.reduceMul, Nat.reduceEqDiff, Nat.reduceLeDiff, Nat.reduceLT, Int.reduceLT, Int.reduceLE, Int.reduceEq, Int.reduceNe, Int.reduceToNat, Int.reduceAdd, Int.reduceSub, reduceCtorEq, Nat.reduceBEq, Nat.reduceBNe, loopR_exit, loopR_ret, h1, h5, h19, h20, h21, hlt', hlt, hge0, hxx, hml, Int.toNat_natCast, pn, sn]
    refine ⟨x, rfl, hcx, ?_⟩
    simp only [GRec_app, Z69, base1, baseE, ↓reduceIte, Nat.reduceAdd, Nat.reduceSub, Nat.reduceMul, Nat.reduceEqDiff, Nat.reduceLeDiff, Nat.reduceLT, Int.reduceLT, Int.reduceLE, Int.reduceEq, Int.reduceNe, Int.reduceToNat, Int.reduceAdd, Int.reduceSub, reduceCtorEq, Nat.reduceBEq, Nat.reduceBNe, h1, h5, h19, h20, h21, ofRws]
    generalize hz : ([.str [], .str []] : List AV) = z
    have p1 := (pk_push (pk_set (pk_push hp z).1 (j := σ.length) (c := recC x) (by omega) (by simp; omega)) [AV.str (txt2 x)]).1
    refine ⟨0, σ.length + 1, [txt2 x], some 1, _, _, some d, by simp [set_len, push_len], push_new (by simp [set_len, push_len]), by omega, by simp; omega, ?_, by simp, p1, fun σ1 D1 q1 f3 => ?_⟩
    · have htx : (txt (txt2 x)).length = 4 + (txt2 x).length := by simp only [txt, List.length_append, u32_len]
      simp only [total, List.flatMap_cons, List.flatMap_nil, List.append_nil, List.length_append, u32_len, htx]; omega
    obtain ⟨d1, rfl, hd1⟩ := pk_some q1 (by simp [txt, u32])
    simp only [GRec_app, Z69, base1, baseE, ↓reduceIte, Nat.reduceAdd, Nat.reduceSub, Nat.reduceMul, Nat.reduceEqDiff, Nat.reduceLeDiff, Nat.reduceLT, Int.reduceLT, Int.reduceLE, Int.reduceEq, Int.reduceNe, Int.reduceToNat, Int.reduceAdd, Int.reduceSub, reduceCtorEq, Nat.reduceBEq, Nat.reduceBNe, h1, h5, h19, h20, h21, hw]
    rw [loopR_normal]
    refine ⟨l.length - (i + 1), _, _, by omega, .refl _ _ _, i + 1, d1, bad || [txt2 x].any badT, hlt, rfl, ?_, ?_, ?_, ?_, ?_, ?_⟩
    · have e1 : u32 (l.length : Int) ++ ((l.take (i + 1)).flatMap fun x => txt (txt2 x)) = u32 (l.length : Int) ++ ((l.take i).flatMap fun x => txt (txt2 x)) ++ [txt2 x].flatMap txt := by rw [htk]; simp
      rw [e1]; exact q1
    all_goals simp only [putD_some, putD_none, Nat.reduceEqDiff, ↓reduceIte, h1, h5, h19, h20, h21, hw]
  · have hlt' : ¬ (i : Int) < (l.length : Int) := by omega
    have hie : i = l.length := by omega
    subst hie
    rw [List.take_length] at hp
    obtain ⟨g1, g2, g3⟩ := pk_slice hp
    simp only [GRec_app, Z69, base1, baseE, ↓reduceIte, Nat.reduceAdd, Nat.reduceSub, Nat.reduceMul, Nat.reduceEqDiff, Nat.reduceLeDiff, Nat.reduceLT, Int.reduceLT, Int.reduceLE, Int.reduceEq, Int.reduceNe, Int.reduceToNat, Int.reduceAdd, Int.reduceSub, reduceCtorEq, Nat.reduceBEq, Nat.reduceBNe, loopR_exit, loopR_ret, h1, h5, h19, h20, h21, hlt', g1]
    rw [← List.length_append]
    exact hQ σ d g2
theorem listRec_ok (l : List (List UInt8 × List UInt8)) (f nn : Bool) (hsz : ∀ x ∈ l, (txt2 x).length ≤ 900000000) (hsz2 : (l.flatMap fun x => txt (txt2 x)).length ≤ 900000000) (hsn : l.length ≤ 1048576) : Tri Try.prog 69 [.imm (l.map recC) f nn, .func 70 []] [] fun r _ => r.pure = true ∧ r = .imm (rws (bytesRec l)) false false := by
  refine Tri.frozen (Q := fun r σ => ∃ d, hget σ d = some ((bytesRec l).map byteAV) ∧ r = .slice d 0 (bytesRec l).length none 1) (Tri.of_s c69 GRec_sound ?_) (fun r σ h => out_frz h)
  generalize hK : (fun (r : AV) (σ : AHeap) => ∃ d, hget σ d = some ((bytesRec l).map byteAV) ∧ r = .slice d 0 (bytesRec l).length none 1) = K
  have hK : ∀ σ d, hget σ d = some ((bytesRec l).map byteAV) → K (.slice d 0 (bytesRec l).length none 1) σ := by intro σ d h; rw [← hK]; exact ⟨d, h, rfl⟩
  have hml : (l.map recC).length = l.length := by simp
  have hs : ¬ (1048576 : Int) < (l.length : Int) := by omega
  simp only [GRec_app, Z69, base1, baseE, ↓reduceIte, Nat.reduceAdd, Nat.reduceSub, Nat.reduceMul, Nat.reduceEqDiff, Nat.reduceLeDiff, Nat.reduceLT, Int.reduceLT, Int.reduceLE, Int.reduceEq, Int.reduceNe, Int.reduceToNat, Int.reduceAdd, Int.reduceSub, reduceCtorEq, Nat.reduceBEq, Nat.reduceBNe, hml, hs]
  refine ⟨0, 1, [(l.length : Int)], some 1, [], false, none, rfl, rfl, by decide, by simp, by simp, .inl ⟨rfl, rfl, rfl⟩, fun σ1 D1 q1 f1 => ?_⟩
  obtain ⟨d1, rfl, hd1⟩ := pk_some q1 (by simp [u32])
  simp only [GRec_app, Z69, base1, baseE, ↓reduceIte, Nat.reduceAdd, Nat.reduceSub, Nat.reduceMul, Nat.reduceEqDiff, Nat.reduceLeDiff, Nat.reduceLT, Int.reduceLT, Int.reduceLE, Int.reduceEq, Int.reduceNe, Int.reduceToNat, Int.reduceAdd, Int.reduceSub, reduceCtorEq, Nat.reduceBEq, Nat.reduceBNe, hml]
  refine sC_inv (a := b69_18) (lpRec l f nn) l.length _ σ1 (.refl _ _ _) ⟨0, d1, false || [(l.length : Int)].any badN, Nat.zero_le _, rfl, ?_, rfl, rfl, rfl, rfl, rfl⟩ (stepRec l f nn hsz hsz2 (by omega) _ hK)
  simpa using q1
def oneShD (args : List AV) (σ : AHeap) (K : AV → AHeap → Prop) : Prop := ∃ x : ShV, args = [.agg (ShV.cells x)] ∧ x.bytes.length ≤ 900000000 ∧ K (.imm (rws (ShV.bytes x)) false false) σ
theorem oneShD_ok (args : List AV) (σ : AHeap) (K : AV → AHeap → Prop) (h : oneShD args σ K) : Tri Try.prog 68 args σ K := by
  obtain ⟨x, rfl, hs, h⟩ := h
  have := Tri.pureD (σ := σ) (Q := fun r => r = .imm (rws (ShV.bytes x)) false false) (args := [.agg (ShV.cells x)]) (rfl) (shard_ok x hs)
  exact this.mono fun r σ' hr => by rw [hr.1, hr.2]; exact h
def bytesSh (l : List (ShV)) : List UInt8 := u32 (l.length : Int) ++ l.flatMap fun x => txt (ShV.bytes x)
def GSh : PCall := rowQ 68 oneShD (rowQ 29 numD (rowQ 31 textD noCall))
theorem GSh_app {f : FuncId} {args : List AV} {σ : AHeap} {K : AV → AHeap → Prop} : GSh f args σ K = rowQ 68 oneShD (rowQ 29 numD (rowQ 31 textD noCall)) f args σ K := _root_.id rfl
theorem GSh_sound : Sound Try.prog GSh := rowQ_sound oneShD_ok (rowQ_sound numD_ok (rowQ_sound textD_ok (noCall_sound _)))
def lpSh (l : List (ShV)) (f nn : Bool) (n : Nat) (e : Env) (σ : AHeap) : Prop :=
  ∃ (i d : Nat) (bad : Bool), i ≤ l.length ∧ n = l.length - i ∧ Pk σ 0 (u32 (l.length : Int) ++ (l.take i).flatMap fun x => txt (ShV.bytes x)) bad (some d) ∧
    e 1 = .func 68 [] ∧ e 5 = .ptr 0 0 ∧ e 19 = .imm (l.map ShV.cells) f nn ∧ e 20 = .int .i64 (l.length : Int) ∧ e 21 = .int .i64 (i : Int)
theorem stepSh (l : List (ShV)) (f nn : Bool) (hsz : ∀ x ∈ l, x.bytes.length ≤ 900000000) (hsz2 : (l.flatMap fun x => txt (ShV.bytes x)).length ≤ 900000000) (hsn : l.length ≤ 900000000) (Q : AV → AHeap → Prop) (hQ : ∀ σ d, hget σ d = some ((bytesSh l).map byteAV) → Q (.slice d 0 (bytesSh l).length none 1) σ) (n : Nat) (e : Env) (σ : AHeap) (h : lpSh l f nn n e σ) :
    sC GSh 0 b67_18 (unw GSh 0 (loopR GSh 0 (RetQ [MRes.t 4] Q) (.block 0 (.seq b67_23 .fin)) (lpSh l f nn) n) .fin) e σ := by
  obtain ⟨i, d, bad, hi, hn, hp, h1, h5, h19, h20, h21⟩ := h
  obtain ⟨hp0, hdl⟩ := pk_lt hp
  have hml : (l.map ShV.cells).length = l.length := by simp
  rcases Nat.lt_or_ge i l.length with hlt | hge
  · have hlt' : (i : Int) < (l.length : Int) := by omega
    have hge0 : (0 : Int) ≤ (i : Int) := by omega
    obtain ⟨x, hx⟩ : ∃ x, l[i]? = some x := ⟨_, List.getElem?_eq_getElem hlt⟩
    have hxx : (l.map ShV.cells)[i]? = some (ShV.cells x) := by simp [hx]
    have htk : l.take (i + 1) = l.take i ++ [x] := by rw [List.take_add_one, hx]; rfl
    have hw : IntKind.wrap .i64 ((i : Int) + 1) = ((i + 1 : Nat) : Int) := by rw [Gz.wrap64 (by omega)]; omega
    have htot : ((l.take i).flatMap fun x => txt (ShV.bytes x)).length + (4 + (ShV.bytes x).length) ≤ (l.flatMap fun x => txt (ShV.bytes x)).length := by
      have h1 : l = l.take i ++ x :: l.drop (i + 1) := by
        have := (List.getElem?_eq_some_iff.1 hx).2
        rw [← this, List.getElem_cons_drop, List.take_append_drop]
      conv => rhs; rw [h1]
      simp only [List.flatMap_append, List.flatMap_cons, List.length_append, txt, u32_len]
      omega
    have hcx := hsz x (List.mem_of_getElem? hx)
    simp only [ShV.cells] at hxx
    have pn : ∀ (c : List AV), hget (hpush σ c) σ.length = some c := fun c => push_new rfl
    have sn : ∀ (c c' : List AV), hget (hset (hpush σ c) σ.length c') σ.length = some c' := fun c c' => set_same (pn c)
    simp only [GSh_app, Z67, base1, baseE, ↓reduceIte, Nat.reduceAdd, Nat.reduceSub, Nat.reduceMul, Nat.reduceEqDiff, Nat.reduceLeDiff, Nat.reduceLT, Int.reduceLT, Int.reduceLE, Int.reduceEq, Int.reduceNe, Int.reduceToNat, Int.reduceAdd, Int.reduceSub, reduceCtorEq, Nat.reduceBEq, Nat.reduceBNe, loopR_exit, loopR_ret, h1, h5, h19, h20, h21, hlt', hlt, hge0, hxx, hml, Int.toNat_natCast, pn, sn]
    refine ⟨x, rfl, hcx, ?_⟩
    simp only [GSh_app, Z67, base1, baseE, ↓reduceIte, Nat.reduceAdd, Nat.reduceSub, Nat.reduceMul, Nat.reduceEqDiff, Nat.reduceLeDiff, Nat.reduceLT, Int.reduceLT, Int.reduceLE, Int.reduceEq, Int.reduceNe, Int.reduceToNat, Int.reduceAdd, Int.reduceSub, reduceCtorEq, Nat.reduceBEq, Nat.reduceBNe, h1, h5, h19, h20, h21, ofRws]
    generalize hz : ([.str [], .str [], .int .i64 0, .int .i64 0] : List AV) = z
    have p1 := (pk_push (pk_set (pk_push hp z).1 (j := σ.length) (c := ShV.cells x) (by omega) (by simp; omega)) [AV.str (ShV.bytes x)]).1
    refine ⟨0, σ.length + 1, [ShV.bytes x], some 1, _, _, some d, by simp [set_len, push_len], push_new (by simp [set_len, push_len]), by omega, by simp; omega, ?_, by simp, p1, fun σ1 D1 q1 f3 => ?_⟩
    · have htx : (txt (ShV.bytes x)).length = 4 + (ShV.bytes x).length := by simp only [txt, List.length_append, u32_len]
      simp only [total, List.flatMap_cons, List.flatMap_nil, List.append_nil, List.length_append, u32_len, htx]; omega
    obtain ⟨d1, rfl, hd1⟩ := pk_some q1 (by simp [txt, u32])
    simp only [GSh_app, Z67, base1, baseE, ↓reduceIte, Nat.reduceAdd, Nat.reduceSub, Nat.reduceMul, Nat.reduceEqDiff, Nat.reduceLeDiff, Nat.reduceLT, Int.reduceLT, Int.reduceLE, Int.reduceEq, Int.reduceNe, Int.reduceToNat, Int.reduceAdd, Int.reduceSub, reduceCtorEq, Nat.reduceBEq, Nat.reduceBNe, h1, h5, h19, h20, h21, hw]
    rw [loopR_normal]
    refine ⟨l.length - (i + 1), _, _, by omega, .refl _ _ _, i + 1, d1, bad || [ShV.bytes x].any badT, hlt, rfl, ?_, ?_, ?_, ?_, ?_, ?_⟩
    · have e1 : u32 (l.length : Int) ++ ((l.take (i + 1)).flatMap fun x => txt (ShV.bytes x)) = u32 (l.length : Int) ++ ((l.take i).flatMap fun x => txt (ShV.bytes x)) ++ [ShV.bytes x].flatMap txt := by rw [htk]; simp
      rw [e1]; exact q1
    all_goals simp only [putD_some, putD_none, Nat.reduceEqDiff, ↓reduceIte, h1, h5, h19, h20, h21, hw]
  · have hlt' : ¬ (i : Int) < (l.length : Int) := by omega
    have hie : i = l.length := by omega
    subst hie
    rw [List.take_length] at hp
    obtain ⟨g1, g2, g3⟩ := pk_slice hp
    simp only [GSh_app, Z67, base1, baseE, ↓reduceIte, Nat.reduceAdd, Nat.reduceSub, Nat.reduceMul, Nat.reduceEqDiff, Nat.reduceLeDiff, Nat.reduceLT, Int.reduceLT, Int.reduceLE, Int.reduceEq, Int.reduceNe, Int.reduceToNat, Int.reduceAdd, Int.reduceSub, reduceCtorEq, Nat.reduceBEq, Nat.reduceBNe, loopR_exit, loopR_ret, h1, h5, h19, h20, h21, hlt', g1]
    rw [← List.length_append]
    exact hQ σ d g2
theorem listSh_ok (l : List (ShV)) (f nn : Bool) (hsz : ∀ x ∈ l, x.bytes.length ≤ 900000000) (hsz2 : (l.flatMap fun x => txt (ShV.bytes x)).length ≤ 900000000) (hsn : l.length ≤ 1048576) : Tri Try.prog 67 [.imm (l.map ShV.cells) f nn, .func 68 []] [] fun r _ => r.pure = true ∧ r = .imm (rws (bytesSh l)) false false := by
  refine Tri.frozen (Q := fun r σ => ∃ d, hget σ d = some ((bytesSh l).map byteAV) ∧ r = .slice d 0 (bytesSh l).length none 1) (Tri.of_s c67 GSh_sound ?_) (fun r σ h => out_frz h)
  generalize hK : (fun (r : AV) (σ : AHeap) => ∃ d, hget σ d = some ((bytesSh l).map byteAV) ∧ r = .slice d 0 (bytesSh l).length none 1) = K
  have hK : ∀ σ d, hget σ d = some ((bytesSh l).map byteAV) → K (.slice d 0 (bytesSh l).length none 1) σ := by intro σ d h; rw [← hK]; exact ⟨d, h, rfl⟩
  have hml : (l.map ShV.cells).length = l.length := by simp
  have hs : ¬ (1048576 : Int) < (l.length : Int) := by omega
  simp only [GSh_app, Z67, base1, baseE, ↓reduceIte, Nat.reduceAdd, Nat.reduceSub, Nat.reduceMul, Nat.reduceEqDiff, Nat.reduceLeDiff, Nat.reduceLT, Int.reduceLT, Int.reduceLE, Int.reduceEq, Int.reduceNe, Int.reduceToNat, Int.reduceAdd, Int.reduceSub, reduceCtorEq, Nat.reduceBEq, Nat.reduceBNe, hml, hs]
  refine ⟨0, 1, [(l.length : Int)], some 1, [], false, none, rfl, rfl, by decide, by simp, by simp, .inl ⟨rfl, rfl, rfl⟩, fun σ1 D1 q1 f1 => ?_⟩
  obtain ⟨d1, rfl, hd1⟩ := pk_some q1 (by simp [u32])
  simp only [GSh_app, Z67, base1, baseE, ↓reduceIte, Nat.reduceAdd, Nat.reduceSub, Nat.reduceMul, Nat.reduceEqDiff, Nat.reduceLeDiff, Nat.reduceLT, Int.reduceLT, Int.reduceLE, Int.reduceEq, Int.reduceNe, Int.reduceToNat, Int.reduceAdd, Int.reduceSub, reduceCtorEq, Nat.reduceBEq, Nat.reduceBNe, hml]
  refine sC_inv (a := b67_18) (lpSh l f nn) l.length _ σ1 (.refl _ _ _) ⟨0, d1, false || [(l.length : Int)].any badN, Nat.zero_le _, rfl, ?_, rfl, rfl, rfl, rfl, rfl⟩ (stepSh l f nn hsz hsz2 (by omega) _ hK)
  simpa using q1
def oneLaD (args : List AV) (σ : AHeap) (K : AV → AHeap → Prop) : Prop := ∃ x : LaV, args = [.agg (LaV.cells x)] ∧ x.rep.bytes.length ≤ 900000000 ∧ K (.imm (rws (LaV.bytes x)) false false) σ
theorem oneLaD_ok (args : List AV) (σ : AHeap) (K : AV → AHeap → Prop) (h : oneLaD args σ K) : Tri Try.prog 72 args σ K := by
  obtain ⟨x, rfl, hs, h⟩ := h
  have := Tri.pureD (σ := σ) (Q := fun r => r = .imm (rws (LaV.bytes x)) false false) (args := [.agg (LaV.cells x)]) (by have := rep_pure x.rep; simp only [AV.pure] at this; simp only [pureL, AV.pure, LaV.cells, this, Bool.and_self]) (last_ok x hs)
  exact this.mono fun r σ' hr => by rw [hr.1, hr.2]; exact h
def bytesLa (l : List (LaV)) : List UInt8 := u32 (l.length : Int) ++ l.flatMap fun x => txt (LaV.bytes x)
def GLa : PCall := rowQ 72 oneLaD (rowQ 29 numD (rowQ 31 textD noCall))
theorem GLa_app {f : FuncId} {args : List AV} {σ : AHeap} {K : AV → AHeap → Prop} : GLa f args σ K = rowQ 72 oneLaD (rowQ 29 numD (rowQ 31 textD noCall)) f args σ K := _root_.id rfl
theorem GLa_sound : Sound Try.prog GLa := rowQ_sound oneLaD_ok (rowQ_sound numD_ok (rowQ_sound textD_ok (noCall_sound _)))
def lpLa (l : List (LaV)) (f nn : Bool) (n : Nat) (e : Env) (σ : AHeap) : Prop :=
  ∃ (i d : Nat) (bad : Bool), i ≤ l.length ∧ n = l.length - i ∧ Pk σ 0 (u32 (l.length : Int) ++ (l.take i).flatMap fun x => txt (LaV.bytes x)) bad (some d) ∧
    e 1 = .func 72 [] ∧ e 5 = .ptr 0 0 ∧ e 19 = .imm (l.map LaV.cells) f nn ∧ e 20 = .int .i64 (l.length : Int) ∧ e 21 = .int .i64 (i : Int)
theorem stepLa (l : List (LaV)) (f nn : Bool) (hsz : ∀ x ∈ l, x.rep.bytes.length ≤ 900000000) (hsz2 : (l.flatMap fun x => txt (LaV.bytes x)).length ≤ 900000000) (hsn : l.length ≤ 900000000) (Q : AV → AHeap → Prop) (hQ : ∀ σ d, hget σ d = some ((bytesLa l).map byteAV) → Q (.slice d 0 (bytesLa l).length none 1) σ) (n : Nat) (e : Env) (σ : AHeap) (h : lpLa l f nn n e σ) :
    sC GLa 0 b71_18 (unw GLa 0 (loopR GLa 0 (RetQ [MRes.t 4] Q) (.block 0 (.seq b71_23 .fin)) (lpLa l f nn) n) .fin) e σ := by
  obtain ⟨i, d, bad, hi, hn, hp, h1, h5, h19, h20, h21⟩ := h
  obtain ⟨hp0, hdl⟩ := pk_lt hp
  have hml : (l.map LaV.cells).length = l.length := by simp
  rcases Nat.lt_or_ge i l.length with hlt | hge
  · have hlt' : (i : Int) < (l.length : Int) := by omega
    have hge0 : (0 : Int) ≤ (i : Int) := by omega
    obtain ⟨x, hx⟩ : ∃ x, l[i]? = some x := ⟨_, List.getElem?_eq_getElem hlt⟩
    have hxx : (l.map LaV.cells)[i]? = some (LaV.cells x) := by simp [hx]
    have htk : l.take (i + 1) = l.take i ++ [x] := by rw [List.take_add_one, hx]; rfl
    have hw : IntKind.wrap .i64 ((i : Int) + 1) = ((i + 1 : Nat) : Int) := by rw [Gz.wrap64 (by omega)]; omega
    have htot : ((l.take i).flatMap fun x => txt (LaV.bytes x)).length + (4 + (LaV.bytes x).length) ≤ (l.flatMap fun x => txt (LaV.bytes x)).length := by
      have h1 : l = l.take i ++ x :: l.drop (i + 1) := by
        have := (List.getElem?_eq_some_iff.1 hx).2
        rw [← this, List.getElem_cons_drop, List.take_append_drop]
      conv => rhs; rw [h1]
      simp only [List.flatMap_append, List.flatMap_cons, List.length_append, txt, u32_len]
      omega
    have hcx := hsz x (List.mem_of_getElem? hx)
    simp only [LaV.cells, RepV.cells] at hxx
    have pn : ∀ (c : List AV), hget (hpush σ c) σ.length = some c := fun c => push_new rfl
    have sn : ∀ (c c' : List AV), hget (hset (hpush σ c) σ.length c') σ.length = some c' := fun c c' => set_same (pn c)
    simp only [GLa_app, Z71, base1, baseE, ↓reduceIte, Nat.reduceAdd, Nat.reduceSub, Nat.reduceMul, Nat.reduceEqDiff, Nat.reduceLeDiff, Nat.reduceLT, Int.reduceLT, Int.reduceLE, Int.reduceEq, Int.reduceNe, Int.reduceToNat, Int.reduceAdd, Int.reduceSub, reduceCtorEq, Nat.reduceBEq, Nat.reduceBNe, loopR_exit, loopR_ret, h1, h5, h19, h20, h21, hlt', hlt, hge0, hxx, hml, Int.toNat_natCast, pn, sn]
    refine ⟨x, rfl, hcx, ?_⟩
    simp only [GLa_app, Z71, base1, baseE, ↓reduceIte, Nat.reduceAdd, Nat.reduceSub, Nat.reduceMul, Nat.reduceEqDiff, Nat.reduceLeDiff, Nat.reduceLT, Int.reduceLT, Int.reduceLE, Int.reduceEq, Int.reduceNe, Int.reduceToNat, Int.reduceAdd, Int.reduceSub, reduceCtorEq, Nat.reduceBEq, Nat.reduceBNe, h1, h5, h19, h20, h21, ofRws]
    generalize hz : ([.int .i64 0, .int .i64 0, .int .i64 0, .int .i64 0, .bool false, .str [], .nilslice, .str [], .bool false] : List AV) = z
    have p1 := (pk_push (pk_set (pk_push hp z).1 (j := σ.length) (c := LaV.cells x) (by omega) (by simp; omega)) [AV.str (LaV.bytes x)]).1
    refine ⟨0, σ.length + 1, [LaV.bytes x], some 1, _, _, some d, by simp [set_len, push_len], push_new (by simp [set_len, push_len]), by omega, by simp; omega, ?_, by simp, p1, fun σ1 D1 q1 f3 => ?_⟩
    · have htx : (txt (LaV.bytes x)).length = 4 + (LaV.bytes x).length := by simp only [txt, List.length_append, u32_len]
      simp only [total, List.flatMap_cons, List.flatMap_nil, List.append_nil, List.length_append, u32_len, htx]; omega
    obtain ⟨d1, rfl, hd1⟩ := pk_some q1 (by simp [txt, u32])
    simp only [GLa_app, Z71, base1, baseE, ↓reduceIte, Nat.reduceAdd, Nat.reduceSub, Nat.reduceMul, Nat.reduceEqDiff, Nat.reduceLeDiff, Nat.reduceLT, Int.reduceLT, Int.reduceLE, Int.reduceEq, Int.reduceNe, Int.reduceToNat, Int.reduceAdd, Int.reduceSub, reduceCtorEq, Nat.reduceBEq, Nat.reduceBNe, h1, h5, h19, h20, h21, hw]
    rw [loopR_normal]
    refine ⟨l.length - (i + 1), _, _, by omega, .refl _ _ _, i + 1, d1, bad || [LaV.bytes x].any badT, hlt, rfl, ?_, ?_, ?_, ?_, ?_, ?_⟩
    · have e1 : u32 (l.length : Int) ++ ((l.take (i + 1)).flatMap fun x => txt (LaV.bytes x)) = u32 (l.length : Int) ++ ((l.take i).flatMap fun x => txt (LaV.bytes x)) ++ [LaV.bytes x].flatMap txt := by rw [htk]; simp
      rw [e1]; exact q1
    all_goals simp only [putD_some, putD_none, Nat.reduceEqDiff, ↓reduceIte, h1, h5, h19, h20, h21, hw]
  · have hlt' : ¬ (i : Int) < (l.length : Int) := by omega
    have hie : i = l.length := by omega
    subst hie
    rw [List.take_length] at hp
    obtain ⟨g1, g2, g3⟩ := pk_slice hp
    simp only [GLa_app, Z71, base1, baseE, ↓reduceIte, Nat.reduceAdd, Nat.reduceSub, Nat.reduceMul, Nat.reduceEqDiff, Nat.reduceLeDiff, Nat.reduceLT, Int.reduceLT, Int.reduceLE, Int.reduceEq, Int.reduceNe, Int.reduceToNat, Int.reduceAdd, Int.reduceSub, reduceCtorEq, Nat.reduceBEq, Nat.reduceBNe, loopR_exit, loopR_ret, h1, h5, h19, h20, h21, hlt', g1]
    rw [← List.length_append]
    exact hQ σ d g2
theorem listLa_ok (l : List (LaV)) (f nn : Bool) (hsz : ∀ x ∈ l, x.rep.bytes.length ≤ 900000000) (hsz2 : (l.flatMap fun x => txt (LaV.bytes x)).length ≤ 900000000) (hsn : l.length ≤ 1048576) : Tri Try.prog 71 [.imm (l.map LaV.cells) f nn, .func 72 []] [] fun r _ => r.pure = true ∧ r = .imm (rws (bytesLa l)) false false := by
  refine Tri.frozen (Q := fun r σ => ∃ d, hget σ d = some ((bytesLa l).map byteAV) ∧ r = .slice d 0 (bytesLa l).length none 1) (Tri.of_s c71 GLa_sound ?_) (fun r σ h => out_frz h)
  generalize hK : (fun (r : AV) (σ : AHeap) => ∃ d, hget σ d = some ((bytesLa l).map byteAV) ∧ r = .slice d 0 (bytesLa l).length none 1) = K
  have hK : ∀ σ d, hget σ d = some ((bytesLa l).map byteAV) → K (.slice d 0 (bytesLa l).length none 1) σ := by intro σ d h; rw [← hK]; exact ⟨d, h, rfl⟩
  have hml : (l.map LaV.cells).length = l.length := by simp
  have hs : ¬ (1048576 : Int) < (l.length : Int) := by omega
  simp only [GLa_app, Z71, base1, baseE, ↓reduceIte, Nat.reduceAdd, Nat.reduceSub, Nat.reduceMul, Nat.reduceEqDiff, Nat.reduceLeDiff, Nat.reduceLT, Int.reduceLT, Int.reduceLE, Int.reduceEq, Int.reduceNe, Int.reduceToNat, Int.reduceAdd, Int.reduceSub, reduceCtorEq, Nat.reduceBEq, Nat.reduceBNe, hml, hs]
  refine ⟨0, 1, [(l.length : Int)], some 1, [], false, none, rfl, rfl, by decide, by simp, by simp, .inl ⟨rfl, rfl, rfl⟩, fun σ1 D1 q1 f1 => ?_⟩
  obtain ⟨d1, rfl, hd1⟩ := pk_some q1 (by simp [u32])
  simp only [GLa_app, Z71, base1, baseE, ↓reduceIte, Nat.reduceAdd, Nat.reduceSub, Nat.reduceMul, Nat.reduceEqDiff, Nat.reduceLeDiff, Nat.reduceLT, Int.reduceLT, Int.reduceLE, Int.reduceEq, Int.reduceNe, Int.reduceToNat, Int.reduceAdd, Int.reduceSub, reduceCtorEq, Nat.reduceBEq, Nat.reduceBNe, hml]
  refine sC_inv (a := b71_18) (lpLa l f nn) l.length _ σ1 (.refl _ _ _) ⟨0, d1, false || [(l.length : Int)].any badN, Nat.zero_le _, rfl, ?_, rfl, rfl, rfl, rfl, rfl⟩ (stepLa l f nn hsz hsz2 (by omega) _ hK)
  simpa using q1
end Go.Proofs.Ytndlgmciplckjaa.note
