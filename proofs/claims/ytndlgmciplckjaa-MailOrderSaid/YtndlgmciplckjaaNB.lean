/- What List does with records, shards, last replies: the packed number of them, the packed bytes of each one behind the other. No condition. -/
import Derived.Test.YtndlgmciplckjaaNA
set_option linter.unusedVariables false
set_option linter.unusedSimpArgs false
namespace Go.Proofs.Ytndlgmciplckjaa.note
open Go.ChangeShapes Go.WideShapes Go.ChangeAt Go.RowKit Go.Gz
section
variable {C : PCall} {n0 : Nat} {R : MExit → Env → AHeap → Prop} {k : Cont} {e : Env} {σ : AHeap}
abbrev r67_0 : List MOper := [⟨(some 4), .move (.c (.nilslice)), none⟩]
def b67_0 : SCode := .region r67_0
abbrev r67_1 : List MOper := [⟨(some 8), .move (.t 1), none⟩,
  ⟨(some 9), .bin .eql .nilf (.t 8) (.c (.nilfunc)), none⟩,
  ⟨(some 10), .move (.t 9), none⟩,
  ⟨(some 11), .move (.t 0), (some (10, false))⟩,
  ⟨(some 12), .lenSl (.t 11), (some (10, false))⟩,
  ⟨(some 13), .bin .gtr .num (.t 12) (.c (.int .i64 1048576)), (some (10, false))⟩,
  ⟨(some 14), .pick (.t 10) (.c (.bool true)) (.t 13), none⟩]
def b67_1 : SCode := .region r67_1
abbrev r67_2 : List MOper := [⟨(some 4), .move (.c (.nilslice)), none⟩]
def b67_2 : SCode := .region r67_2
def b67_3 : SCode := .seq b67_2 .ret
def b67_4 : SCode := .cond (.t 14) b67_3 .skip
def b67_5 : SCode := .seq b67_1 b67_4
abbrev r67_6 : List MOper := [⟨(some 5), .alloc [.nilslice, .bool false], none⟩]
def b67_6 : SCode := .region r67_6
abbrev r67_7 : List MOper := [⟨(some 15), .move (.t 0), none⟩,
  ⟨(some 16), .lenSl (.t 15), none⟩,
  ⟨(some 17), .buildSlice [.int .i64 0] 1 1 [(0, 1, (.t 16))], none⟩,
  ⟨(some 18), .call 29 [(.t 5), (.t 17)], none⟩]
def b67_7 : SCode := .region r67_7
abbrev r67_8 : List MOper := [⟨(some 19), .move (.t 0), none⟩,
  ⟨(some 20), .lenSl (.t 19), none⟩,
  ⟨(some 21), .move (.c (.int .i64 0)), none⟩]
def b67_8 : SCode := .region r67_8
abbrev r67_9 : List MOper := [⟨(some 22), .bin .lss .num (.t 21) (.t 20), none⟩]
def b67_9 : SCode := .region r67_9
def b67_10 : SCode := .cond (.t 22) .skip (.exit 0)
abbrev r67_11 : List MOper := [⟨(some 23), .indexAddr 4 (.t 19) (.t 21), none⟩,
  ⟨(some 24), .loadN 4 (.t 23), none⟩,
  ⟨(some 7), .alloc [.str [], .str [], .int .i64 0, .int .i64 0], none⟩,
  ⟨none, .store 4 (.t 7) (.t 24), none⟩]
def b67_11 : SCode := .region r67_11
abbrev r67_12 : List MOper := [⟨(some 25), .move (.t 1), none⟩,
  ⟨(some 26), .loadN 4 (.t 7), none⟩,
  ⟨(some 27), .callv (.t 25) [(.t 26)], none⟩,
  ⟨(some 28), .ofBytes (.t 27), none⟩,
  ⟨(some 29), .buildSlice [.str []] 1 1 [(0, 1, (.t 28))], none⟩,
  ⟨(some 30), .call 31 [(.t 5), (.t 29)], none⟩]
def b67_12 : SCode := .region r67_12
def b67_13 : SCode := .seq b67_11 b67_12
def b67_14 : SCode := .block 1 b67_13
abbrev r67_15 : List MOper := [⟨(some 31), .bin .add .num (.t 21) (.c (.int .i64 1)), none⟩,
  ⟨(some 21), .move (.t 31), none⟩]
def b67_15 : SCode := .region r67_15
def b67_16 : SCode := .seq b67_14 b67_15
def b67_17 : SCode := .seq b67_10 b67_16
def b67_18 : SCode := .seq b67_9 b67_17
def b67_19 : SCode := .loop b67_18
def b67_20 : SCode := .block 0 b67_19
def b67_21 : SCode := .seq b67_8 b67_20
abbrev r67_22 : List MOper := [⟨(some 32), .fieldAddr 0 (.t 5), none⟩,
  ⟨(some 33), .load1 (.t 32), none⟩,
  ⟨(some 4), .move (.t 33), none⟩]
def b67_22 : SCode := .region r67_22
def b67_23 : SCode := .seq b67_22 .ret
def b67_24 : SCode := .seq b67_21 b67_23
def b67_25 : SCode := .seq b67_7 b67_24
def b67_26 : SCode := .seq b67_6 b67_25
def b67_27 : SCode := .seq b67_5 b67_26
def b67_28 : SCode := .seq b67_0 b67_27
def s67 : SFunc := ⟨34, [.t 4], b67_28⟩
theorem c67 : sFn Try.prog 67 = some s67 := by kernel_rfl
theorem Z67 : XR b67_0 r67_0 ∧ XR b67_1 r67_1 ∧ XR b67_2 r67_2 ∧ XS b67_3 b67_2 .ret ∧ XC b67_4 (.t 14) b67_3 .skip ∧ XS b67_5 b67_1 b67_4 ∧ XR b67_6 r67_6 ∧ XR b67_7 r67_7 ∧ XR b67_8 r67_8 ∧ XR b67_9 r67_9 ∧ XC b67_10 (.t 22) .skip (.exit 0) ∧ XR b67_11 r67_11 ∧ XR b67_12 r67_12 ∧ XS b67_13 b67_11 b67_12 ∧ XB b67_14 1 b67_13 ∧ XR b67_15 r67_15 ∧ XS b67_16 b67_14 b67_15 ∧ XS b67_17 b67_10 b67_16 ∧ XS b67_18 b67_9 b67_17 ∧ XB b67_20 0 b67_19 ∧ XS b67_21 b67_8 b67_20 ∧ XR b67_22 r67_22 ∧ XS b67_23 b67_22 .ret ∧ XS b67_24 b67_21 b67_23 ∧ XS b67_25 b67_7 b67_24 ∧ XS b67_26 b67_6 b67_25 ∧ XS b67_27 b67_5 b67_26 ∧ XS b67_28 b67_0 b67_27 ∧ XY s67 34 b67_28 [.t 4] := ⟨rfl, rfl, rfl, rfl, sC_cond, rfl, rfl, rfl, rfl, rfl, sC_cond, rfl, rfl, rfl, rfl, rfl, rfl, rfl, rfl, rfl, rfl, rfl, rfl, rfl, rfl, rfl, rfl, rfl, rfl⟩
abbrev r68_0 : List MOper := [⟨(some 1), .box (.t 0), none⟩,
  ⟨(some 2), .move (.c (.nilslice)), none⟩]
def b68_0 : SCode := .region r68_0
abbrev r68_1 : List MOper := [⟨(some 3), .alloc [.nilslice, .bool false], none⟩]
def b68_1 : SCode := .region r68_1
abbrev r68_2 : List MOper := [⟨(some 4), .fieldAddr 0 (.t 1), none⟩,
  ⟨(some 5), .fieldAddr 0 (.t 4), none⟩,
  ⟨(some 6), .load1 (.t 5), none⟩,
  ⟨(some 7), .fieldAddr 0 (.t 1), none⟩,
  ⟨(some 8), .fieldAddr 1 (.t 7), none⟩,
  ⟨(some 9), .load1 (.t 8), none⟩,
  ⟨(some 10), .buildSlice [.str []] 1 2 [(0, 1, (.t 6)), (1, 1, (.t 9))], none⟩,
  ⟨(some 11), .call 31 [(.t 3), (.t 10)], none⟩]
def b68_2 : SCode := .region r68_2
abbrev r68_3 : List MOper := [⟨(some 12), .fieldAddr 2 (.t 1), none⟩,
  ⟨(some 13), .load1 (.t 12), none⟩,
  ⟨(some 14), .fieldAddr 3 (.t 1), none⟩,
  ⟨(some 15), .load1 (.t 14), none⟩,
  ⟨(some 16), .buildSlice [.int .i64 0] 1 2 [(0, 1, (.t 13)), (1, 1, (.t 15))], none⟩,
  ⟨(some 17), .call 29 [(.t 3), (.t 16)], none⟩]
def b68_3 : SCode := .region r68_3
abbrev r68_4 : List MOper := [⟨(some 18), .fieldAddr 0 (.t 3), none⟩,
  ⟨(some 19), .load1 (.t 18), none⟩,
  ⟨(some 2), .move (.t 19), none⟩]
def b68_4 : SCode := .region r68_4
def b68_5 : SCode := .seq b68_4 .ret
def b68_6 : SCode := .seq b68_3 b68_5
def b68_7 : SCode := .seq b68_2 b68_6
def b68_8 : SCode := .seq b68_1 b68_7
def b68_9 : SCode := .seq b68_0 b68_8
def s68 : SFunc := ⟨20, [.t 2], b68_9⟩
theorem c68 : sFn Try.prog 68 = some s68 := by kernel_rfl
theorem Z68 : XR b68_0 r68_0 ∧ XR b68_1 r68_1 ∧ XR b68_2 r68_2 ∧ XR b68_3 r68_3 ∧ XR b68_4 r68_4 ∧ XS b68_5 b68_4 .ret ∧ XS b68_6 b68_3 b68_5 ∧ XS b68_7 b68_2 b68_6 ∧ XS b68_8 b68_1 b68_7 ∧ XS b68_9 b68_0 b68_8 ∧ XY s68 20 b68_9 [.t 2] := ⟨rfl, rfl, rfl, rfl, rfl, rfl, rfl, rfl, rfl, rfl, rfl⟩
abbrev r69_0 : List MOper := [⟨(some 4), .move (.c (.nilslice)), none⟩]
def b69_0 : SCode := .region r69_0
abbrev r69_1 : List MOper := [⟨(some 8), .move (.t 1), none⟩,
  ⟨(some 9), .bin .eql .nilf (.t 8) (.c (.nilfunc)), none⟩,
  ⟨(some 10), .move (.t 9), none⟩,
  ⟨(some 11), .move (.t 0), (some (10, false))⟩,
  ⟨(some 12), .lenSl (.t 11), (some (10, false))⟩,
  ⟨(some 13), .bin .gtr .num (.t 12) (.c (.int .i64 1048576)), (some (10, false))⟩,
  ⟨(some 14), .pick (.t 10) (.c (.bool true)) (.t 13), none⟩]
def b69_1 : SCode := .region r69_1
abbrev r69_2 : List MOper := [⟨(some 4), .move (.c (.nilslice)), none⟩]
def b69_2 : SCode := .region r69_2
def b69_3 : SCode := .seq b69_2 .ret
def b69_4 : SCode := .cond (.t 14) b69_3 .skip
def b69_5 : SCode := .seq b69_1 b69_4
abbrev r69_6 : List MOper := [⟨(some 5), .alloc [.nilslice, .bool false], none⟩]
def b69_6 : SCode := .region r69_6
abbrev r69_7 : List MOper := [⟨(some 15), .move (.t 0), none⟩,
  ⟨(some 16), .lenSl (.t 15), none⟩,
  ⟨(some 17), .buildSlice [.int .i64 0] 1 1 [(0, 1, (.t 16))], none⟩,
  ⟨(some 18), .call 29 [(.t 5), (.t 17)], none⟩]
def b69_7 : SCode := .region r69_7
abbrev r69_8 : List MOper := [⟨(some 19), .move (.t 0), none⟩,
  ⟨(some 20), .lenSl (.t 19), none⟩,
  ⟨(some 21), .move (.c (.int .i64 0)), none⟩]
def b69_8 : SCode := .region r69_8
abbrev r69_9 : List MOper := [⟨(some 22), .bin .lss .num (.t 21) (.t 20), none⟩]
def b69_9 : SCode := .region r69_9
def b69_10 : SCode := .cond (.t 22) .skip (.exit 0)
abbrev r69_11 : List MOper := [⟨(some 23), .indexAddr 2 (.t 19) (.t 21), none⟩,
  ⟨(some 24), .loadN 2 (.t 23), none⟩,
  ⟨(some 7), .alloc [.str [], .str []], none⟩,
  ⟨none, .store 2 (.t 7) (.t 24), none⟩]
def b69_11 : SCode := .region r69_11
abbrev r69_12 : List MOper := [⟨(some 25), .move (.t 1), none⟩,
  ⟨(some 26), .loadN 2 (.t 7), none⟩,
  ⟨(some 27), .callv (.t 25) [(.t 26)], none⟩,
  ⟨(some 28), .ofBytes (.t 27), none⟩,
  ⟨(some 29), .buildSlice [.str []] 1 1 [(0, 1, (.t 28))], none⟩,
  ⟨(some 30), .call 31 [(.t 5), (.t 29)], none⟩]
def b69_12 : SCode := .region r69_12
def b69_13 : SCode := .seq b69_11 b69_12
def b69_14 : SCode := .block 1 b69_13
abbrev r69_15 : List MOper := [⟨(some 31), .bin .add .num (.t 21) (.c (.int .i64 1)), none⟩,
  ⟨(some 21), .move (.t 31), none⟩]
def b69_15 : SCode := .region r69_15
def b69_16 : SCode := .seq b69_14 b69_15
def b69_17 : SCode := .seq b69_10 b69_16
def b69_18 : SCode := .seq b69_9 b69_17
def b69_19 : SCode := .loop b69_18
def b69_20 : SCode := .block 0 b69_19
def b69_21 : SCode := .seq b69_8 b69_20
abbrev r69_22 : List MOper := [⟨(some 32), .fieldAddr 0 (.t 5), none⟩,
  ⟨(some 33), .load1 (.t 32), none⟩,
  ⟨(some 4), .move (.t 33), none⟩]
def b69_22 : SCode := .region r69_22
def b69_23 : SCode := .seq b69_22 .ret
def b69_24 : SCode := .seq b69_21 b69_23
def b69_25 : SCode := .seq b69_7 b69_24
def b69_26 : SCode := .seq b69_6 b69_25
def b69_27 : SCode := .seq b69_5 b69_26
def b69_28 : SCode := .seq b69_0 b69_27
def s69 : SFunc := ⟨34, [.t 4], b69_28⟩
theorem c69 : sFn Try.prog 69 = some s69 := by kernel_rfl
theorem Z69 : XR b69_0 r69_0 ∧ XR b69_1 r69_1 ∧ XR b69_2 r69_2 ∧ XS b69_3 b69_2 .ret ∧ XC b69_4 (.t 14) b69_3 .skip ∧ XS b69_5 b69_1 b69_4 ∧ XR b69_6 r69_6 ∧ XR b69_7 r69_7 ∧ XR b69_8 r69_8 ∧ XR b69_9 r69_9 ∧ XC b69_10 (.t 22) .skip (.exit 0) ∧ XR b69_11 r69_11 ∧ XR b69_12 r69_12 ∧ XS b69_13 b69_11 b69_12 ∧ XB b69_14 1 b69_13 ∧ XR b69_15 r69_15 ∧ XS b69_16 b69_14 b69_15 ∧ XS b69_17 b69_10 b69_16 ∧ XS b69_18 b69_9 b69_17 ∧ XB b69_20 0 b69_19 ∧ XS b69_21 b69_8 b69_20 ∧ XR b69_22 r69_22 ∧ XS b69_23 b69_22 .ret ∧ XS b69_24 b69_21 b69_23 ∧ XS b69_25 b69_7 b69_24 ∧ XS b69_26 b69_6 b69_25 ∧ XS b69_27 b69_5 b69_26 ∧ XS b69_28 b69_0 b69_27 ∧ XY s69 34 b69_28 [.t 4] := ⟨rfl, rfl, rfl, rfl, sC_cond, rfl, rfl, rfl, rfl, rfl, sC_cond, rfl, rfl, rfl, rfl, rfl, rfl, rfl, rfl, rfl, rfl, rfl, rfl, rfl, rfl, rfl, rfl, rfl, rfl⟩
abbrev r70_0 : List MOper := [⟨(some 1), .box (.t 0), none⟩,
  ⟨(some 2), .move (.c (.nilslice)), none⟩]
def b70_0 : SCode := .region r70_0
abbrev r70_1 : List MOper := [⟨(some 3), .alloc [.nilslice, .bool false], none⟩]
def b70_1 : SCode := .region r70_1
abbrev r70_2 : List MOper := [⟨(some 4), .fieldAddr 0 (.t 1), none⟩,
  ⟨(some 5), .load1 (.t 4), none⟩,
  ⟨(some 6), .fieldAddr 1 (.t 1), none⟩,
  ⟨(some 7), .load1 (.t 6), none⟩,
  ⟨(some 8), .buildSlice [.str []] 1 2 [(0, 1, (.t 5)), (1, 1, (.t 7))], none⟩,
  ⟨(some 9), .call 31 [(.t 3), (.t 8)], none⟩]
def b70_2 : SCode := .region r70_2
abbrev r70_3 : List MOper := [⟨(some 10), .fieldAddr 0 (.t 3), none⟩,
  ⟨(some 11), .load1 (.t 10), none⟩,
  ⟨(some 2), .move (.t 11), none⟩]
def b70_3 : SCode := .region r70_3
def b70_4 : SCode := .seq b70_3 .ret
def b70_5 : SCode := .seq b70_2 b70_4
def b70_6 : SCode := .seq b70_1 b70_5
def b70_7 : SCode := .seq b70_0 b70_6
def s70 : SFunc := ⟨12, [.t 2], b70_7⟩
theorem c70 : sFn Try.prog 70 = some s70 := by kernel_rfl
theorem Z70 : XR b70_0 r70_0 ∧ XR b70_1 r70_1 ∧ XR b70_2 r70_2 ∧ XR b70_3 r70_3 ∧ XS b70_4 b70_3 .ret ∧ XS b70_5 b70_2 b70_4 ∧ XS b70_6 b70_1 b70_5 ∧ XS b70_7 b70_0 b70_6 ∧ XY s70 12 b70_7 [.t 2] := ⟨rfl, rfl, rfl, rfl, rfl, rfl, rfl, rfl, rfl⟩
abbrev r71_0 : List MOper := [⟨(some 4), .move (.c (.nilslice)), none⟩]
def b71_0 : SCode := .region r71_0
abbrev r71_1 : List MOper := [⟨(some 8), .move (.t 1), none⟩,
  ⟨(some 9), .bin .eql .nilf (.t 8) (.c (.nilfunc)), none⟩,
  ⟨(some 10), .move (.t 9), none⟩,
  ⟨(some 11), .move (.t 0), (some (10, false))⟩,
  ⟨(some 12), .lenSl (.t 11), (some (10, false))⟩,
  ⟨(some 13), .bin .gtr .num (.t 12) (.c (.int .i64 1048576)), (some (10, false))⟩,
  ⟨(some 14), .pick (.t 10) (.c (.bool true)) (.t 13), none⟩]
def b71_1 : SCode := .region r71_1
abbrev r71_2 : List MOper := [⟨(some 4), .move (.c (.nilslice)), none⟩]
def b71_2 : SCode := .region r71_2
def b71_3 : SCode := .seq b71_2 .ret
def b71_4 : SCode := .cond (.t 14) b71_3 .skip
def b71_5 : SCode := .seq b71_1 b71_4
abbrev r71_6 : List MOper := [⟨(some 5), .alloc [.nilslice, .bool false], none⟩]
def b71_6 : SCode := .region r71_6
abbrev r71_7 : List MOper := [⟨(some 15), .move (.t 0), none⟩,
  ⟨(some 16), .lenSl (.t 15), none⟩,
  ⟨(some 17), .buildSlice [.int .i64 0] 1 1 [(0, 1, (.t 16))], none⟩,
  ⟨(some 18), .call 29 [(.t 5), (.t 17)], none⟩]
def b71_7 : SCode := .region r71_7
abbrev r71_8 : List MOper := [⟨(some 19), .move (.t 0), none⟩,
  ⟨(some 20), .lenSl (.t 19), none⟩,
  ⟨(some 21), .move (.c (.int .i64 0)), none⟩]
def b71_8 : SCode := .region r71_8
abbrev r71_9 : List MOper := [⟨(some 22), .bin .lss .num (.t 21) (.t 20), none⟩]
def b71_9 : SCode := .region r71_9
def b71_10 : SCode := .cond (.t 22) .skip (.exit 0)
abbrev r71_11 : List MOper := [⟨(some 23), .indexAddr 9 (.t 19) (.t 21), none⟩,
  ⟨(some 24), .loadN 9 (.t 23), none⟩,
  ⟨(some 7), .alloc [.int .i64 0, .int .i64 0, .int .i64 0, .int .i64 0, .bool false, .str [], .nilslice, .str [], .bool false], none⟩,
  ⟨none, .store 9 (.t 7) (.t 24), none⟩]
def b71_11 : SCode := .region r71_11
abbrev r71_12 : List MOper := [⟨(some 25), .move (.t 1), none⟩,
  ⟨(some 26), .loadN 9 (.t 7), none⟩,
  ⟨(some 27), .callv (.t 25) [(.t 26)], none⟩,
  ⟨(some 28), .ofBytes (.t 27), none⟩,
  ⟨(some 29), .buildSlice [.str []] 1 1 [(0, 1, (.t 28))], none⟩,
  ⟨(some 30), .call 31 [(.t 5), (.t 29)], none⟩]
def b71_12 : SCode := .region r71_12
def b71_13 : SCode := .seq b71_11 b71_12
def b71_14 : SCode := .block 1 b71_13
abbrev r71_15 : List MOper := [⟨(some 31), .bin .add .num (.t 21) (.c (.int .i64 1)), none⟩,
  ⟨(some 21), .move (.t 31), none⟩]
def b71_15 : SCode := .region r71_15
def b71_16 : SCode := .seq b71_14 b71_15
def b71_17 : SCode := .seq b71_10 b71_16
def b71_18 : SCode := .seq b71_9 b71_17
def b71_19 : SCode := .loop b71_18
def b71_20 : SCode := .block 0 b71_19
def b71_21 : SCode := .seq b71_8 b71_20
abbrev r71_22 : List MOper := [⟨(some 32), .fieldAddr 0 (.t 5), none⟩,
  ⟨(some 33), .load1 (.t 32), none⟩,
  ⟨(some 4), .move (.t 33), none⟩]
def b71_22 : SCode := .region r71_22
def b71_23 : SCode := .seq b71_22 .ret
def b71_24 : SCode := .seq b71_21 b71_23
def b71_25 : SCode := .seq b71_7 b71_24
def b71_26 : SCode := .seq b71_6 b71_25
def b71_27 : SCode := .seq b71_5 b71_26
def b71_28 : SCode := .seq b71_0 b71_27
def s71 : SFunc := ⟨34, [.t 4], b71_28⟩
theorem c71 : sFn Try.prog 71 = some s71 := by kernel_rfl
theorem Z71 : XR b71_0 r71_0 ∧ XR b71_1 r71_1 ∧ XR b71_2 r71_2 ∧ XS b71_3 b71_2 .ret ∧ XC b71_4 (.t 14) b71_3 .skip ∧ XS b71_5 b71_1 b71_4 ∧ XR b71_6 r71_6 ∧ XR b71_7 r71_7 ∧ XR b71_8 r71_8 ∧ XR b71_9 r71_9 ∧ XC b71_10 (.t 22) .skip (.exit 0) ∧ XR b71_11 r71_11 ∧ XR b71_12 r71_12 ∧ XS b71_13 b71_11 b71_12 ∧ XB b71_14 1 b71_13 ∧ XR b71_15 r71_15 ∧ XS b71_16 b71_14 b71_15 ∧ XS b71_17 b71_10 b71_16 ∧ XS b71_18 b71_9 b71_17 ∧ XB b71_20 0 b71_19 ∧ XS b71_21 b71_8 b71_20 ∧ XR b71_22 r71_22 ∧ XS b71_23 b71_22 .ret ∧ XS b71_24 b71_21 b71_23 ∧ XS b71_25 b71_7 b71_24 ∧ XS b71_26 b71_6 b71_25 ∧ XS b71_27 b71_5 b71_26 ∧ XS b71_28 b71_0 b71_27 ∧ XY s71 34 b71_28 [.t 4] := ⟨rfl, rfl, rfl, rfl, sC_cond, rfl, rfl, rfl, rfl, rfl, sC_cond, rfl, rfl, rfl, rfl, rfl, rfl, rfl, rfl, rfl, rfl, rfl, rfl, rfl, rfl, rfl, rfl, rfl, rfl⟩
abbrev r72_0 : List MOper := [⟨(some 1), .box (.t 0), none⟩,
  ⟨(some 2), .move (.c (.nilslice)), none⟩]
def b72_0 : SCode := .region r72_0
abbrev r72_1 : List MOper := [⟨(some 3), .alloc [.nilslice, .bool false], none⟩]
def b72_1 : SCode := .region r72_1
abbrev r72_2 : List MOper := [⟨(some 7), .fieldAddr 1 (.t 1), none⟩,
  ⟨(some 8), .loadN 8 (.t 7), none⟩,
  ⟨(some 9), .call 32 [(.t 8)], none⟩,
  ⟨(some 6), .move (.t 9), none⟩,
  ⟨(some 10), .extract (.t 6) 0, none⟩,
  ⟨(some 11), .extract (.t 6) 1, none⟩,
  ⟨(some 4), .move (.t 10), none⟩,
  ⟨(some 5), .move (.t 11), none⟩]
def b72_2 : SCode := .region r72_2
abbrev r72_3 : List MOper := [⟨(some 12), .fieldAddr 0 (.t 1), none⟩,
  ⟨(some 13), .load1 (.t 12), none⟩,
  ⟨(some 14), .buildSlice [.int .i64 0] 1 1 [(0, 1, (.t 13))], none⟩,
  ⟨(some 15), .call 29 [(.t 3), (.t 14)], none⟩]
def b72_3 : SCode := .region r72_3
abbrev r72_4 : List MOper := [⟨(some 16), .move (.t 4), none⟩,
  ⟨(some 17), .ofBytes (.t 16), none⟩,
  ⟨(some 18), .buildSlice [.str []] 1 1 [(0, 1, (.t 17))], none⟩,
  ⟨(some 19), .call 31 [(.t 3), (.t 18)], none⟩]
def b72_4 : SCode := .region r72_4
abbrev r72_5 : List MOper := [⟨(some 20), .fieldAddr 0 (.t 3), none⟩,
  ⟨(some 21), .load1 (.t 20), none⟩,
  ⟨(some 2), .move (.t 21), none⟩]
def b72_5 : SCode := .region r72_5
def b72_6 : SCode := .seq b72_5 .ret
def b72_7 : SCode := .seq b72_4 b72_6
def b72_8 : SCode := .seq b72_3 b72_7
def b72_9 : SCode := .seq b72_2 b72_8
def b72_10 : SCode := .seq b72_1 b72_9
def b72_11 : SCode := .seq b72_0 b72_10
def s72 : SFunc := ⟨22, [.t 2], b72_11⟩
theorem c72 : sFn Try.prog 72 = some s72 := by kernel_rfl
theorem Z72 : XR b72_0 r72_0 ∧ XR b72_1 r72_1 ∧ XR b72_2 r72_2 ∧ XR b72_3 r72_3 ∧ XR b72_4 r72_4 ∧ XR b72_5 r72_5 ∧ XS b72_6 b72_5 .ret ∧ XS b72_7 b72_4 b72_6 ∧ XS b72_8 b72_3 b72_7 ∧ XS b72_9 b72_2 b72_8 ∧ XS b72_10 b72_1 b72_9 ∧ XS b72_11 b72_0 b72_10 ∧ XY s72 22 b72_11 [.t 2] := ⟨rfl, rfl, rfl, rfl, rfl, rfl, rfl, rfl, rfl, rfl, rfl, rfl, rfl⟩

end
set_option maxHeartbeats 4000000
set_option maxRecDepth 10000
theorem rws_pure (bs : List UInt8) : pureLL (rws bs) = true := pureLL_of fun r hr => by
  obtain ⟨b, _, rfl⟩ := List.mem_map.1 hr
  rfl
theorem imm_pure (bs : List UInt8) (f nn : Bool) : (AV.imm (rws bs) f nn).pure = true := by simp only [AV.pure, rws_pure]
theorem rws_def (bs : List UInt8) : (bs.map fun b => [byteAV b]) = rws bs := _root_.id rfl
theorem packR_pure (bad : Bool) (bs : List UInt8) : (packR bad bs).pure = true := by
  unfold packR
  cases bad
  · simp only [Bool.false_eq_true, if_false, AV.pure, pureL, rws_def, rws_pure, Bool.and_self]
  · rfl
theorem bytes_frz {σ : AHeap} {d n : Nat} {bs : List UInt8} (h : hget σ d = some (bs.map byteAV)) (hn : n = bs.length) : Frz σ (.slice d 0 n none 1) (.imm (rws bs) false false) := by
  subst hn
  refine .slice h (by rw [Nat.mul_one]; exact sub_all (by simp)) (by simp [rws]) ?_ (fun i y z hy hz => ?_)
  · intro r hr
    obtain ⟨b, _, rfl⟩ := List.mem_map.1 hr
    rfl
  · unfold rws at hz
    rw [rows_flat, hy] at hz
    cases hz
    obtain ⟨b, _, rfl⟩ := List.mem_map.1 (List.mem_of_getElem? hy)
    exact .pure rfl
theorem pk_slice {σ : AHeap} {id d : Nat} {bs : List UInt8} {bad : Bool} (h : Pk σ id bs bad (some d)) : hget σ id = some [.slice d 0 bs.length none 1, .bool bad] ∧ hget σ d = some (bs.map byteAV) ∧ d ≠ id := by
  rcases h with ⟨h, _⟩ | ⟨d', h, h1, h2, h3⟩
  · cases h
  · cases h; exact ⟨h2, h3, h1⟩
theorem pk_lt {σ : AHeap} {id d : Nat} {bs : List UInt8} {bad : Bool} (h : Pk σ id bs bad (some d)) : id < σ.length ∧ d < σ.length := ⟨hget_lt (pk_slice h).1, hget_lt (pk_slice h).2.1⟩
theorem out_frz {bs : List UInt8} {r : AV} {σ : AHeap} (h : ∃ d, hget σ d = some (bs.map byteAV) ∧ r = .slice d 0 bs.length none 1) : ∃ r1, Frz σ r r1 ∧ r1.pure = true ∧ r1 = .imm (rws bs) false false := by
  obtain ⟨d, h1, rfl⟩ := h
  exact ⟨_, bytes_frz h1 rfl, imm_pure _ _ _, rfl⟩
theorem ofNil (σ : AHeap) : Gz.ofBytes σ .nilslice = some [] := _root_.id rfl
/-! One item. -/
structure ShV where
  from_ : List UInt8
  to : List UInt8
  node : Int
  epoch : Int
structure LaV where
  seq : Int
  rep : RepV
def recC (p : List UInt8 × List UInt8) : List AV := [.str p.1, .str p.2]
def ShV.cells (s : ShV) : List AV := [.str s.from_, .str s.to, .int .i64 s.node, .int .i64 s.epoch]
def LaV.cells (l : LaV) : List AV := .int .i64 l.seq :: l.rep.cells
def ShV.bytes (s : ShV) : List UInt8 := [s.from_, s.to].flatMap txt ++ [s.node, s.epoch].flatMap u32
def LaV.bytes (l : LaV) : List UInt8 := [l.seq].flatMap u32 ++ [if l.rep.bad = true then [] else l.rep.bytes].flatMap txt
theorem record_ok (p : List UInt8 × List UInt8) (hsz : (txt2 p).length ≤ 900000000) : Tri Try.prog 70 [.agg (recC p)] [] fun r _ => r.pure = true ∧ r = .imm (rws (txt2 p)) false false := by
  refine Tri.frozen (Q := fun r σ => ∃ d, hget σ d = some ((txt2 p).map byteAV) ∧ r = .slice d 0 (txt2 p).length none 1) (Tri.of_s c70 E2_sound ?_) (fun r σ h => out_frz h)
  generalize hK : (fun (r : AV) (σ : AHeap) => ∃ d, hget σ d = some ((txt2 p).map byteAV) ∧ r = .slice d 0 (txt2 p).length none 1) = K
  have hK : ∀ σ d, hget σ d = some ((txt2 p).map byteAV) → K (.slice d 0 (txt2 p).length none 1) σ := by intro σ d h; rw [← hK]; exact ⟨d, h, rfl⟩
  simp only [recC, E2_app, Z70, base1, baseE, ↓reduceIte, Nat.reduceAdd, Nat.reduceSub, Nat.reduceMul, Nat.reduceEqDiff, Nat.reduceLeDiff, Nat.reduceLT, Int.reduceLT, Int.reduceLE, Int.reduceEq, Int.reduceNe, Int.reduceToNat, Int.reduceAdd, Int.reduceSub, reduceCtorEq, Nat.reduceBEq, Nat.reduceBNe]
  have e1 : [] ++ [p.1, p.2].flatMap txt = txt2 p := by simp [txt2]
  refine ⟨1, 2, [p.1, p.2], some 2, [], false, none, rfl, rfl, by decide, by simp, ?_, by simp, .inl ⟨rfl, rfl, rfl⟩, fun σ1 D1 q1 f1 => ?_⟩
  · simp only [total]; simp only [List.nil_append] at e1; rw [e1]; simp only [List.length_nil]; omega
  rw [e1] at q1
  obtain ⟨d, rfl, hd⟩ := pk_some q1 (by simp [txt2, txt, u32])
  obtain ⟨g1, g2, g3⟩ := pk_slice q1
  simp only [E2_app, Z70, base1, baseE, ↓reduceIte, Nat.reduceAdd, Nat.reduceSub, Nat.reduceMul, Nat.reduceEqDiff, Nat.reduceLeDiff, Nat.reduceLT, Int.reduceLT, Int.reduceLE, Int.reduceEq, Int.reduceNe, Int.reduceToNat, Int.reduceAdd, Int.reduceSub, reduceCtorEq, Nat.reduceBEq, Nat.reduceBNe, g1]
  exact hK _ _ g2
theorem shard_ok (s : ShV) (hsz : s.bytes.length ≤ 900000000) : Tri Try.prog 68 [.agg s.cells] [] fun r _ => r.pure = true ∧ r = .imm (rws s.bytes) false false := by
  refine Tri.frozen (Q := fun r σ => ∃ d, hget σ d = some (s.bytes.map byteAV) ∧ r = .slice d 0 s.bytes.length none 1) (Tri.of_s c68 E2_sound ?_) (fun r σ h => out_frz h)
  generalize hK : (fun (r : AV) (σ : AHeap) => ∃ d, hget σ d = some (s.bytes.map byteAV) ∧ r = .slice d 0 s.bytes.length none 1) = K
  have hK : ∀ σ d, hget σ d = some (s.bytes.map byteAV) → K (.slice d 0 s.bytes.length none 1) σ := by intro σ d h; rw [← hK]; exact ⟨d, h, rfl⟩
  have e1 : s.bytes = [] ++ [s.from_, s.to].flatMap txt ++ [s.node, s.epoch].flatMap u32 := rfl
  have e2 : total [s.from_, s.to] + 8 ≤ 900000000 := by
    have : s.bytes.length = total [s.from_, s.to] + 8 := by simp [ShV.bytes, total, u32]; omega
    omega
  simp only [ShV.cells, E2_app, Z68, base1, baseE, ↓reduceIte, Nat.reduceAdd, Nat.reduceSub, Nat.reduceMul, Nat.reduceEqDiff, Nat.reduceLeDiff, Nat.reduceLT, Int.reduceLT, Int.reduceLE, Int.reduceEq, Int.reduceNe, Int.reduceToNat, Int.reduceAdd, Int.reduceSub, reduceCtorEq, Nat.reduceBEq, Nat.reduceBNe]
  refine ⟨1, 2, [s.from_, s.to], some 2, [], false, none, rfl, rfl, by decide, by simp, by simp only [List.length_nil]; omega, by simp, .inl ⟨rfl, rfl, rfl⟩, fun σ1 D1 q1 f1 => ?_⟩
  obtain ⟨d, rfl, hd⟩ := pk_some q1 (by simp [txt, u32])
  have b1 := (f1 0 _ rfl (by decide) (by simp)).1
  obtain ⟨l1, l2⟩ := pk_lt q1
  simp only [E2_app, Z68, base1, baseE, ↓reduceIte, Nat.reduceAdd, Nat.reduceSub, Nat.reduceMul, Nat.reduceEqDiff, Nat.reduceLeDiff, Nat.reduceLT, Int.reduceLT, Int.reduceLE, Int.reduceEq, Int.reduceNe, Int.reduceToNat, Int.reduceAdd, Int.reduceSub, reduceCtorEq, Nat.reduceBEq, Nat.reduceBNe, b1]
  obtain ⟨p1, _⟩ := pk_push q1 [.int .i64 s.node, .int .i64 s.epoch]
  refine ⟨1, σ1.length, [s.node, s.epoch], some 2, _, _, some d, rfl, push_new rfl, by omega, by simp; omega, ?_, p1, fun σ2 D2 q2 f2 => ?_⟩
  · simp only [total] at e2
    simp only [List.nil_append, List.length_cons, List.length_nil]; omega
  rw [← e1] at q2
  obtain ⟨d2, rfl, hd2⟩ := pk_some q2 (by rw [e1]; simp [txt, u32])
  obtain ⟨g1, g2, g3⟩ := pk_slice q2
  simp only [E2_app, Z68, base1, baseE, ↓reduceIte, Nat.reduceAdd, Nat.reduceSub, Nat.reduceMul, Nat.reduceEqDiff, Nat.reduceLeDiff, Nat.reduceLT, Int.reduceLT, Int.reduceLE, Int.reduceEq, Int.reduceNe, Int.reduceToNat, Int.reduceAdd, Int.reduceSub, reduceCtorEq, Nat.reduceBEq, Nat.reduceBNe, g1]
  exact hK _ _ g2
def replyPD (args : List AV) (σ : AHeap) (K : AV → AHeap → Prop) : Prop := ∃ a : RepV, args = [.agg a.cells] ∧ a.bytes.length ≤ 900000000 ∧ K (packR a.bad a.bytes) σ
theorem replyPD_ok (args : List AV) (σ : AHeap) (K : AV → AHeap → Prop) (h : replyPD args σ K) : Tri Try.prog 32 args σ K := by
  obtain ⟨a, rfl, hs, h⟩ := h
  have := Tri.pureD (σ := σ) (Q := fun r => r = packR a.bad a.bytes) (by simp only [pureL, rep_pure, Bool.and_self]) ((reply_ok a hs).mono fun r _ hr => ⟨by rw [hr.2]; exact packR_pure _ _, hr.2⟩)
  exact this.mono fun r σ' hr => by rw [hr.1, hr.2]; exact h
def E3 : PCall := rowQ 32 replyPD (rowQ 29 numD (rowQ 31 textD noCall))
theorem E3_app {f : FuncId} {args : List AV} {σ : AHeap} {K : AV → AHeap → Prop} : E3 f args σ K = rowQ 32 replyPD (rowQ 29 numD (rowQ 31 textD noCall)) f args σ K := _root_.id rfl
theorem E3_sound : Sound Try.prog E3 := rowQ_sound replyPD_ok (rowQ_sound numD_ok (rowQ_sound textD_ok (noCall_sound _)))
theorem last_ok (l : LaV) (hsz : l.rep.bytes.length ≤ 900000000) : Tri Try.prog 72 [.agg l.cells] [] fun r _ => r.pure = true ∧ r = .imm (rws l.bytes) false false := by
  refine Tri.frozen (Q := fun r σ => ∃ d, hget σ d = some (l.bytes.map byteAV) ∧ r = .slice d 0 l.bytes.length none 1) (Tri.of_s c72 E3_sound ?_) (fun r σ h => out_frz h)
  generalize hK : (fun (r : AV) (σ : AHeap) => ∃ d, hget σ d = some (l.bytes.map byteAV) ∧ r = .slice d 0 l.bytes.length none 1) = K
  have hK : ∀ σ d, hget σ d = some (l.bytes.map byteAV) → K (.slice d 0 l.bytes.length none 1) σ := by intro σ d h; rw [← hK]; exact ⟨d, h, rfl⟩
  have e1 : l.bytes = [] ++ [l.seq].flatMap u32 ++ [if l.rep.bad = true then [] else l.rep.bytes].flatMap txt := rfl
  obtain ⟨seq, rep⟩ := l
  simp only at hsz e1
  simp only [LaV.cells, RepV.cells, E3_app, Z72, base1, baseE, ↓reduceIte, Nat.reduceAdd, Nat.reduceSub, Nat.reduceMul, Nat.reduceEqDiff, Nat.reduceLeDiff, Nat.reduceLT, Int.reduceLT, Int.reduceLE, Int.reduceEq, Int.reduceNe, Int.reduceToNat, Int.reduceAdd, Int.reduceSub, reduceCtorEq, Nat.reduceBEq, Nat.reduceBNe]
  refine ⟨rep, rfl, hsz, ?_⟩
  generalize hy : (if rep.bad = true then ([] : List UInt8) else rep.bytes) = y at e1
  unfold packR
  cases hb : rep.bad with
  | true =>
    have hy0 : y = [] := by rw [← hy, if_pos hb]
    simp only [E3_app, Z72, base1, baseE, ↓reduceIte, Nat.reduceAdd, Nat.reduceSub, Nat.reduceMul, Nat.reduceEqDiff, Nat.reduceLeDiff, Nat.reduceLT, Int.reduceLT, Int.reduceLE, Int.reduceEq, Int.reduceNe, Int.reduceToNat, Int.reduceAdd, Int.reduceSub, reduceCtorEq, Nat.reduceBEq, Nat.reduceBNe]
    refine ⟨1, 2, [seq], some 1, [], false, none, rfl, rfl, by decide, by simp, by simp, .inl ⟨rfl, rfl, rfl⟩, fun σ1 D1 q1 f1 => ?_⟩
    obtain ⟨d, rfl, hd⟩ := pk_some q1 (by simp [u32])
    obtain ⟨l1, l2⟩ := pk_lt q1
    simp only [E3_app, Z72, base1, baseE, ↓reduceIte, Nat.reduceAdd, Nat.reduceSub, Nat.reduceMul, Nat.reduceEqDiff, Nat.reduceLeDiff, Nat.reduceLT, Int.reduceLT, Int.reduceLE, Int.reduceEq, Int.reduceNe, Int.reduceToNat, Int.reduceAdd, Int.reduceSub, reduceCtorEq, Nat.reduceBEq, Nat.reduceBNe, ofNil]
    obtain ⟨p1, _⟩ := pk_push q1 [.str []]
    refine ⟨1, σ1.length, [[]], some 1, _, _, some d, rfl, push_new rfl, by omega, by simp; omega, by simp [total, txt, u32], by simp, p1, fun σ2 D2 q2 f2 => ?_⟩
    rw [hy0] at e1
    rw [← e1] at q2
    obtain ⟨d2, rfl, hd2⟩ := pk_some q2 (by rw [e1]; simp [txt, u32])
    obtain ⟨g1, g2, g3⟩ := pk_slice q2
    simp only [E3_app, Z72, base1, baseE, ↓reduceIte, Nat.reduceAdd, Nat.reduceSub, Nat.reduceMul, Nat.reduceEqDiff, Nat.reduceLeDiff, Nat.reduceLT, Int.reduceLT, Int.reduceLE, Int.reduceEq, Int.reduceNe, Int.reduceToNat, Int.reduceAdd, Int.reduceSub, reduceCtorEq, Nat.reduceBEq, Nat.reduceBNe, g1]
    exact hK _ _ g2
  | false =>
    have hy0 : y = rep.bytes := by rw [← hy, if_neg (by simp [hb])]
    simp only [E3_app, Z72, base1, baseE, ↓reduceIte, Nat.reduceAdd, Nat.reduceSub, Nat.reduceMul, Nat.reduceEqDiff, Nat.reduceLeDiff, Nat.reduceLT, Int.reduceLT, Int.reduceLE, Int.reduceEq, Int.reduceNe, Int.reduceToNat, Int.reduceAdd, Int.reduceSub, reduceCtorEq, Nat.reduceBEq, Nat.reduceBNe]
    refine ⟨1, 2, [seq], some 1, [], false, none, rfl, rfl, by decide, by simp, by simp, .inl ⟨rfl, rfl, rfl⟩, fun σ1 D1 q1 f1 => ?_⟩
    obtain ⟨d, rfl, hd⟩ := pk_some q1 (by simp [u32])
    obtain ⟨l1, l2⟩ := pk_lt q1
    simp only [E3_app, Z72, base1, baseE, ↓reduceIte, Nat.reduceAdd, Nat.reduceSub, Nat.reduceMul, Nat.reduceEqDiff, Nat.reduceLeDiff, Nat.reduceLT, Int.reduceLT, Int.reduceLE, Int.reduceEq, Int.reduceNe, Int.reduceToNat, Int.reduceAdd, Int.reduceSub, reduceCtorEq, Nat.reduceBEq, Nat.reduceBNe, rws_def, ofRws]
    obtain ⟨p1, _⟩ := pk_push q1 [.str rep.bytes]
    refine ⟨1, σ1.length, [rep.bytes], some 1, _, _, some d, rfl, push_new rfl, by omega, by simp; omega, by simp [total, txt, u32]; omega, by simp, p1, fun σ2 D2 q2 f2 => ?_⟩
    rw [hy0] at e1
    rw [← e1] at q2
    obtain ⟨d2, rfl, hd2⟩ := pk_some q2 (by rw [e1]; simp [txt, u32])
    obtain ⟨g1, g2, g3⟩ := pk_slice q2
    simp only [E3_app, Z72, base1, baseE, ↓reduceIte, Nat.reduceAdd, Nat.reduceSub, Nat.reduceMul, Nat.reduceEqDiff, Nat.reduceLeDiff, Nat.reduceLT, Int.reduceLT, Int.reduceLE, Int.reduceEq, Int.reduceNe, Int.reduceToNat, Int.reduceAdd, Int.reduceSub, reduceCtorEq, Nat.reduceBEq, Nat.reduceBNe, g1]
    exact hK _ _ g2
/-! Lists. -/
def oneRecD (args : List AV) (σ : AHeap) (K : AV → AHeap → Prop) : Prop := ∃ x : List UInt8 × List UInt8, args = [.agg (recC x)] ∧ (txt2 x).length ≤ 900000000 ∧ K (.imm (rws (txt2 x)) false false) σ
theorem oneRecD_ok (args : List AV) (σ : AHeap) (K : AV → AHeap → Prop) (h : oneRecD args σ K) : Tri Try.prog 70 args σ K := by
  obtain ⟨x, rfl, hs, h⟩ := h
  have := Tri.pureD (σ := σ) (Q := fun r => r = .imm (rws (txt2 x)) false false) (args := [.agg (recC x)]) (rfl) (record_ok x hs)
  exact this.mono fun r σ' hr => by rw [hr.1, hr.2]; exact h
def bytesRec (l : List (List UInt8 × List UInt8)) : List UInt8 := u32 (l.length : Int) ++ l.flatMap fun x => txt (txt2 x)
def GRec : PCall := rowQ 70 oneRecD (rowQ 29 numD (rowQ 31 textD noCall))
theorem GRec_app {f : FuncId} {args : List AV} {σ : AHeap} {K : AV → AHeap → Prop} : GRec f args σ K = rowQ 70 oneRecD (rowQ 29 numD (rowQ 31 textD noCall)) f args σ K := _root_.id rfl
theorem GRec_sound : Sound Try.prog GRec := rowQ_sound oneRecD_ok (rowQ_sound numD_ok (rowQ_sound textD_ok (noCall_sound _)))
def lpRec (l : List (List UInt8 × List UInt8)) (f nn : Bool) (n : Nat) (e : Env) (σ : AHeap) : Prop :=
  ∃ (i d : Nat) (bad : Bool), i ≤ l.length ∧ n = l.length - i ∧ Pk σ 0 (u32 (l.length : Int) ++ (l.take i).flatMap fun x => txt (txt2 x)) bad (some d) ∧
    e 1 = .func 70 [] ∧ e 5 = .ptr 0 0 ∧ e 19 = .imm (l.map recC) f nn ∧ e 20 = .int .i64 (l.length : Int) ∧ e 21 = .int .i64 (i : Int)
theorem stepRec (l : List (List UInt8 × List UInt8)) (f nn : Bool) (hsz : ∀ x ∈ l, (txt2 x).length ≤ 900000000) (hsz2 : (l.flatMap fun x => txt (txt2 x)).length ≤ 900000000) (hsn : l.length ≤ 900000000) (Q : AV → AHeap → Prop) (hQ : ∀ σ d, hget σ d = some ((bytesRec l).map byteAV) → Q (.slice d 0 (bytesRec l).length none 1) σ) (n : Nat) (e : Env) (σ : AHeap) (h : lpRec l f nn n e σ) :
    sC GRec 0 b69_18 (unw GRec 0 (loopR GRec 0 (RetQ [MRes.t 4] Q) (.block 0 (.seq b69_23 .fin)) (lpRec l f nn) n) .fin) e σ := by
  obtain ⟨i, d, bad, hi, hn, hp, h1, h5, h19, h20, h21⟩ := h
  obtain ⟨hp0, hdl⟩ := pk_lt hp
  have hml : (l.map recC).length = l.length := by simp
  rcases Nat.lt_or_ge i l.length with hlt | hge
  · have hlt' : (i : Int) < (l.length : Int) := by omega
    have hge0 : (0 : Int) ≤ (i : Int) := by omega
    obtain ⟨x, hx⟩ : ∃ x, l[i]? = some x := ⟨_, List.getElem?_eq_getElem hlt⟩
    have hxx : (l.map recC)[i]? = some (recC x) := by simp [hx]
    have htk : l.take (i + 1) = l.take i ++ [x] := by rw [List.take_add_one, hx]; rfl
    have hw : IntKind.wrap .i64 ((i : Int) + 1) = ((i + 1 : Nat) : Int) := by rw [Gz.wrap64 (by omega)]; omega
    have htot : ((l.take i).flatMap fun x => txt (txt2 x)).length + (4 + (txt2 x).length) ≤ (l.flatMap fun x => txt (txt2 x)).length := by
      have h1 : l = l.take i ++ x :: l.drop (i + 1) := by
        have := (List.getElem?_eq_some_iff.1 hx).2
        rw [← this, List.getElem_cons_drop, List.take_append_drop]
      conv => rhs; rw [h1]
      simp only [List.flatMap_append, List.flatMap_cons, List.length_append, txt, u32_len]
      omega
    have hcx := hsz x (List.mem_of_getElem? hx)
    simp only [recC] at hxx
    have pn : ∀ (c : List AV), hget (hpush σ c) σ.length = some c := fun c => push_new rfl
    have sn : ∀ (c c' : List AV), hget (hset (hpush σ c) σ.length c') σ.length = some c' := fun c c' => set_same (pn c)
    simp only [GRec_app, Z69, base1, baseE, ↓reduceIte, Nat.reduceAdd, Nat.reduceSub, Nat.reduceMul, Nat.reduceEqDiff, Nat.reduceLeDiff, Nat.reduceLT, Int.reduceLT, Int.reduceLE, Int.reduceEq, Int.reduceNe, Int.reduceToNat, Int.reduceAdd, Int.reduceSub, reduceCtorEq, Nat.reduceBEq, Nat.reduceBNe, loopR_exit, loopR_ret, h1, h5, h19, h20, h21, hlt', hlt, hge0, hxx, hml, Int.toNat_natCast, pn, sn]
    refine ⟨x, rfl, hcx, ?_⟩
    simp only [GRec_app, Z69, base1, baseE, ↓reduceIte, Nat.reduceAdd, Nat.reduceSub, Nat.reduceMul, Nat.reduceEqDiff, Nat.reduceLeDiff, Nat.reduceLT, Int.reduceLT, Int.reduceLE, Int.reduceEq, Int.reduceNe, Int.reduceToNat, Int.reduceAdd, Int.reduceSub, reduceCtorEq, Nat.reduceBEq, Nat.reduceBNe, h1, h5, h19, h20, h21, ofRws]
    generalize hz : ([.str [], .str []] : List AV) = z
    have p1 := (pk_push (pk_set (pk_push hp z).1 (j := σ.length) (c := recC x) (by omega) (by simp; omega)) [AV.str (txt2 x)]).1
    refine ⟨0, σ.length + 1, [txt2 x], some 1, _, _, some d, by simp [set_len, push_len], push_new (by simp [set_len, push_len]), by omega, by simp; omega, ?_, by simp, p1, fun σ1 D1 q1 f3 => ?_⟩
    · have htx : (txt (txt2 x)).length = 4 + (txt2 x).length := by simp only [txt, List.length_append, u32_len]
      simp only [total, List.flatMap_cons, List.flatMap_nil, List.append_nil, List.length_append, u32_len, htx]; omega
    obtain ⟨d1, rfl, hd1⟩ := pk_some q1 (by simp [txt, u32])
    simp only [GRec_app, Z69, base1, baseE, ↓reduceIte, Nat.reduceAdd, Nat.reduceSub, Nat.reduceMul, Nat.reduceEqDiff, Nat.reduceLeDiff, Nat.reduceLT, Int.reduceLT, Int.reduceLE, Int.reduceEq, Int.reduceNe, Int.reduceToNat, Int.reduceAdd, Int.reduceSub, reduceCtorEq, Nat.reduceBEq, Nat.reduceBNe, h1, h5, h19, h20, h21, hw]
    rw [loopR_normal]
    refine ⟨l.length - (i + 1), _, _, by omega, .refl _ _ _, i + 1, d1, bad || [txt2 x].any badT, hlt, rfl, ?_, ?_, ?_, ?_, ?_, ?_⟩
    · have e1 : u32 (l.length : Int) ++ ((l.take (i + 1)).flatMap fun x => txt (txt2 x)) = u32 (l.length : Int) ++ ((l.take i).flatMap fun x => txt (txt2 x)) ++ [txt2 x].flatMap txt := by rw [htk]; simp
      rw [e1]; exact q1
    all_goals simp only [putD_some, putD_none, Nat.reduceEqDiff, ↓reduceIte, h1, h5, h19, h20, h21, hw]
  · have hlt' : ¬ (i : Int) < (l.length : Int) := by omega
    have hie : i = l.length := by omega
    subst hie
    rw [List.take_length] at hp
    obtain ⟨g1, g2, g3⟩ := pk_slice hp
    simp only [GRec_app, Z69, base1, baseE, ↓reduceIte, Nat.reduceAdd, Nat.reduceSub, Nat.reduceMul, Nat.reduceEqDiff, Nat.reduceLeDiff, Nat.reduceLT, Int.reduceLT, Int.reduceLE, Int.reduceEq, Int.reduceNe, Int.reduceToNat, Int.reduceAdd, Int.reduceSub, reduceCtorEq, Nat.reduceBEq, Nat.reduceBNe, loopR_exit, loopR_ret, h1, h5, h19, h20, h21, hlt', g1]
    rw [← List.length_append]
    exact hQ σ d g2
theorem listRec_ok (l : List (List UInt8 × List UInt8)) (f nn : Bool) (hsz : ∀ x ∈ l, (txt2 x).length ≤ 900000000) (hsz2 : (l.flatMap fun x => txt (txt2 x)).length ≤ 900000000) (hsn : l.length ≤ 1048576) : Tri Try.prog 69 [.imm (l.map recC) f nn, .func 70 []] [] fun r _ => r.pure = true ∧ r = .imm (rws (bytesRec l)) false false := by
  refine Tri.frozen (Q := fun r σ => ∃ d, hget σ d = some ((bytesRec l).map byteAV) ∧ r = .slice d 0 (bytesRec l).length none 1) (Tri.of_s c69 GRec_sound ?_) (fun r σ h => out_frz h)
  generalize hK : (fun (r : AV) (σ : AHeap) => ∃ d, hget σ d = some ((bytesRec l).map byteAV) ∧ r = .slice d 0 (bytesRec l).length none 1) = K
  have hK : ∀ σ d, hget σ d = some ((bytesRec l).map byteAV) → K (.slice d 0 (bytesRec l).length none 1) σ := by intro σ d h; rw [← hK]; exact ⟨d, h, rfl⟩
  have hml : (l.map recC).length = l.length := by simp
  have hs : ¬ (1048576 : Int) < (l.length : Int) := by omega
  simp only [GRec_app, Z69, base1, baseE, ↓reduceIte, Nat.reduceAdd, Nat.reduceSub, Nat.reduceMul, Nat.reduceEqDiff, Nat.reduceLeDiff, Nat.reduceLT, Int.reduceLT, Int.reduceLE, Int.reduceEq, Int.reduceNe, Int.reduceToNat, Int.reduceAdd, Int.reduceSub, reduceCtorEq, Nat.reduceBEq, Nat.reduceBNe, hml, hs]
  refine ⟨0, 1, [(l.length : Int)], some 1, [], false, none, rfl, rfl, by decide, by simp, by simp, .inl ⟨rfl, rfl, rfl⟩, fun σ1 D1 q1 f1 => ?_⟩
  obtain ⟨d1, rfl, hd1⟩ := pk_some q1 (by simp [u32])
  simp only [GRec_app, Z69, base1, baseE, ↓reduceIte, Nat.reduceAdd, Nat.reduceSub, Nat.reduceMul, Nat.reduceEqDiff, Nat.reduceLeDiff, Nat.reduceLT, Int.reduceLT, Int.reduceLE, Int.reduceEq, Int.reduceNe, Int.reduceToNat, Int.reduceAdd, Int.reduceSub, reduceCtorEq, Nat.reduceBEq, Nat.reduceBNe, hml]
  refine sC_inv (a := b69_18) (lpRec l f nn) l.length _ σ1 (.refl _ _ _) ⟨0, d1, false || [(l.length : Int)].any badN, Nat.zero_le _, rfl, ?_, rfl, rfl, rfl, rfl, rfl⟩ (stepRec l f nn hsz hsz2 (by omega) _ hK)
  simpa using q1
def oneShD (args : List AV) (σ : AHeap) (K : AV → AHeap → Prop) : Prop := ∃ x : ShV, args = [.agg (ShV.cells x)] ∧ x.bytes.length ≤ 900000000 ∧ K (.imm (rws (ShV.bytes x)) false false) σ
theorem oneShD_ok (args : List AV) (σ : AHeap) (K : AV → AHeap → Prop) (h : oneShD args σ K) : Tri Try.prog 68 args σ K := by
  obtain ⟨x, rfl, hs, h⟩ := h
  have := Tri.pureD (σ := σ) (Q := fun r => r = .imm (rws (ShV.bytes x)) false false) (args := [.agg (ShV.cells x)]) (rfl) (shard_ok x hs)
  exact this.mono fun r σ' hr => by rw [hr.1, hr.2]; exact h
def bytesSh (l : List (ShV)) : List UInt8 := u32 (l.length : Int) ++ l.flatMap fun x => txt (ShV.bytes x)
def GSh : PCall := rowQ 68 oneShD (rowQ 29 numD (rowQ 31 textD noCall))
theorem GSh_app {f : FuncId} {args : List AV} {σ : AHeap} {K : AV → AHeap → Prop} : GSh f args σ K = rowQ 68 oneShD (rowQ 29 numD (rowQ 31 textD noCall)) f args σ K := _root_.id rfl
theorem GSh_sound : Sound Try.prog GSh := rowQ_sound oneShD_ok (rowQ_sound numD_ok (rowQ_sound textD_ok (noCall_sound _)))
def lpSh (l : List (ShV)) (f nn : Bool) (n : Nat) (e : Env) (σ : AHeap) : Prop :=
  ∃ (i d : Nat) (bad : Bool), i ≤ l.length ∧ n = l.length - i ∧ Pk σ 0 (u32 (l.length : Int) ++ (l.take i).flatMap fun x => txt (ShV.bytes x)) bad (some d) ∧
    e 1 = .func 68 [] ∧ e 5 = .ptr 0 0 ∧ e 19 = .imm (l.map ShV.cells) f nn ∧ e 20 = .int .i64 (l.length : Int) ∧ e 21 = .int .i64 (i : Int)
theorem stepSh (l : List (ShV)) (f nn : Bool) (hsz : ∀ x ∈ l, x.bytes.length ≤ 900000000) (hsz2 : (l.flatMap fun x => txt (ShV.bytes x)).length ≤ 900000000) (hsn : l.length ≤ 900000000) (Q : AV → AHeap → Prop) (hQ : ∀ σ d, hget σ d = some ((bytesSh l).map byteAV) → Q (.slice d 0 (bytesSh l).length none 1) σ) (n : Nat) (e : Env) (σ : AHeap) (h : lpSh l f nn n e σ) :
    sC GSh 0 b67_18 (unw GSh 0 (loopR GSh 0 (RetQ [MRes.t 4] Q) (.block 0 (.seq b67_23 .fin)) (lpSh l f nn) n) .fin) e σ := by
  obtain ⟨i, d, bad, hi, hn, hp, h1, h5, h19, h20, h21⟩ := h
  obtain ⟨hp0, hdl⟩ := pk_lt hp
  have hml : (l.map ShV.cells).length = l.length := by simp
  rcases Nat.lt_or_ge i l.length with hlt | hge
  · have hlt' : (i : Int) < (l.length : Int) := by omega
    have hge0 : (0 : Int) ≤ (i : Int) := by omega
    obtain ⟨x, hx⟩ : ∃ x, l[i]? = some x := ⟨_, List.getElem?_eq_getElem hlt⟩
    have hxx : (l.map ShV.cells)[i]? = some (ShV.cells x) := by simp [hx]
    have htk : l.take (i + 1) = l.take i ++ [x] := by rw [List.take_add_one, hx]; rfl
    have hw : IntKind.wrap .i64 ((i : Int) + 1) = ((i + 1 : Nat) : Int) := by rw [Gz.wrap64 (by omega)]; omega
    have htot : ((l.take i).flatMap fun x => txt (ShV.bytes x)).length + (4 + (ShV.bytes x).length) ≤ (l.flatMap fun x => txt (ShV.bytes x)).length := by
      have h1 : l = l.take i ++ x :: l.drop (i + 1) := by
        have := (List.getElem?_eq_some_iff.1 hx).2
        rw [← this, List.getElem_cons_drop, List.take_append_drop]
      conv => rhs; rw [h1]
      simp only [List.flatMap_append, List.flatMap_cons, List.length_append, txt, u32_len]
      omega
    have hcx := hsz x (List.mem_of_getElem? hx)
    simp only [ShV.cells] at hxx
    have pn : ∀ (c : List AV), hget (hpush σ c) σ.length = some c := fun c => push_new rfl
    have sn : ∀ (c c' : List AV), hget (hset (hpush σ c) σ.length c') σ.length = some c' := fun c c' => set_same (pn c)
    simp only [GSh_app, Z67, base1, baseE, ↓reduceIte, Nat.reduceAdd, Nat.reduceSub, Nat.reduceMul, Nat.reduceEqDiff, Nat.reduceLeDiff, Nat.reduceLT, Int.reduceLT, Int.reduceLE, Int.reduceEq, Int.reduceNe, Int.reduceToNat, Int.reduceAdd, Int.reduceSub, reduceCtorEq, Nat.reduceBEq, Nat.reduceBNe, loopR_exit, loopR_ret, h1, h5, h19, h20, h21, hlt', hlt, hge0, hxx, hml, Int.toNat_natCast, pn, sn]
    refine ⟨x, rfl, hcx, ?_⟩
    simp only [GSh_app, Z67, base1, baseE, ↓reduceIte, Nat.reduceAdd, Nat.reduceSub, Nat.reduceMul, Nat.reduceEqDiff, Nat.reduceLeDiff, Nat.reduceLT, Int.reduceLT, Int.reduceLE, Int.reduceEq, Int.reduceNe, Int.reduceToNat, Int.reduceAdd, Int.reduceSub, reduceCtorEq, Nat.reduceBEq, Nat.reduceBNe, h1, h5, h19, h20, h21, ofRws]
    generalize hz : ([.str [], .str [], .int .i64 0, .int .i64 0] : List AV) = z
    have p1 := (pk_push (pk_set (pk_push hp z).1 (j := σ.length) (c := ShV.cells x) (by omega) (by simp; omega)) [AV.str (ShV.bytes x)]).1
    refine ⟨0, σ.length + 1, [ShV.bytes x], some 1, _, _, some d, by simp [set_len, push_len], push_new (by simp [set_len, push_len]), by omega, by simp; omega, ?_, by simp, p1, fun σ1 D1 q1 f3 => ?_⟩
    · have htx : (txt (ShV.bytes x)).length = 4 + (ShV.bytes x).length := by simp only [txt, List.length_append, u32_len]
      simp only [total, List.flatMap_cons, List.flatMap_nil, List.append_nil, List.length_append, u32_len, htx]; omega
    obtain ⟨d1, rfl, hd1⟩ := pk_some q1 (by simp [txt, u32])
    simp only [GSh_app, Z67, base1, baseE, ↓reduceIte, Nat.reduceAdd, Nat.reduceSub, Nat.reduceMul, Nat.reduceEqDiff, Nat.reduceLeDiff, Nat.reduceLT, Int.reduceLT, Int.reduceLE, Int.reduceEq, Int.reduceNe, Int.reduceToNat, Int.reduceAdd, Int.reduceSub, reduceCtorEq, Nat.reduceBEq, Nat.reduceBNe, h1, h5, h19, h20, h21, hw]
    rw [loopR_normal]
    refine ⟨l.length - (i + 1), _, _, by omega, .refl _ _ _, i + 1, d1, bad || [ShV.bytes x].any badT, hlt, rfl, ?_, ?_, ?_, ?_, ?_, ?_⟩
    · have e1 : u32 (l.length : Int) ++ ((l.take (i + 1)).flatMap fun x => txt (ShV.bytes x)) = u32 (l.length : Int) ++ ((l.take i).flatMap fun x => txt (ShV.bytes x)) ++ [ShV.bytes x].flatMap txt := by rw [htk]; simp
      rw [e1]; exact q1
    all_goals simp only [putD_some, putD_none, Nat.reduceEqDiff, ↓reduceIte, h1, h5, h19, h20, h21, hw]
  · have hlt' : ¬ (i : Int) < (l.length : Int) := by omega
    have hie : i = l.length := by omega
    subst hie
    rw [List.take_length] at hp
    obtain ⟨g1, g2, g3⟩ := pk_slice hp
    simp only [GSh_app, Z67, base1, baseE, ↓reduceIte, Nat.reduceAdd, Nat.reduceSub, Nat.reduceMul, Nat.reduceEqDiff, Nat.reduceLeDiff, Nat.reduceLT, Int.reduceLT, Int.reduceLE, Int.reduceEq, Int.reduceNe, Int.reduceToNat, Int.reduceAdd, Int.reduceSub, reduceCtorEq, Nat.reduceBEq, Nat.reduceBNe, loopR_exit, loopR_ret, h1, h5, h19, h20, h21, hlt', g1]
    rw [← List.length_append]
    exact hQ σ d g2
theorem listSh_ok (l : List (ShV)) (f nn : Bool) (hsz : ∀ x ∈ l, x.bytes.length ≤ 900000000) (hsz2 : (l.flatMap fun x => txt (ShV.bytes x)).length ≤ 900000000) (hsn : l.length ≤ 1048576) : Tri Try.prog 67 [.imm (l.map ShV.cells) f nn, .func 68 []] [] fun r _ => r.pure = true ∧ r = .imm (rws (bytesSh l)) false false := by
  refine Tri.frozen (Q := fun r σ => ∃ d, hget σ d = some ((bytesSh l).map byteAV) ∧ r = .slice d 0 (bytesSh l).length none 1) (Tri.of_s c67 GSh_sound ?_) (fun r σ h => out_frz h)
  generalize hK : (fun (r : AV) (σ : AHeap) => ∃ d, hget σ d = some ((bytesSh l).map byteAV) ∧ r = .slice d 0 (bytesSh l).length none 1) = K
  have hK : ∀ σ d, hget σ d = some ((bytesSh l).map byteAV) → K (.slice d 0 (bytesSh l).length none 1) σ := by intro σ d h; rw [← hK]; exact ⟨d, h, rfl⟩
  have hml : (l.map ShV.cells).length = l.length := by simp
  have hs : ¬ (1048576 : Int) < (l.length : Int) := by omega
  simp only [GSh_app, Z67, base1, baseE, ↓reduceIte, Nat.reduceAdd, Nat.reduceSub, Nat.reduceMul, Nat.reduceEqDiff, Nat.reduceLeDiff, Nat.reduceLT, Int.reduceLT, Int.reduceLE, Int.reduceEq, Int.reduceNe, Int.reduceToNat, Int.reduceAdd, Int.reduceSub, reduceCtorEq, Nat.reduceBEq, Nat.reduceBNe, hml, hs]
  refine ⟨0, 1, [(l.length : Int)], some 1, [], false, none, rfl, rfl, by decide, by simp, by simp, .inl ⟨rfl, rfl, rfl⟩, fun σ1 D1 q1 f1 => ?_⟩
  obtain ⟨d1, rfl, hd1⟩ := pk_some q1 (by simp [u32])
  simp only [GSh_app, Z67, base1, baseE, ↓reduceIte, Nat.reduceAdd, Nat.reduceSub, Nat.reduceMul, Nat.reduceEqDiff, Nat.reduceLeDiff, Nat.reduceLT, Int.reduceLT, Int.reduceLE, Int.reduceEq, Int.reduceNe, Int.reduceToNat, Int.reduceAdd, Int.reduceSub, reduceCtorEq, Nat.reduceBEq, Nat.reduceBNe, hml]
  refine sC_inv (a := b67_18) (lpSh l f nn) l.length _ σ1 (.refl _ _ _) ⟨0, d1, false || [(l.length : Int)].any badN, Nat.zero_le _, rfl, ?_, rfl, rfl, rfl, rfl, rfl⟩ (stepSh l f nn hsz hsz2 (by omega) _ hK)
  simpa using q1
def oneLaD (args : List AV) (σ : AHeap) (K : AV → AHeap → Prop) : Prop := ∃ x : LaV, args = [.agg (LaV.cells x)] ∧ x.rep.bytes.length ≤ 900000000 ∧ K (.imm (rws (LaV.bytes x)) false false) σ
theorem oneLaD_ok (args : List AV) (σ : AHeap) (K : AV → AHeap → Prop) (h : oneLaD args σ K) : Tri Try.prog 72 args σ K := by
  obtain ⟨x, rfl, hs, h⟩ := h
  have := Tri.pureD (σ := σ) (Q := fun r => r = .imm (rws (LaV.bytes x)) false false) (args := [.agg (LaV.cells x)]) (by have := rep_pure x.rep; simp only [AV.pure] at this; simp only [pureL, AV.pure, LaV.cells, this, Bool.and_self]) (last_ok x hs)
  exact this.mono fun r σ' hr => by rw [hr.1, hr.2]; exact h
def bytesLa (l : List (LaV)) : List UInt8 := u32 (l.length : Int) ++ l.flatMap fun x => txt (LaV.bytes x)
def GLa : PCall := rowQ 72 oneLaD (rowQ 29 numD (rowQ 31 textD noCall))
theorem GLa_app {f : FuncId} {args : List AV} {σ : AHeap} {K : AV → AHeap → Prop} : GLa f args σ K = rowQ 72 oneLaD (rowQ 29 numD (rowQ 31 textD noCall)) f args σ K := _root_.id rfl
theorem GLa_sound : Sound Try.prog GLa := rowQ_sound oneLaD_ok (rowQ_sound numD_ok (rowQ_sound textD_ok (noCall_sound _)))
def lpLa (l : List (LaV)) (f nn : Bool) (n : Nat) (e : Env) (σ : AHeap) : Prop :=
  ∃ (i d : Nat) (bad : Bool), i ≤ l.length ∧ n = l.length - i ∧ Pk σ 0 (u32 (l.length : Int) ++ (l.take i).flatMap fun x => txt (LaV.bytes x)) bad (some d) ∧
    e 1 = .func 72 [] ∧ e 5 = .ptr 0 0 ∧ e 19 = .imm (l.map LaV.cells) f nn ∧ e 20 = .int .i64 (l.length : Int) ∧ e 21 = .int .i64 (i : Int)
theorem stepLa (l : List (LaV)) (f nn : Bool) (hsz : ∀ x ∈ l, x.rep.bytes.length ≤ 900000000) (hsz2 : (l.flatMap fun x => txt (LaV.bytes x)).length ≤ 900000000) (hsn : l.length ≤ 900000000) (Q : AV → AHeap → Prop) (hQ : ∀ σ d, hget σ d = some ((bytesLa l).map byteAV) → Q (.slice d 0 (bytesLa l).length none 1) σ) (n : Nat) (e : Env) (σ : AHeap) (h : lpLa l f nn n e σ) :
    sC GLa 0 b71_18 (unw GLa 0 (loopR GLa 0 (RetQ [MRes.t 4] Q) (.block 0 (.seq b71_23 .fin)) (lpLa l f nn) n) .fin) e σ := by
  obtain ⟨i, d, bad, hi, hn, hp, h1, h5, h19, h20, h21⟩ := h
  obtain ⟨hp0, hdl⟩ := pk_lt hp
  have hml : (l.map LaV.cells).length = l.length := by simp
  rcases Nat.lt_or_ge i l.length with hlt | hge
  · have hlt' : (i : Int) < (l.length : Int) := by omega
    have hge0 : (0 : Int) ≤ (i : Int) := by omega
    obtain ⟨x, hx⟩ : ∃ x, l[i]? = some x := ⟨_, List.getElem?_eq_getElem hlt⟩
    have hxx : (l.map LaV.cells)[i]? = some (LaV.cells x) := by simp [hx]
    have htk : l.take (i + 1) = l.take i ++ [x] := by rw [List.take_add_one, hx]; rfl
    have hw : IntKind.wrap .i64 ((i : Int) + 1) = ((i + 1 : Nat) : Int) := by rw [Gz.wrap64 (by omega)]; omega
    have htot : ((l.take i).flatMap fun x => txt (LaV.bytes x)).length + (4 + (LaV.bytes x).length) ≤ (l.flatMap fun x => txt (LaV.bytes x)).length := by
      have h1 : l = l.take i ++ x :: l.drop (i + 1) := by
        have := (List.getElem?_eq_some_iff.1 hx).2
        rw [← this, List.getElem_cons_drop, List.take_append_drop]
      conv => rhs; rw [h1]
      simp only [List.flatMap_append, List.flatMap_cons, List.length_append, txt, u32_len]
      omega
    have hcx := hsz x (List.mem_of_getElem? hx)
    simp only [LaV.cells, RepV.cells] at hxx
    have pn : ∀ (c : List AV), hget (hpush σ c) σ.length = some c := fun c => push_new rfl
    have sn : ∀ (c c' : List AV), hget (hset (hpush σ c) σ.length c') σ.length = some c' := fun c c' => set_same (pn c)
    simp only [GLa_app, Z71, base1, baseE, ↓reduceIte, Nat.reduceAdd, Nat.reduceSub, Nat.reduceMul, Nat.reduceEqDiff, Nat.reduceLeDiff, Nat.reduceLT, Int.reduceLT, Int.reduceLE, Int.reduceEq, Int.reduceNe, Int.reduceToNat, Int.reduceAdd, Int.reduceSub, reduceCtorEq, Nat.reduceBEq, Nat.reduceBNe, loopR_exit, loopR_ret, h1, h5, h19, h20, h21, hlt', hlt, hge0, hxx, hml, Int.toNat_natCast, pn, sn]
    refine ⟨x, rfl, hcx, ?_⟩
    simp only [GLa_app, Z71, base1, baseE, ↓reduceIte, Nat.reduceAdd, Nat.reduceSub, Nat.reduceMul, Nat.reduceEqDiff, Nat.reduceLeDiff, Nat.reduceLT, Int.reduceLT, Int.reduceLE, Int.reduceEq, Int.reduceNe, Int.reduceToNat, Int.reduceAdd, Int.reduceSub, reduceCtorEq, Nat.reduceBEq, Nat.reduceBNe, h1, h5, h19, h20, h21, ofRws]
    generalize hz : ([.int .i64 0, .int .i64 0, .int .i64 0, .int .i64 0, .bool false, .str [], .nilslice, .str [], .bool false] : List AV) = z
    have p1 := (pk_push (pk_set (pk_push hp z).1 (j := σ.length) (c := LaV.cells x) (by omega) (by simp; omega)) [AV.str (LaV.bytes x)]).1
    refine ⟨0, σ.length + 1, [LaV.bytes x], some 1, _, _, some d, by simp [set_len, push_len], push_new (by simp [set_len, push_len]), by omega, by simp; omega, ?_, by simp, p1, fun σ1 D1 q1 f3 => ?_⟩
    · have htx : (txt (LaV.bytes x)).length = 4 + (LaV.bytes x).length := by simp only [txt, List.length_append, u32_len]
      simp only [total, List.flatMap_cons, List.flatMap_nil, List.append_nil, List.length_append, u32_len, htx]; omega
    obtain ⟨d1, rfl, hd1⟩ := pk_some q1 (by simp [txt, u32])
    simp only [GLa_app, Z71, base1, baseE, ↓reduceIte, Nat.reduceAdd, Nat.reduceSub, Nat.reduceMul, Nat.reduceEqDiff, Nat.reduceLeDiff, Nat.reduceLT, Int.reduceLT, Int.reduceLE, Int.reduceEq, Int.reduceNe, Int.reduceToNat, Int.reduceAdd, Int.reduceSub, reduceCtorEq, Nat.reduceBEq, Nat.reduceBNe, h1, h5, h19, h20, h21, hw]
    rw [loopR_normal]
    refine ⟨l.length - (i + 1), _, _, by omega, .refl _ _ _, i + 1, d1, bad || [LaV.bytes x].any badT, hlt, rfl, ?_, ?_, ?_, ?_, ?_, ?_⟩
    · have e1 : u32 (l.length : Int) ++ ((l.take (i + 1)).flatMap fun x => txt (LaV.bytes x)) = u32 (l.length : Int) ++ ((l.take i).flatMap fun x => txt (LaV.bytes x)) ++ [LaV.bytes x].flatMap txt := by rw [htk]; simp
      rw [e1]; exact q1
    all_goals simp only [putD_some, putD_none, Nat.reduceEqDiff, ↓reduceIte, h1, h5, h19, h20, h21, hw]
  · have hlt' : ¬ (i : Int) < (l.length : Int) := by omega
    have hie : i = l.length := by omega
    subst hie
    rw [List.take_length] at hp
    obtain ⟨g1, g2, g3⟩ := pk_slice hp
    simp only [GLa_app, Z71, base1, baseE, ↓reduceIte, Nat.reduceAdd, Nat.reduceSub, Nat.reduceMul, Nat.reduceEqDiff, Nat.reduceLeDiff, Nat.reduceLT, Int.reduceLT, Int.reduceLE, Int.reduceEq, Int.reduceNe, Int.reduceToNat, Int.reduceAdd, Int.reduceSub, reduceCtorEq, Nat.reduceBEq, Nat.reduceBNe, loopR_exit, loopR_ret, h1, h5, h19, h20, h21, hlt', g1]
    rw [← List.length_append]
    exact hQ σ d g2
theorem listLa_ok (l : List (LaV)) (f nn : Bool) (hsz : ∀ x ∈ l, x.rep.bytes.length ≤ 900000000) (hsz2 : (l.flatMap fun x => txt (LaV.bytes x)).length ≤ 900000000) (hsn : l.length ≤ 1048576) : Tri Try.prog 71 [.imm (l.map LaV.cells) f nn, .func 72 []] [] fun r _ => r.pure = true ∧ r = .imm (rws (bytesLa l)) false false := by
  refine Tri.frozen (Q := fun r σ => ∃ d, hget σ d = some ((bytesLa l).map byteAV) ∧ r = .slice d 0 (bytesLa l).length none 1) (Tri.of_s c71 GLa_sound ?_) (fun r σ h => out_frz h)
  generalize hK : (fun (r : AV) (σ : AHeap) => ∃ d, hget σ d = some ((bytesLa l).map byteAV) ∧ r = .slice d 0 (bytesLa l).length none 1) = K
  have hK : ∀ σ d, hget σ d = some ((bytesLa l).map byteAV) → K (.slice d 0 (bytesLa l).length none 1) σ := by intro σ d h; rw [← hK]; exact ⟨d, h, rfl⟩
  have hml : (l.map LaV.cells).length = l.length := by simp
  have hs : ¬ (1048576 : Int) < (l.length : Int) := by omega
  simp only [GLa_app, Z71, base1, baseE, ↓reduceIte, Nat.reduceAdd, Nat.reduceSub, Nat.reduceMul, Nat.reduceEqDiff, Nat.reduceLeDiff, Nat.reduceLT, Int.reduceLT, Int.reduceLE, Int.reduceEq, Int.reduceNe, Int.reduceToNat, Int.reduceAdd, Int.reduceSub, reduceCtorEq, Nat.reduceBEq, Nat.reduceBNe, hml, hs]
  refine ⟨0, 1, [(l.length : Int)], some 1, [], false, none, rfl, rfl, by decide, by simp, by simp, .inl ⟨rfl, rfl, rfl⟩, fun σ1 D1 q1 f1 => ?_⟩
  obtain ⟨d1, rfl, hd1⟩ := pk_some q1 (by simp [u32])
  simp only [GLa_app, Z71, base1, baseE, ↓reduceIte, Nat.reduceAdd, Nat.reduceSub, Nat.reduceMul, Nat.reduceEqDiff, Nat.reduceLeDiff, Nat.reduceLT, Int.reduceLT, Int.reduceLE, Int.reduceEq, Int.reduceNe, Int.reduceToNat, Int.reduceAdd, Int.reduceSub, reduceCtorEq, Nat.reduceBEq, Nat.reduceBNe, hml]
  refine sC_inv (a := b71_18) (lpLa l f nn) l.length _ σ1 (.refl _ _ _) ⟨0, d1, false || [(l.length : Int)].any badN, Nat.zero_le _, rfl, ?_, rfl, rfl, rfl, rfl, rfl⟩ (stepLa l f nn hsz hsz2 (by omega) _ hK)
  simpa using q1
end Go.Proofs.Ytndlgmciplckjaa.note

/- What ReadList reads: records, shards, last replies, or why there are none, as functions of the bytes. No condition. -/
set_option linter.unusedVariables false
set_option linter.unusedSimpArgs false
namespace Go.Proofs.Ytndlgmciplckjaa.note
open Go.ChangeShapes Go.WideShapes Go.ChangeAt Go.RowKit Go.Gz
section
variable {C : PCall} {n0 : Nat} {R : MExit → Env → AHeap → Prop} {k : Cont} {e : Env} {σ : AHeap}
abbrev r82_0 : List MOper := [⟨(some 4), .move (.c (.nilslice)), none⟩,
  ⟨(some 5), .move (.c (.int .i64 0)), none⟩]
def b82_0 : SCode := .region r82_0
abbrev r82_1 : List MOper := [⟨(some 13), .move (.t 1), none⟩,
  ⟨(some 14), .bin .eql .nilf (.t 13) (.c (.nilfunc)), none⟩]
def b82_1 : SCode := .region r82_1
abbrev r82_2 : List MOper := [⟨(some 4), .move (.c (.nilslice)), none⟩,
  ⟨(some 5), .move (.c (.int .i64 1)), none⟩]
def b82_2 : SCode := .region r82_2
def b82_3 : SCode := .seq b82_2 .ret
def b82_4 : SCode := .cond (.t 14) b82_3 .skip
def b82_5 : SCode := .seq b82_1 b82_4
abbrev r82_6 : List MOper := [⟨(some 15), .move (.t 0), none⟩,
  ⟨(some 16), .build [.nilslice, .int .i64 0] [(0, 1, (.t 15))], none⟩,
  ⟨(some 17), .box (.t 16), none⟩,
  ⟨(some 6), .move (.t 17), none⟩]
def b82_6 : SCode := .region r82_6
abbrev r82_7 : List MOper := [⟨(some 7), .move (.c (.nilslice)), none⟩]
def b82_7 : SCode := .region r82_7
abbrev r82_8 : List MOper := [⟨(some 18), .move (.t 6), none⟩,
  ⟨(some 19), .call 27 [(.t 18)], none⟩,
  ⟨(some 8), .move (.t 19), none⟩]
def b82_8 : SCode := .region r82_8
abbrev r82_9 : List MOper := [⟨(some 20), .move (.t 8), none⟩,
  ⟨(some 21), .bin .gtr .num (.t 20) (.c (.int .i64 0)), none⟩,
  ⟨(some 22), .move (.t 21), none⟩,
  ⟨(some 23), .move (.t 6), (some (22, true))⟩,
  ⟨(some 24), .nilCheck (.t 23), (some (22, true))⟩,
  ⟨(some 25), .fieldAddr 1 (.t 24), (some (22, true))⟩,
  ⟨(some 26), .load1 (.t 25), (some (22, true))⟩,
  ⟨(some 27), .bin .eql .num (.t 26) (.c (.int .i64 0)), (some (22, true))⟩,
  ⟨(some 28), .pick (.t 22) (.t 27) (.c (.bool false)), none⟩]
def b82_9 : SCode := .region r82_9
def b82_10 : SCode := .cond (.t 28) .skip (.exit 0)
def b82_11 : SCode := .seq b82_9 b82_10
abbrev r82_12 : List MOper := [⟨(some 31), .move (.t 6), none⟩,
  ⟨(some 32), .call 60 [(.t 31)], none⟩,
  ⟨(some 9), .move (.t 32), none⟩]
def b82_12 : SCode := .region r82_12
abbrev r82_13 : List MOper := [⟨(some 33), .move (.t 6), none⟩,
  ⟨(some 34), .nilCheck (.t 33), none⟩,
  ⟨(some 35), .fieldAddr 1 (.t 34), none⟩,
  ⟨(some 36), .load1 (.t 35), none⟩,
  ⟨(some 37), .bin .neq .num (.t 36) (.c (.int .i64 0)), none⟩]
def b82_13 : SCode := .region r82_13
def b82_14 : SCode := .cond (.t 37) (.exit 0) .skip
def b82_15 : SCode := .seq b82_13 b82_14
abbrev r82_16 : List MOper := [⟨(some 39), .move (.t 1), none⟩,
  ⟨(some 40), .move (.t 9), none⟩,
  ⟨(some 41), .toBytes (.t 40), none⟩,
  ⟨(some 42), .callv (.t 39) [(.t 41)], none⟩,
  ⟨(some 38), .move (.t 42), none⟩,
  ⟨(some 43), .extract (.t 38) 0, none⟩,
  ⟨(some 44), .extract (.t 38) 1, none⟩,
  ⟨(some 10), .alloc [.str [], .str [], .int .i64 0, .int .i64 0], none⟩,
  ⟨none, .store 4 (.t 10) (.t 43), none⟩,
  ⟨(some 11), .move (.t 44), none⟩]
def b82_16 : SCode := .region r82_16
abbrev r82_17 : List MOper := [⟨(some 45), .move (.t 11), none⟩,
  ⟨(some 46), .bin .neq .num (.t 45) (.c (.int .i64 0)), none⟩]
def b82_17 : SCode := .region r82_17
abbrev r82_18 : List MOper := [⟨(some 47), .move (.t 11), none⟩,
  ⟨(some 4), .move (.c (.nilslice)), none⟩,
  ⟨(some 5), .move (.t 47), none⟩]
def b82_18 : SCode := .region r82_18
def b82_19 : SCode := .seq b82_18 .ret
def b82_20 : SCode := .cond (.t 46) b82_19 .skip
def b82_21 : SCode := .seq b82_17 b82_20
abbrev r82_22 : List MOper := [⟨(some 48), .move (.t 7), none⟩,
  ⟨(some 49), .loadN 4 (.t 10), none⟩,
  ⟨(some 50), .buildSlice [.str [], .str [], .int .i64 0, .int .i64 0] 4 1 [(0, 4, (.t 49))], none⟩,
  ⟨(some 51), .append 4 48 (.t 48) (.t 50), none⟩,
  ⟨(some 7), .move (.t 51), none⟩]
def b82_22 : SCode := .region r82_22
def b82_23 : SCode := .seq b82_21 b82_22
def b82_24 : SCode := .seq b82_16 b82_23
def b82_25 : SCode := .seq b82_15 b82_24
def b82_26 : SCode := .seq b82_12 b82_25
def b82_27 : SCode := .block 1 b82_26
abbrev r82_28 : List MOper := [⟨(some 29), .move (.t 8), none⟩,
  ⟨(some 30), .bin .sub .num (.t 29) (.c (.int .i64 1)), none⟩,
  ⟨(some 8), .move (.t 30), none⟩]
def b82_28 : SCode := .region r82_28
def b82_29 : SCode := .seq b82_27 b82_28
def b82_30 : SCode := .seq b82_11 b82_29
def b82_31 : SCode := .loop b82_30
def b82_32 : SCode := .block 0 b82_31
def b82_33 : SCode := .seq b82_8 b82_32
abbrev r82_34 : List MOper := [⟨(some 52), .move (.t 6), none⟩,
  ⟨(some 53), .call 28 [(.t 52)], none⟩,
  ⟨(some 12), .move (.t 53), none⟩]
def b82_34 : SCode := .region r82_34
abbrev r82_35 : List MOper := [⟨(some 54), .move (.t 12), none⟩,
  ⟨(some 55), .bin .neq .num (.t 54) (.c (.int .i64 0)), none⟩]
def b82_35 : SCode := .region r82_35
abbrev r82_36 : List MOper := [⟨(some 56), .move (.t 12), none⟩,
  ⟨(some 4), .move (.c (.nilslice)), none⟩,
  ⟨(some 5), .move (.t 56), none⟩]
def b82_36 : SCode := .region r82_36
def b82_37 : SCode := .seq b82_36 .ret
def b82_38 : SCode := .cond (.t 55) b82_37 .skip
def b82_39 : SCode := .seq b82_35 b82_38
def b82_40 : SCode := .seq b82_34 b82_39
abbrev r82_41 : List MOper := [⟨(some 57), .move (.t 7), none⟩,
  ⟨(some 4), .move (.t 57), none⟩,
  ⟨(some 5), .move (.c (.int .i64 0)), none⟩]
def b82_41 : SCode := .region r82_41
def b82_42 : SCode := .seq b82_41 .ret
def b82_43 : SCode := .seq b82_40 b82_42
def b82_44 : SCode := .seq b82_33 b82_43
def b82_45 : SCode := .seq b82_7 b82_44
def b82_46 : SCode := .seq b82_6 b82_45
def b82_47 : SCode := .seq b82_5 b82_46
def b82_48 : SCode := .seq b82_0 b82_47
def s82 : SFunc := ⟨58, [.t 4, .t 5], b82_48⟩
theorem c82 : sFn Try.prog 82 = some s82 := by kernel_rfl
theorem x82_40 : XS b82_40 b82_34 b82_39 := rfl
theorem x82_43 : XS b82_43 b82_40 b82_42 := rfl
theorem Z82 : XR b82_0 r82_0 ∧ XR b82_1 r82_1 ∧ XR b82_2 r82_2 ∧ XS b82_3 b82_2 .ret ∧ XC b82_4 (.t 14) b82_3 .skip ∧ XS b82_5 b82_1 b82_4 ∧ XR b82_6 r82_6 ∧ XR b82_7 r82_7 ∧ XR b82_8 r82_8 ∧ XR b82_9 r82_9 ∧ XC b82_10 (.t 28) .skip (.exit 0) ∧ XS b82_11 b82_9 b82_10 ∧ XR b82_12 r82_12 ∧ XR b82_13 r82_13 ∧ XC b82_14 (.t 37) (.exit 0) .skip ∧ XS b82_15 b82_13 b82_14 ∧ XR b82_16 r82_16 ∧ XR b82_17 r82_17 ∧ XR b82_18 r82_18 ∧ XS b82_19 b82_18 .ret ∧ XC b82_20 (.t 46) b82_19 .skip ∧ XS b82_21 b82_17 b82_20 ∧ XR b82_22 r82_22 ∧ XS b82_23 b82_21 b82_22 ∧ XS b82_24 b82_16 b82_23 ∧ XS b82_25 b82_15 b82_24 ∧ XS b82_26 b82_12 b82_25 ∧ XB b82_27 1 b82_26 ∧ XR b82_28 r82_28 ∧ XS b82_29 b82_27 b82_28 ∧ XS b82_30 b82_11 b82_29 ∧ XB b82_32 0 b82_31 ∧ XS b82_33 b82_8 b82_32 ∧ XR b82_34 r82_34 ∧ XR b82_35 r82_35 ∧ XR b82_36 r82_36 ∧ XS b82_37 b82_36 .ret ∧ XC b82_38 (.t 55) b82_37 .skip ∧ XS b82_39 b82_35 b82_38 ∧ XR b82_41 r82_41 ∧ XS b82_42 b82_41 .ret ∧ XS b82_44 b82_33 b82_43 ∧ XS b82_45 b82_7 b82_44 ∧ XS b82_46 b82_6 b82_45 ∧ XS b82_47 b82_5 b82_46 ∧ XS b82_48 b82_0 b82_47 ∧ XY s82 58 b82_48 [.t 4, .t 5] := ⟨rfl, rfl, rfl, rfl, sC_cond, rfl, rfl, rfl, rfl, rfl, sC_cond, rfl, rfl, rfl, sC_cond, rfl, rfl, rfl, rfl, rfl, sC_cond, rfl, rfl, rfl, rfl, rfl, rfl, rfl, rfl, rfl, rfl, rfl, rfl, rfl, rfl, rfl, rfl, sC_cond, rfl, rfl, rfl, rfl, rfl, rfl, rfl, rfl, rfl⟩
abbrev r83_0 : List MOper := [⟨(some 2), .alloc [.str [], .str [], .int .i64 0, .int .i64 0], none⟩,
  ⟨(some 3), .move (.c (.int .i64 0)), none⟩]
def b83_0 : SCode := .region r83_0
abbrev r83_1 : List MOper := [⟨(some 6), .move (.t 0), none⟩,
  ⟨(some 7), .build [.nilslice, .int .i64 0] [(0, 1, (.t 6))], none⟩,
  ⟨(some 8), .box (.t 7), none⟩,
  ⟨(some 4), .move (.t 8), none⟩]
def b83_1 : SCode := .region r83_1
abbrev r83_2 : List MOper := [⟨(some 9), .move (.t 4), none⟩,
  ⟨(some 10), .call 60 [(.t 9)], none⟩,
  ⟨(some 11), .move (.t 4), none⟩,
  ⟨(some 12), .call 60 [(.t 11)], none⟩,
  ⟨(some 13), .build [.str [], .str []] [(0, 1, (.t 10)), (1, 1, (.t 12))], none⟩,
  ⟨(some 14), .move (.t 4), none⟩,
  ⟨(some 15), .call 27 [(.t 14)], none⟩,
  ⟨(some 16), .move (.t 4), none⟩,
  ⟨(some 17), .call 27 [(.t 16)], none⟩,
  ⟨(some 18), .build [.str [], .str [], .int .i64 0, .int .i64 0] [(0, 2, (.t 13)), (2, 1, (.t 15)), (3, 1, (.t 17))], none⟩,
  ⟨(some 5), .alloc [.str [], .str [], .int .i64 0, .int .i64 0], none⟩,
  ⟨none, .store 4 (.t 5) (.t 18), none⟩]
def b83_2 : SCode := .region r83_2
abbrev t83_3 : LTree := (.quiet ⟨(some 19), .loadN 4 (.t 5), none⟩ 0
  (.quiet ⟨(some 20), .move (.t 4), none⟩ 1
  (.loud ⟨(some 21), .call 28 [(.t 20)], none⟩ [0]
  (.loud ⟨none, .store 4 (.t 2) (.t 19), none⟩ []
  (.quiet ⟨(some 3), .move (.t 21), none⟩ 4
  .leaf) .stop) .stop)))
def b83_3 : SCode := .draw t83_3
def b83_4 : SCode := .seq b83_3 .ret
def b83_5 : SCode := .seq b83_2 b83_4
def b83_6 : SCode := .seq b83_1 b83_5
def b83_7 : SCode := .seq b83_0 b83_6
def s83 : SFunc := ⟨22, [.cN 2 4, .t 3], b83_7⟩
theorem c83 : sFn Try.prog 83 = some s83 := by kernel_rfl
theorem Z83 : XR b83_0 r83_0 ∧ XR b83_1 r83_1 ∧ XR b83_2 r83_2 ∧ XT b83_3 t83_3 ∧ XS b83_4 b83_3 .ret ∧ XS b83_5 b83_2 b83_4 ∧ XS b83_6 b83_1 b83_5 ∧ XS b83_7 b83_0 b83_6 ∧ XY s83 22 b83_7 [.cN 2 4, .t 3] := ⟨rfl, rfl, rfl, rfl, rfl, rfl, rfl, rfl, rfl⟩
abbrev r84_0 : List MOper := [⟨(some 4), .move (.c (.nilslice)), none⟩,
  ⟨(some 5), .move (.c (.int .i64 0)), none⟩]
def b84_0 : SCode := .region r84_0
abbrev r84_1 : List MOper := [⟨(some 13), .move (.t 1), none⟩,
  ⟨(some 14), .bin .eql .nilf (.t 13) (.c (.nilfunc)), none⟩]
def b84_1 : SCode := .region r84_1
abbrev r84_2 : List MOper := [⟨(some 4), .move (.c (.nilslice)), none⟩,
  ⟨(some 5), .move (.c (.int .i64 1)), none⟩]
def b84_2 : SCode := .region r84_2
def b84_3 : SCode := .seq b84_2 .ret
def b84_4 : SCode := .cond (.t 14) b84_3 .skip
def b84_5 : SCode := .seq b84_1 b84_4
abbrev r84_6 : List MOper := [⟨(some 15), .move (.t 0), none⟩,
  ⟨(some 16), .build [.nilslice, .int .i64 0] [(0, 1, (.t 15))], none⟩,
  ⟨(some 17), .box (.t 16), none⟩,
  ⟨(some 6), .move (.t 17), none⟩]
def b84_6 : SCode := .region r84_6
abbrev r84_7 : List MOper := [⟨(some 7), .move (.c (.nilslice)), none⟩]
def b84_7 : SCode := .region r84_7
abbrev r84_8 : List MOper := [⟨(some 18), .move (.t 6), none⟩,
  ⟨(some 19), .call 27 [(.t 18)], none⟩,
  ⟨(some 8), .move (.t 19), none⟩]
def b84_8 : SCode := .region r84_8
abbrev r84_9 : List MOper := [⟨(some 20), .move (.t 8), none⟩,
  ⟨(some 21), .bin .gtr .num (.t 20) (.c (.int .i64 0)), none⟩,
  ⟨(some 22), .move (.t 21), none⟩,
  ⟨(some 23), .move (.t 6), (some (22, true))⟩,
  ⟨(some 24), .nilCheck (.t 23), (some (22, true))⟩,
  ⟨(some 25), .fieldAddr 1 (.t 24), (some (22, true))⟩,
  ⟨(some 26), .load1 (.t 25), (some (22, true))⟩,
  ⟨(some 27), .bin .eql .num (.t 26) (.c (.int .i64 0)), (some (22, true))⟩,
  ⟨(some 28), .pick (.t 22) (.t 27) (.c (.bool false)), none⟩]
def b84_9 : SCode := .region r84_9
def b84_10 : SCode := .cond (.t 28) .skip (.exit 0)
def b84_11 : SCode := .seq b84_9 b84_10
abbrev r84_12 : List MOper := [⟨(some 31), .move (.t 6), none⟩,
  ⟨(some 32), .call 60 [(.t 31)], none⟩,
  ⟨(some 9), .move (.t 32), none⟩]
def b84_12 : SCode := .region r84_12
abbrev r84_13 : List MOper := [⟨(some 33), .move (.t 6), none⟩,
  ⟨(some 34), .nilCheck (.t 33), none⟩,
  ⟨(some 35), .fieldAddr 1 (.t 34), none⟩,
  ⟨(some 36), .load1 (.t 35), none⟩,
  ⟨(some 37), .bin .neq .num (.t 36) (.c (.int .i64 0)), none⟩]
def b84_13 : SCode := .region r84_13
def b84_14 : SCode := .cond (.t 37) (.exit 0) .skip
def b84_15 : SCode := .seq b84_13 b84_14
abbrev r84_16 : List MOper := [⟨(some 39), .move (.t 1), none⟩,
  ⟨(some 40), .move (.t 9), none⟩,
  ⟨(some 41), .toBytes (.t 40), none⟩,
  ⟨(some 42), .callv (.t 39) [(.t 41)], none⟩,
  ⟨(some 38), .move (.t 42), none⟩,
  ⟨(some 43), .extract (.t 38) 0, none⟩,
  ⟨(some 44), .extract (.t 38) 1, none⟩,
  ⟨(some 10), .alloc [.str [], .str []], none⟩,
  ⟨none, .store 2 (.t 10) (.t 43), none⟩,
  ⟨(some 11), .move (.t 44), none⟩]
def b84_16 : SCode := .region r84_16
abbrev r84_17 : List MOper := [⟨(some 45), .move (.t 11), none⟩,
  ⟨(some 46), .bin .neq .num (.t 45) (.c (.int .i64 0)), none⟩]
def b84_17 : SCode := .region r84_17
abbrev r84_18 : List MOper := [⟨(some 47), .move (.t 11), none⟩,
  ⟨(some 4), .move (.c (.nilslice)), none⟩,
  ⟨(some 5), .move (.t 47), none⟩]
def b84_18 : SCode := .region r84_18
def b84_19 : SCode := .seq b84_18 .ret
def b84_20 : SCode := .cond (.t 46) b84_19 .skip
def b84_21 : SCode := .seq b84_17 b84_20
abbrev r84_22 : List MOper := [⟨(some 48), .move (.t 7), none⟩,
  ⟨(some 49), .loadN 2 (.t 10), none⟩,
  ⟨(some 50), .buildSlice [.str [], .str []] 2 1 [(0, 2, (.t 49))], none⟩,
  ⟨(some 51), .append 2 32 (.t 48) (.t 50), none⟩,
  ⟨(some 7), .move (.t 51), none⟩]
def b84_22 : SCode := .region r84_22
def b84_23 : SCode := .seq b84_21 b84_22
def b84_24 : SCode := .seq b84_16 b84_23
def b84_25 : SCode := .seq b84_15 b84_24
def b84_26 : SCode := .seq b84_12 b84_25
def b84_27 : SCode := .block 1 b84_26
abbrev r84_28 : List MOper := [⟨(some 29), .move (.t 8), none⟩,
  ⟨(some 30), .bin .sub .num (.t 29) (.c (.int .i64 1)), none⟩,
  ⟨(some 8), .move (.t 30), none⟩]
def b84_28 : SCode := .region r84_28
def b84_29 : SCode := .seq b84_27 b84_28
def b84_30 : SCode := .seq b84_11 b84_29
def b84_31 : SCode := .loop b84_30
def b84_32 : SCode := .block 0 b84_31
def b84_33 : SCode := .seq b84_8 b84_32
abbrev r84_34 : List MOper := [⟨(some 52), .move (.t 6), none⟩,
  ⟨(some 53), .call 28 [(.t 52)], none⟩,
  ⟨(some 12), .move (.t 53), none⟩]
def b84_34 : SCode := .region r84_34
abbrev r84_35 : List MOper := [⟨(some 54), .move (.t 12), none⟩,
  ⟨(some 55), .bin .neq .num (.t 54) (.c (.int .i64 0)), none⟩]
def b84_35 : SCode := .region r84_35
abbrev r84_36 : List MOper := [⟨(some 56), .move (.t 12), none⟩,
  ⟨(some 4), .move (.c (.nilslice)), none⟩,
  ⟨(some 5), .move (.t 56), none⟩]
def b84_36 : SCode := .region r84_36
def b84_37 : SCode := .seq b84_36 .ret
def b84_38 : SCode := .cond (.t 55) b84_37 .skip
def b84_39 : SCode := .seq b84_35 b84_38
def b84_40 : SCode := .seq b84_34 b84_39
abbrev r84_41 : List MOper := [⟨(some 57), .move (.t 7), none⟩,
  ⟨(some 4), .move (.t 57), none⟩,
  ⟨(some 5), .move (.c (.int .i64 0)), none⟩]
def b84_41 : SCode := .region r84_41
def b84_42 : SCode := .seq b84_41 .ret
def b84_43 : SCode := .seq b84_40 b84_42
def b84_44 : SCode := .seq b84_33 b84_43
def b84_45 : SCode := .seq b84_7 b84_44
def b84_46 : SCode := .seq b84_6 b84_45
def b84_47 : SCode := .seq b84_5 b84_46
def b84_48 : SCode := .seq b84_0 b84_47
def s84 : SFunc := ⟨58, [.t 4, .t 5], b84_48⟩
theorem c84 : sFn Try.prog 84 = some s84 := by kernel_rfl
theorem x84_40 : XS b84_40 b84_34 b84_39 := rfl
theorem x84_43 : XS b84_43 b84_40 b84_42 := rfl
theorem Z84 : XR b84_0 r84_0 ∧ XR b84_1 r84_1 ∧ XR b84_2 r84_2 ∧ XS b84_3 b84_2 .ret ∧ XC b84_4 (.t 14) b84_3 .skip ∧ XS b84_5 b84_1 b84_4 ∧ XR b84_6 r84_6 ∧ XR b84_7 r84_7 ∧ XR b84_8 r84_8 ∧ XR b84_9 r84_9 ∧ XC b84_10 (.t 28) .skip (.exit 0) ∧ XS b84_11 b84_9 b84_10 ∧ XR b84_12 r84_12 ∧ XR b84_13 r84_13 ∧ XC b84_14 (.t 37) (.exit 0) .skip ∧ XS b84_15 b84_13 b84_14 ∧ XR b84_16 r84_16 ∧ XR b84_17 r84_17 ∧ XR b84_18 r84_18 ∧ XS b84_19 b84_18 .ret ∧ XC b84_20 (.t 46) b84_19 .skip ∧ XS b84_21 b84_17 b84_20 ∧ XR b84_22 r84_22 ∧ XS b84_23 b84_21 b84_22 ∧ XS b84_24 b84_16 b84_23 ∧ XS b84_25 b84_15 b84_24 ∧ XS b84_26 b84_12 b84_25 ∧ XB b84_27 1 b84_26 ∧ XR b84_28 r84_28 ∧ XS b84_29 b84_27 b84_28 ∧ XS b84_30 b84_11 b84_29 ∧ XB b84_32 0 b84_31 ∧ XS b84_33 b84_8 b84_32 ∧ XR b84_34 r84_34 ∧ XR b84_35 r84_35 ∧ XR b84_36 r84_36 ∧ XS b84_37 b84_36 .ret ∧ XC b84_38 (.t 55) b84_37 .skip ∧ XS b84_39 b84_35 b84_38 ∧ XR b84_41 r84_41 ∧ XS b84_42 b84_41 .ret ∧ XS b84_44 b84_33 b84_43 ∧ XS b84_45 b84_7 b84_44 ∧ XS b84_46 b84_6 b84_45 ∧ XS b84_47 b84_5 b84_46 ∧ XS b84_48 b84_0 b84_47 ∧ XY s84 58 b84_48 [.t 4, .t 5] := ⟨rfl, rfl, rfl, rfl, sC_cond, rfl, rfl, rfl, rfl, rfl, sC_cond, rfl, rfl, rfl, sC_cond, rfl, rfl, rfl, rfl, rfl, sC_cond, rfl, rfl, rfl, rfl, rfl, rfl, rfl, rfl, rfl, rfl, rfl, rfl, rfl, rfl, rfl, rfl, sC_cond, rfl, rfl, rfl, rfl, rfl, rfl, rfl, rfl, rfl⟩
abbrev r85_0 : List MOper := [⟨(some 2), .alloc [.str [], .str []], none⟩,
  ⟨(some 3), .move (.c (.int .i64 0)), none⟩]
def b85_0 : SCode := .region r85_0
abbrev r85_1 : List MOper := [⟨(some 6), .move (.t 0), none⟩,
  ⟨(some 7), .build [.nilslice, .int .i64 0] [(0, 1, (.t 6))], none⟩,
  ⟨(some 8), .box (.t 7), none⟩,
  ⟨(some 4), .move (.t 8), none⟩]
def b85_1 : SCode := .region r85_1
abbrev r85_2 : List MOper := [⟨(some 9), .move (.t 4), none⟩,
  ⟨(some 10), .call 60 [(.t 9)], none⟩,
  ⟨(some 11), .move (.t 4), none⟩,
  ⟨(some 12), .call 60 [(.t 11)], none⟩,
  ⟨(some 13), .build [.str [], .str []] [(0, 1, (.t 10)), (1, 1, (.t 12))], none⟩,
  ⟨(some 5), .alloc [.str [], .str []], none⟩,
  ⟨none, .store 2 (.t 5) (.t 13), none⟩]
def b85_2 : SCode := .region r85_2
abbrev t85_3 : LTree := (.quiet ⟨(some 14), .loadN 2 (.t 5), none⟩ 0
  (.quiet ⟨(some 15), .move (.t 4), none⟩ 1
  (.loud ⟨(some 16), .call 28 [(.t 15)], none⟩ [0]
  (.loud ⟨none, .store 2 (.t 2) (.t 14), none⟩ []
  (.quiet ⟨(some 3), .move (.t 16), none⟩ 4
  .leaf) .stop) .stop)))
def b85_3 : SCode := .draw t85_3
def b85_4 : SCode := .seq b85_3 .ret
def b85_5 : SCode := .seq b85_2 b85_4
def b85_6 : SCode := .seq b85_1 b85_5
def b85_7 : SCode := .seq b85_0 b85_6
def s85 : SFunc := ⟨17, [.cN 2 2, .t 3], b85_7⟩
theorem c85 : sFn Try.prog 85 = some s85 := by kernel_rfl
theorem Z85 : XR b85_0 r85_0 ∧ XR b85_1 r85_1 ∧ XR b85_2 r85_2 ∧ XT b85_3 t85_3 ∧ XS b85_4 b85_3 .ret ∧ XS b85_5 b85_2 b85_4 ∧ XS b85_6 b85_1 b85_5 ∧ XS b85_7 b85_0 b85_6 ∧ XY s85 17 b85_7 [.cN 2 2, .t 3] := ⟨rfl, rfl, rfl, rfl, rfl, rfl, rfl, rfl, rfl⟩
abbrev r86_0 : List MOper := [⟨(some 4), .move (.c (.nilslice)), none⟩,
  ⟨(some 5), .move (.c (.int .i64 0)), none⟩]
def b86_0 : SCode := .region r86_0
abbrev r86_1 : List MOper := [⟨(some 13), .move (.t 1), none⟩,
  ⟨(some 14), .bin .eql .nilf (.t 13) (.c (.nilfunc)), none⟩]
def b86_1 : SCode := .region r86_1
abbrev r86_2 : List MOper := [⟨(some 4), .move (.c (.nilslice)), none⟩,
  ⟨(some 5), .move (.c (.int .i64 1)), none⟩]
def b86_2 : SCode := .region r86_2
def b86_3 : SCode := .seq b86_2 .ret
def b86_4 : SCode := .cond (.t 14) b86_3 .skip
def b86_5 : SCode := .seq b86_1 b86_4
abbrev r86_6 : List MOper := [⟨(some 15), .move (.t 0), none⟩,
  ⟨(some 16), .build [.nilslice, .int .i64 0] [(0, 1, (.t 15))], none⟩,
  ⟨(some 17), .box (.t 16), none⟩,
  ⟨(some 6), .move (.t 17), none⟩]
def b86_6 : SCode := .region r86_6
abbrev r86_7 : List MOper := [⟨(some 7), .move (.c (.nilslice)), none⟩]
def b86_7 : SCode := .region r86_7
abbrev r86_8 : List MOper := [⟨(some 18), .move (.t 6), none⟩,
  ⟨(some 19), .call 27 [(.t 18)], none⟩,
  ⟨(some 8), .move (.t 19), none⟩]
def b86_8 : SCode := .region r86_8
abbrev r86_9 : List MOper := [⟨(some 20), .move (.t 8), none⟩,
  ⟨(some 21), .bin .gtr .num (.t 20) (.c (.int .i64 0)), none⟩,
  ⟨(some 22), .move (.t 21), none⟩,
  ⟨(some 23), .move (.t 6), (some (22, true))⟩,
  ⟨(some 24), .nilCheck (.t 23), (some (22, true))⟩,
  ⟨(some 25), .fieldAddr 1 (.t 24), (some (22, true))⟩,
  ⟨(some 26), .load1 (.t 25), (some (22, true))⟩,
  ⟨(some 27), .bin .eql .num (.t 26) (.c (.int .i64 0)), (some (22, true))⟩,
  ⟨(some 28), .pick (.t 22) (.t 27) (.c (.bool false)), none⟩]
def b86_9 : SCode := .region r86_9
def b86_10 : SCode := .cond (.t 28) .skip (.exit 0)
def b86_11 : SCode := .seq b86_9 b86_10
abbrev r86_12 : List MOper := [⟨(some 31), .move (.t 6), none⟩,
  ⟨(some 32), .call 60 [(.t 31)], none⟩,
  ⟨(some 9), .move (.t 32), none⟩]
def b86_12 : SCode := .region r86_12
abbrev r86_13 : List MOper := [⟨(some 33), .move (.t 6), none⟩,
  ⟨(some 34), .nilCheck (.t 33), none⟩,
  ⟨(some 35), .fieldAddr 1 (.t 34), none⟩,
  ⟨(some 36), .load1 (.t 35), none⟩,
  ⟨(some 37), .bin .neq .num (.t 36) (.c (.int .i64 0)), none⟩]
def b86_13 : SCode := .region r86_13
def b86_14 : SCode := .cond (.t 37) (.exit 0) .skip
def b86_15 : SCode := .seq b86_13 b86_14
abbrev r86_16 : List MOper := [⟨(some 39), .move (.t 1), none⟩,
  ⟨(some 40), .move (.t 9), none⟩,
  ⟨(some 41), .toBytes (.t 40), none⟩,
  ⟨(some 42), .callv (.t 39) [(.t 41)], none⟩,
  ⟨(some 38), .move (.t 42), none⟩,
  ⟨(some 43), .extract (.t 38) 0, none⟩,
  ⟨(some 44), .extract (.t 38) 1, none⟩,
  ⟨(some 10), .alloc [.int .i64 0, .int .i64 0, .int .i64 0, .int .i64 0, .bool false, .str [], .nilslice, .str [], .bool false], none⟩,
  ⟨none, .store 9 (.t 10) (.t 43), none⟩,
  ⟨(some 11), .move (.t 44), none⟩]
def b86_16 : SCode := .region r86_16
abbrev r86_17 : List MOper := [⟨(some 45), .move (.t 11), none⟩,
  ⟨(some 46), .bin .neq .num (.t 45) (.c (.int .i64 0)), none⟩]
def b86_17 : SCode := .region r86_17
abbrev r86_18 : List MOper := [⟨(some 47), .move (.t 11), none⟩,
  ⟨(some 4), .move (.c (.nilslice)), none⟩,
  ⟨(some 5), .move (.t 47), none⟩]
def b86_18 : SCode := .region r86_18
def b86_19 : SCode := .seq b86_18 .ret
def b86_20 : SCode := .cond (.t 46) b86_19 .skip
def b86_21 : SCode := .seq b86_17 b86_20
abbrev r86_22 : List MOper := [⟨(some 48), .move (.t 7), none⟩,
  ⟨(some 49), .loadN 9 (.t 10), none⟩,
  ⟨(some 50), .buildSlice [.int .i64 0, .int .i64 0, .int .i64 0, .int .i64 0, .bool false, .str [], .nilslice, .str [], .bool false] 9 1 [(0, 9, (.t 49))], none⟩,
  ⟨(some 51), .append 9 104 (.t 48) (.t 50), none⟩,
  ⟨(some 7), .move (.t 51), none⟩]
def b86_22 : SCode := .region r86_22
def b86_23 : SCode := .seq b86_21 b86_22
def b86_24 : SCode := .seq b86_16 b86_23
def b86_25 : SCode := .seq b86_15 b86_24
def b86_26 : SCode := .seq b86_12 b86_25
def b86_27 : SCode := .block 1 b86_26
abbrev r86_28 : List MOper := [⟨(some 29), .move (.t 8), none⟩,
  ⟨(some 30), .bin .sub .num (.t 29) (.c (.int .i64 1)), none⟩,
  ⟨(some 8), .move (.t 30), none⟩]
def b86_28 : SCode := .region r86_28
def b86_29 : SCode := .seq b86_27 b86_28
def b86_30 : SCode := .seq b86_11 b86_29
def b86_31 : SCode := .loop b86_30
def b86_32 : SCode := .block 0 b86_31
def b86_33 : SCode := .seq b86_8 b86_32
abbrev r86_34 : List MOper := [⟨(some 52), .move (.t 6), none⟩,
  ⟨(some 53), .call 28 [(.t 52)], none⟩,
  ⟨(some 12), .move (.t 53), none⟩]
def b86_34 : SCode := .region r86_34
abbrev r86_35 : List MOper := [⟨(some 54), .move (.t 12), none⟩,
  ⟨(some 55), .bin .neq .num (.t 54) (.c (.int .i64 0)), none⟩]
def b86_35 : SCode := .region r86_35
abbrev r86_36 : List MOper := [⟨(some 56), .move (.t 12), none⟩,
  ⟨(some 4), .move (.c (.nilslice)), none⟩,
  ⟨(some 5), .move (.t 56), none⟩]
def b86_36 : SCode := .region r86_36
def b86_37 : SCode := .seq b86_36 .ret
def b86_38 : SCode := .cond (.t 55) b86_37 .skip
def b86_39 : SCode := .seq b86_35 b86_38
def b86_40 : SCode := .seq b86_34 b86_39
abbrev r86_41 : List MOper := [⟨(some 57), .move (.t 7), none⟩,
  ⟨(some 4), .move (.t 57), none⟩,
  ⟨(some 5), .move (.c (.int .i64 0)), none⟩]
def b86_41 : SCode := .region r86_41
def b86_42 : SCode := .seq b86_41 .ret
def b86_43 : SCode := .seq b86_40 b86_42
def b86_44 : SCode := .seq b86_33 b86_43
def b86_45 : SCode := .seq b86_7 b86_44
def b86_46 : SCode := .seq b86_6 b86_45
def b86_47 : SCode := .seq b86_5 b86_46
def b86_48 : SCode := .seq b86_0 b86_47
def s86 : SFunc := ⟨58, [.t 4, .t 5], b86_48⟩
theorem c86 : sFn Try.prog 86 = some s86 := by kernel_rfl
theorem x86_40 : XS b86_40 b86_34 b86_39 := rfl
theorem x86_43 : XS b86_43 b86_40 b86_42 := rfl
theorem Z86 : XR b86_0 r86_0 ∧ XR b86_1 r86_1 ∧ XR b86_2 r86_2 ∧ XS b86_3 b86_2 .ret ∧ XC b86_4 (.t 14) b86_3 .skip ∧ XS b86_5 b86_1 b86_4 ∧ XR b86_6 r86_6 ∧ XR b86_7 r86_7 ∧ XR b86_8 r86_8 ∧ XR b86_9 r86_9 ∧ XC b86_10 (.t 28) .skip (.exit 0) ∧ XS b86_11 b86_9 b86_10 ∧ XR b86_12 r86_12 ∧ XR b86_13 r86_13 ∧ XC b86_14 (.t 37) (.exit 0) .skip ∧ XS b86_15 b86_13 b86_14 ∧ XR b86_16 r86_16 ∧ XR b86_17 r86_17 ∧ XR b86_18 r86_18 ∧ XS b86_19 b86_18 .ret ∧ XC b86_20 (.t 46) b86_19 .skip ∧ XS b86_21 b86_17 b86_20 ∧ XR b86_22 r86_22 ∧ XS b86_23 b86_21 b86_22 ∧ XS b86_24 b86_16 b86_23 ∧ XS b86_25 b86_15 b86_24 ∧ XS b86_26 b86_12 b86_25 ∧ XB b86_27 1 b86_26 ∧ XR b86_28 r86_28 ∧ XS b86_29 b86_27 b86_28 ∧ XS b86_30 b86_11 b86_29 ∧ XB b86_32 0 b86_31 ∧ XS b86_33 b86_8 b86_32 ∧ XR b86_34 r86_34 ∧ XR b86_35 r86_35 ∧ XR b86_36 r86_36 ∧ XS b86_37 b86_36 .ret ∧ XC b86_38 (.t 55) b86_37 .skip ∧ XS b86_39 b86_35 b86_38 ∧ XR b86_41 r86_41 ∧ XS b86_42 b86_41 .ret ∧ XS b86_44 b86_33 b86_43 ∧ XS b86_45 b86_7 b86_44 ∧ XS b86_46 b86_6 b86_45 ∧ XS b86_47 b86_5 b86_46 ∧ XS b86_48 b86_0 b86_47 ∧ XY s86 58 b86_48 [.t 4, .t 5] := ⟨rfl, rfl, rfl, rfl, sC_cond, rfl, rfl, rfl, rfl, rfl, sC_cond, rfl, rfl, rfl, sC_cond, rfl, rfl, rfl, rfl, rfl, sC_cond, rfl, rfl, rfl, rfl, rfl, rfl, rfl, rfl, rfl, rfl, rfl, rfl, rfl, rfl, rfl, rfl, sC_cond, rfl, rfl, rfl, rfl, rfl, rfl, rfl, rfl, rfl⟩
abbrev r87_0 : List MOper := [⟨(some 2), .alloc [.int .i64 0, .int .i64 0, .int .i64 0, .int .i64 0, .bool false, .str [], .nilslice, .str [], .bool false], none⟩,
  ⟨(some 3), .move (.c (.int .i64 0)), none⟩]
def b87_0 : SCode := .region r87_0
abbrev r87_1 : List MOper := [⟨(some 9), .move (.t 0), none⟩,
  ⟨(some 10), .build [.nilslice, .int .i64 0] [(0, 1, (.t 9))], none⟩,
  ⟨(some 11), .box (.t 10), none⟩,
  ⟨(some 4), .move (.t 11), none⟩]
def b87_1 : SCode := .region r87_1
abbrev r87_2 : List MOper := [⟨(some 12), .move (.t 4), none⟩,
  ⟨(some 13), .call 27 [(.t 12)], none⟩,
  ⟨(some 14), .build [.int .i64 0, .int .i64 0, .int .i64 0, .int .i64 0, .bool false, .str [], .nilslice, .str [], .bool false] [(0, 1, (.t 13))], none⟩,
  ⟨(some 5), .alloc [.int .i64 0, .int .i64 0, .int .i64 0, .int .i64 0, .bool false, .str [], .nilslice, .str [], .bool false], none⟩,
  ⟨none, .store 9 (.t 5) (.t 14), none⟩]
def b87_2 : SCode := .region r87_2
abbrev r87_3 : List MOper := [⟨(some 15), .move (.t 4), none⟩,
  ⟨(some 16), .call 60 [(.t 15)], none⟩,
  ⟨(some 6), .move (.t 16), none⟩]
def b87_3 : SCode := .region r87_3
abbrev r87_4 : List MOper := [⟨(some 17), .move (.t 4), none⟩,
  ⟨(some 18), .call 28 [(.t 17)], none⟩,
  ⟨(some 7), .move (.t 18), none⟩]
def b87_4 : SCode := .region r87_4
abbrev r87_5 : List MOper := [⟨(some 19), .move (.t 7), none⟩,
  ⟨(some 20), .bin .neq .num (.t 19) (.c (.int .i64 0)), none⟩]
def b87_5 : SCode := .region r87_5
abbrev r87_6 : List MOper := [⟨(some 21), .build [.int .i64 0, .int .i64 0, .int .i64 0, .int .i64 0, .bool false, .str [], .nilslice, .str [], .bool false] [], none⟩,
  ⟨(some 22), .move (.t 7), none⟩,
  ⟨none, .store 9 (.t 2) (.t 21), none⟩,
  ⟨(some 3), .move (.t 22), none⟩]
def b87_6 : SCode := .region r87_6
def b87_7 : SCode := .seq b87_6 .ret
def b87_8 : SCode := .cond (.t 20) b87_7 .skip
def b87_9 : SCode := .seq b87_5 b87_8
def b87_10 : SCode := .seq b87_4 b87_9
abbrev r87_11 : List MOper := [⟨(some 8), .move (.c (.int .i64 0)), none⟩]
def b87_11 : SCode := .region r87_11
abbrev r87_12 : List MOper := [⟨(some 24), .move (.t 6), none⟩,
  ⟨(some 25), .toBytes (.t 24), none⟩,
  ⟨(some 26), .call 61 [(.t 25)], none⟩,
  ⟨(some 23), .move (.t 26), none⟩,
  ⟨(some 27), .extract (.t 23) 0, none⟩,
  ⟨(some 28), .extract (.t 23) 1, none⟩,
  ⟨(some 29), .fieldAddr 1 (.t 5), none⟩,
  ⟨none, .store 8 (.t 29) (.t 27), none⟩,
  ⟨(some 8), .move (.t 28), none⟩]
def b87_12 : SCode := .region r87_12
abbrev r87_13 : List MOper := [⟨(some 30), .loadN 9 (.t 5), none⟩,
  ⟨(some 31), .move (.t 8), none⟩,
  ⟨none, .store 9 (.t 2) (.t 30), none⟩,
  ⟨(some 3), .move (.t 31), none⟩]
def b87_13 : SCode := .region r87_13
def b87_14 : SCode := .seq b87_13 .ret
def b87_15 : SCode := .seq b87_12 b87_14
def b87_16 : SCode := .seq b87_11 b87_15
def b87_17 : SCode := .seq b87_10 b87_16
def b87_18 : SCode := .seq b87_3 b87_17
def b87_19 : SCode := .seq b87_2 b87_18
def b87_20 : SCode := .seq b87_1 b87_19
def b87_21 : SCode := .seq b87_0 b87_20
def s87 : SFunc := ⟨32, [.cN 2 9, .t 3], b87_21⟩
theorem c87 : sFn Try.prog 87 = some s87 := by kernel_rfl
theorem Z87 : XR b87_0 r87_0 ∧ XR b87_1 r87_1 ∧ XR b87_2 r87_2 ∧ XR b87_3 r87_3 ∧ XR b87_4 r87_4 ∧ XR b87_5 r87_5 ∧ XR b87_6 r87_6 ∧ XS b87_7 b87_6 .ret ∧ XC b87_8 (.t 20) b87_7 .skip ∧ XS b87_9 b87_5 b87_8 ∧ XS b87_10 b87_4 b87_9 ∧ XR b87_11 r87_11 ∧ XR b87_12 r87_12 ∧ XR b87_13 r87_13 ∧ XS b87_14 b87_13 .ret ∧ XS b87_15 b87_12 b87_14 ∧ XS b87_16 b87_11 b87_15 ∧ XS b87_17 b87_10 b87_16 ∧ XS b87_18 b87_3 b87_17 ∧ XS b87_19 b87_2 b87_18 ∧ XS b87_20 b87_1 b87_19 ∧ XS b87_21 b87_0 b87_20 ∧ XY s87 32 b87_21 [.cN 2 9, .t 3] := ⟨rfl, rfl, rfl, rfl, rfl, rfl, rfl, rfl, sC_cond, rfl, rfl, rfl, rfl, rfl, rfl, rfl, rfl, rfl, rfl, rfl, rfl, rfl, rfl⟩

end
set_option maxHeartbeats 4000000
set_option maxRecDepth 10000
theorem given_bytes {σ : AHeap} {d : Nat} {bs : List UInt8} (h : hget σ d = some (bs.map byteAV)) : Given σ d (.slice d 0 bs.length none 1) (.imm (rws bs) false false) := by
  refine .inr (.inr ⟨0, bs.length, none, 1, _, rws bs, rfl, rfl, h, ?_, by simp [rws], ?_, rws_pure bs⟩)
  · unfold rws
    rw [rows_flat, Nat.mul_one]
    exact sub_all (by simp)
  · intro r hr
    obtain ⟨b, _, rfl⟩ := List.mem_map.1 hr
    rfl
theorem give_bytes {f : FuncId} {bs : List UInt8} {σ : AHeap} {d : Nat} {Q : AV → Prop} (hd : hget σ d = some (bs.map byteAV)) (h : Tri Try.prog f [.imm (rws bs) false false] [] fun r _ => r.pure = true ∧ Q r) :
    Tri Try.prog f [.slice d 0 bs.length none 1] σ fun r σ' => Q r ∧ σ' = hkill σ d := Tri.give (args := [.slice d 0 bs.length none 1]) (args1 := [.imm (rws bs) false false]) d rfl (given1 (given_bytes hd)) h
theorem give_bytes2 {f : FuncId} {bs : List UInt8} {σ : AHeap} {d : Nat} {y : AV} {Q : AV → Prop} (hd : hget σ d = some (bs.map byteAV)) (hy : y.pure = true) (h : Tri Try.prog f [.imm (rws bs) false false, y] [] fun r _ => r.pure = true ∧ Q r) :
    Tri Try.prog f [.slice d 0 bs.length none 1, y] σ fun r σ' => Q r ∧ σ' = hkill σ d := Tri.give (args := [.slice d 0 bs.length none 1, y]) (args1 := [.imm (rws bs) false false, y]) d rfl (given2 (given_bytes hd) (.inl ⟨rfl, hy⟩)) h
theorem Fr1.kill {σ : AHeap} {c : List AV} {id : Nat} : Fr1 σ (hkill (hpush σ c) σ.length) id := fun j d hj _ => by
  have := hget_lt hj
  rw [kill_other (by omega)]; exact push_old hj
theorem Fr1.get {σ σ' : AHeap} {id : Nat} {rem : List UInt8} {e : Int} (h : ∀ j c, hget σ j = some c → hget σ' j = some c) (hr : RdS σ id rem e) : RdS σ' id rem e := by
  obtain ⟨f, nn, hg⟩ := hr
  exact ⟨f, nn, h _ _ hg⟩
/-! One item. -/
def ShV.zero : ShV := ⟨[], [], 0, 0⟩
def LaV.zero : LaV := ⟨0, RepV.zero⟩
def ansRec (p : (List UInt8 × List UInt8) × Int) : AV := .tuple [.agg (recC p.1), .int .i64 p.2]
def ansSh (p : ShV × Int) : AV := .tuple [.agg p.1.cells, .int .i64 p.2]
def ansLa (p : LaV × Int) : AV := .tuple [.agg p.1.cells, .int .i64 p.2]
theorem ansRec_pure (p : (List UInt8 × List UInt8) × Int) : (ansRec p).pure = true := rfl
theorem ansSh_pure (p : ShV × Int) : (ansSh p).pure = true := rfl
theorem la_pure (l : LaV) : (AV.agg l.cells).pure = true := by have := rep_pure l.rep; simp only [AV.pure] at this; simp only [AV.pure, LaV.cells, pureL, this, Bool.and_self]
theorem ansLa_pure (p : LaV × Int) : (ansLa p).pure = true := by have := la_pure p.1; simp only [AV.pure] at this; simp only [ansLa, AV.pure, pureL, this, Bool.and_self]
def unrecG (s0 s1 s2 : St) : (List UInt8 × List UInt8) × Int := ((vT s0, vT s1), rdEnd s2.1 s2.2)
def unrec (bs : List UInt8) : (List UInt8 × List UInt8) × Int := unrecG (bs, 0) (stT (bs, 0)) (stT (stT (bs, 0)))
theorem unrecord_ok (bs : List UInt8) : Tri Try.prog 85 [.imm (rws bs) false false] [] fun r _ => r.pure = true ∧ r = ansRec (unrec bs) := by
  refine Tri.frozen (Q := fun r _ => r = ansRec (unrec bs)) (Tri.of_s c85 F3_sound ?_) (fun r σ hr => ⟨r, .pure (by rw [hr]; exact ansRec_pure _), by rw [hr]; exact ansRec_pure _, hr⟩)
  generalize hK : (fun (r : AV) (_ : AHeap) => r = ansRec (unrec bs)) = K
  have hK : ∀ σ, K (ansRec (unrec bs)) σ := by intro σ; rw [← hK]
  simp only [F3_app, Z85, base1, baseE, ↓reduceIte, Nat.reduceAdd, Nat.reduceSub, Nat.reduceMul, Nat.reduceEqDiff, Nat.reduceLeDiff, Nat.reduceLT, Int.reduceLT, Int.reduceLE, Int.reduceEq, Int.reduceNe, Int.reduceToNat, Int.reduceAdd, Int.reduceSub, reduceCtorEq, Nat.reduceBEq, Nat.reduceBNe]
  refine ⟨1, bs, 0, rfl, ⟨false, false, rfl⟩, fun σ1 r1 f1 => ?_⟩
  have b1 := f1 0 _ rfl (by decide)
  have r1 : RdS σ1 1 (stT (bs, 0)).1 (stT (bs, 0)).2 := r1
  unfold unrec at hK
  have v0 : (rdText bs 0).1 = vT (bs, 0) := rfl
  rw [v0]
  generalize stT (bs, 0) = s1 at r1 hK ⊢
  generalize ((bs, 0) : St) = s0 at hK ⊢
  simp only [F3_app, Z85, base1, baseE, ↓reduceIte, Nat.reduceAdd, Nat.reduceSub, Nat.reduceMul, Nat.reduceEqDiff, Nat.reduceLeDiff, Nat.reduceLT, Int.reduceLT, Int.reduceLE, Int.reduceEq, Int.reduceNe, Int.reduceToNat, Int.reduceAdd, Int.reduceSub, reduceCtorEq, Nat.reduceBEq, Nat.reduceBNe]
  refine ⟨1, _, _, rfl, r1, fun σ2 r2 f2 => ?_⟩
  have b2 := f2 0 _ b1 (by decide)
  have r2 : RdS σ2 1 (stT s1).1 (stT s1).2 := r2
  generalize stT s1 = s2 at r2 hK ⊢
  have v1 : (rdText s1.1 s1.2).1 = vT s1 := rfl
  rw [v1]
  have l2 : 1 < σ2.length := by obtain ⟨f, nn, hg⟩ := r2; exact hget_lt hg
  have pn : ∀ c : List AV, hget (hpush σ2 c) σ2.length = some c := fun c => push_new rfl
  have sn : ∀ c c' : List AV, hget (hset (hpush σ2 c) σ2.length c') σ2.length = some c' := fun c c' => set_same (pn c)
  simp only [F3_app, Z85, base1, baseE, ↓reduceIte, Nat.reduceAdd, Nat.reduceSub, Nat.reduceMul, Nat.reduceEqDiff, Nat.reduceLeDiff, Nat.reduceLT, Int.reduceLT, Int.reduceLE, Int.reduceEq, Int.reduceNe, Int.reduceToNat, Int.reduceAdd, Int.reduceSub, reduceCtorEq, Nat.reduceBEq, Nat.reduceBNe, pn, sn]
  refine ⟨1, s2.1, s2.2, rfl, rd_alloc r2, fun σ3 f3 => ?_⟩
  have b3 := f3 0 _ (al_frame b2) (by decide)
  have c3 := f3 σ2.length _ (sn _ _) (by omega)
  have s0' : ∀ (d : List AV), hget (hset σ3 0 d) 0 = some d := fun d => set_same b3
  unfold unrecG at hK
  simp only [F3_app, Z85, base1, baseE, ↓reduceIte, Nat.reduceAdd, Nat.reduceSub, Nat.reduceMul, Nat.reduceEqDiff, Nat.reduceLeDiff, Nat.reduceLT, Int.reduceLT, Int.reduceLE, Int.reduceEq, Int.reduceNe, Int.reduceToNat, Int.reduceAdd, Int.reduceSub, reduceCtorEq, Nat.reduceBEq, Nat.reduceBNe, b3, c3, s0']
  exact hK _
def unshG (s0 s1 s2 s3 s4 : St) : ShV × Int := (⟨vT s0, vT s1, vN s2, vN s3⟩, rdEnd s4.1 s4.2)
def unsh (bs : List UInt8) : ShV × Int := unshG (bs, 0) (stT (bs, 0)) (stT (stT (bs, 0))) (stN (stT (stT (bs, 0)))) (stN (stN (stT (stT (bs, 0)))))
theorem unshard_ok (bs : List UInt8) : Tri Try.prog 83 [.imm (rws bs) false false] [] fun r _ => r.pure = true ∧ r = ansSh (unsh bs) := by
  refine Tri.frozen (Q := fun r _ => r = ansSh (unsh bs)) (Tri.of_s c83 F3_sound ?_) (fun r σ hr => ⟨r, .pure (by rw [hr]; exact ansSh_pure _), by rw [hr]; exact ansSh_pure _, hr⟩)
  generalize hK : (fun (r : AV) (_ : AHeap) => r = ansSh (unsh bs)) = K
  have hK : ∀ σ, K (ansSh (unsh bs)) σ := by intro σ; rw [← hK]
  simp only [F3_app, Z83, base1, baseE, ↓reduceIte, Nat.reduceAdd, Nat.reduceSub, Nat.reduceMul, Nat.reduceEqDiff, Nat.reduceLeDiff, Nat.reduceLT, Int.reduceLT, Int.reduceLE, Int.reduceEq, Int.reduceNe, Int.reduceToNat, Int.reduceAdd, Int.reduceSub, reduceCtorEq, Nat.reduceBEq, Nat.reduceBNe]
  refine ⟨1, bs, 0, rfl, ⟨false, false, rfl⟩, fun σ1 r1 f1 => ?_⟩
  have b1 := f1 0 _ rfl (by decide)
  have r1 : RdS σ1 1 (stT (bs, 0)).1 (stT (bs, 0)).2 := r1
  unfold unsh at hK
  have v0 : (rdText bs 0).1 = vT (bs, 0) := rfl
  rw [v0]
  generalize stT (bs, 0) = s1 at r1 hK ⊢
  generalize ((bs, 0) : St) = s0 at hK ⊢
  simp only [F3_app, Z83, base1, baseE, ↓reduceIte, Nat.reduceAdd, Nat.reduceSub, Nat.reduceMul, Nat.reduceEqDiff, Nat.reduceLeDiff, Nat.reduceLT, Int.reduceLT, Int.reduceLE, Int.reduceEq, Int.reduceNe, Int.reduceToNat, Int.reduceAdd, Int.reduceSub, reduceCtorEq, Nat.reduceBEq, Nat.reduceBNe]
  refine ⟨1, _, _, rfl, r1, fun σ2 r2 f2 => ?_⟩
  have b2 := f2 0 _ b1 (by decide)
  have r2 : RdS σ2 1 (stT s1).1 (stT s1).2 := r2
  generalize stT s1 = s2 at r2 hK ⊢
  have v1 : (rdText s1.1 s1.2).1 = vT s1 := rfl
  rw [v1]
  simp only [F3_app, Z83, base1, baseE, ↓reduceIte, Nat.reduceAdd, Nat.reduceSub, Nat.reduceMul, Nat.reduceEqDiff, Nat.reduceLeDiff, Nat.reduceLT, Int.reduceLT, Int.reduceLE, Int.reduceEq, Int.reduceNe, Int.reduceToNat, Int.reduceAdd, Int.reduceSub, reduceCtorEq, Nat.reduceBEq, Nat.reduceBNe]
  refine ⟨1, _, _, rfl, r2, fun σ3 r3 f3 => ?_⟩
  have b3 := f3 0 _ b2 (by decide)
  have r3 : RdS σ3 1 (stN s2).1 (stN s2).2 := r3
  generalize stN s2 = s3 at r3 hK ⊢
  have v2 : (rdNum s2.1 s2.2).1 = vN s2 := rfl
  rw [v2]
  simp only [F3_app, Z83, base1, baseE, ↓reduceIte, Nat.reduceAdd, Nat.reduceSub, Nat.reduceMul, Nat.reduceEqDiff, Nat.reduceLeDiff, Nat.reduceLT, Int.reduceLT, Int.reduceLE, Int.reduceEq, Int.reduceNe, Int.reduceToNat, Int.reduceAdd, Int.reduceSub, reduceCtorEq, Nat.reduceBEq, Nat.reduceBNe]
  refine ⟨1, _, _, rfl, r3, fun σ4 r4 f4 => ?_⟩
  have b4 := f4 0 _ b3 (by decide)
  have r4 : RdS σ4 1 (stN s3).1 (stN s3).2 := r4
  generalize stN s3 = s4 at r4 hK ⊢
  have v3 : (rdNum s3.1 s3.2).1 = vN s3 := rfl
  rw [v3]
  have l4 : 1 < σ4.length := by obtain ⟨f, nn, hg⟩ := r4; exact hget_lt hg
  have pn : ∀ c : List AV, hget (hpush σ4 c) σ4.length = some c := fun c => push_new rfl
  have sn : ∀ c c' : List AV, hget (hset (hpush σ4 c) σ4.length c') σ4.length = some c' := fun c c' => set_same (pn c)
  simp only [F3_app, Z83, base1, baseE, ↓reduceIte, Nat.reduceAdd, Nat.reduceSub, Nat.reduceMul, Nat.reduceEqDiff, Nat.reduceLeDiff, Nat.reduceLT, Int.reduceLT, Int.reduceLE, Int.reduceEq, Int.reduceNe, Int.reduceToNat, Int.reduceAdd, Int.reduceSub, reduceCtorEq, Nat.reduceBEq, Nat.reduceBNe, pn, sn]
  refine ⟨1, s4.1, s4.2, rfl, rd_alloc r4, fun σ5 f5 => ?_⟩
  have b5 := f5 0 _ (al_frame b4) (by decide)
  have c5 := f5 σ4.length _ (sn _ _) (by omega)
  have s0' : ∀ (d : List AV), hget (hset σ5 0 d) 0 = some d := fun d => set_same b5
  unfold unshG at hK
  simp only [F3_app, Z83, base1, baseE, ↓reduceIte, Nat.reduceAdd, Nat.reduceSub, Nat.reduceMul, Nat.reduceEqDiff, Nat.reduceLeDiff, Nat.reduceLT, Int.reduceLT, Int.reduceLE, Int.reduceEq, Int.reduceNe, Int.reduceToNat, Int.reduceAdd, Int.reduceSub, reduceCtorEq, Nat.reduceBEq, Nat.reduceBNe, b5, c5, s0']
  exact hK _
def replyRD (args : List AV) (σ : AHeap) (K : AV → AHeap → Prop) : Prop := ∃ (d : Nat) (bs : List UInt8), args = [.slice d 0 bs.length none 1] ∧ hget σ d = some (bs.map byteAV) ∧ K (ansR (readReply bs)) (hkill σ d)
theorem replyRD_ok (args : List AV) (σ : AHeap) (K : AV → AHeap → Prop) (h : replyRD args σ K) : Tri Try.prog 61 args σ K := by
  obtain ⟨d, bs, rfl, hd, h⟩ := h
  exact (give_bytes hd (readReply_ok bs)).mono fun r σ' hr => by rw [hr.1, hr.2]; exact h
def F4 : PCall := rowQ 61 replyRD (rowQ 27 numRD (rowQ 60 textRD (rowQ 28 endRD noCall)))
theorem F4_app {f : FuncId} {args : List AV} {σ : AHeap} {K : AV → AHeap → Prop} : F4 f args σ K = rowQ 61 replyRD (rowQ 27 numRD (rowQ 60 textRD (rowQ 28 endRD noCall))) f args σ K := _root_.id rfl
theorem F4_sound : Sound Try.prog F4 := rowQ_sound replyRD_ok (rowQ_sound numRD_ok (rowQ_sound textRD_ok (rowQ_sound endRD_ok (noCall_sound _))))
theorem frz_zeroLa (σ : AHeap) (E : Int) : Frz σ (.tuple [.agg [.int .i64 0, .int .i64 0, .int .i64 0, .int .i64 0, .bool false, .str [], .nilslice, .str [], .bool false], .int .i64 E]) (ansLa (LaV.zero, E)) := by
  refine .tuple rfl (fun i x y hx hy => ?_)
  match i with
  | 0 =>
    simp at hx hy
    subst hx; subst hy
    refine .agg rfl (fun i x y hx hy => ?_)
    match i with
    | 0 | 1 | 2 | 3 | 4 | 5 | 7 | 8 => simp [LaV.zero, LaV.cells, RepV.zero, RepV.cells] at hx hy; subst hx; subst hy; exact .pure rfl
    | 6 => simp [LaV.zero, LaV.cells, RepV.zero, RepV.cells, recs] at hx hy; subst hx; subst hy; exact .nil
    | n + 9 => simp at hx
  | 1 => simp at hx hy; subst hx; subst hy; exact .pure rfl
  | n + 2 => simp at hx
def unlaG (s0 s1 s2 : St) : LaV × Int := if rdEnd s2.1 s2.2 = 0 then (⟨vN s0, (readReply (vT s1)).1⟩, (readReply (vT s1)).2) else (LaV.zero, rdEnd s2.1 s2.2)
def unla (bs : List UInt8) : LaV × Int := unlaG (bs, 0) (stN (bs, 0)) (stT (stN (bs, 0)))
theorem unlast_ok (bs : List UInt8) : Tri Try.prog 87 [.imm (rws bs) false false] [] fun r _ => r.pure = true ∧ r = ansLa (unla bs) := by
  refine Tri.frozen (Q := fun r σ => Frz σ r (ansLa (unla bs))) (Tri.of_s c87 F4_sound ?_) (fun r σ hr => ⟨_, hr, ansLa_pure _, rfl⟩)
  generalize hK : (fun (r : AV) (σ : AHeap) => Frz σ r (ansLa (unla bs))) = K
  have hK : ∀ r σ, Frz σ r (ansLa (unla bs)) → K r σ := by intro r σ hr; rw [← hK]; exact hr
  simp only [F4_app, Z87, base1, baseE, ↓reduceIte, Nat.reduceAdd, Nat.reduceSub, Nat.reduceMul, Nat.reduceEqDiff, Nat.reduceLeDiff, Nat.reduceLT, Int.reduceLT, Int.reduceLE, Int.reduceEq, Int.reduceNe, Int.reduceToNat, Int.reduceAdd, Int.reduceSub, reduceCtorEq, Nat.reduceBEq, Nat.reduceBNe]
  refine ⟨1, bs, 0, rfl, ⟨false, false, rfl⟩, fun σ1 r1 f1 => ?_⟩
  have b1 := f1 0 _ rfl (by decide)
  have r1 : RdS σ1 1 (stN (bs, 0)).1 (stN (bs, 0)).2 := r1
  unfold unla at hK
  have v0 : (rdNum bs 0).1 = vN (bs, 0) := rfl
  rw [v0]
  generalize stN (bs, 0) = s1 at r1 hK ⊢
  generalize ((bs, 0) : St) = s0 at hK ⊢
  have l1 : 1 < σ1.length := by obtain ⟨f, nn, hg⟩ := r1; exact hget_lt hg
  have pn : ∀ c : List AV, hget (hpush σ1 c) σ1.length = some c := fun c => push_new rfl
  have sn : ∀ c c' : List AV, hget (hset (hpush σ1 c) σ1.length c') σ1.length = some c' := fun c c' => set_same (pn c)
  simp only [F4_app, Z87, base1, baseE, ↓reduceIte, Nat.reduceAdd, Nat.reduceSub, Nat.reduceMul, Nat.reduceEqDiff, Nat.reduceLeDiff, Nat.reduceLT, Int.reduceLT, Int.reduceLE, Int.reduceEq, Int.reduceNe, Int.reduceToNat, Int.reduceAdd, Int.reduceSub, reduceCtorEq, Nat.reduceBEq, Nat.reduceBNe, pn, sn]
  refine ⟨1, _, _, rfl, rd_alloc r1, fun σ2 r2 f2 => ?_⟩
  have b2 := f2 0 _ (al_frame b1) (by decide)
  have c2 := f2 σ1.length _ (sn _ _) (by omega)
  have r2 : RdS σ2 1 (stT s1).1 (stT s1).2 := r2
  generalize stT s1 = s2 at r2 hK ⊢
  have v1 : (rdText s1.1 s1.2).1 = vT s1 := rfl
  rw [v1]
  simp only [F4_app, Z87, base1, baseE, ↓reduceIte, Nat.reduceAdd, Nat.reduceSub, Nat.reduceMul, Nat.reduceEqDiff, Nat.reduceLeDiff, Nat.reduceLT, Int.reduceLT, Int.reduceLE, Int.reduceEq, Int.reduceNe, Int.reduceToNat, Int.reduceAdd, Int.reduceSub, reduceCtorEq, Nat.reduceBEq, Nat.reduceBNe]
  refine ⟨1, _, _, rfl, r2, fun σ3 f3 => ?_⟩
  have b3 := f3 0 _ b2 (by decide)
  have c3 := f3 σ1.length _ c2 (by omega)
  generalize σ1.length = L at c3 l1
  have hL0 : ¬ L = 0 := by omega
  unfold unlaG at hK
  have z0 : ∀ (d : List AV), hget (hset σ3 0 d) 0 = some d := fun d => set_same b3
  generalize rdEnd s2.1 s2.2 = E at hK ⊢
  by_cases hE : E = 0
  · subst hE
    simp only [if_true] at hK
    simp only [F4_app, Z87, base1, baseE, ↓reduceIte, Nat.reduceAdd, Nat.reduceSub, Nat.reduceMul, Nat.reduceEqDiff, Nat.reduceLeDiff, Nat.reduceLT, Int.reduceLT, Int.reduceLE, Int.reduceEq, Int.reduceNe, Int.reduceToNat, Int.reduceAdd, Int.reduceSub, reduceCtorEq, Nat.reduceBEq, Nat.reduceBNe, b3, c3, z0]
    refine ⟨σ3.length, vT s1, rfl, push_new rfl, ?_⟩
    have l3 := hget_lt c3
    have b4 : hget (hkill (hpush σ3 ((vT s1).map byteAV)) σ3.length) 0 = _ := Fr1.kill (id := σ3.length) 0 _ b3 (by omega)
    have c4 : hget (hkill (hpush σ3 ((vT s1).map byteAV)) σ3.length) L = _ := Fr1.kill (id := σ3.length) L _ c3 (by omega)
    generalize hkill (hpush σ3 ((vT s1).map byteAV)) σ3.length = σ4 at b4 c4 ⊢
    generalize readReply (vT s1) = w at hK ⊢
    obtain ⟨⟨client, seq, err, found, val, l, next, more⟩, e⟩ := w
    have sL : ∀ d : List AV, hget (hset σ4 L d) L = some d := fun d => set_same c4
    have b5 : ∀ d : List AV, hget (hset σ4 L d) 0 = _ := fun d => (set_other hL0).trans b4
    have z1 : ∀ (d c : List AV), hget (hset (hset σ4 L d) 0 c) 0 = some c := fun d c => set_same (b5 d)
    simp only [F4_app, Z87, base1, baseE, ↓reduceIte, Nat.reduceAdd, Nat.reduceSub, Nat.reduceMul, Nat.reduceEqDiff, Nat.reduceLeDiff, Nat.reduceLT, Int.reduceLT, Int.reduceLE, Int.reduceEq, Int.reduceNe, Int.reduceToNat, Int.reduceAdd, Int.reduceSub, reduceCtorEq, Nat.reduceBEq, Nat.reduceBNe, ansR, RepV.cells, b4, c4, sL, b5, z1]
    exact hK _ _ (.pure (ansLa_pure (⟨vN s0, ⟨client, seq, err, found, val, l, next, more⟩⟩, e)))
  · simp only [if_neg hE] at hK
    simp only [F4_app, Z87, base1, baseE, ↓reduceIte, Nat.reduceAdd, Nat.reduceSub, Nat.reduceMul, Nat.reduceEqDiff, Nat.reduceLeDiff, Nat.reduceLT, Int.reduceLT, Int.reduceLE, Int.reduceEq, Int.reduceNe, Int.reduceToNat, Int.reduceAdd, Int.reduceSub, reduceCtorEq, Nat.reduceBEq, Nat.reduceBNe, b3, c3, z0, hE]
    exact hK _ _ (frz_zeroLa _ E)
/-! Lists. -/
def finRec (s : St) (acc : List (List UInt8 × List UInt8)) : List (List UInt8 × List UInt8) × Int := if rdEnd s.1 s.2 = 0 then (acc, 0) else ([], rdEnd s.1 s.2)
def lstRec : Nat → St → List (List UInt8 × List UInt8) → List (List UInt8 × List UInt8) × Int
  | 0, s, acc => finRec s acc
  | k + 1, s, acc => if s.2 = 0 then (if (stT s).2 = 0 then (if (unrec (vT s)).2 = 0 then lstRec k (stT s) (acc ++ [(unrec (vT s)).1]) else ([], (unrec (vT s)).2)) else finRec (stT s) acc) else finRec s acc
def readRec (bs : List UInt8) : List (List UInt8 × List UInt8) × Int := lstRec (vN (bs, 0)).toNat (stN (bs, 0)) []
def unRecD (args : List AV) (σ : AHeap) (K : AV → AHeap → Prop) : Prop := ∃ (d : Nat) (bs : List UInt8), args = [.slice d 0 bs.length none 1] ∧ hget σ d = some (bs.map byteAV) ∧ K (ansRec (unrec bs)) (hkill σ d)
theorem unRecD_ok (args : List AV) (σ : AHeap) (K : AV → AHeap → Prop) (h : unRecD args σ K) : Tri Try.prog 85 args σ K := by
  obtain ⟨d, bs, rfl, hd, h⟩ := h
  exact (give_bytes hd (unrecord_ok bs)).mono fun r σ' hr => by rw [hr.1, hr.2]; exact h
def HRec : PCall := rowQ 85 unRecD (rowQ 27 numRD (rowQ 60 textRD (rowQ 28 endRD noCall)))
theorem HRec_app {f : FuncId} {args : List AV} {σ : AHeap} {K : AV → AHeap → Prop} : HRec f args σ K = rowQ 85 unRecD (rowQ 27 numRD (rowQ 60 textRD (rowQ 28 endRD noCall))) f args σ K := _root_.id rfl
theorem HRec_sound : Sound Try.prog HRec := rowQ_sound unRecD_ok (rowQ_sound numRD_ok (rowQ_sound textRD_ok (rowQ_sound endRD_ok (noCall_sound _))))
def rlRec (T : List (List UInt8 × List UInt8) × Int) (n : Nat) (e : Env) (σ : AHeap) : Prop :=
  ∃ (s : St) (m : Nat) (Lv : AV) (l : List (List UInt8 × List UInt8)), RdS σ 0 s.1 s.2 ∧ Grow σ Lv 2 (l.map recC) ∧ LvD Lv ≠ some 0 ∧ m + l.length ≤ 500000000 ∧ n = m ∧ lstRec m s l = T ∧ e 1 = .func 85 [] ∧ e 6 = .ptr 0 0 ∧ e 7 = Lv ∧ e 8 = .int .i64 (m : Int)
def LstRecQ (T : List (List UInt8 × List UInt8) × Int) (r : AV) (σ : AHeap) : Prop := ∃ Lv, Grow σ Lv 2 (T.1.map recC) ∧ r = .tuple [Lv, .int .i64 T.2]
theorem rlStepRec (T : List (List UInt8 × List UInt8) × Int) (Q : AV → AHeap → Prop) (hQ : ∀ r σ, LstRecQ T r σ → Q r σ) (n : Nat) (e : Env) (σ : AHeap) (h : rlRec T n e σ) :
    sC HRec 0 b84_30 (unw HRec 0 (loopR HRec 0 (RetQ [MRes.t 4, MRes.t 5] Q) (.block 0 (.seq b84_43 .fin)) (rlRec T) n) .fin) e σ := by
  obtain ⟨s, m, Lv, l, hr0, hLv, d0, hmk, hn, hT, e1, e6, e7, e8⟩ := h
  have go : ∀ (s : St) (e' : Env) (σ : AHeap), RdS σ 0 s.1 s.2 → Grow σ Lv 2 (l.map recC) → finRec s l = T → e' 6 = .ptr 0 0 → e' 7 = Lv → sC HRec 0 b84_43 (unw HRec 0 (RetQ [MRes.t 4, MRes.t 5] Q) .fin) e' σ := by
    intro s e' σ hr hv hT k6 k7
    have lc := grow_cell hv
    simp only [HRec_app, Z84, x84_40, x84_43, base1, ↓reduceIte, Nat.reduceAdd, Nat.reduceSub, Nat.reduceMul, Nat.reduceEqDiff, Nat.reduceLeDiff, Nat.reduceLT, Int.reduceLT, Int.reduceLE, Int.reduceEq, Int.reduceNe, Int.reduceToNat, Int.reduceAdd, Int.reduceSub, reduceCtorEq, Nat.reduceBEq, Nat.reduceBNe, k6, k7]
    refine ⟨0, s.1, s.2, rfl, hr, fun σ1 f1 => ?_⟩
    have v1 := grow_frame hv (τ := σ1) fun j c hj hd => f1 j c hj (fun e => d0 (by rw [hd, e]))
    unfold finRec at hT
    generalize rdEnd s.1 s.2 = E at hT ⊢
    by_cases hE : E = 0
    · subst hE
      rw [if_pos rfl] at hT
      subst hT
      simp only [HRec_app, Z84, x84_40, x84_43, base1, ↓reduceIte, Nat.reduceAdd, Nat.reduceSub, Nat.reduceMul, Nat.reduceEqDiff, Nat.reduceLeDiff, Nat.reduceLT, Int.reduceLT, Int.reduceLE, Int.reduceEq, Int.reduceNe, Int.reduceToNat, Int.reduceAdd, Int.reduceSub, reduceCtorEq, Nat.reduceBEq, Nat.reduceBNe, k6, k7, lc]
      exact hQ _ _ ⟨Lv, v1, rfl⟩
    · rw [if_neg hE] at hT
      subst hT
      simp only [HRec_app, Z84, x84_40, x84_43, base1, ↓reduceIte, Nat.reduceAdd, Nat.reduceSub, Nat.reduceMul, Nat.reduceEqDiff, Nat.reduceLeDiff, Nat.reduceLT, Int.reduceLT, Int.reduceLE, Int.reduceEq, Int.reduceNe, Int.reduceToNat, Int.reduceAdd, Int.reduceSub, reduceCtorEq, Nat.reduceBEq, Nat.reduceBNe, k6, k7, lc, hE]
      exact hQ _ _ ⟨.nilslice, .inl ⟨rfl, rfl⟩, rfl⟩
  have lc := grow_cell hLv
  cases m with
  | zero =>
    obtain ⟨f, nn, hr⟩ := hr0
    simp only [HRec_app, Z84, base1, ↓reduceIte, Nat.reduceAdd, Nat.reduceSub, Nat.reduceMul, Nat.reduceEqDiff, Nat.reduceLeDiff, Nat.reduceLT, Int.reduceLT, Int.reduceLE, Int.reduceEq, Int.reduceNe, Int.reduceToNat, Int.reduceAdd, Int.reduceSub, reduceCtorEq, Nat.reduceBEq, Nat.reduceBNe, loopR_exit, loopR_ret, e1, e6, e7, e8, cast_zero]
    exact go s _ _ ⟨f, nn, hr⟩ hLv hT e6 e7
  | succ m =>
    have hpos : (0 : Int) < ((m + 1 : Nat) : Int) := by omega
    by_cases hs : s.2 = 0
    · have hw : IntKind.wrap .i64 (((m + 1 : Nat) : Int) - 1) = (m : Int) := by rw [Gz.wrap64 (by omega)]; omega
      simp only [lstRec, hs, if_true] at hT
      obtain ⟨f, nn, hr⟩ := hr0
      simp only [HRec_app, Z84, x84_40, base1, ↓reduceIte, Nat.reduceAdd, Nat.reduceSub, Nat.reduceMul, Nat.reduceEqDiff, Nat.reduceLeDiff, Nat.reduceLT, Int.reduceLT, Int.reduceLE, Int.reduceEq, Int.reduceNe, Int.reduceToNat, Int.reduceAdd, Int.reduceSub, reduceCtorEq, Nat.reduceBEq, Nat.reduceBNe, loopR_exit, loopR_ret, e1, e6, e7, e8, hr, hs, hpos]
      refine ⟨0, s.1, 0, rfl, ⟨f, nn, by rw [hr, hs]⟩, fun σ1 r1 f1 => ?_⟩
      have v1 := grow_frame hLv (τ := σ1) fun j c hj hd => f1 j c hj (fun e => d0 (by rw [hd, e]))
      have hst : stT s = ((rdText s.1 0).2.1, (rdText s.1 0).2.2) := by simp [stT, hs]
      have hvt : vT s = (rdText s.1 0).1 := by simp [vT, hs]
      rw [hst, hvt] at hT
      generalize rdText s.1 0 = w at r1 hT ⊢
      obtain ⟨x, rem, ee⟩ := w
      simp only at r1 hT
      obtain ⟨f', nn', hg1⟩ := r1
      by_cases hee : ee = 0
      · subst hee
        simp only [if_true] at hT
        have hp1 : 0 < σ1.length := hget_lt hg1
        have hpn : hget (hpush σ1 (x.map byteAV)) σ1.length = some (x.map byteAV) := push_new rfl
        simp only [HRec_app, Z84, x84_40, base1, ↓reduceIte, Nat.reduceAdd, Nat.reduceSub, Nat.reduceMul, Nat.reduceEqDiff, Nat.reduceLeDiff, Nat.reduceLT, Int.reduceLT, Int.reduceLE, Int.reduceEq, Int.reduceNe, Int.reduceToNat, Int.reduceAdd, Int.reduceSub, reduceCtorEq, Nat.reduceBEq, Nat.reduceBNe, loopR_exit, loopR_ret, e1, e6, e7, e8, hg1, grown]
        refine ⟨σ1.length, x, rfl, hpn, ?_⟩
        have fk : ∀ j c, hget σ1 j = some c → hget (hkill (hpush σ1 (x.map byteAV)) σ1.length) j = some c := fun j c hj => Fr1.kill (id := σ1.length) j c hj (by have := hget_lt hj; omega)
        have v2 := grow_frame v1 (τ := hkill (hpush σ1 (x.map byteAV)) σ1.length) fun j c hj hd => fk j c hj
        have hg2 := fk _ _ hg1
        generalize hkill (hpush σ1 (x.map byteAV)) σ1.length = σ2 at v2 hg2 ⊢
        have hl2 := hget_lt hg2
        generalize unrec x = w at hT ⊢
        obtain ⟨y, e2⟩ := w
        simp only at hT
        have pn : ∀ c : List AV, hget (hpush σ2 c) σ2.length = some c := fun c => push_new rfl
        have sn : ∀ c c' : List AV, hget (hset (hpush σ2 c) σ2.length c') σ2.length = some c' := fun c c' => set_same (pn c)
        by_cases h3 : e2 = 0
        · subst h3
          simp only [if_true] at hT
          simp only [ansRec, recC]
          generalize hz : ([.str [], .str []] : List AV) = z
          have v3 := grow_frame v2 (τ := hset (hpush σ2 z) σ2.length (recC y)) fun j c hj hd => al_frame hj
          have hg3 : hget (hset (hpush σ2 z) σ2.length (recC y)) 0 = _ := al_frame hg2
          have hs3 : (hset (hpush σ2 z) σ2.length (recC y)).length = σ2.length + 1 := by rw [set_len, push_len]
          obtain ⟨v, τ, a1, a2, a3, a4, a5⟩ := grow_one (b := 32) (by decide) v3 (by simp; omega) (recC y) rfl rfl
          obtain ⟨g0, u0⟩ := a4 0 _ hg3 d0
          rw [hs3] at a1
          simp only [recC] at a1
          subst hz
          simp only [HRec_app, Z84, x84_40, base1, ↓reduceIte, Nat.reduceAdd, Nat.reduceSub, Nat.reduceMul, Nat.reduceEqDiff, Nat.reduceLeDiff, Nat.reduceLT, Int.reduceLT, Int.reduceLE, Int.reduceEq, Int.reduceNe, Int.reduceToNat, Int.reduceAdd, Int.reduceSub, reduceCtorEq, Nat.reduceBEq, Nat.reduceBNe, loopR_exit, loopR_ret, e1, e6, e7, e8, pn, sn, set_len, push_len, a1, a2, a3, hw]
          rw [loopR_normal]
          refine ⟨m, _, _, by omega, .refl _ _ _, (rem, 0), m, v, l ++ [y], ⟨f', nn', g0⟩, by simpa using a5, u0, by simp; omega, rfl, hT, ?_, ?_, ?_, ?_⟩
          all_goals simp only [putD_some, putD_none, Nat.reduceEqDiff, ↓reduceIte, e1, e6, e7, e8, hw]
        · rw [if_neg h3] at hT
          subst hT
          simp only [ansRec, recC, HRec_app, Z84, x84_40, base1, ↓reduceIte, Nat.reduceAdd, Nat.reduceSub, Nat.reduceMul, Nat.reduceEqDiff, Nat.reduceLeDiff, Nat.reduceLT, Int.reduceLT, Int.reduceLE, Int.reduceEq, Int.reduceNe, Int.reduceToNat, Int.reduceAdd, Int.reduceSub, reduceCtorEq, Nat.reduceBEq, Nat.reduceBNe, loopR_exit, loopR_ret, e1, e6, e7, e8, pn, sn, h3]
          exact hQ _ _ ⟨.nilslice, .inl ⟨rfl, rfl⟩, rfl⟩
      · rw [if_neg hee] at hT
        simp only [HRec_app, Z84, x84_40, base1, ↓reduceIte, Nat.reduceAdd, Nat.reduceSub, Nat.reduceMul, Nat.reduceEqDiff, Nat.reduceLeDiff, Nat.reduceLT, Int.reduceLT, Int.reduceLE, Int.reduceEq, Int.reduceNe, Int.reduceToNat, Int.reduceAdd, Int.reduceSub, reduceCtorEq, Nat.reduceBEq, Nat.reduceBNe, loopR_exit, loopR_ret, e1, e6, e7, e8, hg1, hee]
        exact go (rem, ee) _ _ ⟨f', nn', hg1⟩ v1 hT (by simp only [putD_some, putD_none, Nat.reduceEqDiff, ↓reduceIte, e6]) (by simp only [putD_some, putD_none, Nat.reduceEqDiff, ↓reduceIte, e7])
    · simp only [lstRec, if_neg hs] at hT
      obtain ⟨f, nn, hr⟩ := hr0
      simp only [HRec_app, Z84, x84_40, base1, ↓reduceIte, Nat.reduceAdd, Nat.reduceSub, Nat.reduceMul, Nat.reduceEqDiff, Nat.reduceLeDiff, Nat.reduceLT, Int.reduceLT, Int.reduceLE, Int.reduceEq, Int.reduceNe, Int.reduceToNat, Int.reduceAdd, Int.reduceSub, reduceCtorEq, Nat.reduceBEq, Nat.reduceBNe, loopR_exit, loopR_ret, e1, e6, e7, e8, hr, hs, hpos]
      exact go s _ _ ⟨f, nn, hr⟩ hLv hT e6 e7
theorem rowsRec_pure (l : List (List UInt8 × List UInt8)) : pureLL (l.map recC) = true := pureLL_of fun r hr => by
  obtain ⟨x, _, rfl⟩ := List.mem_map.1 hr
  rfl
def ansLRec (p : List (List UInt8 × List UInt8) × Int) : AV := .tuple [.imm (p.1.map recC) false false, .int .i64 p.2]
theorem ansLRec_pure (p : List (List UInt8 × List UInt8) × Int) : (ansLRec p).pure = true := by simp only [ansLRec, AV.pure, pureL, rowsRec_pure, Bool.and_self]
theorem readRec_ok (bs : List UInt8) : Tri Try.prog 84 [.imm (rws bs) false false, .func 85 []] [] fun r _ => r.pure = true ∧ r = ansLRec (readRec bs) := by
  refine Tri.frozen (Q := LstRecQ (readRec bs)) (Tri.of_s c84 HRec_sound ?_) (fun r σ hr => ?_)
  · generalize hK : LstRecQ (readRec bs) = K
    have hK : ∀ r σ, LstRecQ (readRec bs) r σ → K r σ := by intro r σ h; rw [← hK]; exact h
    simp only [HRec_app, Z84, x84_40, x84_43, base1, baseE, ↓reduceIte, Nat.reduceAdd, Nat.reduceSub, Nat.reduceMul, Nat.reduceEqDiff, Nat.reduceLeDiff, Nat.reduceLT, Int.reduceLT, Int.reduceLE, Int.reduceEq, Int.reduceNe, Int.reduceToNat, Int.reduceAdd, Int.reduceSub, reduceCtorEq, Nat.reduceBEq, Nat.reduceBNe, rws_len]
    refine ⟨0, bs, 0, rfl, ⟨false, false, rfl⟩, fun σ1 r1 f1 => ?_⟩
    have hnn := rdNum_nonneg bs 0
    have hle := rdNum_le bs 0
    have r1 : RdS σ1 0 (stN (bs, 0)).1 (stN (bs, 0)).2 := r1
    unfold readRec vN at hK
    simp only at hK
    generalize stN (bs, 0) = s1 at r1 hK ⊢
    generalize (rdNum bs 0).1 = m at hnn hle hK ⊢
    obtain ⟨m, rfl⟩ : ∃ k : Nat, m = (k : Int) := ⟨m.toNat, by omega⟩
    rw [Int.toNat_natCast] at hK
    simp only [HRec_app, Z84, x84_40, x84_43, base1, baseE, ↓reduceIte, Nat.reduceAdd, Nat.reduceSub, Nat.reduceMul, Nat.reduceEqDiff, Nat.reduceLeDiff, Nat.reduceLT, Int.reduceLT, Int.reduceLE, Int.reduceEq, Int.reduceNe, Int.reduceToNat, Int.reduceAdd, Int.reduceSub, reduceCtorEq, Nat.reduceBEq, Nat.reduceBNe]
    exact sC_inv (a := b84_30) (rlRec (lstRec m s1 [])) m _ _ (.refl _ _ _) ⟨s1, m, .nilslice, [], r1, .inl ⟨rfl, rfl⟩, by simp [LvD], by simp; omega, rfl, rfl, rfl, rfl, rfl, rfl⟩ (rlStepRec (lstRec m s1 []) _ fun r σ h => hK r σ h)
  · obtain ⟨Lv, hg, rfl⟩ := hr
    refine ⟨ansLRec (readRec bs), .tuple rfl (fun i x y hx hy => ?_), ansLRec_pure _, rfl⟩
    match i with
    | 0 => simp at hx hy; subst hx; subst hy; exact grow_frz hg (rowsRec_pure _)
    | 1 => simp at hx hy; subst hx; subst hy; exact .pure rfl
    | n + 2 => simp at hx
def finSh (s : St) (acc : List (ShV)) : List (ShV) × Int := if rdEnd s.1 s.2 = 0 then (acc, 0) else ([], rdEnd s.1 s.2)
def lstSh : Nat → St → List (ShV) → List (ShV) × Int
  | 0, s, acc => finSh s acc
  | k + 1, s, acc => if s.2 = 0 then (if (stT s).2 = 0 then (if (unsh (vT s)).2 = 0 then lstSh k (stT s) (acc ++ [(unsh (vT s)).1]) else ([], (unsh (vT s)).2)) else finSh (stT s) acc) else finSh s acc
def readSh (bs : List UInt8) : List (ShV) × Int := lstSh (vN (bs, 0)).toNat (stN (bs, 0)) []
def unShD (args : List AV) (σ : AHeap) (K : AV → AHeap → Prop) : Prop := ∃ (d : Nat) (bs : List UInt8), args = [.slice d 0 bs.length none 1] ∧ hget σ d = some (bs.map byteAV) ∧ K (ansSh (unsh bs)) (hkill σ d)
theorem unShD_ok (args : List AV) (σ : AHeap) (K : AV → AHeap → Prop) (h : unShD args σ K) : Tri Try.prog 83 args σ K := by
  obtain ⟨d, bs, rfl, hd, h⟩ := h
  exact (give_bytes hd (unshard_ok bs)).mono fun r σ' hr => by rw [hr.1, hr.2]; exact h
def HSh : PCall := rowQ 83 unShD (rowQ 27 numRD (rowQ 60 textRD (rowQ 28 endRD noCall)))
theorem HSh_app {f : FuncId} {args : List AV} {σ : AHeap} {K : AV → AHeap → Prop} : HSh f args σ K = rowQ 83 unShD (rowQ 27 numRD (rowQ 60 textRD (rowQ 28 endRD noCall))) f args σ K := _root_.id rfl
theorem HSh_sound : Sound Try.prog HSh := rowQ_sound unShD_ok (rowQ_sound numRD_ok (rowQ_sound textRD_ok (rowQ_sound endRD_ok (noCall_sound _))))
def rlSh (T : List (ShV) × Int) (n : Nat) (e : Env) (σ : AHeap) : Prop :=
  ∃ (s : St) (m : Nat) (Lv : AV) (l : List (ShV)), RdS σ 0 s.1 s.2 ∧ Grow σ Lv 4 (l.map ShV.cells) ∧ LvD Lv ≠ some 0 ∧ m + l.length ≤ 500000000 ∧ n = m ∧ lstSh m s l = T ∧ e 1 = .func 83 [] ∧ e 6 = .ptr 0 0 ∧ e 7 = Lv ∧ e 8 = .int .i64 (m : Int)
def LstShQ (T : List (ShV) × Int) (r : AV) (σ : AHeap) : Prop := ∃ Lv, Grow σ Lv 4 (T.1.map ShV.cells) ∧ r = .tuple [Lv, .int .i64 T.2]
theorem rlStepSh (T : List (ShV) × Int) (Q : AV → AHeap → Prop) (hQ : ∀ r σ, LstShQ T r σ → Q r σ) (n : Nat) (e : Env) (σ : AHeap) (h : rlSh T n e σ) :
    sC HSh 0 b82_30 (unw HSh 0 (loopR HSh 0 (RetQ [MRes.t 4, MRes.t 5] Q) (.block 0 (.seq b82_43 .fin)) (rlSh T) n) .fin) e σ := by
  obtain ⟨s, m, Lv, l, hr0, hLv, d0, hmk, hn, hT, e1, e6, e7, e8⟩ := h
  have go : ∀ (s : St) (e' : Env) (σ : AHeap), RdS σ 0 s.1 s.2 → Grow σ Lv 4 (l.map ShV.cells) → finSh s l = T → e' 6 = .ptr 0 0 → e' 7 = Lv → sC HSh 0 b82_43 (unw HSh 0 (RetQ [MRes.t 4, MRes.t 5] Q) .fin) e' σ := by
    intro s e' σ hr hv hT k6 k7
    have lc := grow_cell hv
    simp only [HSh_app, Z82, x82_40, x82_43, base1, ↓reduceIte, Nat.reduceAdd, Nat.reduceSub, Nat.reduceMul, Nat.reduceEqDiff, Nat.reduceLeDiff, Nat.reduceLT, Int.reduceLT, Int.reduceLE, Int.reduceEq, Int.reduceNe, Int.reduceToNat, Int.reduceAdd, Int.reduceSub, reduceCtorEq, Nat.reduceBEq, Nat.reduceBNe, k6, k7]
    refine ⟨0, s.1, s.2, rfl, hr, fun σ1 f1 => ?_⟩
    have v1 := grow_frame hv (τ := σ1) fun j c hj hd => f1 j c hj (fun e => d0 (by rw [hd, e]))
    unfold finSh at hT
    generalize rdEnd s.1 s.2 = E at hT ⊢
    by_cases hE : E = 0
    · subst hE
      rw [if_pos rfl] at hT
      subst hT
      simp only [HSh_app, Z82, x82_40, x82_43, base1, ↓reduceIte, Nat.reduceAdd, Nat.reduceSub, Nat.reduceMul, Nat.reduceEqDiff, Nat.reduceLeDiff, Nat.reduceLT, Int.reduceLT, Int.reduceLE, Int.reduceEq, Int.reduceNe, Int.reduceToNat, Int.reduceAdd, Int.reduceSub, reduceCtorEq, Nat.reduceBEq, Nat.reduceBNe, k6, k7, lc]
      exact hQ _ _ ⟨Lv, v1, rfl⟩
    · rw [if_neg hE] at hT
      subst hT
      simp only [HSh_app, Z82, x82_40, x82_43, base1, ↓reduceIte, Nat.reduceAdd, Nat.reduceSub, Nat.reduceMul, Nat.reduceEqDiff, Nat.reduceLeDiff, Nat.reduceLT, Int.reduceLT, Int.reduceLE, Int.reduceEq, Int.reduceNe, Int.reduceToNat, Int.reduceAdd, Int.reduceSub, reduceCtorEq, Nat.reduceBEq, Nat.reduceBNe, k6, k7, lc, hE]
      exact hQ _ _ ⟨.nilslice, .inl ⟨rfl, rfl⟩, rfl⟩
  have lc := grow_cell hLv
  cases m with
  | zero =>
    obtain ⟨f, nn, hr⟩ := hr0
    simp only [HSh_app, Z82, base1, ↓reduceIte, Nat.reduceAdd, Nat.reduceSub, Nat.reduceMul, Nat.reduceEqDiff, Nat.reduceLeDiff, Nat.reduceLT, Int.reduceLT, Int.reduceLE, Int.reduceEq, Int.reduceNe, Int.reduceToNat, Int.reduceAdd, Int.reduceSub, reduceCtorEq, Nat.reduceBEq, Nat.reduceBNe, loopR_exit, loopR_ret, e1, e6, e7, e8, cast_zero]
    exact go s _ _ ⟨f, nn, hr⟩ hLv hT e6 e7
  | succ m =>
    have hpos : (0 : Int) < ((m + 1 : Nat) : Int) := by omega
    by_cases hs : s.2 = 0
    · have hw : IntKind.wrap .i64 (((m + 1 : Nat) : Int) - 1) = (m : Int) := by rw [Gz.wrap64 (by omega)]; omega
      simp only [lstSh, hs, if_true] at hT
      obtain ⟨f, nn, hr⟩ := hr0
      simp only [HSh_app, Z82, x82_40, base1, ↓reduceIte, Nat.reduceAdd, Nat.reduceSub, Nat.reduceMul, Nat.reduceEqDiff, Nat.reduceLeDiff, Nat.reduceLT, Int.reduceLT, Int.reduceLE, Int.reduceEq, Int.reduceNe, Int.reduceToNat, Int.reduceAdd, Int.reduceSub, reduceCtorEq, Nat.reduceBEq, Nat.reduceBNe, loopR_exit, loopR_ret, e1, e6, e7, e8, hr, hs, hpos]
      refine ⟨0, s.1, 0, rfl, ⟨f, nn, by rw [hr, hs]⟩, fun σ1 r1 f1 => ?_⟩
      have v1 := grow_frame hLv (τ := σ1) fun j c hj hd => f1 j c hj (fun e => d0 (by rw [hd, e]))
      have hst : stT s = ((rdText s.1 0).2.1, (rdText s.1 0).2.2) := by simp [stT, hs]
      have hvt : vT s = (rdText s.1 0).1 := by simp [vT, hs]
      rw [hst, hvt] at hT
      generalize rdText s.1 0 = w at r1 hT ⊢
      obtain ⟨x, rem, ee⟩ := w
      simp only at r1 hT
      obtain ⟨f', nn', hg1⟩ := r1
      by_cases hee : ee = 0
      · subst hee
        simp only [if_true] at hT
        have hp1 : 0 < σ1.length := hget_lt hg1
        have hpn : hget (hpush σ1 (x.map byteAV)) σ1.length = some (x.map byteAV) := push_new rfl
        simp only [HSh_app, Z82, x82_40, base1, ↓reduceIte, Nat.reduceAdd, Nat.reduceSub, Nat.reduceMul, Nat.reduceEqDiff, Nat.reduceLeDiff, Nat.reduceLT, Int.reduceLT, Int.reduceLE, Int.reduceEq, Int.reduceNe, Int.reduceToNat, Int.reduceAdd, Int.reduceSub, reduceCtorEq, Nat.reduceBEq, Nat.reduceBNe, loopR_exit, loopR_ret, e1, e6, e7, e8, hg1, grown]
        refine ⟨σ1.length, x, rfl, hpn, ?_⟩
        have fk : ∀ j c, hget σ1 j = some c → hget (hkill (hpush σ1 (x.map byteAV)) σ1.length) j = some c := fun j c hj => Fr1.kill (id := σ1.length) j c hj (by have := hget_lt hj; omega)
        have v2 := grow_frame v1 (τ := hkill (hpush σ1 (x.map byteAV)) σ1.length) fun j c hj hd => fk j c hj
        have hg2 := fk _ _ hg1
        generalize hkill (hpush σ1 (x.map byteAV)) σ1.length = σ2 at v2 hg2 ⊢
        have hl2 := hget_lt hg2
        generalize unsh x = w at hT ⊢
        obtain ⟨y, e2⟩ := w
        simp only at hT
        have pn : ∀ c : List AV, hget (hpush σ2 c) σ2.length = some c := fun c => push_new rfl
        have sn : ∀ c c' : List AV, hget (hset (hpush σ2 c) σ2.length c') σ2.length = some c' := fun c c' => set_same (pn c)
        by_cases h3 : e2 = 0
        · subst h3
          simp only [if_true] at hT
          simp only [ansSh, ShV.cells]
          generalize hz : ([.str [], .str [], .int .i64 0, .int .i64 0] : List AV) = z
          have v3 := grow_frame v2 (τ := hset (hpush σ2 z) σ2.length (ShV.cells y)) fun j c hj hd => al_frame hj
          have hg3 : hget (hset (hpush σ2 z) σ2.length (ShV.cells y)) 0 = _ := al_frame hg2
          have hs3 : (hset (hpush σ2 z) σ2.length (ShV.cells y)).length = σ2.length + 1 := by rw [set_len, push_len]
          obtain ⟨v, τ, a1, a2, a3, a4, a5⟩ := grow_one (b := 48) (by decide) v3 (by simp; omega) (ShV.cells y) rfl rfl
          obtain ⟨g0, u0⟩ := a4 0 _ hg3 d0
          rw [hs3] at a1
          simp only [ShV.cells] at a1
          subst hz
          simp only [HSh_app, Z82, x82_40, base1, ↓reduceIte, Nat.reduceAdd, Nat.reduceSub, Nat.reduceMul, Nat.reduceEqDiff, Nat.reduceLeDiff, Nat.reduceLT, Int.reduceLT, Int.reduceLE, Int.reduceEq, Int.reduceNe, Int.reduceToNat, Int.reduceAdd, Int.reduceSub, reduceCtorEq, Nat.reduceBEq, Nat.reduceBNe, loopR_exit, loopR_ret, e1, e6, e7, e8, pn, sn, set_len, push_len, a1, a2, a3, hw]
          rw [loopR_normal]
          refine ⟨m, _, _, by omega, .refl _ _ _, (rem, 0), m, v, l ++ [y], ⟨f', nn', g0⟩, by simpa using a5, u0, by simp; omega, rfl, hT, ?_, ?_, ?_, ?_⟩
          all_goals simp only [putD_some, putD_none, Nat.reduceEqDiff, ↓reduceIte, e1, e6, e7, e8, hw]
        · rw [if_neg h3] at hT
          subst hT
          simp only [ansSh, ShV.cells, HSh_app, Z82, x82_40, base1, ↓reduceIte, Nat.reduceAdd, Nat.reduceSub, Nat.reduceMul, Nat.reduceEqDiff, Nat.reduceLeDiff, Nat.reduceLT, Int.reduceLT, Int.reduceLE, Int.reduceEq, Int.reduceNe, Int.reduceToNat, Int.reduceAdd, Int.reduceSub, reduceCtorEq, Nat.reduceBEq, Nat.reduceBNe, loopR_exit, loopR_ret, e1, e6, e7, e8, pn, sn, h3]
          exact hQ _ _ ⟨.nilslice, .inl ⟨rfl, rfl⟩, rfl⟩
      · rw [if_neg hee] at hT
        simp only [HSh_app, Z82, x82_40, base1, ↓reduceIte, Nat.reduceAdd, Nat.reduceSub, Nat.reduceMul, Nat.reduceEqDiff, Nat.reduceLeDiff, Nat.reduceLT, Int.reduceLT, Int.reduceLE, Int.reduceEq, Int.reduceNe, Int.reduceToNat, Int.reduceAdd, Int.reduceSub, reduceCtorEq, Nat.reduceBEq, Nat.reduceBNe, loopR_exit, loopR_ret, e1, e6, e7, e8, hg1, hee]
        exact go (rem, ee) _ _ ⟨f', nn', hg1⟩ v1 hT (by simp only [putD_some, putD_none, Nat.reduceEqDiff, ↓reduceIte, e6]) (by simp only [putD_some, putD_none, Nat.reduceEqDiff, ↓reduceIte, e7])
    · simp only [lstSh, if_neg hs] at hT
      obtain ⟨f, nn, hr⟩ := hr0
      simp only [HSh_app, Z82, x82_40, base1, ↓reduceIte, Nat.reduceAdd, Nat.reduceSub, Nat.reduceMul, Nat.reduceEqDiff, Nat.reduceLeDiff, Nat.reduceLT, Int.reduceLT, Int.reduceLE, Int.reduceEq, Int.reduceNe, Int.reduceToNat, Int.reduceAdd, Int.reduceSub, reduceCtorEq, Nat.reduceBEq, Nat.reduceBNe, loopR_exit, loopR_ret, e1, e6, e7, e8, hr, hs, hpos]
      exact go s _ _ ⟨f, nn, hr⟩ hLv hT e6 e7
theorem rowsSh_pure (l : List (ShV)) : pureLL (l.map ShV.cells) = true := pureLL_of fun r hr => by
  obtain ⟨x, _, rfl⟩ := List.mem_map.1 hr
  rfl
def ansLSh (p : List (ShV) × Int) : AV := .tuple [.imm (p.1.map ShV.cells) false false, .int .i64 p.2]
theorem ansLSh_pure (p : List (ShV) × Int) : (ansLSh p).pure = true := by simp only [ansLSh, AV.pure, pureL, rowsSh_pure, Bool.and_self]
theorem readSh_ok (bs : List UInt8) : Tri Try.prog 82 [.imm (rws bs) false false, .func 83 []] [] fun r _ => r.pure = true ∧ r = ansLSh (readSh bs) := by
  refine Tri.frozen (Q := LstShQ (readSh bs)) (Tri.of_s c82 HSh_sound ?_) (fun r σ hr => ?_)
  · generalize hK : LstShQ (readSh bs) = K
    have hK : ∀ r σ, LstShQ (readSh bs) r σ → K r σ := by intro r σ h; rw [← hK]; exact h
    simp only [HSh_app, Z82, x82_40, x82_43, base1, baseE, ↓reduceIte, Nat.reduceAdd, Nat.reduceSub, Nat.reduceMul, Nat.reduceEqDiff, Nat.reduceLeDiff, Nat.reduceLT, Int.reduceLT, Int.reduceLE, Int.reduceEq, Int.reduceNe, Int.reduceToNat, Int.reduceAdd, Int.reduceSub, reduceCtorEq, Nat.reduceBEq, Nat.reduceBNe, rws_len]
    refine ⟨0, bs, 0, rfl, ⟨false, false, rfl⟩, fun σ1 r1 f1 => ?_⟩
    have hnn := rdNum_nonneg bs 0
    have hle := rdNum_le bs 0
    have r1 : RdS σ1 0 (stN (bs, 0)).1 (stN (bs, 0)).2 := r1
    unfold readSh vN at hK
    simp only at hK
    generalize stN (bs, 0) = s1 at r1 hK ⊢
    generalize (rdNum bs 0).1 = m at hnn hle hK ⊢
    obtain ⟨m, rfl⟩ : ∃ k : Nat, m = (k : Int) := ⟨m.toNat, by omega⟩
    rw [Int.toNat_natCast] at hK
    simp only [HSh_app, Z82, x82_40, x82_43, base1, baseE, ↓reduceIte, Nat.reduceAdd, Nat.reduceSub, Nat.reduceMul, Nat.reduceEqDiff, Nat.reduceLeDiff, Nat.reduceLT, Int.reduceLT, Int.reduceLE, Int.reduceEq, Int.reduceNe, Int.reduceToNat, Int.reduceAdd, Int.reduceSub, reduceCtorEq, Nat.reduceBEq, Nat.reduceBNe]
    exact sC_inv (a := b82_30) (rlSh (lstSh m s1 [])) m _ _ (.refl _ _ _) ⟨s1, m, .nilslice, [], r1, .inl ⟨rfl, rfl⟩, by simp [LvD], by simp; omega, rfl, rfl, rfl, rfl, rfl, rfl⟩ (rlStepSh (lstSh m s1 []) _ fun r σ h => hK r σ h)
  · obtain ⟨Lv, hg, rfl⟩ := hr
    refine ⟨ansLSh (readSh bs), .tuple rfl (fun i x y hx hy => ?_), ansLSh_pure _, rfl⟩
    match i with
    | 0 => simp at hx hy; subst hx; subst hy; exact grow_frz hg (rowsSh_pure _)
    | 1 => simp at hx hy; subst hx; subst hy; exact .pure rfl
    | n + 2 => simp at hx
def finLa (s : St) (acc : List (LaV)) : List (LaV) × Int := if rdEnd s.1 s.2 = 0 then (acc, 0) else ([], rdEnd s.1 s.2)
def lstLa : Nat → St → List (LaV) → List (LaV) × Int
  | 0, s, acc => finLa s acc
  | k + 1, s, acc => if s.2 = 0 then (if (stT s).2 = 0 then (if (unla (vT s)).2 = 0 then lstLa k (stT s) (acc ++ [(unla (vT s)).1]) else ([], (unla (vT s)).2)) else finLa (stT s) acc) else finLa s acc
def readLa (bs : List UInt8) : List (LaV) × Int := lstLa (vN (bs, 0)).toNat (stN (bs, 0)) []
def unLaD (args : List AV) (σ : AHeap) (K : AV → AHeap → Prop) : Prop := ∃ (d : Nat) (bs : List UInt8), args = [.slice d 0 bs.length none 1] ∧ hget σ d = some (bs.map byteAV) ∧ K (ansLa (unla bs)) (hkill σ d)
theorem unLaD_ok (args : List AV) (σ : AHeap) (K : AV → AHeap → Prop) (h : unLaD args σ K) : Tri Try.prog 87 args σ K := by
  obtain ⟨d, bs, rfl, hd, h⟩ := h
  exact (give_bytes hd (unlast_ok bs)).mono fun r σ' hr => by rw [hr.1, hr.2]; exact h
def HLa : PCall := rowQ 87 unLaD (rowQ 27 numRD (rowQ 60 textRD (rowQ 28 endRD noCall)))
theorem HLa_app {f : FuncId} {args : List AV} {σ : AHeap} {K : AV → AHeap → Prop} : HLa f args σ K = rowQ 87 unLaD (rowQ 27 numRD (rowQ 60 textRD (rowQ 28 endRD noCall))) f args σ K := _root_.id rfl
theorem HLa_sound : Sound Try.prog HLa := rowQ_sound unLaD_ok (rowQ_sound numRD_ok (rowQ_sound textRD_ok (rowQ_sound endRD_ok (noCall_sound _))))
def rlLa (T : List (LaV) × Int) (n : Nat) (e : Env) (σ : AHeap) : Prop :=
  ∃ (s : St) (m : Nat) (Lv : AV) (l : List (LaV)), RdS σ 0 s.1 s.2 ∧ Grow σ Lv 9 (l.map LaV.cells) ∧ LvD Lv ≠ some 0 ∧ m + l.length ≤ 500000000 ∧ n = m ∧ lstLa m s l = T ∧ e 1 = .func 87 [] ∧ e 6 = .ptr 0 0 ∧ e 7 = Lv ∧ e 8 = .int .i64 (m : Int)
def LstLaQ (T : List (LaV) × Int) (r : AV) (σ : AHeap) : Prop := ∃ Lv, Grow σ Lv 9 (T.1.map LaV.cells) ∧ r = .tuple [Lv, .int .i64 T.2]
theorem rlStepLa (T : List (LaV) × Int) (Q : AV → AHeap → Prop) (hQ : ∀ r σ, LstLaQ T r σ → Q r σ) (n : Nat) (e : Env) (σ : AHeap) (h : rlLa T n e σ) :
    sC HLa 0 b86_30 (unw HLa 0 (loopR HLa 0 (RetQ [MRes.t 4, MRes.t 5] Q) (.block 0 (.seq b86_43 .fin)) (rlLa T) n) .fin) e σ := by
  obtain ⟨s, m, Lv, l, hr0, hLv, d0, hmk, hn, hT, e1, e6, e7, e8⟩ := h
  have go : ∀ (s : St) (e' : Env) (σ : AHeap), RdS σ 0 s.1 s.2 → Grow σ Lv 9 (l.map LaV.cells) → finLa s l = T → e' 6 = .ptr 0 0 → e' 7 = Lv → sC HLa 0 b86_43 (unw HLa 0 (RetQ [MRes.t 4, MRes.t 5] Q) .fin) e' σ := by
    intro s e' σ hr hv hT k6 k7
    have lc := grow_cell hv
    simp only [HLa_app, Z86, x86_40, x86_43, base1, ↓reduceIte, Nat.reduceAdd, Nat.reduceSub, Nat.reduceMul, Nat.reduceEqDiff, Nat.reduceLeDiff, Nat.reduceLT, Int.reduceLT, Int.reduceLE, Int.reduceEq, Int.reduceNe, Int.reduceToNat, Int.reduceAdd, Int.reduceSub, reduceCtorEq, Nat.reduceBEq, Nat.reduceBNe, k6, k7]
    refine ⟨0, s.1, s.2, rfl, hr, fun σ1 f1 => ?_⟩
    have v1 := grow_frame hv (τ := σ1) fun j c hj hd => f1 j c hj (fun e => d0 (by rw [hd, e]))
    unfold finLa at hT
    generalize rdEnd s.1 s.2 = E at hT ⊢
    by_cases hE : E = 0
    · subst hE
      rw [if_pos rfl] at hT
      subst hT
      simp only [HLa_app, Z86, x86_40, x86_43, base1, ↓reduceIte, Nat.reduceAdd, Nat.reduceSub, Nat.reduceMul, Nat.reduceEqDiff, Nat.reduceLeDiff, Nat.reduceLT, Int.reduceLT, Int.reduceLE, Int.reduceEq, Int.reduceNe, Int.reduceToNat, Int.reduceAdd, Int.reduceSub, reduceCtorEq, Nat.reduceBEq, Nat.reduceBNe, k6, k7, lc]
      exact hQ _ _ ⟨Lv, v1, rfl⟩
    · rw [if_neg hE] at hT
      subst hT
      simp only [HLa_app, Z86, x86_40, x86_43, base1, ↓reduceIte, Nat.reduceAdd, Nat.reduceSub, Nat.reduceMul, Nat.reduceEqDiff, Nat.reduceLeDiff, Nat.reduceLT, Int.reduceLT, Int.reduceLE, Int.reduceEq, Int.reduceNe, Int.reduceToNat, Int.reduceAdd, Int.reduceSub, reduceCtorEq, Nat.reduceBEq, Nat.reduceBNe, k6, k7, lc, hE]
      exact hQ _ _ ⟨.nilslice, .inl ⟨rfl, rfl⟩, rfl⟩
  have lc := grow_cell hLv
  cases m with
  | zero =>
    obtain ⟨f, nn, hr⟩ := hr0
    simp only [HLa_app, Z86, base1, ↓reduceIte, Nat.reduceAdd, Nat.reduceSub, Nat.reduceMul, Nat.reduceEqDiff, Nat.reduceLeDiff, Nat.reduceLT, Int.reduceLT, Int.reduceLE, Int.reduceEq, Int.reduceNe, Int.reduceToNat, Int.reduceAdd, Int.reduceSub, reduceCtorEq, Nat.reduceBEq, Nat.reduceBNe, loopR_exit, loopR_ret, e1, e6, e7, e8, cast_zero]
    exact go s _ _ ⟨f, nn, hr⟩ hLv hT e6 e7
  | succ m =>
    have hpos : (0 : Int) < ((m + 1 : Nat) : Int) := by omega
    by_cases hs : s.2 = 0
    · have hw : IntKind.wrap .i64 (((m + 1 : Nat) : Int) - 1) = (m : Int) := by rw [Gz.wrap64 (by omega)]; omega
      simp only [lstLa, hs, if_true] at hT
      obtain ⟨f, nn, hr⟩ := hr0
      simp only [HLa_app, Z86, x86_40, base1, ↓reduceIte, Nat.reduceAdd, Nat.reduceSub, Nat.reduceMul, Nat.reduceEqDiff, Nat.reduceLeDiff, Nat.reduceLT, Int.reduceLT, Int.reduceLE, Int.reduceEq, Int.reduceNe, Int.reduceToNat, Int.reduceAdd, Int.reduceSub, reduceCtorEq, Nat.reduceBEq, Nat.reduceBNe, loopR_exit, loopR_ret, e1, e6, e7, e8, hr, hs, hpos]
      refine ⟨0, s.1, 0, rfl, ⟨f, nn, by rw [hr, hs]⟩, fun σ1 r1 f1 => ?_⟩
      have v1 := grow_frame hLv (τ := σ1) fun j c hj hd => f1 j c hj (fun e => d0 (by rw [hd, e]))
      have hst : stT s = ((rdText s.1 0).2.1, (rdText s.1 0).2.2) := by simp [stT, hs]
      have hvt : vT s = (rdText s.1 0).1 := by simp [vT, hs]
      rw [hst, hvt] at hT
      generalize rdText s.1 0 = w at r1 hT ⊢
      obtain ⟨x, rem, ee⟩ := w
      simp only at r1 hT
      obtain ⟨f', nn', hg1⟩ := r1
      by_cases hee : ee = 0
      · subst hee
        simp only [if_true] at hT
        have hp1 : 0 < σ1.length := hget_lt hg1
        have hpn : hget (hpush σ1 (x.map byteAV)) σ1.length = some (x.map byteAV) := push_new rfl
        simp only [HLa_app, Z86, x86_40, base1, ↓reduceIte, Nat.reduceAdd, Nat.reduceSub, Nat.reduceMul, Nat.reduceEqDiff, Nat.reduceLeDiff, Nat.reduceLT, Int.reduceLT, Int.reduceLE, Int.reduceEq, Int.reduceNe, Int.reduceToNat, Int.reduceAdd, Int.reduceSub, reduceCtorEq, Nat.reduceBEq, Nat.reduceBNe, loopR_exit, loopR_ret, e1, e6, e7, e8, hg1, grown]
        refine ⟨σ1.length, x, rfl, hpn, ?_⟩
        have fk : ∀ j c, hget σ1 j = some c → hget (hkill (hpush σ1 (x.map byteAV)) σ1.length) j = some c := fun j c hj => Fr1.kill (id := σ1.length) j c hj (by have := hget_lt hj; omega)
        have v2 := grow_frame v1 (τ := hkill (hpush σ1 (x.map byteAV)) σ1.length) fun j c hj hd => fk j c hj
        have hg2 := fk _ _ hg1
        generalize hkill (hpush σ1 (x.map byteAV)) σ1.length = σ2 at v2 hg2 ⊢
        have hl2 := hget_lt hg2
        generalize unla x = w at hT ⊢
        obtain ⟨y, e2⟩ := w
        simp only at hT
        have pn : ∀ c : List AV, hget (hpush σ2 c) σ2.length = some c := fun c => push_new rfl
        have sn : ∀ c c' : List AV, hget (hset (hpush σ2 c) σ2.length c') σ2.length = some c' := fun c c' => set_same (pn c)
        by_cases h3 : e2 = 0
        · subst h3
          simp only [if_true] at hT
          simp only [ansLa, LaV.cells, RepV.cells]
          generalize hz : ([.int .i64 0, .int .i64 0, .int .i64 0, .int .i64 0, .bool false, .str [], .nilslice, .str [], .bool false] : List AV) = z
          have v3 := grow_frame v2 (τ := hset (hpush σ2 z) σ2.length (LaV.cells y)) fun j c hj hd => al_frame hj
          have hg3 : hget (hset (hpush σ2 z) σ2.length (LaV.cells y)) 0 = _ := al_frame hg2
          have hs3 : (hset (hpush σ2 z) σ2.length (LaV.cells y)).length = σ2.length + 1 := by rw [set_len, push_len]
          obtain ⟨v, τ, a1, a2, a3, a4, a5⟩ := grow_one (b := 104) (by decide) v3 (by simp; omega) (LaV.cells y) rfl rfl
          obtain ⟨g0, u0⟩ := a4 0 _ hg3 d0
          rw [hs3] at a1
          simp only [LaV.cells, RepV.cells] at a1
          subst hz
          simp only [HLa_app, Z86, x86_40, base1, ↓reduceIte, Nat.reduceAdd, Nat.reduceSub, Nat.reduceMul, Nat.reduceEqDiff, Nat.reduceLeDiff, Nat.reduceLT, Int.reduceLT, Int.reduceLE, Int.reduceEq, Int.reduceNe, Int.reduceToNat, Int.reduceAdd, Int.reduceSub, reduceCtorEq, Nat.reduceBEq, Nat.reduceBNe, loopR_exit, loopR_ret, e1, e6, e7, e8, pn, sn, set_len, push_len, a1, a2, a3, hw]
          rw [loopR_normal]
          refine ⟨m, _, _, by omega, .refl _ _ _, (rem, 0), m, v, l ++ [y], ⟨f', nn', g0⟩, by simpa using a5, u0, by simp; omega, rfl, hT, ?_, ?_, ?_, ?_⟩
          all_goals simp only [putD_some, putD_none, Nat.reduceEqDiff, ↓reduceIte, e1, e6, e7, e8, hw]
        · rw [if_neg h3] at hT
          subst hT
          simp only [ansLa, LaV.cells, RepV.cells, HLa_app, Z86, x86_40, base1, ↓reduceIte, Nat.reduceAdd, Nat.reduceSub, Nat.reduceMul, Nat.reduceEqDiff, Nat.reduceLeDiff, Nat.reduceLT, Int.reduceLT, Int.reduceLE, Int.reduceEq, Int.reduceNe, Int.reduceToNat, Int.reduceAdd, Int.reduceSub, reduceCtorEq, Nat.reduceBEq, Nat.reduceBNe, loopR_exit, loopR_ret, e1, e6, e7, e8, pn, sn, h3]
          exact hQ _ _ ⟨.nilslice, .inl ⟨rfl, rfl⟩, rfl⟩
      · rw [if_neg hee] at hT
        simp only [HLa_app, Z86, x86_40, base1, ↓reduceIte, Nat.reduceAdd, Nat.reduceSub, Nat.reduceMul, Nat.reduceEqDiff, Nat.reduceLeDiff, Nat.reduceLT, Int.reduceLT, Int.reduceLE, Int.reduceEq, Int.reduceNe, Int.reduceToNat, Int.reduceAdd, Int.reduceSub, reduceCtorEq, Nat.reduceBEq, Nat.reduceBNe, loopR_exit, loopR_ret, e1, e6, e7, e8, hg1, hee]
        exact go (rem, ee) _ _ ⟨f', nn', hg1⟩ v1 hT (by simp only [putD_some, putD_none, Nat.reduceEqDiff, ↓reduceIte, e6]) (by simp only [putD_some, putD_none, Nat.reduceEqDiff, ↓reduceIte, e7])
    · simp only [lstLa, if_neg hs] at hT
      obtain ⟨f, nn, hr⟩ := hr0
      simp only [HLa_app, Z86, x86_40, base1, ↓reduceIte, Nat.reduceAdd, Nat.reduceSub, Nat.reduceMul, Nat.reduceEqDiff, Nat.reduceLeDiff, Nat.reduceLT, Int.reduceLT, Int.reduceLE, Int.reduceEq, Int.reduceNe, Int.reduceToNat, Int.reduceAdd, Int.reduceSub, reduceCtorEq, Nat.reduceBEq, Nat.reduceBNe, loopR_exit, loopR_ret, e1, e6, e7, e8, hr, hs, hpos]
      exact go s _ _ ⟨f, nn, hr⟩ hLv hT e6 e7
theorem rowsLa_pure (l : List (LaV)) : pureLL (l.map LaV.cells) = true := pureLL_of fun r hr => by
  obtain ⟨x, _, rfl⟩ := List.mem_map.1 hr
  simpa [AV.pure] using la_pure x
def ansLLa (p : List (LaV) × Int) : AV := .tuple [.imm (p.1.map LaV.cells) false false, .int .i64 p.2]
theorem ansLLa_pure (p : List (LaV) × Int) : (ansLLa p).pure = true := by simp only [ansLLa, AV.pure, pureL, rowsLa_pure, Bool.and_self]
theorem readLa_ok (bs : List UInt8) : Tri Try.prog 86 [.imm (rws bs) false false, .func 87 []] [] fun r _ => r.pure = true ∧ r = ansLLa (readLa bs) := by
  refine Tri.frozen (Q := LstLaQ (readLa bs)) (Tri.of_s c86 HLa_sound ?_) (fun r σ hr => ?_)
  · generalize hK : LstLaQ (readLa bs) = K
    have hK : ∀ r σ, LstLaQ (readLa bs) r σ → K r σ := by intro r σ h; rw [← hK]; exact h
    simp only [HLa_app, Z86, x86_40, x86_43, base1, baseE, ↓reduceIte, Nat.reduceAdd, Nat.reduceSub, Nat.reduceMul, Nat.reduceEqDiff, Nat.reduceLeDiff, Nat.reduceLT, Int.reduceLT, Int.reduceLE, Int.reduceEq, Int.reduceNe, Int.reduceToNat, Int.reduceAdd, Int.reduceSub, reduceCtorEq, Nat.reduceBEq, Nat.reduceBNe, rws_len]
    refine ⟨0, bs, 0, rfl, ⟨false, false, rfl⟩, fun σ1 r1 f1 => ?_⟩
    have hnn := rdNum_nonneg bs 0
    have hle := rdNum_le bs 0
    have r1 : RdS σ1 0 (stN (bs, 0)).1 (stN (bs, 0)).2 := r1
    unfold readLa vN at hK
    simp only at hK
    generalize stN (bs, 0) = s1 at r1 hK ⊢
    generalize (rdNum bs 0).1 = m at hnn hle hK ⊢
    obtain ⟨m, rfl⟩ : ∃ k : Nat, m = (k : Int) := ⟨m.toNat, by omega⟩
    rw [Int.toNat_natCast] at hK
    simp only [HLa_app, Z86, x86_40, x86_43, base1, baseE, ↓reduceIte, Nat.reduceAdd, Nat.reduceSub, Nat.reduceMul, Nat.reduceEqDiff, Nat.reduceLeDiff, Nat.reduceLT, Int.reduceLT, Int.reduceLE, Int.reduceEq, Int.reduceNe, Int.reduceToNat, Int.reduceAdd, Int.reduceSub, reduceCtorEq, Nat.reduceBEq, Nat.reduceBNe]
    exact sC_inv (a := b86_30) (rlLa (lstLa m s1 [])) m _ _ (.refl _ _ _) ⟨s1, m, .nilslice, [], r1, .inl ⟨rfl, rfl⟩, by simp [LvD], by simp; omega, rfl, rfl, rfl, rfl, rfl, rfl⟩ (rlStepLa (lstLa m s1 []) _ fun r σ h => hK r σ h)
  · obtain ⟨Lv, hg, rfl⟩ := hr
    refine ⟨ansLLa (readLa bs), .tuple rfl (fun i x y hx hy => ?_), ansLLa_pure _, rfl⟩
    match i with
    | 0 => simp at hx hy; subst hx; subst hy; exact grow_frz hg (rowsLa_pure _)
    | 1 => simp at hx hy; subst hx; subst hy; exact .pure rfl
    | n + 2 => simp at hx
end Go.Proofs.Ytndlgmciplckjaa.note

/- Parties, numbers, kinds, no ask, no reply, whole spans: what the functions that May calls answer. No condition. -/
set_option linter.unusedVariables false
set_option linter.unusedSimpArgs false
namespace Go.Proofs.Ytndlgmciplckjaa.note
open Go.ChangeShapes Go.WideShapes Go.ChangeAt Go.RowKit Go.Gz
section
variable {C : PCall} {n0 : Nat} {R : MExit → Env → AHeap → Prop} {k : Cont} {e : Env} {σ : AHeap}
abbrev r35_0 : List MOper := [⟨(some 2), .move (.c (.bool false)), none⟩]
def b35_0 : SCode := .region r35_0
abbrev r35_1 : List MOper := [⟨(some 3), .move (.t 0), none⟩,
  ⟨(some 4), .bin .geq .num (.t 3) (.c (.int .i64 0)), none⟩,
  ⟨(some 5), .move (.t 4), none⟩,
  ⟨(some 6), .move (.t 0), (some (5, true))⟩,
  ⟨(some 7), .bin .leq .num (.t 6) (.c (.int .i64 5)), (some (5, true))⟩,
  ⟨(some 8), .pick (.t 5) (.t 7) (.c (.bool false)), none⟩,
  ⟨(some 9), .move (.t 8), none⟩,
  ⟨(some 10), .move (.t 0), (some (9, false))⟩,
  ⟨(some 11), .bin .geq .num (.t 10) (.c (.int .i64 100)), (some (9, false))⟩,
  ⟨(some 12), .move (.t 11), (some (9, false))⟩,
  ⟨(some 13), .move (.t 0), (some (12, true))⟩,
  ⟨(some 14), .bin .lss .num (.t 13) (.c (.int .i64 104)), (some (12, true))⟩,
  ⟨(some 15), .pick (.t 12) (.t 14) (.c (.bool false)), (some (9, false))⟩,
  ⟨(some 16), .pick (.t 9) (.c (.bool true)) (.t 15), none⟩,
  ⟨(some 2), .move (.t 16), none⟩]
def b35_1 : SCode := .region r35_1
def b35_2 : SCode := .seq b35_1 .ret
def b35_3 : SCode := .seq b35_0 b35_2
def s35 : SFunc := ⟨17, [.t 2], b35_3⟩
theorem c35 : sFn Try.prog 35 = some s35 := by kernel_rfl
theorem Z35 : XR b35_0 r35_0 ∧ XR b35_1 r35_1 ∧ XS b35_2 b35_1 .ret ∧ XS b35_3 b35_0 b35_2 ∧ XY s35 17 b35_3 [.t 2] := ⟨rfl, rfl, rfl, rfl, rfl⟩
abbrev r36_0 : List MOper := [⟨(some 2), .move (.c (.bool false)), none⟩]
def b36_0 : SCode := .region r36_0
abbrev r36_1 : List MOper := [⟨(some 3), .move (.t 0), none⟩,
  ⟨(some 4), .bin .geq .num (.t 3) (.c (.int .i64 0)), none⟩,
  ⟨(some 5), .move (.t 4), none⟩,
  ⟨(some 6), .move (.t 0), (some (5, true))⟩,
  ⟨(some 7), .bin .leq .num (.t 6) (.c (.int .i64 268435455)), (some (5, true))⟩,
  ⟨(some 8), .pick (.t 5) (.t 7) (.c (.bool false)), none⟩,
  ⟨(some 2), .move (.t 8), none⟩]
def b36_1 : SCode := .region r36_1
def b36_2 : SCode := .seq b36_1 .ret
def b36_3 : SCode := .seq b36_0 b36_2
def s36 : SFunc := ⟨9, [.t 2], b36_3⟩
theorem c36 : sFn Try.prog 36 = some s36 := by kernel_rfl
theorem Z36 : XR b36_0 r36_0 ∧ XR b36_1 r36_1 ∧ XS b36_2 b36_1 .ret ∧ XS b36_3 b36_0 b36_2 ∧ XY s36 9 b36_3 [.t 2] := ⟨rfl, rfl, rfl, rfl, rfl⟩
abbrev r37_0 : List MOper := [⟨(some 4), .move (.c (.bool false)), none⟩]
def b37_0 : SCode := .region r37_0
abbrev r37_1 : List MOper := [⟨(some 7), .move (.t 1), none⟩,
  ⟨(some 8), .lenSl (.t 7), none⟩,
  ⟨(some 9), .move (.c (.int .i64 0)), none⟩]
def b37_1 : SCode := .region r37_1
abbrev r37_2 : List MOper := [⟨(some 10), .bin .lss .num (.t 9) (.t 8), none⟩]
def b37_2 : SCode := .region r37_2
def b37_3 : SCode := .cond (.t 10) .skip (.exit 0)
abbrev r37_4 : List MOper := [⟨(some 11), .indexAddr 1 (.t 7) (.t 9), none⟩,
  ⟨(some 12), .load1 (.t 11), none⟩,
  ⟨(some 6), .move (.t 12), none⟩]
def b37_4 : SCode := .region r37_4
abbrev r37_5 : List MOper := [⟨(some 13), .move (.t 6), none⟩,
  ⟨(some 14), .move (.t 0), none⟩,
  ⟨(some 15), .bin .eql .num (.t 13) (.t 14), none⟩]
def b37_5 : SCode := .region r37_5
abbrev r37_6 : List MOper := [⟨(some 4), .move (.c (.bool true)), none⟩]
def b37_6 : SCode := .region r37_6
def b37_7 : SCode := .seq b37_6 .ret
def b37_8 : SCode := .cond (.t 15) b37_7 .skip
def b37_9 : SCode := .seq b37_5 b37_8
def b37_10 : SCode := .seq b37_4 b37_9
def b37_11 : SCode := .block 1 b37_10
abbrev r37_12 : List MOper := [⟨(some 16), .bin .add .num (.t 9) (.c (.int .i64 1)), none⟩,
  ⟨(some 9), .move (.t 16), none⟩]
def b37_12 : SCode := .region r37_12
def b37_13 : SCode := .seq b37_11 b37_12
def b37_14 : SCode := .seq b37_3 b37_13
def b37_15 : SCode := .seq b37_2 b37_14
def b37_16 : SCode := .loop b37_15
def b37_17 : SCode := .block 0 b37_16
def b37_18 : SCode := .seq b37_1 b37_17
abbrev r37_19 : List MOper := [⟨(some 4), .move (.c (.bool false)), none⟩]
def b37_19 : SCode := .region r37_19
def b37_20 : SCode := .seq b37_19 .ret
def b37_21 : SCode := .seq b37_18 b37_20
def b37_22 : SCode := .seq b37_0 b37_21
def s37 : SFunc := ⟨17, [.t 4], b37_22⟩
theorem c37 : sFn Try.prog 37 = some s37 := by kernel_rfl
theorem Z37 : XR b37_0 r37_0 ∧ XR b37_1 r37_1 ∧ XR b37_2 r37_2 ∧ XC b37_3 (.t 10) .skip (.exit 0) ∧ XR b37_4 r37_4 ∧ XR b37_5 r37_5 ∧ XR b37_6 r37_6 ∧ XS b37_7 b37_6 .ret ∧ XC b37_8 (.t 15) b37_7 .skip ∧ XS b37_9 b37_5 b37_8 ∧ XS b37_10 b37_4 b37_9 ∧ XB b37_11 1 b37_10 ∧ XR b37_12 r37_12 ∧ XS b37_13 b37_11 b37_12 ∧ XS b37_14 b37_3 b37_13 ∧ XS b37_15 b37_2 b37_14 ∧ XB b37_17 0 b37_16 ∧ XS b37_18 b37_1 b37_17 ∧ XR b37_19 r37_19 ∧ XS b37_20 b37_19 .ret ∧ XS b37_21 b37_18 b37_20 ∧ XS b37_22 b37_0 b37_21 ∧ XY s37 17 b37_22 [.t 4] := ⟨rfl, rfl, rfl, sC_cond, rfl, rfl, rfl, rfl, sC_cond, rfl, rfl, rfl, rfl, rfl, rfl, rfl, rfl, rfl, rfl, rfl, rfl, rfl, rfl⟩
abbrev r73_0 : List MOper := [⟨(some 1), .box (.t 0), none⟩,
  ⟨(some 2), .move (.c (.bool false)), none⟩]
def b73_0 : SCode := .region r73_0
abbrev r73_1 : List MOper := [⟨(some 3), .loadN 8 (.t 1), none⟩,
  ⟨(some 4), .build [.int .i64 0, .int .i64 0, .int .i64 0, .str [], .str [], .str [], .str [], .int .i64 0] [], none⟩,
  ⟨(some 5), .bin .eql (.flat [.i, .i, .i, .s, .s, .s, .s, .i]) (.t 3) (.t 4), none⟩,
  ⟨(some 2), .move (.t 5), none⟩]
def b73_1 : SCode := .region r73_1
def b73_2 : SCode := .seq b73_1 .ret
def b73_3 : SCode := .seq b73_0 b73_2
def s73 : SFunc := ⟨6, [.t 2], b73_3⟩
theorem c73 : sFn Try.prog 73 = some s73 := by kernel_rfl
theorem Z73 : XR b73_0 r73_0 ∧ XR b73_1 r73_1 ∧ XS b73_2 b73_1 .ret ∧ XS b73_3 b73_0 b73_2 ∧ XY s73 6 b73_3 [.t 2] := ⟨rfl, rfl, rfl, rfl, rfl⟩
abbrev r74_0 : List MOper := [⟨(some 1), .box (.t 0), none⟩,
  ⟨(some 2), .move (.c (.bool false)), none⟩]
def b74_0 : SCode := .region r74_0
abbrev r74_1 : List MOper := [⟨(some 3), .fieldAddr 0 (.t 1), none⟩,
  ⟨(some 4), .load1 (.t 3), none⟩,
  ⟨(some 5), .bin .eql .num (.t 4) (.c (.int .i64 0)), none⟩,
  ⟨(some 6), .move (.t 5), none⟩,
  ⟨(some 7), .fieldAddr 1 (.t 1), (some (6, true))⟩,
  ⟨(some 8), .load1 (.t 7), (some (6, true))⟩,
  ⟨(some 9), .bin .eql .num (.t 8) (.c (.int .i64 0)), (some (6, true))⟩,
  ⟨(some 10), .pick (.t 6) (.t 9) (.c (.bool false)), none⟩,
  ⟨(some 11), .move (.t 10), none⟩,
  ⟨(some 12), .fieldAddr 2 (.t 1), (some (11, true))⟩,
  ⟨(some 13), .load1 (.t 12), (some (11, true))⟩,
  ⟨(some 14), .bin .eql .num (.t 13) (.c (.int .i64 0)), (some (11, true))⟩,
  ⟨(some 15), .pick (.t 11) (.t 14) (.c (.bool false)), none⟩,
  ⟨(some 16), .move (.t 15), none⟩,
  ⟨(some 17), .fieldAddr 3 (.t 1), (some (16, true))⟩,
  ⟨(some 18), .load1 (.t 17), (some (16, true))⟩,
  ⟨(some 19), .un .not (.t 18), (some (16, true))⟩,
  ⟨(some 20), .pick (.t 16) (.t 19) (.c (.bool false)), none⟩,
  ⟨(some 21), .move (.t 20), none⟩,
  ⟨(some 22), .fieldAddr 4 (.t 1), (some (21, true))⟩,
  ⟨(some 23), .load1 (.t 22), (some (21, true))⟩,
  ⟨(some 24), .bin .eql .num (.t 23) (.c (.str [])), (some (21, true))⟩,
  ⟨(some 25), .pick (.t 21) (.t 24) (.c (.bool false)), none⟩,
  ⟨(some 26), .move (.t 25), none⟩,
  ⟨(some 27), .fieldAddr 5 (.t 1), (some (26, true))⟩,
  ⟨(some 28), .load1 (.t 27), (some (26, true))⟩,
  ⟨(some 29), .lenSl (.t 28), (some (26, true))⟩,
  ⟨(some 30), .bin .eql .num (.t 29) (.c (.int .i64 0)), (some (26, true))⟩,
  ⟨(some 31), .pick (.t 26) (.t 30) (.c (.bool false)), none⟩,
  ⟨(some 32), .move (.t 31), none⟩,
  ⟨(some 33), .fieldAddr 6 (.t 1), (some (32, true))⟩,
  ⟨(some 34), .load1 (.t 33), (some (32, true))⟩,
  ⟨(some 35), .bin .eql .num (.t 34) (.c (.str [])), (some (32, true))⟩,
  ⟨(some 36), .pick (.t 32) (.t 35) (.c (.bool false)), none⟩,
  ⟨(some 37), .move (.t 36), none⟩,
  ⟨(some 38), .fieldAddr 7 (.t 1), (some (37, true))⟩,
  ⟨(some 39), .load1 (.t 38), (some (37, true))⟩,
  ⟨(some 40), .un .not (.t 39), (some (37, true))⟩,
  ⟨(some 41), .pick (.t 37) (.t 40) (.c (.bool false)), none⟩,
  ⟨(some 2), .move (.t 41), none⟩]
def b74_1 : SCode := .region r74_1
def b74_2 : SCode := .seq b74_1 .ret
def b74_3 : SCode := .seq b74_0 b74_2
def s74 : SFunc := ⟨42, [.t 2], b74_3⟩
theorem c74 : sFn Try.prog 74 = some s74 := by kernel_rfl
theorem Z74 : XR b74_0 r74_0 ∧ XR b74_1 r74_1 ∧ XS b74_2 b74_1 .ret ∧ XS b74_3 b74_0 b74_2 ∧ XY s74 42 b74_3 [.t 2] := ⟨rfl, rfl, rfl, rfl, rfl⟩
abbrev r88_0 : List MOper := [⟨(some 2), .move (.c (.bool false)), none⟩]
def b88_0 : SCode := .region r88_0
abbrev r88_1 : List MOper := [⟨(some 3), .move (.c (.str [])), none⟩]
def b88_1 : SCode := .region r88_1
abbrev r88_2 : List MOper := [⟨(some 6), .move (.t 0), none⟩,
  ⟨(some 7), .lenSl (.t 6), none⟩,
  ⟨(some 8), .move (.c (.int .i64 0)), none⟩]
def b88_2 : SCode := .region r88_2
abbrev r88_3 : List MOper := [⟨(some 9), .bin .lss .num (.t 8) (.t 7), none⟩]
def b88_3 : SCode := .region r88_3
def b88_4 : SCode := .cond (.t 9) .skip (.exit 0)
abbrev r88_5 : List MOper := [⟨(some 10), .move (.t 8), none⟩,
  ⟨(some 11), .indexAddr 2 (.t 6) (.t 8), none⟩,
  ⟨(some 12), .loadN 2 (.t 11), none⟩,
  ⟨(some 5), .alloc [.str [], .str []], none⟩,
  ⟨(some 4), .move (.t 10), none⟩,
  ⟨none, .store 2 (.t 5) (.t 12), none⟩]
def b88_5 : SCode := .region r88_5
abbrev r88_6 : List MOper := [⟨(some 13), .loadN 2 (.t 5), none⟩,
  ⟨(some 14), .call 91 [(.t 13)], none⟩,
  ⟨(some 15), .move (.t 14), none⟩,
  ⟨(some 16), .fieldAddr 0 (.t 5), (some (15, false))⟩,
  ⟨(some 17), .load1 (.t 16), (some (15, false))⟩,
  ⟨(some 18), .move (.t 3), (some (15, false))⟩,
  ⟨(some 19), .bin .neq .num (.t 17) (.t 18), (some (15, false))⟩,
  ⟨(some 20), .pick (.t 15) (.c (.bool true)) (.t 19), none⟩,
  ⟨(some 21), .move (.t 20), none⟩,
  ⟨(some 22), .move (.t 4), (some (21, false))⟩,
  ⟨(some 23), .bin .gtr .num (.t 22) (.c (.int .i64 0)), (some (21, false))⟩,
  ⟨(some 24), .move (.t 23), (some (21, false))⟩,
  ⟨(some 25), .move (.t 3), (some (24, true))⟩,
  ⟨(some 26), .bin .eql .num (.t 25) (.c (.str [])), (some (24, true))⟩,
  ⟨(some 27), .pick (.t 24) (.t 26) (.c (.bool false)), (some (21, false))⟩,
  ⟨(some 28), .pick (.t 21) (.c (.bool true)) (.t 27), none⟩]
def b88_6 : SCode := .region r88_6
abbrev r88_7 : List MOper := [⟨(some 2), .move (.c (.bool false)), none⟩]
def b88_7 : SCode := .region r88_7
def b88_8 : SCode := .seq b88_7 .ret
def b88_9 : SCode := .cond (.t 28) b88_8 .skip
def b88_10 : SCode := .seq b88_6 b88_9
abbrev r88_11 : List MOper := [⟨(some 29), .fieldAddr 1 (.t 5), none⟩,
  ⟨(some 30), .load1 (.t 29), none⟩,
  ⟨(some 3), .move (.t 30), none⟩]
def b88_11 : SCode := .region r88_11
def b88_12 : SCode := .seq b88_10 b88_11
def b88_13 : SCode := .seq b88_5 b88_12
def b88_14 : SCode := .block 1 b88_13
abbrev r88_15 : List MOper := [⟨(some 31), .bin .add .num (.t 8) (.c (.int .i64 1)), none⟩,
  ⟨(some 8), .move (.t 31), none⟩]
def b88_15 : SCode := .region r88_15
def b88_16 : SCode := .seq b88_14 b88_15
def b88_17 : SCode := .seq b88_4 b88_16
def b88_18 : SCode := .seq b88_3 b88_17
def b88_19 : SCode := .loop b88_18
def b88_20 : SCode := .block 0 b88_19
def b88_21 : SCode := .seq b88_2 b88_20
abbrev r88_22 : List MOper := [⟨(some 32), .move (.t 0), none⟩,
  ⟨(some 33), .lenSl (.t 32), none⟩,
  ⟨(some 34), .bin .gtr .num (.t 33) (.c (.int .i64 0)), none⟩,
  ⟨(some 35), .move (.t 34), none⟩,
  ⟨(some 36), .move (.t 3), (some (35, true))⟩,
  ⟨(some 37), .bin .eql .num (.t 36) (.c (.str [])), (some (35, true))⟩,
  ⟨(some 38), .pick (.t 35) (.t 37) (.c (.bool false)), none⟩,
  ⟨(some 2), .move (.t 38), none⟩]
def b88_22 : SCode := .region r88_22
def b88_23 : SCode := .seq b88_22 .ret
def b88_24 : SCode := .seq b88_21 b88_23
def b88_25 : SCode := .seq b88_1 b88_24
def b88_26 : SCode := .seq b88_0 b88_25
def s88 : SFunc := ⟨39, [.t 2], b88_26⟩
theorem c88 : sFn Try.prog 88 = some s88 := by kernel_rfl
theorem Z88 : XR b88_0 r88_0 ∧ XR b88_1 r88_1 ∧ XR b88_2 r88_2 ∧ XR b88_3 r88_3 ∧ XC b88_4 (.t 9) .skip (.exit 0) ∧ XR b88_5 r88_5 ∧ XR b88_6 r88_6 ∧ XR b88_7 r88_7 ∧ XS b88_8 b88_7 .ret ∧ XC b88_9 (.t 28) b88_8 .skip ∧ XS b88_10 b88_6 b88_9 ∧ XR b88_11 r88_11 ∧ XS b88_12 b88_10 b88_11 ∧ XS b88_13 b88_5 b88_12 ∧ XB b88_14 1 b88_13 ∧ XR b88_15 r88_15 ∧ XS b88_16 b88_14 b88_15 ∧ XS b88_17 b88_4 b88_16 ∧ XS b88_18 b88_3 b88_17 ∧ XB b88_20 0 b88_19 ∧ XS b88_21 b88_2 b88_20 ∧ XR b88_22 r88_22 ∧ XS b88_23 b88_22 .ret ∧ XS b88_24 b88_21 b88_23 ∧ XS b88_25 b88_1 b88_24 ∧ XS b88_26 b88_0 b88_25 ∧ XY s88 39 b88_26 [.t 2] := ⟨rfl, rfl, rfl, rfl, sC_cond, rfl, rfl, rfl, rfl, sC_cond, rfl, rfl, rfl, rfl, rfl, rfl, rfl, rfl, rfl, rfl, rfl, rfl, rfl, rfl, rfl, rfl, rfl⟩
abbrev r91_0 : List MOper := [⟨(some 1), .box (.t 0), none⟩,
  ⟨(some 2), .move (.c (.bool false)), none⟩]
def b91_0 : SCode := .region r91_0
abbrev r91_1 : List MOper := [⟨(some 3), .fieldAddr 1 (.t 1), none⟩,
  ⟨(some 4), .load1 (.t 3), none⟩,
  ⟨(some 5), .bin .neq .num (.t 4) (.c (.str [])), none⟩,
  ⟨(some 6), .move (.t 5), none⟩,
  ⟨(some 7), .fieldAddr 1 (.t 1), (some (6, true))⟩,
  ⟨(some 8), .load1 (.t 7), (some (6, true))⟩,
  ⟨(some 9), .fieldAddr 0 (.t 1), (some (6, true))⟩,
  ⟨(some 10), .load1 (.t 9), (some (6, true))⟩,
  ⟨(some 11), .bin .leq .num (.t 8) (.t 10), (some (6, true))⟩,
  ⟨(some 12), .pick (.t 6) (.t 11) (.c (.bool false)), none⟩,
  ⟨(some 2), .move (.t 12), none⟩]
def b91_1 : SCode := .region r91_1
def b91_2 : SCode := .seq b91_1 .ret
def b91_3 : SCode := .seq b91_0 b91_2
def s91 : SFunc := ⟨13, [.t 2], b91_3⟩
theorem c91 : sFn Try.prog 91 = some s91 := by kernel_rfl
theorem Z91 : XR b91_0 r91_0 ∧ XR b91_1 r91_1 ∧ XS b91_2 b91_1 .ret ∧ XS b91_3 b91_0 b91_2 ∧ XY s91 13 b91_3 [.t 2] := ⟨rfl, rfl, rfl, rfl, rfl⟩

end
set_option maxHeartbeats 4000000
set_option maxRecDepth 10000
theorem push_new' {σ : AHeap} {c : List AV} : hget (hpush σ c) (List.length σ) = some c := push_new rfl
/-! Numbers, parties, kinds. -/
def partyB (n : Int) : Bool := (decide (0 ≤ n) && decide (n ≤ 5)) || (decide (100 ≤ n) && decide (n < 104))
theorem party_ok (n : Int) : Tri Try.prog 35 [.int .i64 n] [] fun r _ => r.pure = true ∧ r = .bool (partyB n) := by
  refine Tri.of_s c35 (noCall_sound _) ?_
  cases h1 : decide (0 ≤ n) <;> cases h2 : decide (n ≤ 5) <;> cases h3 : decide (100 ≤ n) <;> cases h4 : decide (n < 104) <;>
    (simp only [Z35, base1, baseE, ↓reduceIte, Nat.reduceAdd, Nat.reduceSub, Nat.reduceMul, Nat.reduceEqDiff, Nat.reduceLeDiff, Nat.reduceLT, Int.reduceLT, Int.reduceLE, Int.reduceEq, Int.reduceNe, Int.reduceToNat, Int.reduceAdd, Int.reduceSub, reduceCtorEq, Nat.reduceBEq, Nat.reduceBNe, h1, h2, h3, h4]; exact ⟨rfl, by simp only [partyB, h1, h2, h3, h4]; rfl⟩)
def numB (n : Int) : Bool := decide (0 ≤ n) && decide (n ≤ 268435455)
theorem number_ok (n : Int) : Tri Try.prog 36 [.int .i64 n] [] fun r _ => r.pure = true ∧ r = .bool (numB n) := by
  refine Tri.of_s c36 (noCall_sound _) ?_
  cases h1 : decide (0 ≤ n) <;> cases h2 : decide (n ≤ 268435455) <;>
    (simp only [Z36, base1, baseE, ↓reduceIte, Nat.reduceAdd, Nat.reduceSub, Nat.reduceMul, Nat.reduceEqDiff, Nat.reduceLeDiff, Nat.reduceLT, Int.reduceLT, Int.reduceLE, Int.reduceEq, Int.reduceNe, Int.reduceToNat, Int.reduceAdd, Int.reduceSub, reduceCtorEq, Nat.reduceBEq, Nat.reduceBNe, h1, h2]; exact ⟨rfl, by simp only [numB, h1, h2]; rfl⟩)
def partyD : List AV → AHeap → (AV → AHeap → Prop) → Prop
  | [.int .i64 n], σ, K => K (.bool (partyB n)) σ
  | _, _, _ => False
theorem partyD_eq {n : Int} {σ : AHeap} {K : AV → AHeap → Prop} : partyD [.int .i64 n] σ K = K (.bool (partyB n)) σ := _root_.id rfl
theorem partyD_ok (args : List AV) (σ : AHeap) (K : AV → AHeap → Prop) (h : partyD args σ K) : Tri Try.prog 35 args σ K := by
  unfold partyD at h
  split at h
  · exact (Tri.pureD rfl (party_ok _) _).mono fun r σ' hr => by rw [hr.1, hr.2]; exact h
  · exact h.elim
def numberD : List AV → AHeap → (AV → AHeap → Prop) → Prop
  | [.int .i64 n], σ, K => K (.bool (numB n)) σ
  | _, _, _ => False
theorem numberD_eq {n : Int} {σ : AHeap} {K : AV → AHeap → Prop} : numberD [.int .i64 n] σ K = K (.bool (numB n)) σ := _root_.id rfl
theorem numberD_ok (args : List AV) (σ : AHeap) (K : AV → AHeap → Prop) (h : numberD args σ K) : Tri Try.prog 36 args σ K := by
  unfold numberD at h
  split at h
  · exact (Tri.pureD rfl (number_ok _) _).mono fun r σ' hr => by rw [hr.1, hr.2]; exact h
  · exact h.elim
def hasI (k : Int) (ks : List Int) (cs : List AV) (s : Nat) (σ0 : AHeap) (n : Nat) (e : Env) (σ : AHeap) : Prop :=
  ∃ i : Nat, i ≤ ks.length ∧ n = ks.length - i ∧ σ = σ0 ∧ (ks.take i).contains k = false ∧ e 0 = .int .i64 k ∧ e 7 = .slice s 0 ks.length (some ks.length) 1 ∧ e 8 = .int .i64 (ks.length : Int) ∧ e 9 = .int .i64 (i : Int)
theorem has_step (k : Int) (ks : List Int) (s : Nat) (σ0 : AHeap) (hs : hget σ0 s = some (ks.map fun n => AV.int .i64 n)) (hl : ks.length ≤ 1000) (Q : AV → AHeap → Prop) (hQ : Q (.bool (ks.contains k)) σ0) (n0 n : Nat) (e : Env) (σ : AHeap) (h : hasI k ks [] s σ0 n e σ) :
    sC noCall n0 b37_15 (unw noCall n0 (loopR noCall n0 (RetQ [MRes.t 4] Q) (.block 0 (.seq b37_20 .fin)) (hasI k ks [] s σ0) n) .fin) e σ := by
  obtain ⟨i, hi, hn, rfl, ht, h0, h7, h8, h9⟩ := h
  rcases Nat.lt_or_ge i ks.length with hlt | hge
  · have hlt' : (i : Int) < (ks.length : Int) := by omega
    have hge0 : (0 : Int) ≤ (i : Int) := by omega
    obtain ⟨x, hx⟩ : ∃ x, ks[i]? = some x := ⟨_, List.getElem?_eq_getElem hlt⟩
    have hxx : (ks.map fun n => AV.int .i64 n)[i]? = some (.int .i64 x) := by simp [hx]
    have htk : ks.take (i + 1) = ks.take i ++ [x] := by rw [List.take_add_one, hx]; rfl
    have hw : IntKind.wrap .i64 ((i : Int) + 1) = ((i + 1 : Nat) : Int) := by rw [Gz.wrap64 (by omega)]; omega
    by_cases hxk : x = k
    · have hc : ks.contains k = true := by rw [List.contains_iff_mem]; rw [← hxk]; exact List.mem_of_getElem? hx
      rw [hc] at hQ
      simp only [Z37, base1, baseE, ↓reduceIte, Nat.reduceAdd, Nat.reduceSub, Nat.reduceMul, Nat.reduceEqDiff, Nat.reduceLeDiff, Nat.reduceLT, Int.reduceLT, Int.reduceLE, Int.reduceEq, Int.reduceNe, Int.reduceToNat, Int.reduceAdd, Int.reduceSub, reduceCtorEq, Nat.reduceBEq, Nat.reduceBNe, loopR_exit, loopR_ret, h0, h7, h8, h9, hlt', hlt, hge0, hs, hxx, hxk, Int.toNat_natCast]
      exact hQ
    · simp only [Z37, base1, baseE, ↓reduceIte, Nat.reduceAdd, Nat.reduceSub, Nat.reduceMul, Nat.reduceEqDiff, Nat.reduceLeDiff, Nat.reduceLT, Int.reduceLT, Int.reduceLE, Int.reduceEq, Int.reduceNe, Int.reduceToNat, Int.reduceAdd, Int.reduceSub, reduceCtorEq, Nat.reduceBEq, Nat.reduceBNe, loopR_exit, loopR_ret, h0, h7, h8, h9, hlt', hlt, hge0, hs, hxx, hxk, hw, Int.toNat_natCast]
      rw [loopR_normal]
      refine ⟨ks.length - (i + 1), _, _, by omega, .refl _ _ _, i + 1, hlt, rfl, rfl, ?_, ?_, ?_, ?_, ?_⟩
      · have e1 : (ks.take i ++ [x]).contains k = ((ks.take i).contains k || [x].contains k) := by
          rw [Bool.eq_iff_iff]; simp
        rw [htk, e1, ht]
        have : ¬ k = x := fun e => hxk e.symm
        simp [this]
      all_goals simp only [putD_some, putD_none, Nat.reduceEqDiff, ↓reduceIte, h0, h7, h8, h9, hw]
  · have hlt' : ¬ (i : Int) < (ks.length : Int) := by omega
    have hie : i = ks.length := by omega
    subst hie
    rw [List.take_length] at ht
    rw [ht] at hQ
    simp only [Z37, base1, baseE, ↓reduceIte, Nat.reduceAdd, Nat.reduceSub, Nat.reduceMul, Nat.reduceEqDiff, Nat.reduceLeDiff, Nat.reduceLT, Int.reduceLT, Int.reduceLE, Int.reduceEq, Int.reduceNe, Int.reduceToNat, Int.reduceAdd, Int.reduceSub, reduceCtorEq, Nat.reduceBEq, Nat.reduceBNe, loopR_exit, loopR_ret, h0, h7, h8, h9, hlt']
    exact hQ
def intsL : List AV → Option (List Int)
  | [] => some []
  | .int .i64 n :: r => match intsL r with
    | some l => some (n :: l)
    | none => none
  | _ => none
theorem intsL_nil : intsL [] = some [] := _root_.id rfl
theorem intsL_cons {n : Int} {r : List AV} {l : List Int} (h : intsL r = some l) : intsL (.int .i64 n :: r) = some (n :: l) := by simp only [intsL, h]
theorem intsL_eq : ∀ {cs : List AV} {l : List Int}, intsL cs = some l → cs = l.map fun n => AV.int .i64 n
  | [], l, h => by cases h; rfl
  | .int .i64 n :: r, l, h => by
    simp only [intsL] at h
    split at h
    · rename_i l' hl; cases h; rw [intsL_eq hl]; rfl
    · cases h
theorem intsL_2 {a b : Int} : intsL [.int .i64 a, .int .i64 b] = some [a, b] := _root_.id rfl
theorem intsL_6 {a b c d e f : Int} : intsL [.int .i64 a, .int .i64 b, .int .i64 c, .int .i64 d, .int .i64 e, .int .i64 f] = some [a, b, c, d, e, f] := _root_.id rfl
def hasK (k : Int) (len : Nat) (o : Option (List AV)) (σ : AHeap) (K : AV → AHeap → Prop) : Prop :=
  match o with
  | some cs => (match intsL cs with | some ks => ks.length = len ∧ len ≤ 1000 ∧ K (.bool (ks.contains k)) σ | none => False)
  | none => False
theorem hasK_2 {k a b : Int} {σ : AHeap} {K : AV → AHeap → Prop} : hasK k 2 (some [.int .i64 a, .int .i64 b]) σ K = K (.bool ([a, b].contains k)) σ := by simp [hasK, intsL_2]
theorem hasK_6 {k a b c d e f : Int} {σ : AHeap} {K : AV → AHeap → Prop} : hasK k 6 (some [.int .i64 a, .int .i64 b, .int .i64 c, .int .i64 d, .int .i64 e, .int .i64 f]) σ K = K (.bool ([a, b, c, d, e, f].contains k)) σ := by simp [hasK, intsL_6]
def hasD : List AV → AHeap → (AV → AHeap → Prop) → Prop
  | [.int .i64 k, .slice s 0 len (some c) 1], σ, K => c = len ∧ hasK k len (hget σ s) σ K
  | _, _, _ => False
theorem hasD_eq {k : Int} {s len : Nat} {σ : AHeap} {K : AV → AHeap → Prop} : hasD [.int .i64 k, .slice s 0 len (some len) 1] σ K = hasK k len (hget σ s) σ K := by simp [hasD]
theorem hasD_ok (args : List AV) (σ : AHeap) (K : AV → AHeap → Prop) (h : hasD args σ K) : Tri Try.prog 37 args σ K := by
  unfold hasD at h
  split at h
  · obtain ⟨rfl, h⟩ := h
    rename_i k s len
    unfold hasK at h
    split at h
    · rename_i cs hcs
      split at h
      · rename_i ks hks
        obtain ⟨rfl, hl, h⟩ := h
        rw [intsL_eq hks] at hcs
        refine Tri.of_s c37 (noCall_sound _) ?_
        simp only [Z37, base1, baseE, ↓reduceIte, Nat.reduceAdd, Nat.reduceSub, Nat.reduceMul, Nat.reduceEqDiff, Nat.reduceLeDiff, Nat.reduceLT, Int.reduceLT, Int.reduceLE, Int.reduceEq, Int.reduceNe, Int.reduceToNat, Int.reduceAdd, Int.reduceSub, reduceCtorEq, Nat.reduceBEq, Nat.reduceBNe]
        exact sC_inv (a := b37_15) (hasI k ks [] s σ) ks.length _ σ (.refl _ _ _) ⟨0, Nat.zero_le _, rfl, rfl, rfl, rfl, rfl, rfl, rfl⟩ (has_step k ks s σ hcs hl K h σ.length)
      · exact h.elim
    · exact h.elim
  · exact h.elim
/-! No ask, no reply. -/
def noAskB (a : AskV) : Bool := decide (a.do_ = 0) && (decide (a.client = 0) && (decide (a.seq = 0) && (decide (a.text = []) && (decide (a.val = []) && (decide (a.from_ = []) && (decide (a.to = []) && decide (a.limit = 0)))))))
theorem noAsk_ok (a : AskV) : Tri Try.prog 73 [.agg a.cells] [] fun r _ => r.pure = true ∧ r = .bool (noAskB a) := by
  refine Tri.of_s c73 (noCall_sound _) ?_
  simp only [AskV.cells, Z73, base1, baseE, ↓reduceIte, Nat.reduceAdd, Nat.reduceSub, Nat.reduceMul, Nat.reduceEqDiff, Nat.reduceLeDiff, Nat.reduceLT, Int.reduceLT, Int.reduceLE, Int.reduceEq, Int.reduceNe, Int.reduceToNat, Int.reduceAdd, Int.reduceSub, reduceCtorEq, Nat.reduceBEq, Nat.reduceBNe]
  exact ⟨rfl, rfl⟩
def noRepB (r : RepV) : Bool := decide (r.client = 0) && (decide (r.seq = 0) && (decide (r.err = 0) && ((!r.found) && (decide (r.val = []) && (decide ((r.l.length : Int) = 0) && (decide (r.next = []) && !r.more))))))
theorem recs_len (l : List (List UInt8 × List UInt8)) : (recs l).length = l.length := by simp [recs]
theorem noReply_ok (a : RepV) : Tri Try.prog 74 [.agg a.cells] [] fun r _ => r.pure = true ∧ r = .bool (noRepB a) := by
  refine Tri.of_s c74 (noCall_sound _) ?_
  cases h1 : decide (a.client = 0) with
  | false =>
    simp only [RepV.cells, Z74, base1, baseE, ↓reduceIte, Nat.reduceAdd, Nat.reduceSub, Nat.reduceMul, Nat.reduceEqDiff, Nat.reduceLeDiff, Nat.reduceLT, Int.reduceLT, Int.reduceLE, Int.reduceEq, Int.reduceNe, Int.reduceToNat, Int.reduceAdd, Int.reduceSub, reduceCtorEq, Nat.reduceBEq, Nat.reduceBNe, recs_len, h1]
    exact ⟨rfl, by simp only [noRepB, h1]; rfl⟩
  | true =>
    cases h2 : decide (a.seq = 0) with
    | false =>
      simp only [RepV.cells, Z74, base1, baseE, ↓reduceIte, Nat.reduceAdd, Nat.reduceSub, Nat.reduceMul, Nat.reduceEqDiff, Nat.reduceLeDiff, Nat.reduceLT, Int.reduceLT, Int.reduceLE, Int.reduceEq, Int.reduceNe, Int.reduceToNat, Int.reduceAdd, Int.reduceSub, reduceCtorEq, Nat.reduceBEq, Nat.reduceBNe, recs_len, h1, h2]
      exact ⟨rfl, by simp only [noRepB, h1, h2]; rfl⟩
    | true =>
      cases h3 : decide (a.err = 0) with
      | false =>
        simp only [RepV.cells, Z74, base1, baseE, ↓reduceIte, Nat.reduceAdd, Nat.reduceSub, Nat.reduceMul, Nat.reduceEqDiff, Nat.reduceLeDiff, Nat.reduceLT, Int.reduceLT, Int.reduceLE, Int.reduceEq, Int.reduceNe, Int.reduceToNat, Int.reduceAdd, Int.reduceSub, reduceCtorEq, Nat.reduceBEq, Nat.reduceBNe, recs_len, h1, h2, h3]
        exact ⟨rfl, by simp only [noRepB, h1, h2, h3]; rfl⟩
      | true =>
        cases h4 : a.found with
        | false =>
          cases h5 : decide (a.val = []) with
          | false =>
            simp only [RepV.cells, Z74, base1, baseE, ↓reduceIte, Nat.reduceAdd, Nat.reduceSub, Nat.reduceMul, Nat.reduceEqDiff, Nat.reduceLeDiff, Nat.reduceLT, Int.reduceLT, Int.reduceLE, Int.reduceEq, Int.reduceNe, Int.reduceToNat, Int.reduceAdd, Int.reduceSub, reduceCtorEq, Nat.reduceBEq, Nat.reduceBNe, recs_len, h1, h2, h3, h4, h5]
            exact ⟨rfl, by simp only [noRepB, h1, h2, h3, h4, h5]; rfl⟩
          | true =>
            cases h6 : decide ((a.l.length : Int) = 0) with
            | false =>
              simp only [RepV.cells, Z74, base1, baseE, ↓reduceIte, Nat.reduceAdd, Nat.reduceSub, Nat.reduceMul, Nat.reduceEqDiff, Nat.reduceLeDiff, Nat.reduceLT, Int.reduceLT, Int.reduceLE, Int.reduceEq, Int.reduceNe, Int.reduceToNat, Int.reduceAdd, Int.reduceSub, reduceCtorEq, Nat.reduceBEq, Nat.reduceBNe, recs_len, h1, h2, h3, h4, h5, h6]
              exact ⟨rfl, by simp only [noRepB, h1, h2, h3, h4, h5, h6]; rfl⟩
            | true =>
              cases h7 : decide (a.next = []) with
              | false =>
                simp only [RepV.cells, Z74, base1, baseE, ↓reduceIte, Nat.reduceAdd, Nat.reduceSub, Nat.reduceMul, Nat.reduceEqDiff, Nat.reduceLeDiff, Nat.reduceLT, Int.reduceLT, Int.reduceLE, Int.reduceEq, Int.reduceNe, Int.reduceToNat, Int.reduceAdd, Int.reduceSub, reduceCtorEq, Nat.reduceBEq, Nat.reduceBNe, recs_len, h1, h2, h3, h4, h5, h6, h7]
                exact ⟨rfl, by simp only [noRepB, h1, h2, h3, h4, h5, h6, h7]; rfl⟩
              | true =>
                cases h8 : a.more with
                | false =>
                  simp only [RepV.cells, Z74, base1, baseE, ↓reduceIte, Nat.reduceAdd, Nat.reduceSub, Nat.reduceMul, Nat.reduceEqDiff, Nat.reduceLeDiff, Nat.reduceLT, Int.reduceLT, Int.reduceLE, Int.reduceEq, Int.reduceNe, Int.reduceToNat, Int.reduceAdd, Int.reduceSub, reduceCtorEq, Nat.reduceBEq, Nat.reduceBNe, recs_len, h1, h2, h3, h4, h5, h6, h7, h8]
                  exact ⟨rfl, by simp only [noRepB, h1, h2, h3, h4, h5, h6, h7, h8]; rfl⟩
                | true =>
                  simp only [RepV.cells, Z74, base1, baseE, ↓reduceIte, Nat.reduceAdd, Nat.reduceSub, Nat.reduceMul, Nat.reduceEqDiff, Nat.reduceLeDiff, Nat.reduceLT, Int.reduceLT, Int.reduceLE, Int.reduceEq, Int.reduceNe, Int.reduceToNat, Int.reduceAdd, Int.reduceSub, reduceCtorEq, Nat.reduceBEq, Nat.reduceBNe, recs_len, h1, h2, h3, h4, h5, h6, h7, h8]
                  exact ⟨rfl, by simp only [noRepB, h1, h2, h3, h4, h5, h6, h7, h8]; rfl⟩
        | true =>
          simp only [RepV.cells, Z74, base1, baseE, ↓reduceIte, Nat.reduceAdd, Nat.reduceSub, Nat.reduceMul, Nat.reduceEqDiff, Nat.reduceLeDiff, Nat.reduceLT, Int.reduceLT, Int.reduceLE, Int.reduceEq, Int.reduceNe, Int.reduceToNat, Int.reduceAdd, Int.reduceSub, reduceCtorEq, Nat.reduceBEq, Nat.reduceBNe, recs_len, h1, h2, h3, h4]
          exact ⟨rfl, by simp only [noRepB, h1, h2, h3, h4]; rfl⟩
/-! Spans. -/
def leB (x y : List UInt8) : Bool := lessBytes x y || x == y
def emptyB (p : List UInt8 × List UInt8) : Bool := decide (p.2 ≠ []) && leB p.2 p.1
theorem empty_ok (p : List UInt8 × List UInt8) : Tri Try.prog 91 [.agg (recC p)] [] fun r _ => r.pure = true ∧ r = .bool (emptyB p) := by
  refine Tri.of_s c91 (noCall_sound _) ?_
  have hle : (lessBytes p.2 p.1 || p.2 == p.1) = leB p.2 p.1 := rfl
  cases h1 : decide (p.2 ≠ []) with
  | false =>
    simp only [recC, Z91, base1, baseE, ↓reduceIte, Nat.reduceAdd, Nat.reduceSub, Nat.reduceMul, Nat.reduceEqDiff, Nat.reduceLeDiff, Nat.reduceLT, Int.reduceLT, Int.reduceLE, Int.reduceEq, Int.reduceNe, Int.reduceToNat, Int.reduceAdd, Int.reduceSub, reduceCtorEq, Nat.reduceBEq, Nat.reduceBNe, h1]
    exact ⟨rfl, by simp only [emptyB, h1]; rfl⟩
  | true =>
    simp only [recC, Z91, base1, baseE, ↓reduceIte, Nat.reduceAdd, Nat.reduceSub, Nat.reduceMul, Nat.reduceEqDiff, Nat.reduceLeDiff, Nat.reduceLT, Int.reduceLT, Int.reduceLE, Int.reduceEq, Int.reduceNe, Int.reduceToNat, Int.reduceAdd, Int.reduceSub, reduceCtorEq, Nat.reduceBEq, Nat.reduceBNe, h1]
    exact ⟨rfl, by simp only [emptyB, h1, leB]; rfl⟩
def emptyD : List AV → AHeap → (AV → AHeap → Prop) → Prop
  | [.agg [.str f, .str t]], σ, K => K (.bool (emptyB (f, t))) σ
  | _, _, _ => False
theorem emptyD_eq {f t : List UInt8} {σ : AHeap} {K : AV → AHeap → Prop} : emptyD [.agg [.str f, .str t]] σ K = K (.bool (emptyB (f, t))) σ := _root_.id rfl
theorem emptyD_ok (args : List AV) (σ : AHeap) (K : AV → AHeap → Prop) (h : emptyD args σ K) : Tri Try.prog 91 args σ K := by
  unfold emptyD at h
  split at h
  · rename_i f t
    exact (Tri.pureD rfl (empty_ok (f, t)) _).mono fun r σ' hr => by rw [hr.1, hr.2]; exact h
  · exact h.elim
def wholeG : Nat → List UInt8 → List (List UInt8 × List UInt8) → Bool
  | i, at_, [] => decide (0 < i) && decide (at_ = [])
  | i, at_, s :: r => if emptyB s || decide (s.1 ≠ at_) || (decide (0 < i) && decide (at_ = [])) then false else wholeG (i + 1) s.2 r
def wholeB (l : List (List UInt8 × List UInt8)) : Bool := wholeG 0 [] l
def W1 : PCall := rowQ 91 emptyD noCall
theorem W1_app {f : FuncId} {args : List AV} {σ : AHeap} {K : AV → AHeap → Prop} : W1 f args σ K = rowQ 91 emptyD noCall f args σ K := _root_.id rfl
theorem W1_sound : Sound Try.prog W1 := rowQ_sound emptyD_ok (noCall_sound _)
def whI (l : List (List UInt8 × List UInt8)) (n : Nat) (e : Env) (σ : AHeap) : Prop :=
  ∃ (i : Nat) (at_ : List UInt8), i ≤ l.length ∧ n = l.length - i ∧ wholeG i at_ (l.drop i) = wholeB l ∧ e 0 = .imm (l.map recC) false false ∧ e 3 = .str at_ ∧ e 6 = .imm (l.map recC) false false ∧ e 7 = .int .i64 (l.length : Int) ∧ e 8 = .int .i64 (i : Int)
theorem wh_step (l : List (List UInt8 × List UInt8)) (hl : l.length ≤ 1000000) (n : Nat) (e : Env) (σ : AHeap) (h : whI l n e σ) :
    sC W1 0 b88_18 (unw W1 0 (loopR W1 0 (RetQ [MRes.t 2] fun r _ => r.pure = true ∧ r = .bool (wholeB l)) (.block 0 (.seq b88_23 .fin)) (whI l) n) .fin) e σ := by
  obtain ⟨i, at_, hi, hn, hG, h0, h3, h6, h7, h8⟩ := h
  have hml : (l.map recC).length = l.length := by simp
  rcases Nat.lt_or_ge i l.length with hlt | hge
  · have hlt' : (i : Int) < (l.length : Int) := by omega
    have hge0 : (0 : Int) ≤ (i : Int) := by omega
    obtain ⟨x, hx⟩ : ∃ x, l[i]? = some x := ⟨_, List.getElem?_eq_getElem hlt⟩
    have hxx : (l.map recC)[i]? = some [.str x.1, .str x.2] := by simp [hx, recC]
    have hw : IntKind.wrap .i64 ((i : Int) + 1) = ((i + 1 : Nat) : Int) := by rw [Gz.wrap64 (by omega)]; omega
    have hdr : l.drop i = x :: l.drop (i + 1) := by
      rw [List.drop_eq_getElem_cons hlt]; congr 1
      exact Option.some.inj ((List.getElem?_eq_getElem hlt).symm.trans hx)
    rw [hdr] at hG
    simp only [wholeG] at hG
    have sn : ∀ c c' : List AV, hget (hset (hpush σ c) (List.length σ) c') (List.length σ) = some c' := fun c c' => set_same push_new'
    have hi0 : decide ((0 : Int) < (i : Int)) = decide (0 < i) := by by_cases h : 0 < i <;> simp [h] <;> omega
    have hp : (x.1, x.2) = x := rfl
    have bad : ∀ (σ' : AHeap), (emptyB x || decide (x.1 ≠ at_) || (decide (0 < i) && decide (at_ = []))) = true → (AV.bool false).pure = true ∧ AV.bool false = .bool (wholeB l) := by
      intro σ' hb
      rw [hb, if_pos rfl] at hG
      exact ⟨rfl, by rw [← hG]⟩
    have good : (emptyB x || decide (x.1 ≠ at_) || (decide (0 < i) && decide (at_ = []))) = false → wholeG (i + 1) x.2 (l.drop (i + 1)) = wholeB l := by
      intro hb
      rw [hb] at hG
      simpa using hG
    cases g1 : emptyB x with
    | true =>
      simp only [W1_app, Z88, base1, baseE, ↓reduceIte, Nat.reduceAdd, Nat.reduceSub, Nat.reduceMul, Nat.reduceEqDiff, Nat.reduceLeDiff, Nat.reduceLT, Int.reduceLT, Int.reduceLE, Int.reduceEq, Int.reduceNe, Int.reduceToNat, Int.reduceAdd, Int.reduceSub, reduceCtorEq, Nat.reduceBEq, Nat.reduceBNe, loopR_exit, loopR_ret, emptyD_eq, h0, h3, h6, h7, h8, hlt', hlt, hge0, hxx, hml, hw, Int.toNat_natCast, push_new', sn, hp, g1]
      exact bad σ (by simp [g1])
    | false =>
      cases g2 : decide (x.1 ≠ at_) with
      | true =>
        simp only [W1_app, Z88, base1, baseE, ↓reduceIte, Nat.reduceAdd, Nat.reduceSub, Nat.reduceMul, Nat.reduceEqDiff, Nat.reduceLeDiff, Nat.reduceLT, Int.reduceLT, Int.reduceLE, Int.reduceEq, Int.reduceNe, Int.reduceToNat, Int.reduceAdd, Int.reduceSub, reduceCtorEq, Nat.reduceBEq, Nat.reduceBNe, loopR_exit, loopR_ret, emptyD_eq, h0, h3, h6, h7, h8, hlt', hlt, hge0, hxx, hml, hw, Int.toNat_natCast, push_new', sn, hp, g1, g2]
        exact bad σ (by simp [g1, g2])
      | false =>
        have fin : ∀ e' : Env, ∀ σ', wholeG (i + 1) x.2 (l.drop (i + 1)) = wholeB l → e' 0 = .imm (l.map recC) false false → e' 3 = .str x.2 → e' 6 = .imm (l.map recC) false false → e' 7 = .int .i64 (l.length : Int) → e' 8 = .int .i64 ((i + 1 : Nat) : Int) → loopR W1 0 (RetQ [MRes.t 2] fun r _ => r.pure = true ∧ r = .bool (wholeB l)) (.block 0 (.seq b88_23 .fin)) (whI l) n .normal e' σ' := by
          intro e' σ' hg k0 k3 k6 k7 k8
          rw [loopR_normal]
          exact ⟨l.length - (i + 1), _, _, by omega, .refl _ _ _, i + 1, x.2, hlt, rfl, hg, k0, k3, k6, k7, k8⟩
        cases g3 : decide (0 < i) with
        | false =>
          have gg := good (by simp [g1, g2, g3])
          simp only [W1_app, Z88, base1, baseE, ↓reduceIte, Nat.reduceAdd, Nat.reduceSub, Nat.reduceMul, Nat.reduceEqDiff, Nat.reduceLeDiff, Nat.reduceLT, Int.reduceLT, Int.reduceLE, Int.reduceEq, Int.reduceNe, Int.reduceToNat, Int.reduceAdd, Int.reduceSub, reduceCtorEq, Nat.reduceBEq, Nat.reduceBNe, loopR_exit, loopR_ret, emptyD_eq, h0, h3, h6, h7, h8, hlt', hlt, hge0, hxx, hml, hw, Int.toNat_natCast, push_new', sn, hp, g1, g2, hi0, g3]
          refine fin _ _ gg ?_ ?_ ?_ ?_ ?_
          all_goals simp only [putD_some, putD_none, Nat.reduceEqDiff, ↓reduceIte, h0, h3, h6, h7, h8, hw]
        | true =>
          cases g4 : decide (at_ = []) with
          | true =>
            simp only [W1_app, Z88, base1, baseE, ↓reduceIte, Nat.reduceAdd, Nat.reduceSub, Nat.reduceMul, Nat.reduceEqDiff, Nat.reduceLeDiff, Nat.reduceLT, Int.reduceLT, Int.reduceLE, Int.reduceEq, Int.reduceNe, Int.reduceToNat, Int.reduceAdd, Int.reduceSub, reduceCtorEq, Nat.reduceBEq, Nat.reduceBNe, loopR_exit, loopR_ret, emptyD_eq, h0, h3, h6, h7, h8, hlt', hlt, hge0, hxx, hml, hw, Int.toNat_natCast, push_new', sn, hp, g1, g2, hi0, g3, g4]
            exact bad σ (by simp [g1, g2, g3, g4])
          | false =>
            have gg := good (by simp [g1, g2, g3, g4])
            simp only [W1_app, Z88, base1, baseE, ↓reduceIte, Nat.reduceAdd, Nat.reduceSub, Nat.reduceMul, Nat.reduceEqDiff, Nat.reduceLeDiff, Nat.reduceLT, Int.reduceLT, Int.reduceLE, Int.reduceEq, Int.reduceNe, Int.reduceToNat, Int.reduceAdd, Int.reduceSub, reduceCtorEq, Nat.reduceBEq, Nat.reduceBNe, loopR_exit, loopR_ret, emptyD_eq, h0, h3, h6, h7, h8, hlt', hlt, hge0, hxx, hml, hw, Int.toNat_natCast, push_new', sn, hp, g1, g2, hi0, g3, g4]
            refine fin _ _ gg ?_ ?_ ?_ ?_ ?_
            all_goals simp only [putD_some, putD_none, Nat.reduceEqDiff, ↓reduceIte, h0, h3, h6, h7, h8, hw]
  · have hlt' : ¬ (i : Int) < (l.length : Int) := by omega
    have hie : i = l.length := by omega
    subst hie
    have hd0 : l.drop l.length = [] := List.drop_length
    rw [hd0] at hG
    simp only [wholeG] at hG
    have hi0 : decide ((0 : Int) < (l.length : Int)) = decide (0 < l.length) := by by_cases h : 0 < l.length <;> simp [h] <;> omega
    cases g1 : decide (0 < l.length) <;> cases g2 : decide (at_ = []) <;>
      (simp only [W1_app, Z88, base1, baseE, ↓reduceIte, Nat.reduceAdd, Nat.reduceSub, Nat.reduceMul, Nat.reduceEqDiff, Nat.reduceLeDiff, Nat.reduceLT, Int.reduceLT, Int.reduceLE, Int.reduceEq, Int.reduceNe, Int.reduceToNat, Int.reduceAdd, Int.reduceSub, reduceCtorEq, Nat.reduceBEq, Nat.reduceBNe, loopR_exit, loopR_ret, h0, h3, h6, h7, h8, hlt', hml, hi0, g1, g2]; exact ⟨rfl, by rw [← hG, g1, g2]; rfl⟩)
theorem whole_ok (l : List (List UInt8 × List UInt8)) (hl : l.length ≤ 1000000) : Tri Try.prog 88 [.imm (l.map recC) false false] [] fun r _ => r.pure = true ∧ r = .bool (wholeB l) := by
  refine Tri.of_s c88 W1_sound ?_
  have hml : (l.map recC).length = l.length := by simp
  simp only [W1_app, Z88, base1, baseE, ↓reduceIte, Nat.reduceAdd, Nat.reduceSub, Nat.reduceMul, Nat.reduceEqDiff, Nat.reduceLeDiff, Nat.reduceLT, Int.reduceLT, Int.reduceLE, Int.reduceEq, Int.reduceNe, Int.reduceToNat, Int.reduceAdd, Int.reduceSub, reduceCtorEq, Nat.reduceBEq, Nat.reduceBNe, hml]
  exact sC_inv (a := b88_18) (whI l) l.length _ _ (.refl _ _ _) ⟨0, [], Nat.zero_le _, rfl, rfl, rfl, rfl, rfl, rfl, rfl⟩ (wh_step l hl)
end Go.Proofs.Ytndlgmciplckjaa.note

/- Which notes may be: what May answers, as a truth that is counted from the note. No condition. -/
set_option linter.unusedVariables false
set_option linter.unusedSimpArgs false
namespace Go.Proofs.Ytndlgmciplckjaa.note
open Go.ChangeShapes Go.WideShapes Go.ChangeAt Go.RowKit Go.Gz
section
variable {C : PCall} {n0 : Nat} {R : MExit → Env → AHeap → Prop} {k : Cont} {e : Env} {σ : AHeap}
abbrev r38_0 : List MOper := [⟨(some 1), .box (.t 0), none⟩,
  ⟨(some 2), .move (.c (.bool false)), none⟩]
def b38_0 : SCode := .region r38_0
abbrev r38_1 : List MOper := [⟨(some 8), .fieldAddr 5 (.t 1), none⟩,
  ⟨(some 9), .loadN 8 (.t 8), none⟩,
  ⟨(some 10), .call 30 [(.t 9)], none⟩,
  ⟨(some 7), .move (.t 10), none⟩,
  ⟨(some 11), .extract (.t 7) 0, none⟩,
  ⟨(some 12), .extract (.t 7) 1, none⟩,
  ⟨(some 3), .move (.t 11), none⟩,
  ⟨(some 4), .move (.t 12), none⟩]
def b38_1 : SCode := .region r38_1
abbrev r38_2 : List MOper := [⟨(some 14), .fieldAddr 13 (.t 1), none⟩,
  ⟨(some 15), .loadN 8 (.t 14), none⟩,
  ⟨(some 16), .call 32 [(.t 15)], none⟩,
  ⟨(some 13), .move (.t 16), none⟩,
  ⟨(some 17), .extract (.t 13) 0, none⟩,
  ⟨(some 18), .extract (.t 13) 1, none⟩,
  ⟨(some 5), .move (.t 17), none⟩,
  ⟨(some 6), .move (.t 18), none⟩]
def b38_2 : SCode := .region r38_2
abbrev r38_3 : List MOper := [⟨(some 19), .move (.t 4), none⟩,
  ⟨(some 20), .bin .eql .num (.t 19) (.c (.int .i64 0)), none⟩,
  ⟨(some 21), .move (.t 20), none⟩,
  ⟨(some 22), .move (.t 6), (some (21, true))⟩,
  ⟨(some 23), .bin .eql .num (.t 22) (.c (.int .i64 0)), (some (21, true))⟩,
  ⟨(some 24), .pick (.t 21) (.t 23) (.c (.bool false)), none⟩,
  ⟨(some 25), .move (.t 24), none⟩,
  ⟨(some 26), .fieldAddr 0 (.t 1), (some (25, true))⟩,
  ⟨(some 27), .load1 (.t 26), (some (25, true))⟩,
  ⟨(some 28), .bin .eql .num (.t 27) (.c (.int .i64 1)), (some (25, true))⟩,
  ⟨(some 29), .move (.t 28), (some (25, true))⟩,
  ⟨(some 30), .fieldAddr 5 (.t 1), (some (29, false))⟩,
  ⟨(some 31), .loadN 8 (.t 30), (some (29, false))⟩,
  ⟨(some 32), .call 73 [(.t 31)], (some (29, false))⟩,
  ⟨(some 33), .pick (.t 29) (.c (.bool true)) (.t 32), (some (25, true))⟩,
  ⟨(some 34), .pick (.t 25) (.t 33) (.c (.bool false)), none⟩,
  ⟨(some 35), .move (.t 34), none⟩,
  ⟨(some 36), .fieldAddr 0 (.t 1), (some (35, true))⟩,
  ⟨(some 37), .load1 (.t 36), (some (35, true))⟩,
  ⟨(some 38), .bin .eql .num (.t 37) (.c (.int .i64 2)), (some (35, true))⟩,
  ⟨(some 39), .move (.t 38), (some (35, true))⟩,
  ⟨(some 40), .fieldAddr 13 (.t 1), (some (39, false))⟩,
  ⟨(some 41), .loadN 8 (.t 40), (some (39, false))⟩,
  ⟨(some 42), .call 74 [(.t 41)], (some (39, false))⟩,
  ⟨(some 43), .pick (.t 39) (.c (.bool true)) (.t 42), (some (35, true))⟩,
  ⟨(some 44), .pick (.t 35) (.t 43) (.c (.bool false)), none⟩,
  ⟨(some 2), .move (.t 44), none⟩]
def b38_3 : SCode := .region r38_3
def b38_4 : SCode := .seq b38_3 .ret
def b38_5 : SCode := .seq b38_2 b38_4
def b38_6 : SCode := .seq b38_1 b38_5
def b38_7 : SCode := .seq b38_0 b38_6
def s38 : SFunc := ⟨45, [.t 2], b38_7⟩
theorem c38 : sFn Try.prog 38 = some s38 := by kernel_rfl
theorem Z38 : XR b38_0 r38_0 ∧ XR b38_1 r38_1 ∧ XR b38_2 r38_2 ∧ XR b38_3 r38_3 ∧ XS b38_4 b38_3 .ret ∧ XS b38_5 b38_2 b38_4 ∧ XS b38_6 b38_1 b38_5 ∧ XS b38_7 b38_0 b38_6 ∧ XY s38 45 b38_7 [.t 2] := ⟨rfl, rfl, rfl, rfl, rfl, rfl, rfl, rfl, rfl⟩

end
set_option maxHeartbeats 4000000
set_option maxRecDepth 10000
structure NoteV where
  kind : Int
  from_ : Int
  to : Int
  epoch : Int
  tick : Int
  ask : AskV
  rep : RepV
  sf : List UInt8
  st : List UInt8
  l : List (List UInt8 × List UInt8)
  last : List LaV
  aep : Int
  sh : List ShV
def NoteV.cells (n : NoteV) : List AV := [.int .i64 n.kind, .int .i64 n.from_, .int .i64 n.to, .int .i64 n.epoch, .int .i64 n.tick,
  .int .i64 n.ask.do_, .int .i64 n.ask.client, .int .i64 n.ask.seq, .str n.ask.text, .str n.ask.val, .str n.ask.from_, .str n.ask.to, .int .i64 n.ask.limit,
  .int .i64 n.rep.client, .int .i64 n.rep.seq, .int .i64 n.rep.err, .bool n.rep.found, .str n.rep.val, .imm (recs n.rep.l) false false, .str n.rep.next, .bool n.rep.more,
  .str n.sf, .str n.st, .imm (n.l.map recC) false false, .imm (n.last.map LaV.cells) false false, .int .i64 n.aep, .imm (n.sh.map ShV.cells) false false]
theorem note_pure (n : NoteV) : (AV.agg n.cells).pure = true := by
  have h1 := recs_pure n.rep.l
  have h2 := rowsRec_pure n.l
  have h3 := rowsLa_pure n.last
  have h4 := rowsSh_pure n.sh
  simp only [AV.pure, NoteV.cells, pureL, h1, h2, h3, h4, Bool.and_self]
/-- What is not too great to be packed. -/
structure NoteV.sz (n : NoteV) : Prop where
  ask : total n.ask.texts ≤ 900000000
  rep : n.rep.bytes.length ≤ 900000000
  span : total [n.sf, n.st] ≤ 100000000
  l : n.l.length ≤ 1000000
  last : n.last.length ≤ 1000000
  sh : n.sh.length ≤ 1000000
  recz : ∀ x ∈ n.l, (txt2 x).length ≤ 900000000
  la : ∀ x ∈ n.last, x.rep.bytes.length ≤ 900000000
  shs : ∀ x ∈ n.sh, x.bytes.length ≤ 900000000
  recs : (n.l.flatMap fun x => txt (txt2 x)).length ≤ 100000000
  las : (n.last.flatMap fun x => txt x.bytes).length ≤ 100000000
  shsum : (n.sh.flatMap fun x => txt x.bytes).length ≤ 100000000
/-! Asks. -/
theorem packR_t {bs : List UInt8} : packR true bs = .tuple [.nilslice, .int .i64 1] := _root_.id rfl
theorem packR_f {bs : List UInt8} : packR false bs = .tuple [.imm (rws bs) false false, .int .i64 0] := _root_.id rfl
def askPD : List AV → AHeap → (AV → AHeap → Prop) → Prop
  | [.agg [.int .i64 a, .int .i64 b, .int .i64 c, .str t, .str v, .str f, .str o, .int .i64 l]], σ, K => total (AskV.texts ⟨a, b, c, t, v, f, o, l⟩) ≤ 900000000 ∧ K (packR (AskV.bad ⟨a, b, c, t, v, f, o, l⟩) (AskV.bytes ⟨a, b, c, t, v, f, o, l⟩)) σ
  | _, _, _ => False
theorem askPD_eq {a : AskV} {σ : AHeap} {K : AV → AHeap → Prop} : askPD [.agg [.int .i64 a.do_, .int .i64 a.client, .int .i64 a.seq, .str a.text, .str a.val, .str a.from_, .str a.to, .int .i64 a.limit]] σ K = (total a.texts ≤ 900000000 ∧ K (packR a.bad a.bytes) σ) := _root_.id rfl
theorem askPD_ok (args : List AV) (σ : AHeap) (K : AV → AHeap → Prop) (h : askPD args σ K) : Tri Try.prog 30 args σ K := by
  unfold askPD at h
  split at h
  · rename_i a b c t v f o l
    have := Tri.pureD (σ := σ) (Q := fun r => r = packR (AskV.bad ⟨a, b, c, t, v, f, o, l⟩) (AskV.bytes ⟨a, b, c, t, v, f, o, l⟩)) rfl ((ask_ok ⟨a, b, c, t, v, f, o, l⟩ h.1).mono fun r _ hr => ⟨by rw [hr.2]; exact packR_pure _ _, hr.2⟩)
    exact this.mono fun r σ' hr => by rw [hr.1, hr.2]; exact h.2
  · exact h.elim
def repPD : List AV → AHeap → (AV → AHeap → Prop) → Prop
  | [.agg [.int .i64 a, .int .i64 b, .int .i64 c, .bool t, .str v, .imm rs false false, .str o, .bool l]], σ, K => ∃ r : RepV, AV.agg r.cells = .agg [.int .i64 a, .int .i64 b, .int .i64 c, .bool t, .str v, .imm rs false false, .str o, .bool l] ∧ r.bytes.length ≤ 900000000 ∧ K (packR r.bad r.bytes) σ
  | _, _, _ => False
theorem recs_inj : ∀ {l m : List (List UInt8 × List UInt8)}, recs l = recs m → l = m
  | [], [], _ => rfl
  | [], _ :: _, h => by simp [recs] at h
  | _ :: _, [], h => by simp [recs] at h
  | p :: l, q :: m, h => by
    simp only [recs, List.map_cons, List.cons.injEq, AV.str.injEq, and_true] at h
    obtain ⟨⟨h1, h2⟩, h3⟩ := h
    rw [recs_inj (l := l) (m := m) h3, show p = q from Prod.ext h1 h2]
theorem rep_inj {r s : RepV} (h : AV.agg r.cells = .agg s.cells) : r = s := by
  cases r; cases s
  simp only [RepV.cells, AV.agg.injEq, List.cons.injEq, AV.int.injEq, AV.bool.injEq, AV.str.injEq, AV.imm.injEq, and_true, true_and] at h
  obtain ⟨h1, h2, h3, h4, h5, h6, h7, h8⟩ := h
  have h6 := recs_inj h6
  subst h1; subst h2; subst h3; subst h4; subst h5; subst h6; subst h7; subst h8
  rfl
theorem repPD_eq {a : RepV} {σ : AHeap} {K : AV → AHeap → Prop} : repPD [.agg [.int .i64 a.client, .int .i64 a.seq, .int .i64 a.err, .bool a.found, .str a.val, .imm (recs a.l) false false, .str a.next, .bool a.more]] σ K = (a.bytes.length ≤ 900000000 ∧ K (packR a.bad a.bytes) σ) := by
  apply propext
  refine ⟨fun ⟨r, h1, h2, h3⟩ => ?_, fun h => ⟨a, rfl, h.1, h.2⟩⟩
  have : r = a := rep_inj h1
  subst this
  exact ⟨h2, h3⟩
theorem repPD_ok (args : List AV) (σ : AHeap) (K : AV → AHeap → Prop) (h : repPD args σ K) : Tri Try.prog 32 args σ K := by
  unfold repPD at h
  split at h
  · obtain ⟨r, h1, h2, h3⟩ := h
    refine replyPD_ok _ _ _ ⟨r, by rw [h1], h2, h3⟩
  · exact h.elim
def noAskD : List AV → AHeap → (AV → AHeap → Prop) → Prop
  | [.agg [.int .i64 a, .int .i64 b, .int .i64 c, .str t, .str v, .str f, .str o, .int .i64 l]], σ, K => K (.bool (noAskB ⟨a, b, c, t, v, f, o, l⟩)) σ
  | _, _, _ => False
theorem noAskD_eq {a : AskV} {σ : AHeap} {K : AV → AHeap → Prop} : noAskD [.agg [.int .i64 a.do_, .int .i64 a.client, .int .i64 a.seq, .str a.text, .str a.val, .str a.from_, .str a.to, .int .i64 a.limit]] σ K = K (.bool (noAskB a)) σ := _root_.id rfl
theorem noAskD_ok (args : List AV) (σ : AHeap) (K : AV → AHeap → Prop) (h : noAskD args σ K) : Tri Try.prog 73 args σ K := by
  unfold noAskD at h
  split at h
  · rename_i a b c t v f o l
    exact (Tri.pureD rfl (noAsk_ok ⟨a, b, c, t, v, f, o, l⟩) σ).mono fun r σ' hr => by rw [hr.1, hr.2]; exact h
  · exact h.elim
def noRepD (args : List AV) (σ : AHeap) (K : AV → AHeap → Prop) : Prop := ∃ r : RepV, args = [.agg r.cells] ∧ K (.bool (noRepB r)) σ
theorem noRepD_eq {a : RepV} {σ : AHeap} {K : AV → AHeap → Prop} : noRepD [.agg [.int .i64 a.client, .int .i64 a.seq, .int .i64 a.err, .bool a.found, .str a.val, .imm (recs a.l) false false, .str a.next, .bool a.more]] σ K = K (.bool (noRepB a)) σ := by
  apply propext
  refine ⟨fun ⟨r, h1, h2⟩ => ?_, fun h => ⟨a, rfl, h⟩⟩
  have : a = r := rep_inj (List.cons.inj h1).1
  subst this
  exact h2
theorem noRepD_ok (args : List AV) (σ : AHeap) (K : AV → AHeap → Prop) (h : noRepD args σ K) : Tri Try.prog 74 args σ K := by
  obtain ⟨r, rfl, h⟩ := h
  exact (Tri.pureD (by simp only [pureL, rep_pure, Bool.and_self]) (noReply_ok r) σ).mono fun r σ' hr => by rw [hr.1, hr.2]; exact h
def asksB (n : NoteV) : Bool := !n.ask.bad && !n.rep.bad && (decide (n.kind = 1) || noAskB n.ask) && (decide (n.kind = 2) || noRepB n.rep)
def M1 : PCall := rowQ 30 askPD (rowQ 32 repPD (rowQ 73 noAskD (rowQ 74 noRepD noCall)))
theorem M1_app {f : FuncId} {args : List AV} {σ : AHeap} {K : AV → AHeap → Prop} : M1 f args σ K = rowQ 30 askPD (rowQ 32 repPD (rowQ 73 noAskD (rowQ 74 noRepD noCall))) f args σ K := _root_.id rfl
theorem M1_sound : Sound Try.prog M1 := rowQ_sound askPD_ok (rowQ_sound repPD_ok (rowQ_sound noAskD_ok (rowQ_sound noRepD_ok (noCall_sound _))))
theorem asks_ok (n : NoteV) (hs : n.sz) : Tri Try.prog 38 [.agg n.cells] [] fun r _ => r.pure = true ∧ r = .bool (asksB n) := by
  refine Tri.of_s c38 M1_sound ?_
  have s1 := hs.ask
  have s2 := hs.rep
  cases h1 : n.ask.bad <;> cases h2 : n.rep.bad <;> cases h3 : decide (n.kind = 1) <;> cases h4 : noAskB n.ask <;> cases h5 : decide (n.kind = 2) <;> cases h6 : noRepB n.rep <;>
    (simp only [NoteV.cells, M1_app, Z38, base1, baseE, ↓reduceIte, Nat.reduceAdd, Nat.reduceSub, Nat.reduceMul, Nat.reduceEqDiff, Nat.reduceLeDiff, Nat.reduceLT, Int.reduceLT, Int.reduceLE, Int.reduceEq, Int.reduceNe, Int.reduceToNat, Int.reduceAdd, Int.reduceSub, reduceCtorEq, Nat.reduceBEq, Nat.reduceBNe, askPD_eq, repPD_eq, noAskD_eq, noRepD_eq, s1, s2, h1, h2, h3, h4, h5, h6, packR_t, packR_f]; exact ⟨rfl, by simp only [asksB, h1, h2, h3, h4, h5, h6]; rfl⟩)
end Go.Proofs.Ytndlgmciplckjaa.note

/- Which notes may be: what May answers, as a truth that is counted from the note. No condition. -/
set_option linter.unusedVariables false
set_option linter.unusedSimpArgs false
namespace Go.Proofs.Ytndlgmciplckjaa.note
open Go.ChangeShapes Go.WideShapes Go.ChangeAt Go.RowKit Go.Gz
section
variable {C : PCall} {n0 : Nat} {R : MExit → Env → AHeap → Prop} {k : Cont} {e : Env} {σ : AHeap}
abbrev r75_0 : List MOper := [⟨(some 2), .box (.t 0), none⟩,
  ⟨(some 4), .move (.c (.bool false)), none⟩]
def b75_0 : SCode := .region r75_0
abbrev r75_1 : List MOper := [⟨(some 8), .move (.t 1), none⟩,
  ⟨(some 9), .bin .lss .num (.t 8) (.c (.int .i64 1)), none⟩,
  ⟨(some 10), .move (.t 9), none⟩,
  ⟨(some 11), .move (.t 1), (some (10, false))⟩,
  ⟨(some 12), .bin .gtr .num (.t 11) (.c (.int .i64 5)), (some (10, false))⟩,
  ⟨(some 13), .pick (.t 10) (.c (.bool true)) (.t 12), none⟩,
  ⟨(some 14), .move (.t 13), none⟩,
  ⟨(some 15), .fieldAddr 1 (.t 2), (some (14, false))⟩,
  ⟨(some 16), .load1 (.t 15), (some (14, false))⟩,
  ⟨(some 17), .lenSl (.t 16), (some (14, false))⟩,
  ⟨(some 18), .bin .lss .num (.t 17) (.c (.int .i64 1)), (some (14, false))⟩,
  ⟨(some 19), .pick (.t 14) (.c (.bool true)) (.t 18), none⟩,
  ⟨(some 20), .move (.t 19), none⟩,
  ⟨(some 21), .fieldAddr 1 (.t 2), (some (20, false))⟩,
  ⟨(some 22), .load1 (.t 21), (some (20, false))⟩,
  ⟨(some 23), .lenSl (.t 22), (some (20, false))⟩,
  ⟨(some 24), .bin .gtr .num (.t 23) (.c (.int .i64 12)), (some (20, false))⟩,
  ⟨(some 25), .pick (.t 20) (.c (.bool true)) (.t 24), none⟩,
  ⟨(some 26), .move (.t 25), none⟩,
  ⟨(some 27), .fieldAddr 0 (.t 2), (some (26, false))⟩,
  ⟨(some 28), .load1 (.t 27), (some (26, false))⟩,
  ⟨(some 29), .bin .lss .num (.t 28) (.c (.int .i64 1)), (some (26, false))⟩,
  ⟨(some 30), .pick (.t 26) (.c (.bool true)) (.t 29), none⟩]
def b75_1 : SCode := .region r75_1
abbrev r75_2 : List MOper := [⟨(some 4), .move (.c (.bool false)), none⟩]
def b75_2 : SCode := .region r75_2
def b75_3 : SCode := .seq b75_2 .ret
def b75_4 : SCode := .cond (.t 30) b75_3 .skip
def b75_5 : SCode := .seq b75_1 b75_4
abbrev r75_6 : List MOper := [⟨(some 5), .move (.c (.nilslice)), none⟩]
def b75_6 : SCode := .region r75_6
abbrev r75_7 : List MOper := [⟨(some 31), .fieldAddr 1 (.t 2), none⟩,
  ⟨(some 32), .load1 (.t 31), none⟩,
  ⟨(some 33), .lenSl (.t 32), none⟩,
  ⟨(some 34), .move (.c (.int .i64 0)), none⟩]
def b75_7 : SCode := .region r75_7
abbrev r75_8 : List MOper := [⟨(some 35), .bin .lss .num (.t 34) (.t 33), none⟩]
def b75_8 : SCode := .region r75_8
def b75_9 : SCode := .cond (.t 35) .skip (.exit 0)
abbrev r75_10 : List MOper := [⟨(some 36), .indexAddr 4 (.t 32) (.t 34), none⟩,
  ⟨(some 37), .loadN 4 (.t 36), none⟩,
  ⟨(some 7), .alloc [.str [], .str [], .int .i64 0, .int .i64 0], none⟩,
  ⟨none, .store 4 (.t 7) (.t 37), none⟩]
def b75_10 : SCode := .region r75_10
abbrev r75_11 : List MOper := [⟨(some 38), .fieldAddr 2 (.t 7), none⟩,
  ⟨(some 39), .load1 (.t 38), none⟩,
  ⟨(some 40), .bin .lss .num (.t 39) (.c (.int .i64 1)), none⟩,
  ⟨(some 41), .move (.t 40), none⟩,
  ⟨(some 42), .fieldAddr 2 (.t 7), (some (41, false))⟩,
  ⟨(some 43), .load1 (.t 42), (some (41, false))⟩,
  ⟨(some 44), .move (.t 1), (some (41, false))⟩,
  ⟨(some 45), .bin .gtr .num (.t 43) (.t 44), (some (41, false))⟩,
  ⟨(some 46), .pick (.t 41) (.c (.bool true)) (.t 45), none⟩,
  ⟨(some 47), .move (.t 46), none⟩,
  ⟨(some 48), .fieldAddr 3 (.t 7), (some (47, false))⟩,
  ⟨(some 49), .load1 (.t 48), (some (47, false))⟩,
  ⟨(some 50), .bin .lss .num (.t 49) (.c (.int .i64 1)), (some (47, false))⟩,
  ⟨(some 51), .pick (.t 47) (.c (.bool true)) (.t 50), none⟩,
  ⟨(some 52), .move (.t 51), none⟩,
  ⟨(some 53), .fieldAddr 3 (.t 7), (some (52, false))⟩,
  ⟨(some 54), .load1 (.t 53), (some (52, false))⟩,
  ⟨(some 55), .fieldAddr 0 (.t 2), (some (52, false))⟩,
  ⟨(some 56), .load1 (.t 55), (some (52, false))⟩,
  ⟨(some 57), .bin .gtr .num (.t 54) (.t 56), (some (52, false))⟩,
  ⟨(some 58), .pick (.t 52) (.c (.bool true)) (.t 57), none⟩]
def b75_11 : SCode := .region r75_11
abbrev r75_12 : List MOper := [⟨(some 4), .move (.c (.bool false)), none⟩]
def b75_12 : SCode := .region r75_12
def b75_13 : SCode := .seq b75_12 .ret
def b75_14 : SCode := .cond (.t 58) b75_13 .skip
def b75_15 : SCode := .seq b75_11 b75_14
abbrev r75_16 : List MOper := [⟨(some 59), .move (.t 5), none⟩,
  ⟨(some 60), .fieldAddr 0 (.t 7), none⟩,
  ⟨(some 61), .loadN 2 (.t 60), none⟩,
  ⟨(some 62), .buildSlice [.str [], .str []] 2 1 [(0, 2, (.t 61))], none⟩,
  ⟨(some 63), .append 2 32 (.t 59) (.t 62), none⟩,
  ⟨(some 5), .move (.t 63), none⟩]
def b75_16 : SCode := .region r75_16
def b75_17 : SCode := .seq b75_15 b75_16
def b75_18 : SCode := .seq b75_10 b75_17
def b75_19 : SCode := .block 1 b75_18
abbrev r75_20 : List MOper := [⟨(some 64), .bin .add .num (.t 34) (.c (.int .i64 1)), none⟩,
  ⟨(some 34), .move (.t 64), none⟩]
def b75_20 : SCode := .region r75_20
def b75_21 : SCode := .seq b75_19 b75_20
def b75_22 : SCode := .seq b75_9 b75_21
def b75_23 : SCode := .seq b75_8 b75_22
def b75_24 : SCode := .loop b75_23
def b75_25 : SCode := .block 0 b75_24
def b75_26 : SCode := .seq b75_7 b75_25
abbrev r75_27 : List MOper := [⟨(some 65), .move (.t 5), none⟩,
  ⟨(some 66), .call 88 [(.t 65)], none⟩,
  ⟨(some 4), .move (.t 66), none⟩]
def b75_27 : SCode := .region r75_27
def b75_28 : SCode := .seq b75_27 .ret
def b75_29 : SCode := .seq b75_26 b75_28
def b75_30 : SCode := .seq b75_6 b75_29
def b75_31 : SCode := .seq b75_5 b75_30
def b75_32 : SCode := .seq b75_0 b75_31
def s75 : SFunc := ⟨67, [.t 4], b75_32⟩
theorem c75 : sFn Try.prog 75 = some s75 := by kernel_rfl
theorem Z75 : XR b75_0 r75_0 ∧ XR b75_1 r75_1 ∧ XR b75_2 r75_2 ∧ XS b75_3 b75_2 .ret ∧ XC b75_4 (.t 30) b75_3 .skip ∧ XS b75_5 b75_1 b75_4 ∧ XR b75_6 r75_6 ∧ XR b75_7 r75_7 ∧ XR b75_8 r75_8 ∧ XC b75_9 (.t 35) .skip (.exit 0) ∧ XR b75_10 r75_10 ∧ XR b75_11 r75_11 ∧ XR b75_12 r75_12 ∧ XS b75_13 b75_12 .ret ∧ XC b75_14 (.t 58) b75_13 .skip ∧ XS b75_15 b75_11 b75_14 ∧ XR b75_16 r75_16 ∧ XS b75_17 b75_15 b75_16 ∧ XS b75_18 b75_10 b75_17 ∧ XB b75_19 1 b75_18 ∧ XR b75_20 r75_20 ∧ XS b75_21 b75_19 b75_20 ∧ XS b75_22 b75_9 b75_21 ∧ XS b75_23 b75_8 b75_22 ∧ XB b75_25 0 b75_24 ∧ XS b75_26 b75_7 b75_25 ∧ XR b75_27 r75_27 ∧ XS b75_28 b75_27 .ret ∧ XS b75_29 b75_26 b75_28 ∧ XS b75_30 b75_6 b75_29 ∧ XS b75_31 b75_5 b75_30 ∧ XS b75_32 b75_0 b75_31 ∧ XY s75 67 b75_32 [.t 4] := ⟨rfl, rfl, rfl, rfl, sC_cond, rfl, rfl, rfl, rfl, sC_cond, rfl, rfl, rfl, rfl, sC_cond, rfl, rfl, rfl, rfl, rfl, rfl, rfl, rfl, rfl, rfl, rfl, rfl, rfl, rfl, rfl, rfl, rfl, rfl⟩

end
set_option maxHeartbeats 4000000
set_option maxRecDepth 10000
theorem map_inj {α β : Type} {f : α → β} (hf : ∀ a b, f a = f b → a = b) : ∀ {l m : List α}, l.map f = m.map f → l = m
  | [], [], _ => rfl
  | [], _ :: _, h => by simp at h
  | _ :: _, [], h => by simp at h
  | p :: l, q :: m, h => by
    simp only [List.map_cons, List.cons.injEq] at h
    rw [map_inj hf h.2, hf _ _ h.1]
theorem recC_inj (a b : List UInt8 × List UInt8) (h : recC a = recC b) : a = b := by
  simp only [recC, List.cons.injEq, AV.str.injEq, and_true] at h
  exact Prod.ext h.1 h.2
theorem la_inj (a b : LaV) (h : a.cells = b.cells) : a = b := by
  simp only [LaV.cells, List.cons.injEq, AV.int.injEq, true_and] at h
  have := rep_inj (r := a.rep) (s := b.rep) (by rw [h.2])
  cases a; cases b
  simp only at h this
  rw [h.1, this]
theorem sh_inj (a b : ShV) (h : a.cells = b.cells) : a = b := by
  cases a; cases b
  simp only [ShV.cells, List.cons.injEq, AV.str.injEq, AV.int.injEq, true_and, and_true] at h
  obtain ⟨h1, h2, h3, h4⟩ := h
  rw [h1, h2, h3, h4]
theorem note_inj {n m : NoteV} (h : AV.agg n.cells = .agg m.cells) : n = m := by
  simp only [NoteV.cells, AV.agg.injEq, List.cons.injEq, AV.int.injEq, AV.bool.injEq, AV.str.injEq, AV.imm.injEq, and_true, true_and] at h
  obtain ⟨h1, h2, h3, h4, h5, a1, a2, a3, a4, a5, a6, a7, a8, r1, r2, r3, r4, r5, r6, r7, r8, s1, s2, l1, l2, e1, l3⟩ := h
  have r6 := recs_inj r6
  have l1 := map_inj recC_inj l1
  have l2 := map_inj la_inj l2
  have l3 := map_inj sh_inj l3
  obtain ⟨k, f, t, ep, ti, ⟨b1, b2, b3, b4, b5, b6, b7, b8⟩, ⟨c1, c2, c3, c4, c5, c6, c7, c8⟩, sf, st, l, la, ae, sh⟩ := n
  obtain ⟨k', f', t', ep', ti', ⟨b1', b2', b3', b4', b5', b6', b7', b8'⟩, ⟨c1', c2', c3', c4', c5', c6', c7', c8'⟩, sf', st', l', la', ae', sh'⟩ := m
  simp only at *
  subst h1 h2 h3 h4 h5 a1 a2 a3 a4 a5 a6 a7 a8 r1 r2 r3 r4 r5 r6 r7 r8 s1 s2 l1 l2 e1 l3
  rfl
/-! The atlas. -/
def shOk (ep : Int) (s : ShV) : Bool := !decide (s.node < 1) && (!decide (5 < s.node) && (!decide (s.epoch < 1) && !decide (ep < s.epoch)))
def ShV.span (s : ShV) : List UInt8 × List UInt8 := (s.from_, s.to)
def atlasB (ep : Int) (sh : List ShV) : Bool := !decide ((sh.length : Int) < 1) && (!decide (12 < (sh.length : Int)) && (!decide (ep < 1) && (sh.all (shOk ep) && wholeB (sh.map ShV.span))))
theorem grow_given {σ : AHeap} {Lv : AV} {w : Nat} {rows : List (List AV)} (h : Grow σ Lv w rows) (hp : pureLL rows = true) : ∃ d, Given σ d Lv (.imm rows false false) := by
  rcases h with ⟨rfl, rfl⟩ | ⟨d, rfl, h1, h2, h3⟩
  · exact ⟨0, .inr (.inl ⟨rfl, rfl⟩)⟩
  · exact ⟨d, .inr (.inr ⟨0, rows.length, none, w, _, rows, rfl, rfl, h1, sub_all (flat_len h2).symm, rfl, h2, hp⟩)⟩
def wholeLD (args : List AV) (σ : AHeap) (K : AV → AHeap → Prop) : Prop := ∃ (Lv : AV) (l : List (List UInt8 × List UInt8)), args = [Lv] ∧ Grow σ Lv 2 (l.map recC) ∧ l.length ≤ 1000000 ∧ ∀ σ', K (.bool (wholeB l)) σ'
theorem wholeLD_ok (args : List AV) (σ : AHeap) (K : AV → AHeap → Prop) (h : wholeLD args σ K) : Tri Try.prog 88 args σ K := by
  obtain ⟨Lv, l, rfl, hg, hl, h⟩ := h
  obtain ⟨d, hd⟩ := grow_given hg (rowsRec_pure l)
  exact (Tri.give (args := [Lv]) (args1 := [.imm (l.map recC) false false]) d rfl (given1 hd) (whole_ok l hl)).mono fun r σ' hr => by rw [hr.1]; exact h _
def A1 : PCall := rowQ 88 wholeLD noCall
theorem A1_app {f : FuncId} {args : List AV} {σ : AHeap} {K : AV → AHeap → Prop} : A1 f args σ K = rowQ 88 wholeLD noCall f args σ K := _root_.id rfl
theorem A1_sound : Sound Try.prog A1 := rowQ_sound wholeLD_ok (noCall_sound _)
def amI (ep : Int) (sh : List ShV) (n : Nat) (e : Env) (σ : AHeap) : Prop :=
  ∃ (i : Nat) (Lv : AV), i ≤ sh.length ∧ n = sh.length - i ∧ hget σ 0 = some [.int .i64 ep, .imm (sh.map ShV.cells) false false] ∧ Grow σ Lv 2 (((sh.take i).map ShV.span).map recC) ∧ LvD Lv ≠ some 0 ∧ (sh.take i).all (shOk ep) = true ∧
    e 1 = .int .i64 5 ∧ e 2 = .ptr 0 0 ∧ e 5 = Lv ∧ e 32 = .imm (sh.map ShV.cells) false false ∧ e 33 = .int .i64 (sh.length : Int) ∧ e 34 = .int .i64 (i : Int)
theorem am_step (ep : Int) (sh : List ShV) (hl : sh.length ≤ 1000000) (Q : AV → AHeap → Prop) (hF : sh.all (shOk ep) = false → ∀ σ, Q (.bool false) σ) (hT : sh.all (shOk ep) = true → ∀ σ, Q (.bool (wholeB (sh.map ShV.span))) σ) (n : Nat) (e : Env) (σ : AHeap) (h : amI ep sh n e σ) :
    sC A1 0 b75_23 (unw A1 0 (loopR A1 0 (RetQ [MRes.t 4] Q) (.block 0 (.seq b75_28 .fin)) (amI ep sh) n) .fin) e σ := by
  obtain ⟨i, Lv, hi, hn, g0, hLv, d0, hall, e1, e2, e5, e32, e33, e34⟩ := h
  have hml : (sh.map ShV.cells).length = sh.length := by simp
  have h0l := hget_lt g0
  rcases Nat.lt_or_ge i sh.length with hlt | hge
  · have hlt' : (i : Int) < (sh.length : Int) := by omega
    have hge0 : (0 : Int) ≤ (i : Int) := by omega
    obtain ⟨x, hx⟩ : ∃ x, sh[i]? = some x := ⟨_, List.getElem?_eq_getElem hlt⟩
    have hxx : (sh.map ShV.cells)[i]? = some [.str x.from_, .str x.to, .int .i64 x.node, .int .i64 x.epoch] := by simp [hx, ShV.cells]
    have hw : IntKind.wrap .i64 ((i : Int) + 1) = ((i + 1 : Nat) : Int) := by rw [Gz.wrap64 (by omega)]; omega
    have htk : sh.take (i + 1) = sh.take i ++ [x] := by rw [List.take_add_one, hx]; rfl
    have sn : ∀ c c' : List AV, hget (hset (hpush σ c) (List.length σ) c') (List.length σ) = some c' := fun c c' => set_same push_new'
    have s0 : ∀ c c' : List AV, hget (hset (hpush σ c) (List.length σ) c') 0 = some [.int .i64 ep, .imm (sh.map ShV.cells) false false] := fun c c' => al_frame g0
    have bad : shOk ep x = false → ∀ σ, Q (.bool false) σ := fun hb => hF (by
      rw [Bool.eq_false_iff]; intro ha
      have := List.all_eq_true.1 ha x (List.mem_of_getElem? hx)
      rw [hb] at this; cases this)
    cases h1 : decide (x.node < 1) with
    | true =>
      simp only [A1_app, Z75, base1, ↓reduceIte, Nat.reduceAdd, Nat.reduceSub, Nat.reduceMul, Nat.reduceEqDiff, Nat.reduceLeDiff, Nat.reduceLT, Int.reduceLT, Int.reduceLE, Int.reduceEq, Int.reduceNe, Int.reduceToNat, Int.reduceAdd, Int.reduceSub, reduceCtorEq, Nat.reduceBEq, Nat.reduceBNe, loopR_exit, loopR_ret, e1, e2, e5, e32, e33, e34, hlt', hlt, hge0, hxx, hml, Int.toNat_natCast, push_new', sn, s0, h1]
      exact bad (by simp only [shOk, h1]; rfl) _
    | false =>
    cases h2 : decide (5 < x.node) with
    | true =>
      simp only [A1_app, Z75, base1, ↓reduceIte, Nat.reduceAdd, Nat.reduceSub, Nat.reduceMul, Nat.reduceEqDiff, Nat.reduceLeDiff, Nat.reduceLT, Int.reduceLT, Int.reduceLE, Int.reduceEq, Int.reduceNe, Int.reduceToNat, Int.reduceAdd, Int.reduceSub, reduceCtorEq, Nat.reduceBEq, Nat.reduceBNe, loopR_exit, loopR_ret, e1, e2, e5, e32, e33, e34, hlt', hlt, hge0, hxx, hml, Int.toNat_natCast, push_new', sn, s0, h1, h2]
      exact bad (by simp only [shOk, h1, h2]; rfl) _
    | false =>
    cases h3 : decide (x.epoch < 1) with
    | true =>
      simp only [A1_app, Z75, base1, ↓reduceIte, Nat.reduceAdd, Nat.reduceSub, Nat.reduceMul, Nat.reduceEqDiff, Nat.reduceLeDiff, Nat.reduceLT, Int.reduceLT, Int.reduceLE, Int.reduceEq, Int.reduceNe, Int.reduceToNat, Int.reduceAdd, Int.reduceSub, reduceCtorEq, Nat.reduceBEq, Nat.reduceBNe, loopR_exit, loopR_ret, e1, e2, e5, e32, e33, e34, hlt', hlt, hge0, hxx, hml, Int.toNat_natCast, push_new', sn, s0, h1, h2, h3]
      exact bad (by simp only [shOk, h1, h2, h3]; rfl) _
    | false =>
    cases h4 : decide (ep < x.epoch) with
    | true =>
      simp only [A1_app, Z75, base1, ↓reduceIte, Nat.reduceAdd, Nat.reduceSub, Nat.reduceMul, Nat.reduceEqDiff, Nat.reduceLeDiff, Nat.reduceLT, Int.reduceLT, Int.reduceLE, Int.reduceEq, Int.reduceNe, Int.reduceToNat, Int.reduceAdd, Int.reduceSub, reduceCtorEq, Nat.reduceBEq, Nat.reduceBNe, loopR_exit, loopR_ret, e1, e2, e5, e32, e33, e34, hlt', hlt, hge0, hxx, hml, Int.toNat_natCast, push_new', sn, s0, h1, h2, h3, h4]
      exact bad (by simp only [shOk, h1, h2, h3, h4]; rfl) _
    | false =>
    generalize hz : ([.str [], .str [], .int .i64 0, .int .i64 0] : List AV) = z at sn s0
    have v1 := grow_frame hLv (τ := hset (hpush σ z) σ.length x.cells) fun j c hj hd => al_frame hj
    have hs3 : (hset (hpush σ z) σ.length x.cells).length = σ.length + 1 := by rw [set_len, push_len]
    obtain ⟨v, τ, a1, a2, a3, a4, a5⟩ := grow_one (b := 32) (by decide) v1 (by simp; omega) (recC x.span) rfl rfl
    obtain ⟨q0, u0⟩ := a4 0 _ (al_frame g0) d0
    have lc := grow_cell hLv
    rw [hs3] at a1
    simp only [recC, ShV.span, ShV.cells] at a1
    subst hz
    simp only [A1_app, Z75, base1, ↓reduceIte, Nat.reduceAdd, Nat.reduceSub, Nat.reduceMul, Nat.reduceEqDiff, Nat.reduceLeDiff, Nat.reduceLT, Int.reduceLT, Int.reduceLE, Int.reduceEq, Int.reduceNe, Int.reduceToNat, Int.reduceAdd, Int.reduceSub, reduceCtorEq, Nat.reduceBEq, Nat.reduceBNe, loopR_exit, loopR_ret, e1, e2, e5, e32, e33, e34, hlt', hlt, hge0, hxx, hml, Int.toNat_natCast, push_new', sn, s0, h1, h2, h3, h4, set_len, push_len, a1, a2, a3, hw]
    rw [loopR_normal]
    refine ⟨sh.length - (i + 1), _, _, by omega, .refl _ _ _, i + 1, v, hlt, rfl, q0, ?_, u0, ?_, ?_, ?_, ?_, ?_, ?_, ?_⟩
    · rw [htk]; simpa using a5
    · rw [htk, List.all_append, hall]
      simp only [List.all_cons, List.all_nil, shOk, h1, h2, h3, h4]; rfl
    all_goals simp only [putD_some, putD_none, Nat.reduceEqDiff, ↓reduceIte, e1, e2, e5, e32, e33, e34, hw]
  · have hlt' : ¬ (i : Int) < (sh.length : Int) := by omega
    have hie : i = sh.length := by omega
    subst hie
    rw [List.take_length] at hLv hall
    simp only [A1_app, Z75, base1, ↓reduceIte, Nat.reduceAdd, Nat.reduceSub, Nat.reduceMul, Nat.reduceEqDiff, Nat.reduceLeDiff, Nat.reduceLT, Int.reduceLT, Int.reduceLE, Int.reduceEq, Int.reduceNe, Int.reduceToNat, Int.reduceAdd, Int.reduceSub, reduceCtorEq, Nat.reduceBEq, Nat.reduceBNe, loopR_exit, loopR_ret, e1, e2, e5, e32, e33, e34, hlt']
    exact ⟨Lv, sh.map ShV.span, rfl, hLv, by simpa using hl, fun σ' => by simp only [A1_app, Z75, base1, ↓reduceIte, Nat.reduceAdd, Nat.reduceSub, Nat.reduceMul, Nat.reduceEqDiff, Nat.reduceLeDiff, Nat.reduceLT, Int.reduceLT, Int.reduceLE, Int.reduceEq, Int.reduceNe, Int.reduceToNat, Int.reduceAdd, Int.reduceSub, reduceCtorEq, Nat.reduceBEq, Nat.reduceBNe]; exact hT hall σ'⟩
theorem atlas_ok (ep : Int) (sh : List ShV) (hl : sh.length ≤ 1000000) : Tri Try.prog 75 [.agg [.int .i64 ep, .imm (sh.map ShV.cells) false false], .int .i64 5] [] fun r _ => r.pure = true ∧ r = .bool (atlasB ep sh) := by
  refine Tri.of_s c75 A1_sound ?_
  have hml : (sh.map ShV.cells).length = sh.length := by simp
  cases h1 : decide ((sh.length : Int) < 1) with
  | true => simp only [A1_app, Z75, base1, baseE, ↓reduceIte, Nat.reduceAdd, Nat.reduceSub, Nat.reduceMul, Nat.reduceEqDiff, Nat.reduceLeDiff, Nat.reduceLT, Int.reduceLT, Int.reduceLE, Int.reduceEq, Int.reduceNe, Int.reduceToNat, Int.reduceAdd, Int.reduceSub, reduceCtorEq, Nat.reduceBEq, Nat.reduceBNe, hml, h1]; exact ⟨rfl, by simp only [atlasB, h1]; rfl⟩
  | false =>
  cases h2 : decide (12 < (sh.length : Int)) with
  | true => simp only [A1_app, Z75, base1, baseE, ↓reduceIte, Nat.reduceAdd, Nat.reduceSub, Nat.reduceMul, Nat.reduceEqDiff, Nat.reduceLeDiff, Nat.reduceLT, Int.reduceLT, Int.reduceLE, Int.reduceEq, Int.reduceNe, Int.reduceToNat, Int.reduceAdd, Int.reduceSub, reduceCtorEq, Nat.reduceBEq, Nat.reduceBNe, hml, h1, h2]; exact ⟨rfl, by simp only [atlasB, h1, h2]; rfl⟩
  | false =>
  cases h3 : decide (ep < 1) with
  | true => simp only [A1_app, Z75, base1, baseE, ↓reduceIte, Nat.reduceAdd, Nat.reduceSub, Nat.reduceMul, Nat.reduceEqDiff, Nat.reduceLeDiff, Nat.reduceLT, Int.reduceLT, Int.reduceLE, Int.reduceEq, Int.reduceNe, Int.reduceToNat, Int.reduceAdd, Int.reduceSub, reduceCtorEq, Nat.reduceBEq, Nat.reduceBNe, hml, h1, h2, h3]; exact ⟨rfl, by simp only [atlasB, h1, h2, h3]; rfl⟩
  | false =>
  simp only [A1_app, Z75, base1, baseE, ↓reduceIte, Nat.reduceAdd, Nat.reduceSub, Nat.reduceMul, Nat.reduceEqDiff, Nat.reduceLeDiff, Nat.reduceLT, Int.reduceLT, Int.reduceLE, Int.reduceEq, Int.reduceNe, Int.reduceToNat, Int.reduceAdd, Int.reduceSub, reduceCtorEq, Nat.reduceBEq, Nat.reduceBNe, hml, h1, h2, h3]
  refine sC_inv (a := b75_23) (amI ep sh) sh.length _ _ (.refl _ _ _) ⟨0, .nilslice, Nat.zero_le _, rfl, rfl, .inl ⟨rfl, rfl⟩, by simp [LvD], rfl, rfl, rfl, rfl, rfl, rfl, rfl⟩ (am_step ep sh hl _ (fun hf σ => ⟨rfl, ?_⟩) (fun ht σ => ⟨rfl, ?_⟩))
  · simp only [atlasB, h1, h2, h3, hf]; rfl
  · simp only [atlasB, h1, h2, h3, ht]; rfl
end Go.Proofs.Ytndlgmciplckjaa.note
