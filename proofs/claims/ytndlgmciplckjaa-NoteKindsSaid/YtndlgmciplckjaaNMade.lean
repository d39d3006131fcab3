/- The note that Made makes of a row. No condition. -/
import Derived.Test.YtndlgmciplckjaaNSmall
set_option linter.unusedVariables false
set_option linter.unusedSimpArgs false
namespace Go.Proofs.Ytndlgmciplckjaa.note
open Go.ChangeShapes Go.WideShapes Go.ChangeAt Go.RowKit Go.Gz
section
variable {C : PCall} {n0 : Nat} {R : MExit → Env → AHeap → Prop} {k : Cont} {e : Env} {σ : AHeap}
abbrev r14_0 : List MOper := [⟨(some 1), .box (.t 0), none⟩,
  ⟨(some 2), .alloc [.int .i64 0, .int .i64 0, .int .i64 0, .int .i64 0, .int .i64 0, .int .i64 0, .int .i64 0, .int .i64 0, .str [], .str [], .str [], .str [], .int .i64 0, .int .i64 0, .int .i64 0, .int .i64 0, .bool false, .str [], .nilslice, .str [], .bool false, .str [], .str [], .nilslice, .nilslice, .int .i64 0, .nilslice], none⟩]
def b14_0 : SCode := .region r14_0
abbrev r14_1 : List MOper := [⟨(some 5), .fieldAddr 0 (.t 1), none⟩,
  ⟨(some 6), .load1 (.t 5), none⟩,
  ⟨(some 7), .fieldAddr 1 (.t 1), none⟩,
  ⟨(some 8), .load1 (.t 7), none⟩,
  ⟨(some 9), .fieldAddr 2 (.t 1), none⟩,
  ⟨(some 10), .load1 (.t 9), none⟩,
  ⟨(some 11), .fieldAddr 3 (.t 1), none⟩,
  ⟨(some 12), .load1 (.t 11), none⟩,
  ⟨(some 13), .fieldAddr 4 (.t 1), none⟩,
  ⟨(some 14), .load1 (.t 13), none⟩,
  ⟨(some 15), .fieldAddr 5 (.t 1), none⟩,
  ⟨(some 16), .loadN 8 (.t 15), none⟩,
  ⟨(some 17), .fieldAddr 13 (.t 1), none⟩,
  ⟨(some 18), .loadN 8 (.t 17), none⟩,
  ⟨(some 19), .fieldAddr 21 (.t 1), none⟩,
  ⟨(some 20), .loadN 2 (.t 19), none⟩,
  ⟨(some 21), .fieldAddr 23 (.t 1), none⟩,
  ⟨(some 22), .load1 (.t 21), none⟩,
  ⟨(some 23), .build [.int .i64 0, .int .i64 0, .int .i64 0, .int .i64 0, .int .i64 0, .int .i64 0, .int .i64 0, .int .i64 0, .str [], .str [], .str [], .str [], .int .i64 0, .int .i64 0, .int .i64 0, .int .i64 0, .bool false, .str [], .nilslice, .str [], .bool false, .str [], .str [], .nilslice, .nilslice, .int .i64 0, .nilslice] [(0, 1, (.t 6)), (1, 1, (.t 8)), (2, 1, (.t 10)), (3, 1, (.t 12)), (4, 1, (.t 14)), (5, 8, (.t 16)), (13, 8, (.t 18)), (21, 2, (.t 20)), (23, 1, (.t 22))], none⟩,
  ⟨(some 3), .alloc [.int .i64 0, .int .i64 0, .int .i64 0, .int .i64 0, .int .i64 0, .int .i64 0, .int .i64 0, .int .i64 0, .str [], .str [], .str [], .str [], .int .i64 0, .int .i64 0, .int .i64 0, .int .i64 0, .bool false, .str [], .nilslice, .str [], .bool false, .str [], .str [], .nilslice, .nilslice, .int .i64 0, .nilslice], none⟩,
  ⟨none, .store 27 (.t 3) (.t 23), none⟩]
def b14_1 : SCode := .region r14_1
abbrev r14_2 : List MOper := [⟨(some 4), .move (.c (.int .i64 0)), none⟩]
def b14_2 : SCode := .region r14_2
abbrev r14_3 : List MOper := [⟨(some 24), .move (.t 4), none⟩,
  ⟨(some 25), .fieldAddr 24 (.t 1), none⟩,
  ⟨(some 26), .load1 (.t 25), none⟩,
  ⟨(some 27), .lenSl (.t 26), none⟩,
  ⟨(some 28), .bin .lss .num (.t 24) (.t 27), none⟩]
def b14_3 : SCode := .region r14_3
def b14_4 : SCode := .cond (.t 28) .skip (.exit 0)
def b14_5 : SCode := .seq b14_3 b14_4
abbrev t14_6 : LTree := (.quiet ⟨(some 31), .fieldAddr 24 (.t 3), none⟩ 0
  (.quiet ⟨(some 32), .load1 (.t 31), none⟩ 1
  (.quiet ⟨(some 33), .fieldAddr 24 (.t 1), none⟩ 2
  (.quiet ⟨(some 34), .load1 (.t 33), none⟩ 3
  (.quiet ⟨(some 35), .move (.t 4), none⟩ 4
  (.quiet ⟨(some 36), .indexAddr 8 (.t 34) (.t 35), none⟩ 5
  (.quiet ⟨(some 37), .fieldAddr 1 (.t 36), none⟩ 6
  (.quiet ⟨(some 38), .load1 (.t 37), none⟩ 7
  (.quiet ⟨(some 39), .fieldAddr 24 (.t 1), none⟩ 8
  (.quiet ⟨(some 40), .load1 (.t 39), none⟩ 9
  (.quiet ⟨(some 41), .move (.t 4), none⟩ 10
  (.quiet ⟨(some 42), .indexAddr 8 (.t 40) (.t 41), none⟩ 11
  (.quiet ⟨(some 43), .loadN 8 (.t 42), none⟩ 12
  (.quiet ⟨(some 44), .build [.int .i64 0, .int .i64 0, .int .i64 0, .int .i64 0, .bool false, .str [], .nilslice, .str [], .bool false] [(0, 1, (.t 38)), (1, 8, (.t 43))], none⟩ 13
  (.loud ⟨(some 45), .buildSlice [.int .i64 0, .int .i64 0, .int .i64 0, .int .i64 0, .bool false, .str [], .nilslice, .str [], .bool false] 9 1 [(0, 9, (.t 44))], none⟩ [1]
  (.loud ⟨(some 46), .call 41 [(.t 45)], none⟩ [1]
  (.loud ⟨(some 47), .append 9 104 (.t 32) (.t 46), none⟩ []
  (.quiet ⟨(some 48), .fieldAddr 24 (.t 3), none⟩ 17
  (.loud ⟨none, .store 1 (.t 48) (.t 47), none⟩ []
  .leaf .stop)) .stop) .stop) .stop)))))))))))))))
def b14_6 : SCode := .draw t14_6
def b14_7 : SCode := .block 1 b14_6
abbrev r14_8 : List MOper := [⟨(some 29), .move (.t 4), none⟩,
  ⟨(some 30), .bin .add .num (.t 29) (.c (.int .i64 1)), none⟩,
  ⟨(some 4), .move (.t 30), none⟩]
def b14_8 : SCode := .region r14_8
def b14_9 : SCode := .seq b14_7 b14_8
def b14_10 : SCode := .seq b14_5 b14_9
def b14_11 : SCode := .loop b14_10
def b14_12 : SCode := .block 0 b14_11
def b14_13 : SCode := .seq b14_2 b14_12
abbrev r14_14 : List MOper := [⟨(some 49), .fieldAddr 25 (.t 1), none⟩,
  ⟨(some 50), .fieldAddr 0 (.t 49), none⟩,
  ⟨(some 51), .load1 (.t 50), none⟩,
  ⟨(some 52), .bin .neq .num (.t 51) (.c (.int .i64 0)), none⟩,
  ⟨(some 53), .move (.t 52), none⟩,
  ⟨(some 54), .fieldAddr 25 (.t 1), (some (53, false))⟩,
  ⟨(some 55), .fieldAddr 1 (.t 54), (some (53, false))⟩,
  ⟨(some 56), .load1 (.t 55), (some (53, false))⟩,
  ⟨(some 57), .lenSl (.t 56), (some (53, false))⟩,
  ⟨(some 58), .bin .gtr .num (.t 57) (.c (.int .i64 0)), (some (53, false))⟩,
  ⟨(some 59), .pick (.t 53) (.c (.bool true)) (.t 58), none⟩]
def b14_14 : SCode := .region r14_14
abbrev r14_15 : List MOper := [⟨(some 60), .fieldAddr 25 (.t 1), none⟩,
  ⟨(some 61), .loadN 2 (.t 60), none⟩,
  ⟨(some 62), .call 42 [(.t 61)], none⟩,
  ⟨(some 63), .fieldAddr 25 (.t 3), none⟩,
  ⟨none, .store 2 (.t 63) (.t 62), none⟩]
def b14_15 : SCode := .region r14_15
def b14_16 : SCode := .cond (.t 59) b14_15 .skip
def b14_17 : SCode := .seq b14_14 b14_16
abbrev r14_18 : List MOper := [⟨(some 64), .loadN 27 (.t 3), none⟩,
  ⟨none, .store 27 (.t 2) (.t 64), none⟩]
def b14_18 : SCode := .region r14_18
def b14_19 : SCode := .seq b14_18 .ret
def b14_20 : SCode := .seq b14_17 b14_19
def b14_21 : SCode := .seq b14_13 b14_20
def b14_22 : SCode := .seq b14_1 b14_21
def b14_23 : SCode := .seq b14_0 b14_22
def s14 : SFunc := ⟨65, [.cN 2 27], b14_23⟩
theorem c14 : sFn Try.prog 14 = some s14 := by kernel_rfl
theorem Z14 : XR b14_0 r14_0 ∧ XR b14_1 r14_1 ∧ XR b14_2 r14_2 ∧ XR b14_3 r14_3 ∧ XC b14_4 (.t 28) .skip (.exit 0) ∧ XS b14_5 b14_3 b14_4 ∧ XT b14_6 t14_6 ∧ XB b14_7 1 b14_6 ∧ XR b14_8 r14_8 ∧ XS b14_9 b14_7 b14_8 ∧ XS b14_10 b14_5 b14_9 ∧ XB b14_12 0 b14_11 ∧ XS b14_13 b14_2 b14_12 ∧ XR b14_14 r14_14 ∧ XR b14_15 r14_15 ∧ XC b14_16 (.t 59) b14_15 .skip ∧ XS b14_17 b14_14 b14_16 ∧ XR b14_18 r14_18 ∧ XS b14_19 b14_18 .ret ∧ XS b14_20 b14_17 b14_19 ∧ XS b14_21 b14_13 b14_20 ∧ XS b14_22 b14_1 b14_21 ∧ XS b14_23 b14_0 b14_22 ∧ XY s14 65 b14_23 [.cN 2 27] := ⟨rfl, rfl, rfl, rfl, sC_cond, rfl, rfl, rfl, rfl, rfl, rfl, rfl, rfl, rfl, rfl, sC_cond, rfl, rfl, rfl, rfl, rfl, rfl, rfl, rfl⟩
abbrev r41_0 : List MOper := [⟨(some 2), .move (.c (.nilslice)), none⟩]
def b41_0 : SCode := .region r41_0
abbrev r41_1 : List MOper := [⟨(some 3), .move (.c (.nilslice)), none⟩]
def b41_1 : SCode := .region r41_1
abbrev r41_2 : List MOper := [⟨(some 4), .move (.c (.int .i64 0)), none⟩]
def b41_2 : SCode := .region r41_2
abbrev r41_3 : List MOper := [⟨(some 5), .move (.t 4), none⟩,
  ⟨(some 6), .move (.t 0), none⟩,
  ⟨(some 7), .lenSl (.t 6), none⟩,
  ⟨(some 8), .bin .lss .num (.t 5) (.t 7), none⟩]
def b41_3 : SCode := .region r41_3
def b41_4 : SCode := .cond (.t 8) .skip (.exit 0)
def b41_5 : SCode := .seq b41_3 b41_4
abbrev t41_6 : LTree := (.quiet ⟨(some 11), .move (.t 3), none⟩ 0
  (.quiet ⟨(some 12), .move (.t 0), none⟩ 1
  (.quiet ⟨(some 13), .move (.t 4), none⟩ 2
  (.quiet ⟨(some 14), .indexAddr 9 (.t 12) (.t 13), none⟩ 3
  (.quiet ⟨(some 15), .fieldAddr 0 (.t 14), none⟩ 4
  (.quiet ⟨(some 16), .load1 (.t 15), none⟩ 5
  (.quiet ⟨(some 17), .move (.t 0), none⟩ 6
  (.quiet ⟨(some 18), .move (.t 4), none⟩ 7
  (.quiet ⟨(some 19), .indexAddr 9 (.t 17) (.t 18), none⟩ 8
  (.quiet ⟨(some 20), .fieldAddr 1 (.t 19), none⟩ 9
  (.quiet ⟨(some 21), .loadN 8 (.t 20), none⟩ 10
  (.quiet ⟨(some 22), .build [.int .i64 0, .int .i64 0, .int .i64 0, .int .i64 0, .bool false, .str [], .nilslice, .str [], .bool false] [(0, 1, (.t 16)), (1, 8, (.t 21))], none⟩ 11
  (.loud ⟨(some 23), .buildSlice [.int .i64 0, .int .i64 0, .int .i64 0, .int .i64 0, .bool false, .str [], .nilslice, .str [], .bool false] 9 1 [(0, 9, (.t 22))], none⟩ []
  (.loud ⟨(some 24), .append 9 104 (.t 11) (.t 23), none⟩ []
  (.quiet ⟨(some 3), .move (.t 24), none⟩ 14
  .leaf) .stop) .stop)))))))))))))
def b41_6 : SCode := .draw t41_6
def b41_7 : SCode := .block 1 b41_6
abbrev r41_8 : List MOper := [⟨(some 9), .move (.t 4), none⟩,
  ⟨(some 10), .bin .add .num (.t 9) (.c (.int .i64 1)), none⟩,
  ⟨(some 4), .move (.t 10), none⟩]
def b41_8 : SCode := .region r41_8
def b41_9 : SCode := .seq b41_7 b41_8
def b41_10 : SCode := .seq b41_5 b41_9
def b41_11 : SCode := .loop b41_10
def b41_12 : SCode := .block 0 b41_11
def b41_13 : SCode := .seq b41_2 b41_12
abbrev r41_14 : List MOper := [⟨(some 25), .move (.t 3), none⟩,
  ⟨(some 2), .move (.t 25), none⟩]
def b41_14 : SCode := .region r41_14
def b41_15 : SCode := .seq b41_14 .ret
def b41_16 : SCode := .seq b41_13 b41_15
def b41_17 : SCode := .seq b41_1 b41_16
def b41_18 : SCode := .seq b41_0 b41_17
def s41 : SFunc := ⟨26, [.t 2], b41_18⟩
theorem c41 : sFn Try.prog 41 = some s41 := by kernel_rfl
theorem Z41 : XR b41_0 r41_0 ∧ XR b41_1 r41_1 ∧ XR b41_2 r41_2 ∧ XR b41_3 r41_3 ∧ XC b41_4 (.t 8) .skip (.exit 0) ∧ XS b41_5 b41_3 b41_4 ∧ XT b41_6 t41_6 ∧ XB b41_7 1 b41_6 ∧ XR b41_8 r41_8 ∧ XS b41_9 b41_7 b41_8 ∧ XS b41_10 b41_5 b41_9 ∧ XB b41_12 0 b41_11 ∧ XS b41_13 b41_2 b41_12 ∧ XR b41_14 r41_14 ∧ XS b41_15 b41_14 .ret ∧ XS b41_16 b41_13 b41_15 ∧ XS b41_17 b41_1 b41_16 ∧ XS b41_18 b41_0 b41_17 ∧ XY s41 26 b41_18 [.t 2] := ⟨rfl, rfl, rfl, rfl, sC_cond, rfl, rfl, rfl, rfl, rfl, rfl, rfl, rfl, rfl, rfl, rfl, rfl, rfl, rfl⟩
abbrev r42_0 : List MOper := [⟨(some 1), .box (.t 0), none⟩,
  ⟨(some 2), .alloc [.int .i64 0, .nilslice], none⟩]
def b42_0 : SCode := .region r42_0
abbrev r42_1 : List MOper := [⟨(some 5), .fieldAddr 0 (.t 1), none⟩,
  ⟨(some 6), .load1 (.t 5), none⟩,
  ⟨(some 7), .build [.int .i64 0, .nilslice] [(0, 1, (.t 6))], none⟩,
  ⟨(some 3), .alloc [.int .i64 0, .nilslice], none⟩,
  ⟨none, .store 2 (.t 3) (.t 7), none⟩]
def b42_1 : SCode := .region r42_1
abbrev r42_2 : List MOper := [⟨(some 4), .move (.c (.int .i64 0)), none⟩]
def b42_2 : SCode := .region r42_2
abbrev r42_3 : List MOper := [⟨(some 8), .move (.t 4), none⟩,
  ⟨(some 9), .fieldAddr 1 (.t 1), none⟩,
  ⟨(some 10), .load1 (.t 9), none⟩,
  ⟨(some 11), .lenSl (.t 10), none⟩,
  ⟨(some 12), .bin .lss .num (.t 8) (.t 11), none⟩]
def b42_3 : SCode := .region r42_3
def b42_4 : SCode := .cond (.t 12) .skip (.exit 0)
def b42_5 : SCode := .seq b42_3 b42_4
abbrev t42_6 : LTree := (.quiet ⟨(some 15), .fieldAddr 1 (.t 3), none⟩ 0
  (.quiet ⟨(some 16), .load1 (.t 15), none⟩ 1
  (.quiet ⟨(some 17), .fieldAddr 1 (.t 1), none⟩ 2
  (.quiet ⟨(some 18), .load1 (.t 17), none⟩ 3
  (.quiet ⟨(some 19), .move (.t 4), none⟩ 4
  (.quiet ⟨(some 20), .indexAddr 4 (.t 18) (.t 19), none⟩ 5
  (.quiet ⟨(some 21), .fieldAddr 0 (.t 20), none⟩ 6
  (.quiet ⟨(some 22), .loadN 2 (.t 21), none⟩ 7
  (.quiet ⟨(some 23), .fieldAddr 1 (.t 1), none⟩ 8
  (.quiet ⟨(some 24), .load1 (.t 23), none⟩ 9
  (.quiet ⟨(some 25), .move (.t 4), none⟩ 10
  (.quiet ⟨(some 26), .indexAddr 4 (.t 24) (.t 25), none⟩ 11
  (.quiet ⟨(some 27), .fieldAddr 2 (.t 26), none⟩ 12
  (.quiet ⟨(some 28), .load1 (.t 27), none⟩ 13
  (.quiet ⟨(some 29), .fieldAddr 1 (.t 1), none⟩ 14
  (.quiet ⟨(some 30), .load1 (.t 29), none⟩ 15
  (.quiet ⟨(some 31), .move (.t 4), none⟩ 16
  (.quiet ⟨(some 32), .indexAddr 4 (.t 30) (.t 31), none⟩ 17
  (.quiet ⟨(some 33), .fieldAddr 3 (.t 32), none⟩ 18
  (.quiet ⟨(some 34), .load1 (.t 33), none⟩ 19
  (.quiet ⟨(some 35), .build [.str [], .str [], .int .i64 0, .int .i64 0] [(0, 2, (.t 22)), (2, 1, (.t 28)), (3, 1, (.t 34))], none⟩ 20
  (.loud ⟨(some 36), .buildSlice [.str [], .str [], .int .i64 0, .int .i64 0] 4 1 [(0, 4, (.t 35))], none⟩ [1]
  (.loud ⟨(some 37), .append 4 48 (.t 16) (.t 36), none⟩ []
  (.quiet ⟨(some 38), .fieldAddr 1 (.t 3), none⟩ 23
  (.loud ⟨none, .store 1 (.t 38) (.t 37), none⟩ []
  .leaf .stop)) .stop) .stop))))))))))))))))))))))
def b42_6 : SCode := .draw t42_6
def b42_7 : SCode := .block 1 b42_6
abbrev r42_8 : List MOper := [⟨(some 13), .move (.t 4), none⟩,
  ⟨(some 14), .bin .add .num (.t 13) (.c (.int .i64 1)), none⟩,
  ⟨(some 4), .move (.t 14), none⟩]
def b42_8 : SCode := .region r42_8
def b42_9 : SCode := .seq b42_7 b42_8
def b42_10 : SCode := .seq b42_5 b42_9
def b42_11 : SCode := .loop b42_10
def b42_12 : SCode := .block 0 b42_11
def b42_13 : SCode := .seq b42_2 b42_12
abbrev r42_14 : List MOper := [⟨(some 39), .loadN 2 (.t 3), none⟩,
  ⟨none, .store 2 (.t 2) (.t 39), none⟩]
def b42_14 : SCode := .region r42_14
def b42_15 : SCode := .seq b42_14 .ret
def b42_16 : SCode := .seq b42_13 b42_15
def b42_17 : SCode := .seq b42_1 b42_16
def b42_18 : SCode := .seq b42_0 b42_17
def s42 : SFunc := ⟨40, [.cN 2 2], b42_18⟩
theorem c42 : sFn Try.prog 42 = some s42 := by kernel_rfl
theorem Z42 : XR b42_0 r42_0 ∧ XR b42_1 r42_1 ∧ XR b42_2 r42_2 ∧ XR b42_3 r42_3 ∧ XC b42_4 (.t 12) .skip (.exit 0) ∧ XS b42_5 b42_3 b42_4 ∧ XT b42_6 t42_6 ∧ XB b42_7 1 b42_6 ∧ XR b42_8 r42_8 ∧ XS b42_9 b42_7 b42_8 ∧ XS b42_10 b42_5 b42_9 ∧ XB b42_12 0 b42_11 ∧ XS b42_13 b42_2 b42_12 ∧ XR b42_14 r42_14 ∧ XS b42_15 b42_14 .ret ∧ XS b42_16 b42_13 b42_15 ∧ XS b42_17 b42_1 b42_16 ∧ XS b42_18 b42_0 b42_17 ∧ XY s42 40 b42_18 [.cN 2 2] := ⟨rfl, rfl, rfl, rfl, sC_cond, rfl, rfl, rfl, rfl, rfl, rfl, rfl, rfl, rfl, rfl, rfl, rfl, rfl, rfl⟩

end
set_option maxHeartbeats 4000000
set_option maxRecDepth 10000

/-! Last replies, shards: as they are. -/
def mlI (l : List LaV) (n : Nat) (e : Env) (σ : AHeap) : Prop :=
  ∃ (i : Nat) (Lv : AV), i ≤ l.length ∧ n = l.length - i ∧ Grow σ Lv 9 ((l.take i).map LaV.cells) ∧ e 0 = .imm (l.map LaV.cells) false false ∧ e 3 = Lv ∧ e 4 = .int .i64 (i : Int)
def ImmQ (rows : List (List AV)) (r : AV) (σ : AHeap) : Prop := Frz σ r (.imm rows false false)
theorem ml_step (l : List LaV) (hl : l.length ≤ 1000000) (n : Nat) (e : Env) (σ : AHeap) (h : mlI l n e σ) :
    sC noCall 0 b41_10 (unw noCall 0 (loopR noCall 0 (RetQ [MRes.t 2] (ImmQ (l.map LaV.cells))) (.block 0 (.seq b41_15 .fin)) (mlI l) n) .fin) e σ := by
  obtain ⟨i, Lv, hi, hn, hLv, e0, e3, e4⟩ := h
  have hml : (l.map LaV.cells).length = l.length := by simp
  have lc := grow_cell hLv
  rcases Nat.lt_or_ge i l.length with hlt | hge
  · have hlt' : (i : Int) < (l.length : Int) := by omega
    have hge0 : (0 : Int) ≤ (i : Int) := by omega
    obtain ⟨x, hx⟩ : ∃ x, l[i]? = some x := ⟨_, List.getElem?_eq_getElem hlt⟩
    have hxx : (l.map LaV.cells)[i]? = some [.int .i64 x.seq, .int .i64 x.rep.client, .int .i64 x.rep.seq, .int .i64 x.rep.err, .bool x.rep.found, .str x.rep.val, .imm (recs x.rep.l) false false, .str x.rep.next, .bool x.rep.more] := by simp [hx, LaV.cells, RepV.cells]
    have hw : IntKind.wrap .i64 ((i : Int) + 1) = ((i + 1 : Nat) : Int) := by rw [Gz.wrap64 (by omega)]; omega
    have htk : l.take (i + 1) = l.take i ++ [x] := by rw [List.take_add_one, hx]; rfl
    obtain ⟨v, τ, a1, a2, a3, a4, a5⟩ := grow_one (b := 104) (by decide) hLv (by simp; omega) x.cells rfl rfl
    simp only [LaV.cells, RepV.cells] at a1
    simp only [Z41, base1, ↓reduceIte, Nat.reduceAdd, Nat.reduceSub, Nat.reduceMul, Nat.reduceEqDiff, Nat.reduceLeDiff, Nat.reduceLT, Int.reduceLT, Int.reduceLE, Int.reduceEq, Int.reduceNe, Int.reduceToNat, Int.reduceAdd, Int.reduceSub, reduceCtorEq, Nat.reduceBEq, Nat.reduceBNe, lenOf_imm, loopR_exit, loopR_ret, e0, e3, e4, hlt', hlt, hge0, hxx, hml, hw, Int.toNat_natCast, a1, a2, a3]
    rw [loopR_normal]
    refine ⟨l.length - (i + 1), _, _, by omega, .refl _ _ _, i + 1, v, hlt, rfl, ?_, ?_, ?_, ?_⟩
    · rw [htk]; simpa using a5
    all_goals simp only [putD_some, putD_none, Nat.reduceEqDiff, ↓reduceIte, e0, e3, e4, hw]
  · have hlt' : ¬ (i : Int) < (l.length : Int) := by omega
    have hie : i = l.length := by omega
    subst hie
    rw [List.take_length] at hLv
    simp only [Z41, base1, ↓reduceIte, Nat.reduceAdd, Nat.reduceSub, Nat.reduceMul, Nat.reduceEqDiff, Nat.reduceLeDiff, Nat.reduceLT, Int.reduceLT, Int.reduceLE, Int.reduceEq, Int.reduceNe, Int.reduceToNat, Int.reduceAdd, Int.reduceSub, reduceCtorEq, Nat.reduceBEq, Nat.reduceBNe, lenOf_imm, loopR_exit, loopR_ret, e0, e3, e4, hlt', hml]
    exact grow_frz hLv (rowsLa_pure l)
theorem madeL_ok (l : List LaV) (hl : l.length ≤ 1000000) : Tri Try.prog 41 [.imm (l.map LaV.cells) false false] [] fun r _ => r.pure = true ∧ r = .imm (l.map LaV.cells) false false := by
  refine Tri.frozen (Q := ImmQ (l.map LaV.cells)) (Tri.of_s c41 (noCall_sound _) ?_) (fun r σ hr => ⟨_, hr, by simp only [AV.pure, rowsLa_pure], rfl⟩)
  simp only [Z41, base1, baseE, ↓reduceIte, Nat.reduceAdd, Nat.reduceSub, Nat.reduceMul, Nat.reduceEqDiff, Nat.reduceLeDiff, Nat.reduceLT, Int.reduceLT, Int.reduceLE, Int.reduceEq, Int.reduceNe, Int.reduceToNat, Int.reduceAdd, Int.reduceSub, reduceCtorEq, Nat.reduceBEq, Nat.reduceBNe]
  exact sC_inv (a := b41_10) (mlI l) l.length _ _ (.refl _ _ _) ⟨0, .nilslice, Nat.zero_le _, rfl, .inl ⟨rfl, rfl⟩, rfl, rfl, rfl⟩ (ml_step l hl)
def madeLD (args : List AV) (σ : AHeap) (K : AV → AHeap → Prop) : Prop := ∃ (d : Nat) (x : LaV), args = [.slice d 0 1 (some 1) 9] ∧ hget σ d = some x.cells ∧ K (.imm [x.cells] false false) (hkill σ d)
theorem madeLD_ok (args : List AV) (σ : AHeap) (K : AV → AHeap → Prop) (h : madeLD args σ K) : Tri Try.prog 41 args σ K := by
  obtain ⟨d, x, rfl, hd, h⟩ := h
  have hg : Given σ d (.slice d 0 1 (some 1) 9) (.imm ([x].map LaV.cells) false false) := .inr (.inr ⟨0, 1, some 1, 9, _, [x.cells], rfl, rfl, hd, by rw [show [x.cells].flatten = x.cells by simp]; exact sub_all rfl, rfl, by simp [LaV.cells, RepV.cells], rowsLa_pure [x]⟩)
  exact (Tri.give (args := [.slice d 0 1 (some 1) 9]) (args1 := [.imm ([x].map LaV.cells) false false]) d rfl (given1 hg) (madeL_ok [x] (by simp))).mono fun r σ' hr => by rw [hr.1, hr.2]; exact h
def ma14I (ep : Int) (sh : List ShV) (n : Nat) (e : Env) (σ : AHeap) : Prop :=
  ∃ (i : Nat) (Lv : AV), i ≤ sh.length ∧ n = sh.length - i ∧ hget σ 0 = some [.int .i64 ep, .imm (sh.map ShV.cells) false false] ∧ hget σ 1 = some [.int .i64 0, .nilslice] ∧ hget σ 2 = some [.int .i64 ep, Lv] ∧ Grow σ Lv 4 ((sh.take i).map ShV.cells) ∧ LvD Lv ≠ some 0 ∧ LvD Lv ≠ some 1 ∧ LvD Lv ≠ some 2 ∧
    e 1 = .ptr 0 0 ∧ e 2 = .ptr 1 0 ∧ e 3 = .ptr 2 0 ∧ e 4 = .int .i64 (i : Int)
def AtQ (ep : Int) (sh : List ShV) (r : AV) (σ : AHeap) : Prop := Frz σ r (.agg [.int .i64 ep, .imm (sh.map ShV.cells) false false])
theorem frz_at {σ : AHeap} {ep : Int} {Lv : AV} {rows : List (List AV)} (h : Frz σ Lv (.imm rows false false)) : Frz σ (.agg [.int .i64 ep, Lv]) (.agg [.int .i64 ep, .imm rows false false]) := by
  refine .agg rfl (fun i x y hx hy => ?_)
  match i with
  | 0 => simp at hx hy; subst hx; subst hy; exact .pure rfl
  | 1 => simp at hx hy; subst hx; subst hy; exact h
  | n + 2 => simp at hx
theorem ma14_step (ep : Int) (sh : List ShV) (hl : sh.length ≤ 1000000) (n : Nat) (e : Env) (σ : AHeap) (h : ma14I ep sh n e σ) :
    sC noCall 0 b42_10 (unw noCall 0 (loopR noCall 0 (RetQ [MRes.cN 2 2] (AtQ ep sh)) (.block 0 (.seq b42_15 .fin)) (ma14I ep sh) n) .fin) e σ := by
  obtain ⟨i, Lv, hi, hn, g0, g1, g2, hLv, d0, d1, d2, e1, e2, e3, e4⟩ := h
  have hml : (sh.map ShV.cells).length = sh.length := by simp
  have lc := grow_cell hLv
  rcases Nat.lt_or_ge i sh.length with hlt | hge
  · have hlt' : (i : Int) < (sh.length : Int) := by omega
    have hge0 : (0 : Int) ≤ (i : Int) := by omega
    obtain ⟨x, hx⟩ : ∃ x, sh[i]? = some x := ⟨_, List.getElem?_eq_getElem hlt⟩
    have hxx : (sh.map ShV.cells)[i]? = some [.str x.from_, .str x.to, .int .i64 x.node, .int .i64 x.epoch] := by simp [hx, ShV.cells]
    have hw : IntKind.wrap .i64 ((i : Int) + 1) = ((i + 1 : Nat) : Int) := by rw [Gz.wrap64 (by omega)]; omega
    have htk : sh.take (i + 1) = sh.take i ++ [x] := by rw [List.take_add_one, hx]; rfl
    obtain ⟨v, τ, a1, a2, a3, a4, a5⟩ := grow_one (b := 48) (by decide) hLv (by simp; omega) x.cells rfl rfl
    obtain ⟨q0, u0⟩ := a4 0 _ g0 d0
    obtain ⟨q1, u1⟩ := a4 1 _ g1 d1
    obtain ⟨q2, u2⟩ := a4 2 _ g2 d2
    simp only [ShV.cells] at a1
    have p2 : ∀ c : List AV, hget (hpush σ c) 2 = some [.int .i64 ep, Lv] := fun c => push_old g2
    simp only [Z42, base1, ↓reduceIte, Nat.reduceAdd, Nat.reduceSub, Nat.reduceMul, Nat.reduceEqDiff, Nat.reduceLeDiff, Nat.reduceLT, Int.reduceLT, Int.reduceLE, Int.reduceEq, Int.reduceNe, Int.reduceToNat, Int.reduceAdd, Int.reduceSub, reduceCtorEq, Nat.reduceBEq, Nat.reduceBNe, lenOf_imm, loopR_exit, loopR_ret, e1, e2, e3, e4, g0, g1, g2, p2, q2, hlt', hlt, hge0, hxx, hml, hw, Int.toNat_natCast, a1, a2, a3]
    rw [loopR_normal]
    refine ⟨sh.length - (i + 1), _, _, by omega, .refl _ _ _, i + 1, v, hlt, rfl, by rw [set_other (by decide)]; exact q0, by rw [set_other (by decide)]; exact q1, set_same q2, ?_, u0, u1, u2, ?_, ?_, ?_, ?_⟩
    · rw [htk]
      refine grow_frame (by simpa using a5) fun j c hj hd => ?_
      rw [set_other (fun e => u2 (by rw [hd, e]))]; exact hj
    all_goals simp only [putD_some, putD_none, Nat.reduceEqDiff, ↓reduceIte, e1, e2, e3, e4, hw]
  · have hlt' : ¬ (i : Int) < (sh.length : Int) := by omega
    have hie : i = sh.length := by omega
    subst hie
    rw [List.take_length] at hLv
    have s1 : ∀ c : List AV, hget (hset σ 1 c) 1 = some c := fun c => set_same g1
    simp only [Z42, base1, ↓reduceIte, Nat.reduceAdd, Nat.reduceSub, Nat.reduceMul, Nat.reduceEqDiff, Nat.reduceLeDiff, Nat.reduceLT, Int.reduceLT, Int.reduceLE, Int.reduceEq, Int.reduceNe, Int.reduceToNat, Int.reduceAdd, Int.reduceSub, reduceCtorEq, Nat.reduceBEq, Nat.reduceBNe, lenOf_imm, loopR_exit, loopR_ret, e1, e2, e3, e4, g0, g1, g2, s1, hlt', hml, lc]
    refine frz_at (grow_frz (grow_frame hLv fun j c hj hd => ?_) (rowsSh_pure sh))
    rw [set_other (fun e => d1 (by rw [hd, e]))]; exact hj
theorem made14_ok (ep : Int) (sh : List ShV) (hl : sh.length ≤ 1000000) : Tri Try.prog 42 [.agg [.int .i64 ep, .imm (sh.map ShV.cells) false false]] [] fun r _ => r.pure = true ∧ r = .agg [.int .i64 ep, .imm (sh.map ShV.cells) false false] := by
  refine Tri.frozen (Q := AtQ ep sh) (Tri.of_s c42 (noCall_sound _) ?_) (fun r σ hr => ⟨_, hr, by simp only [AV.pure, pureL, rowsSh_pure, Bool.and_self], rfl⟩)
  simp only [Z42, base1, baseE, ↓reduceIte, Nat.reduceAdd, Nat.reduceSub, Nat.reduceMul, Nat.reduceEqDiff, Nat.reduceLeDiff, Nat.reduceLT, Int.reduceLT, Int.reduceLE, Int.reduceEq, Int.reduceNe, Int.reduceToNat, Int.reduceAdd, Int.reduceSub, reduceCtorEq, Nat.reduceBEq, Nat.reduceBNe]
  exact sC_inv (a := b42_10) (ma14I ep sh) sh.length _ _ (.refl _ _ _) ⟨0, .nilslice, Nat.zero_le _, rfl, rfl, rfl, rfl, .inl ⟨rfl, rfl⟩, by simp [LvD], by simp [LvD], by simp [LvD], rfl, rfl, rfl, rfl⟩ (ma14_step ep sh hl)
def made14D (args : List AV) (σ : AHeap) (K : AV → AHeap → Prop) : Prop := ∃ (ep : Int) (sh : List ShV), args = [.agg [.int .i64 ep, .imm (sh.map ShV.cells) false false]] ∧ sh.length ≤ 1000000 ∧ K (.agg [.int .i64 ep, .imm (sh.map ShV.cells) false false]) σ
theorem made14D_eq {ep : Int} {sh : List ShV} {σ : AHeap} {K : AV → AHeap → Prop} : made14D [.agg [.int .i64 ep, .imm (sh.map ShV.cells) false false]] σ K = (sh.length ≤ 1000000 ∧ K (.agg [.int .i64 ep, .imm (sh.map ShV.cells) false false]) σ) := by
  apply propext
  refine ⟨fun ⟨ep', sh', h1, h2, h3⟩ => ?_, fun h => ⟨ep, sh, rfl, h.1, h.2⟩⟩
  simp only [List.cons.injEq, AV.agg.injEq, AV.int.injEq, AV.imm.injEq, true_and, and_true] at h1
  obtain ⟨rfl, h1⟩ := h1
  have := map_inj sh_inj h1
  subst this
  exact ⟨h2, h3⟩
theorem made14D_ok (args : List AV) (σ : AHeap) (K : AV → AHeap → Prop) (h : made14D args σ K) : Tri Try.prog 42 args σ K := by
  obtain ⟨ep, sh, rfl, hl, h⟩ := h
  exact (Tri.pureD (by simp only [pureL, AV.pure, rowsSh_pure, Bool.and_self]) (made14_ok ep sh hl) σ).mono fun r σ' hr => by rw [hr.1, hr.2]; exact h
/-! Made. -/
def mkLa (x : RepV) : LaV := ⟨x.seq, x⟩
def made (r : RowV) : NoteV := ⟨r.kind, r.from_, r.to, r.epoch, r.tick, r.ask, r.rep, r.sf, r.st, r.l, r.last.map mkLa, r.aep, r.sh⟩
def nCells (r : RowV) (Lv : AV) (ae : Int) (Sv : AV) : List AV := [.int .i64 r.kind, .int .i64 r.from_, .int .i64 r.to, .int .i64 r.epoch, .int .i64 r.tick, .int .i64 r.ask.do_, .int .i64 r.ask.client, .int .i64 r.ask.seq, .str r.ask.text, .str r.ask.val, .str r.ask.from_, .str r.ask.to, .int .i64 r.ask.limit, .int .i64 r.rep.client, .int .i64 r.rep.seq, .int .i64 r.rep.err, .bool r.rep.found, .str r.rep.val, .imm (recs r.rep.l) false false, .str r.rep.next, .bool r.rep.more, .str r.sf, .str r.st, .imm (r.l.map recC) false false, Lv, .int .i64 ae, Sv]
def MaQ (r : RowV) (x : AV) (σ : AHeap) : Prop := Frz σ x (.agg (made r).cells)
theorem frz_note {σ : AHeap} {r : RowV} {Lv Sv : AV} (h : Frz σ Lv (.imm ((r.last.map mkLa).map LaV.cells) false false)) (k : Frz σ Sv (.imm (r.sh.map ShV.cells) false false)) : Frz σ (.agg (nCells r Lv r.aep Sv)) (.agg (made r).cells) := by
  refine .agg rfl (fun i x y hx hy => ?_)
  have h1 := recs_pure r.rep.l
  have h2 := rowsRec_pure r.l
  match i with
  | 0 | 1 | 2 | 3 | 4 | 5 | 6 | 7 | 8 | 9 | 10 | 11 | 12 | 13 | 14 | 15 | 16 | 17 | 19 | 20 | 21 | 22 | 25 => simp only [nCells, made, NoteV.cells, List.getElem?_cons_zero, List.getElem?_cons_succ, Option.some.injEq] at hx hy; subst hx; subst hy; exact .pure rfl
  | 18 => simp only [nCells, made, NoteV.cells, List.getElem?_cons_zero, List.getElem?_cons_succ, Option.some.injEq] at hx hy; subst hx; subst hy; exact .pure (by simp only [AV.pure, h1])
  | 23 => simp only [nCells, made, NoteV.cells, List.getElem?_cons_zero, List.getElem?_cons_succ, Option.some.injEq] at hx hy; subst hx; subst hy; exact .pure (by simp only [AV.pure, h2])
  | 24 => simp only [nCells, made, NoteV.cells, List.getElem?_cons_zero, List.getElem?_cons_succ, Option.some.injEq] at hx hy; subst hx; subst hy; exact h
  | 26 => simp only [nCells, made, NoteV.cells, List.getElem?_cons_zero, List.getElem?_cons_succ, Option.some.injEq] at hx hy; subst hx; subst hy; exact k
  | n + 27 => simp [nCells] at hx
def T14 : PCall := rowQ 41 madeLD (rowQ 42 made14D noCall)
theorem T14_app {f : FuncId} {args : List AV} {σ : AHeap} {K : AV → AHeap → Prop} : T14 f args σ K = rowQ 41 madeLD (rowQ 42 made14D noCall) f args σ K := _root_.id rfl
theorem T14_sound : Sound Try.prog T14 := rowQ_sound madeLD_ok (rowQ_sound made14D_ok (noCall_sound _))
abbrev z27 : List AV := [.int .i64 0, .int .i64 0, .int .i64 0, .int .i64 0, .int .i64 0, .int .i64 0, .int .i64 0, .int .i64 0, .str [], .str [], .str [], .str [], .int .i64 0, .int .i64 0, .int .i64 0, .int .i64 0, .bool false, .str [], .nilslice, .str [], .bool false, .str [], .str [], .nilslice, .nilslice, .int .i64 0, .nilslice]
def ma1I (r : RowV) (n : Nat) (e : Env) (σ : AHeap) : Prop :=
  ∃ (i : Nat) (Lv : AV), i ≤ r.last.length ∧ n = r.last.length - i ∧ hget σ 0 = some r.cells ∧ hget σ 1 = some z27 ∧ hget σ 2 = some (nCells r Lv 0 .nilslice) ∧ Grow σ Lv 9 (((r.last.take i).map mkLa).map LaV.cells) ∧ LvD Lv ≠ some 0 ∧ LvD Lv ≠ some 1 ∧ LvD Lv ≠ some 2 ∧
    e 1 = .ptr 0 0 ∧ e 2 = .ptr 1 0 ∧ e 3 = .ptr 2 0 ∧ e 4 = .int .i64 (i : Int)
theorem ma1_step (r : RowV) (hl : r.last.length ≤ 1000000) (hs : r.sh.length ≤ 1000000) (n : Nat) (e : Env) (σ : AHeap) (h : ma1I r n e σ) :
    sC T14 0 b14_10 (unw T14 0 (loopR T14 0 (RetQ [MRes.cN 2 27] (MaQ r)) (.block 0 (.seq b14_20 .fin)) (ma1I r) n) .fin) e σ := by
  obtain ⟨i, Lv, hi, hn, g0, g1, g2, hLv, d0, d1, d2, e1, e2, e3, e4⟩ := h
  have hml : (r.last.map RepV.cells).length = r.last.length := by simp
  have lc := grow_cell hLv
  simp only [RowV.cells] at g0
  simp only [nCells] at g2
  rcases Nat.lt_or_ge i r.last.length with hlt | hge
  · have hlt' : (i : Int) < (r.last.length : Int) := by omega
    have hge0 : (0 : Int) ≤ (i : Int) := by omega
    obtain ⟨x, hx⟩ : ∃ x, r.last[i]? = some x := ⟨_, List.getElem?_eq_getElem hlt⟩
    have hxx : (r.last.map RepV.cells)[i]? = some [.int .i64 x.client, .int .i64 x.seq, .int .i64 x.err, .bool x.found, .str x.val, .imm (recs x.l) false false, .str x.next, .bool x.more] := by simp [hx, RepV.cells]
    have hw : IntKind.wrap .i64 ((i : Int) + 1) = ((i + 1 : Nat) : Int) := by rw [Gz.wrap64 (by omega)]; omega
    have htk : r.last.take (i + 1) = r.last.take i ++ [x] := by rw [List.take_add_one, hx]; rfl
    have hxc : (mkLa x).cells = [.int .i64 x.seq, .int .i64 x.client, .int .i64 x.seq, .int .i64 x.err, .bool x.found, .str x.val, .imm (recs x.l) false false, .str x.next, .bool x.more] := rfl
    have fk : ∀ j c, hget σ j = some c → hget (hkill (hpush σ (mkLa x).cells) σ.length) j = some c := fun j c hj => Fr1.kill (id := σ.length) j c hj (by have := hget_lt hj; omega)
    have v1 := grow_frame hLv (τ := hkill (hpush σ (mkLa x).cells) σ.length) fun j c hj hd => fk j c hj
    obtain ⟨v, τ, a1, a2, a3, a4, a5⟩ := grow_any (b := 104) (x := .imm [(mkLa x).cells] false false) (ys := [(mkLa x).cells]) (by decide) v1 (by simp; omega) (by simp [elemsOf, hxc]) rfl (by simp [hxc]) rfl
    obtain ⟨q0, u0⟩ := a4 0 _ (fk _ _ g0) d0
    obtain ⟨q1, u1⟩ := a4 1 _ (fk _ _ g1) d1
    obtain ⟨q2, u2⟩ := a4 2 _ (fk _ _ g2) d2
    have p2 : ∀ c : List AV, hget (hpush σ c) 2 = _ := fun c => push_old g2
    have k2 := fk _ _ g2
    rw [hxc] at a1 k2
    simp only [T14_app, Z14, base1, ↓reduceIte, Nat.reduceAdd, Nat.reduceSub, Nat.reduceMul, Nat.reduceEqDiff, Nat.reduceLeDiff, Nat.reduceLT, Int.reduceLT, Int.reduceLE, Int.reduceEq, Int.reduceNe, Int.reduceToNat, Int.reduceAdd, Int.reduceSub, reduceCtorEq, Nat.reduceBEq, Nat.reduceBNe, lenOf_imm, loopR_exit, loopR_ret, e1, e2, e3, e4, g0, g1, g2, p2, hlt', hlt, hge0, hxx, hml, Int.toNat_natCast, push_new']
    refine ⟨σ.length, mkLa x, rfl, push_new', ?_⟩
    rw [hxc]
    simp only [T14_app, Z14, base1, ↓reduceIte, Nat.reduceAdd, Nat.reduceSub, Nat.reduceMul, Nat.reduceEqDiff, Nat.reduceLeDiff, Nat.reduceLT, Int.reduceLT, Int.reduceLE, Int.reduceEq, Int.reduceNe, Int.reduceToNat, Int.reduceAdd, Int.reduceSub, reduceCtorEq, Nat.reduceBEq, Nat.reduceBNe, lenOf_imm, loopR_exit, loopR_ret, e1, e2, e3, e4, k2, q2, a1, a2, a3, hw]
    rw [loopR_normal]
    refine ⟨r.last.length - (i + 1), _, _, by omega, .refl _ _ _, i + 1, v, hlt, rfl, by rw [set_other (by decide)]; exact q0, by rw [set_other (by decide)]; exact q1, set_same q2, ?_, u0, u1, u2, ?_, ?_, ?_, ?_⟩
    · rw [htk]
      refine grow_frame (by simpa using a5) fun j c hj hd => ?_
      rw [set_other (fun e => u2 (by rw [hd, e]))]; exact hj
    all_goals simp only [putD_some, putD_none, Nat.reduceEqDiff, ↓reduceIte, e1, e2, e3, e4, hw]
  · have hlt' : ¬ (i : Int) < (r.last.length : Int) := by omega
    have hie : i = r.last.length := by omega
    subst hie
    rw [List.take_length] at hLv
    have hsl : (r.sh.map ShV.cells).length = r.sh.length := by simp
    have s1 : ∀ c : List AV, hget (hset σ 1 c) 1 = some c := fun c => set_same g1
    have s2 : ∀ c : List AV, hget (hset σ 2 c) 2 = some c := fun c => set_same g2
    have s21 : ∀ c d : List AV, hget (hset (hset σ 2 c) 1 d) 1 = some d := fun c d => set_same (by rw [set_other (by decide)]; exact g1)
    have o1 : ∀ c : List AV, hget (hset σ 2 c) 1 = some z27 := fun c => (set_other (by decide)).trans g1
    have fin1 : ∀ c d : List AV, Grow (hset (hset σ 2 c) 1 d) Lv 9 ((r.last.map mkLa).map LaV.cells) := fun c d => grow_frame hLv fun j c hj hd => by
      rw [set_other (fun e => d1 (by rw [hd, e])), set_other (fun e => d2 (by rw [hd, e]))]; exact hj
    have fin2 : ∀ d : List AV, Grow (hset σ 1 d) Lv 9 ((r.last.map mkLa).map LaV.cells) := fun d => grow_frame hLv fun j c hj hd => by
      rw [set_other (fun e => d1 (by rw [hd, e]))]; exact hj
    have withA : ∀ d c : List AV, MaQ r (.agg (nCells r Lv r.aep (.imm (r.sh.map ShV.cells) false false))) (hset (hset σ 2 c) 1 d) := fun d c => frz_note (grow_frz (fin1 c d) (rowsLa_pure _)) (.pure (by simp only [AV.pure, rowsSh_pure]))
    cases h1 : decide (r.aep ≠ 0) with
    | true =>
      simp only [T14_app, Z14, base1, ↓reduceIte, Nat.reduceAdd, Nat.reduceSub, Nat.reduceMul, Nat.reduceEqDiff, Nat.reduceLeDiff, Nat.reduceLT, Int.reduceLT, Int.reduceLE, Int.reduceEq, Int.reduceNe, Int.reduceToNat, Int.reduceAdd, Int.reduceSub, reduceCtorEq, Nat.reduceBEq, Nat.reduceBNe, lenOf_imm, loopR_exit, loopR_ret, made14D_eq, e1, e2, e3, e4, g0, g1, g2, hlt', hml, hs, s2, o1, s21, h1, lc]
      exact withA _ _
    | false =>
      cases h2 : decide ((0 : Int) < (r.sh.length : Int)) with
      | true =>
        simp only [T14_app, Z14, base1, ↓reduceIte, Nat.reduceAdd, Nat.reduceSub, Nat.reduceMul, Nat.reduceEqDiff, Nat.reduceLeDiff, Nat.reduceLT, Int.reduceLT, Int.reduceLE, Int.reduceEq, Int.reduceNe, Int.reduceToNat, Int.reduceAdd, Int.reduceSub, reduceCtorEq, Nat.reduceBEq, Nat.reduceBNe, lenOf_imm, loopR_exit, loopR_ret, made14D_eq, e1, e2, e3, e4, g0, g1, g2, hlt', hml, hsl, hs, s2, o1, s21, h1, h2, lc]
        exact withA _ _
      | false =>
        have z1 : r.aep = 0 := by simpa using h1
        have z2 : r.sh = [] := by
          have := of_decide_eq_false h2
          exact List.length_eq_zero_iff.1 (by omega)
        simp only [T14_app, Z14, base1, ↓reduceIte, Nat.reduceAdd, Nat.reduceSub, Nat.reduceMul, Nat.reduceEqDiff, Nat.reduceLeDiff, Nat.reduceLT, Int.reduceLT, Int.reduceLE, Int.reduceEq, Int.reduceNe, Int.reduceToNat, Int.reduceAdd, Int.reduceSub, reduceCtorEq, Nat.reduceBEq, Nat.reduceBNe, lenOf_imm, loopR_exit, loopR_ret, e1, e2, e3, e4, g0, g1, g2, hlt', hml, hsl, s1, h1, h2, lc]
        have := frz_note (r := r) (Sv := .nilslice) (grow_frz (fin2 (nCells r Lv 0 .nilslice)) (rowsLa_pure _)) (by rw [z2]; exact .nil)
        rw [z1] at this
        exact this
theorem made_ok (r : RowV) (hl : r.last.length ≤ 1000000) (hs : r.sh.length ≤ 1000000) : Tri Try.prog 14 [.agg r.cells] [] fun x _ => x.pure = true ∧ x = .agg (made r).cells := by
  refine Tri.frozen (Q := MaQ r) (Tri.of_s c14 T14_sound ?_) (fun x σ hx => ⟨_, hx, note_pure _, rfl⟩)
  simp only [RowV.cells, T14_app, Z14, base1, baseE, ↓reduceIte, Nat.reduceAdd, Nat.reduceSub, Nat.reduceMul, Nat.reduceEqDiff, Nat.reduceLeDiff, Nat.reduceLT, Int.reduceLT, Int.reduceLE, Int.reduceEq, Int.reduceNe, Int.reduceToNat, Int.reduceAdd, Int.reduceSub, reduceCtorEq, Nat.reduceBEq, Nat.reduceBNe]
  exact sC_inv (a := b14_10) (ma1I r) r.last.length _ _ (.refl _ _ _) ⟨0, .nilslice, Nat.zero_le _, rfl, rfl, rfl, rfl, .inl ⟨rfl, rfl⟩, by simp [LvD], by simp [LvD], by simp [LvD], rfl, rfl, rfl, rfl⟩ (ma1_step r hl hs)
def madeD (args : List AV) (σ : AHeap) (K : AV → AHeap → Prop) : Prop := ∃ r : RowV, args = [.agg r.cells] ∧ r.last.length ≤ 1000000 ∧ r.sh.length ≤ 1000000 ∧ K (.agg (made r).cells) σ
theorem madeD_ok (args : List AV) (σ : AHeap) (K : AV → AHeap → Prop) (h : madeD args σ K) : Tri Try.prog 14 args σ K := by
  obtain ⟨r, rfl, hl, hs, h⟩ := h
  exact (Tri.pureD (by simp only [pureL, row_pure, Bool.and_self]) (made_ok r hl hs) σ).mono fun x σ' hx => by rw [hx.1, hx.2]; exact h
end Go.Proofs.Ytndlgmciplckjaa.note
