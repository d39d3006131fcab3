/- Parties, numbers, kinds, no ask, no reply, whole spans: what the functions that May calls answer. No condition. -/
import Derived.Test.YtndlgmciplckjaaNReadL
set_option linter.unusedVariables false
set_option linter.unusedSimpArgs false
namespace Go.Proofs.Ytndlgmciplckjaa.note
open Go.ChangeShapes Go.WideShapes Go.ChangeAt Go.RowKit Go.Gz
section
variable {C : PCall} {n0 : Nat} {R : MExit → Env → AHeap → Prop} {k : Cont} {e : Env} {σ : AHeap}
abbrev r35_0 : List MOper := [⟨(some 2), .move (.c (.bool false)), none⟩]
def b35_0 : SCode := .region r35_0
abbrev r35_1 : List MOper := [⟨(some 3), .move (.t 0), none⟩,
  ⟨(some 4), .bin .geq .num (.t 3) (.c (.int .i64 0)), none⟩,
  ⟨(some 5), .move (.t 4), none⟩,
  ⟨(some 6), .move (.t 0), (some (5, true))⟩,
  ⟨(some 7), .bin .leq .num (.t 6) (.c (.int .i64 5)), (some (5, true))⟩,
  ⟨(some 8), .pick (.t 5) (.t 7) (.c (.bool false)), none⟩,
  ⟨(some 9), .move (.t 8), none⟩,
  ⟨(some 10), .move (.t 0), (some (9, false))⟩,
  ⟨(some 11), .bin .geq .num (.t 10) (.c (.int .i64 100)), (some (9, false))⟩,
  ⟨(some 12), .move (.t 11), (some (9, false))⟩,
  ⟨(some 13), .move (.t 0), (some (12, true))⟩,
  ⟨(some 14), .bin .lss .num (.t 13) (.c (.int .i64 104)), (some (12, true))⟩,
  ⟨(some 15), .pick (.t 12) (.t 14) (.c (.bool false)), (some (9, false))⟩,
  ⟨(some 16), .pick (.t 9) (.c (.bool true)) (.t 15), none⟩,
  ⟨(some 2), .move (.t 16), none⟩]
def b35_1 : SCode := .region r35_1
def b35_2 : SCode := .seq b35_1 .ret
def b35_3 : SCode := .seq b35_0 b35_2
def s35 : SFunc := ⟨17, [.t 2], b35_3⟩
theorem c35 : sFn Try.prog 35 = some s35 := by kernel_rfl
theorem Z35 : XR b35_0 r35_0 ∧ XR b35_1 r35_1 ∧ XS b35_2 b35_1 .ret ∧ XS b35_3 b35_0 b35_2 ∧ XY s35 17 b35_3 [.t 2] := ⟨rfl, rfl, rfl, rfl, rfl⟩
abbrev r36_0 : List MOper := [⟨(some 2), .move (.c (.bool false)), none⟩]
def b36_0 : SCode := .region r36_0
abbrev r36_1 : List MOper := [⟨(some 3), .move (.t 0), none⟩,
  ⟨(some 4), .bin .geq .num (.t 3) (.c (.int .i64 0)), none⟩,
  ⟨(some 5), .move (.t 4), none⟩,
  ⟨(some 6), .move (.t 0), (some (5, true))⟩,
  ⟨(some 7), .bin .leq .num (.t 6) (.c (.int .i64 268435455)), (some (5, true))⟩,
  ⟨(some 8), .pick (.t 5) (.t 7) (.c (.bool false)), none⟩,
  ⟨(some 2), .move (.t 8), none⟩]
def b36_1 : SCode := .region r36_1
def b36_2 : SCode := .seq b36_1 .ret
def b36_3 : SCode := .seq b36_0 b36_2
def s36 : SFunc := ⟨9, [.t 2], b36_3⟩
theorem c36 : sFn Try.prog 36 = some s36 := by kernel_rfl
theorem Z36 : XR b36_0 r36_0 ∧ XR b36_1 r36_1 ∧ XS b36_2 b36_1 .ret ∧ XS b36_3 b36_0 b36_2 ∧ XY s36 9 b36_3 [.t 2] := ⟨rfl, rfl, rfl, rfl, rfl⟩
abbrev r37_0 : List MOper := [⟨(some 4), .move (.c (.bool false)), none⟩]
def b37_0 : SCode := .region r37_0
abbrev r37_1 : List MOper := [⟨(some 7), .move (.t 1), none⟩,
  ⟨(some 8), .lenSl (.t 7), none⟩,
  ⟨(some 9), .move (.c (.int .i64 0)), none⟩]
def b37_1 : SCode := .region r37_1
abbrev r37_2 : List MOper := [⟨(some 10), .bin .lss .num (.t 9) (.t 8), none⟩]
def b37_2 : SCode := .region r37_2
def b37_3 : SCode := .cond (.t 10) .skip (.exit 0)
abbrev r37_4 : List MOper := [⟨(some 11), .indexAddr 1 (.t 7) (.t 9), none⟩,
  ⟨(some 12), .load1 (.t 11), none⟩,
  ⟨(some 6), .move (.t 12), none⟩]
def b37_4 : SCode := .region r37_4
abbrev r37_5 : List MOper := [⟨(some 13), .move (.t 6), none⟩,
  ⟨(some 14), .move (.t 0), none⟩,
  ⟨(some 15), .bin .eql .num (.t 13) (.t 14), none⟩]
def b37_5 : SCode := .region r37_5
abbrev r37_6 : List MOper := [⟨(some 4), .move (.c (.bool true)), none⟩]
def b37_6 : SCode := .region r37_6
def b37_7 : SCode := .seq b37_6 .ret
def b37_8 : SCode := .cond (.t 15) b37_7 .skip
def b37_9 : SCode := .seq b37_5 b37_8
def b37_10 : SCode := .seq b37_4 b37_9
def b37_11 : SCode := .block 1 b37_10
abbrev r37_12 : List MOper := [⟨(some 16), .bin .add .num (.t 9) (.c (.int .i64 1)), none⟩,
  ⟨(some 9), .move (.t 16), none⟩]
def b37_12 : SCode := .region r37_12
def b37_13 : SCode := .seq b37_11 b37_12
def b37_14 : SCode := .seq b37_3 b37_13
def b37_15 : SCode := .seq b37_2 b37_14
def b37_16 : SCode := .loop b37_15
def b37_17 : SCode := .block 0 b37_16
def b37_18 : SCode := .seq b37_1 b37_17
abbrev r37_19 : List MOper := [⟨(some 4), .move (.c (.bool false)), none⟩]
def b37_19 : SCode := .region r37_19
def b37_20 : SCode := .seq b37_19 .ret
def b37_21 : SCode := .seq b37_18 b37_20
def b37_22 : SCode := .seq b37_0 b37_21
def s37 : SFunc := ⟨17, [.t 4], b37_22⟩
theorem c37 : sFn Try.prog 37 = some s37 := by kernel_rfl
theorem Z37 : XR b37_0 r37_0 ∧ XR b37_1 r37_1 ∧ XR b37_2 r37_2 ∧ XC b37_3 (.t 10) .skip (.exit 0) ∧ XR b37_4 r37_4 ∧ XR b37_5 r37_5 ∧ XR b37_6 r37_6 ∧ XS b37_7 b37_6 .ret ∧ XC b37_8 (.t 15) b37_7 .skip ∧ XS b37_9 b37_5 b37_8 ∧ XS b37_10 b37_4 b37_9 ∧ XB b37_11 1 b37_10 ∧ XR b37_12 r37_12 ∧ XS b37_13 b37_11 b37_12 ∧ XS b37_14 b37_3 b37_13 ∧ XS b37_15 b37_2 b37_14 ∧ XB b37_17 0 b37_16 ∧ XS b37_18 b37_1 b37_17 ∧ XR b37_19 r37_19 ∧ XS b37_20 b37_19 .ret ∧ XS b37_21 b37_18 b37_20 ∧ XS b37_22 b37_0 b37_21 ∧ XY s37 17 b37_22 [.t 4] := ⟨rfl, rfl, rfl, sC_cond, rfl, rfl, rfl, rfl, sC_cond, rfl, rfl, rfl, rfl, rfl, rfl, rfl, rfl, rfl, rfl, rfl, rfl, rfl, rfl⟩
abbrev r73_0 : List MOper := [⟨(some 1), .box (.t 0), none⟩,
  ⟨(some 2), .move (.c (.bool false)), none⟩]
def b73_0 : SCode := .region r73_0
abbrev r73_1 : List MOper := [⟨(some 3), .loadN 8 (.t 1), none⟩,
  ⟨(some 4), .build [.int .i64 0, .int .i64 0, .int .i64 0, .str [], .str [], .str [], .str [], .int .i64 0] [], none⟩,
  ⟨(some 5), .bin .eql (.flat [.i, .i, .i, .s, .s, .s, .s, .i]) (.t 3) (.t 4), none⟩,
  ⟨(some 2), .move (.t 5), none⟩]
def b73_1 : SCode := .region r73_1
def b73_2 : SCode := .seq b73_1 .ret
def b73_3 : SCode := .seq b73_0 b73_2
def s73 : SFunc := ⟨6, [.t 2], b73_3⟩
theorem c73 : sFn Try.prog 73 = some s73 := by kernel_rfl
theorem Z73 : XR b73_0 r73_0 ∧ XR b73_1 r73_1 ∧ XS b73_2 b73_1 .ret ∧ XS b73_3 b73_0 b73_2 ∧ XY s73 6 b73_3 [.t 2] := ⟨rfl, rfl, rfl, rfl, rfl⟩
abbrev r74_0 : List MOper := [⟨(some 1), .box (.t 0), none⟩,
  ⟨(some 2), .move (.c (.bool false)), none⟩]
def b74_0 : SCode := .region r74_0
abbrev r74_1 : List MOper := [⟨(some 3), .fieldAddr 0 (.t 1), none⟩,
  ⟨(some 4), .load1 (.t 3), none⟩,
  ⟨(some 5), .bin .eql .num (.t 4) (.c (.int .i64 0)), none⟩,
  ⟨(some 6), .move (.t 5), none⟩,
  ⟨(some 7), .fieldAddr 1 (.t 1), (some (6, true))⟩,
  ⟨(some 8), .load1 (.t 7), (some (6, true))⟩,
  ⟨(some 9), .bin .eql .num (.t 8) (.c (.int .i64 0)), (some (6, true))⟩,
  ⟨(some 10), .pick (.t 6) (.t 9) (.c (.bool false)), none⟩,
  ⟨(some 11), .move (.t 10), none⟩,
  ⟨(some 12), .fieldAddr 2 (.t 1), (some (11, true))⟩,
  ⟨(some 13), .load1 (.t 12), (some (11, true))⟩,
  ⟨(some 14), .bin .eql .num (.t 13) (.c (.int .i64 0)), (some (11, true))⟩,
  ⟨(some 15), .pick (.t 11) (.t 14) (.c (.bool false)), none⟩,
  ⟨(some 16), .move (.t 15), none⟩,
  ⟨(some 17), .fieldAddr 3 (.t 1), (some (16, true))⟩,
  ⟨(some 18), .load1 (.t 17), (some (16, true))⟩,
  ⟨(some 19), .un .not (.t 18), (some (16, true))⟩,
  ⟨(some 20), .pick (.t 16) (.t 19) (.c (.bool false)), none⟩,
  ⟨(some 21), .move (.t 20), none⟩,
  ⟨(some 22), .fieldAddr 4 (.t 1), (some (21, true))⟩,
  ⟨(some 23), .load1 (.t 22), (some (21, true))⟩,
  ⟨(some 24), .bin .eql .num (.t 23) (.c (.str [])), (some (21, true))⟩,
  ⟨(some 25), .pick (.t 21) (.t 24) (.c (.bool false)), none⟩,
  ⟨(some 26), .move (.t 25), none⟩,
  ⟨(some 27), .fieldAddr 5 (.t 1), (some (26, true))⟩,
  ⟨(some 28), .load1 (.t 27), (some (26, true))⟩,
  ⟨(some 29), .lenSl (.t 28), (some (26, true))⟩,
  ⟨(some 30), .bin .eql .num (.t 29) (.c (.int .i64 0)), (some (26, true))⟩,
  ⟨(some 31), .pick (.t 26) (.t 30) (.c (.bool false)), none⟩,
  ⟨(some 32), .move (.t 31), none⟩,
  ⟨(some 33), .fieldAddr 6 (.t 1), (some (32, true))⟩,
  ⟨(some 34), .load1 (.t 33), (some (32, true))⟩,
  ⟨(some 35), .bin .eql .num (.t 34) (.c (.str [])), (some (32, true))⟩,
  ⟨(some 36), .pick (.t 32) (.t 35) (.c (.bool false)), none⟩,
  ⟨(some 37), .move (.t 36), none⟩,
  ⟨(some 38), .fieldAddr 7 (.t 1), (some (37, true))⟩,
  ⟨(some 39), .load1 (.t 38), (some (37, true))⟩,
  ⟨(some 40), .un .not (.t 39), (some (37, true))⟩,
  ⟨(some 41), .pick (.t 37) (.t 40) (.c (.bool false)), none⟩,
  ⟨(some 2), .move (.t 41), none⟩]
def b74_1 : SCode := .region r74_1
def b74_2 : SCode := .seq b74_1 .ret
def b74_3 : SCode := .seq b74_0 b74_2
def s74 : SFunc := ⟨42, [.t 2], b74_3⟩
theorem c74 : sFn Try.prog 74 = some s74 := by kernel_rfl
theorem Z74 : XR b74_0 r74_0 ∧ XR b74_1 r74_1 ∧ XS b74_2 b74_1 .ret ∧ XS b74_3 b74_0 b74_2 ∧ XY s74 42 b74_3 [.t 2] := ⟨rfl, rfl, rfl, rfl, rfl⟩
abbrev r88_0 : List MOper := [⟨(some 2), .move (.c (.bool false)), none⟩]
def b88_0 : SCode := .region r88_0
abbrev r88_1 : List MOper := [⟨(some 3), .move (.c (.str [])), none⟩]
def b88_1 : SCode := .region r88_1
abbrev r88_2 : List MOper := [⟨(some 6), .move (.t 0), none⟩,
  ⟨(some 7), .lenSl (.t 6), none⟩,
  ⟨(some 8), .move (.c (.int .i64 0)), none⟩]
def b88_2 : SCode := .region r88_2
abbrev r88_3 : List MOper := [⟨(some 9), .bin .lss .num (.t 8) (.t 7), none⟩]
def b88_3 : SCode := .region r88_3
def b88_4 : SCode := .cond (.t 9) .skip (.exit 0)
abbrev r88_5 : List MOper := [⟨(some 10), .move (.t 8), none⟩,
  ⟨(some 11), .indexAddr 2 (.t 6) (.t 8), none⟩,
  ⟨(some 12), .loadN 2 (.t 11), none⟩,
  ⟨(some 5), .alloc [.str [], .str []], none⟩,
  ⟨(some 4), .move (.t 10), none⟩,
  ⟨none, .store 2 (.t 5) (.t 12), none⟩]
def b88_5 : SCode := .region r88_5
abbrev r88_6 : List MOper := [⟨(some 13), .loadN 2 (.t 5), none⟩,
  ⟨(some 14), .call 91 [(.t 13)], none⟩,
  ⟨(some 15), .move (.t 14), none⟩,
  ⟨(some 16), .fieldAddr 0 (.t 5), (some (15, false))⟩,
  ⟨(some 17), .load1 (.t 16), (some (15, false))⟩,
  ⟨(some 18), .move (.t 3), (some (15, false))⟩,
  ⟨(some 19), .bin .neq .num (.t 17) (.t 18), (some (15, false))⟩,
  ⟨(some 20), .pick (.t 15) (.c (.bool true)) (.t 19), none⟩,
  ⟨(some 21), .move (.t 20), none⟩,
  ⟨(some 22), .move (.t 4), (some (21, false))⟩,
  ⟨(some 23), .bin .gtr .num (.t 22) (.c (.int .i64 0)), (some (21, false))⟩,
  ⟨(some 24), .move (.t 23), (some (21, false))⟩,
  ⟨(some 25), .move (.t 3), (some (24, true))⟩,
  ⟨(some 26), .bin .eql .num (.t 25) (.c (.str [])), (some (24, true))⟩,
  ⟨(some 27), .pick (.t 24) (.t 26) (.c (.bool false)), (some (21, false))⟩,
  ⟨(some 28), .pick (.t 21) (.c (.bool true)) (.t 27), none⟩]
def b88_6 : SCode := .region r88_6
abbrev r88_7 : List MOper := [⟨(some 2), .move (.c (.bool false)), none⟩]
def b88_7 : SCode := .region r88_7
def b88_8 : SCode := .seq b88_7 .ret
def b88_9 : SCode := .cond (.t 28) b88_8 .skip
def b88_10 : SCode := .seq b88_6 b88_9
abbrev r88_11 : List MOper := [⟨(some 29), .fieldAddr 1 (.t 5), none⟩,
  ⟨(some 30), .load1 (.t 29), none⟩,
  ⟨(some 3), .move (.t 30), none⟩]
def b88_11 : SCode := .region r88_11
def b88_12 : SCode := .seq b88_10 b88_11
def b88_13 : SCode := .seq b88_5 b88_12
def b88_14 : SCode := .block 1 b88_13
abbrev r88_15 : List MOper := [⟨(some 31), .bin .add .num (.t 8) (.c (.int .i64 1)), none⟩,
  ⟨(some 8), .move (.t 31), none⟩]
def b88_15 : SCode := .region r88_15
def b88_16 : SCode := .seq b88_14 b88_15
def b88_17 : SCode := .seq b88_4 b88_16
def b88_18 : SCode := .seq b88_3 b88_17
def b88_19 : SCode := .loop b88_18
def b88_20 : SCode := .block 0 b88_19
def b88_21 : SCode := .seq b88_2 b88_20
abbrev r88_22 : List MOper := [⟨(some 32), .move (.t 0), none⟩,
  ⟨(some 33), .lenSl (.t 32), none⟩,
  ⟨(some 34), .bin .gtr .num (.t 33) (.c (.int .i64 0)), none⟩,
  ⟨(some 35), .move (.t 34), none⟩,
  ⟨(some 36), .move (.t 3), (some (35, true))⟩,
  ⟨(some 37), .bin .eql .num (.t 36) (.c (.str [])), (some (35, true))⟩,
  ⟨(some 38), .pick (.t 35) (.t 37) (.c (.bool false)), none⟩,
  ⟨(some 2), .move (.t 38), none⟩]
def b88_22 : SCode := .region r88_22
def b88_23 : SCode := .seq b88_22 .ret
def b88_24 : SCode := .seq b88_21 b88_23
def b88_25 : SCode := .seq b88_1 b88_24
def b88_26 : SCode := .seq b88_0 b88_25
def s88 : SFunc := ⟨39, [.t 2], b88_26⟩
theorem c88 : sFn Try.prog 88 = some s88 := by kernel_rfl
theorem Z88 : XR b88_0 r88_0 ∧ XR b88_1 r88_1 ∧ XR b88_2 r88_2 ∧ XR b88_3 r88_3 ∧ XC b88_4 (.t 9) .skip (.exit 0) ∧ XR b88_5 r88_5 ∧ XR b88_6 r88_6 ∧ XR b88_7 r88_7 ∧ XS b88_8 b88_7 .ret ∧ XC b88_9 (.t 28) b88_8 .skip ∧ XS b88_10 b88_6 b88_9 ∧ XR b88_11 r88_11 ∧ XS b88_12 b88_10 b88_11 ∧ XS b88_13 b88_5 b88_12 ∧ XB b88_14 1 b88_13 ∧ XR b88_15 r88_15 ∧ XS b88_16 b88_14 b88_15 ∧ XS b88_17 b88_4 b88_16 ∧ XS b88_18 b88_3 b88_17 ∧ XB b88_20 0 b88_19 ∧ XS b88_21 b88_2 b88_20 ∧ XR b88_22 r88_22 ∧ XS b88_23 b88_22 .ret ∧ XS b88_24 b88_21 b88_23 ∧ XS b88_25 b88_1 b88_24 ∧ XS b88_26 b88_0 b88_25 ∧ XY s88 39 b88_26 [.t 2] := ⟨rfl, rfl, rfl, rfl, sC_cond, rfl, rfl, rfl, rfl, sC_cond, rfl, rfl, rfl, rfl, rfl, rfl, rfl, rfl, rfl, rfl, rfl, rfl, rfl, rfl, rfl, rfl, rfl⟩
abbrev r91_0 : List MOper := [⟨(some 1), .box (.t 0), none⟩,
  ⟨(some 2), .move (.c (.bool false)), none⟩]
def b91_0 : SCode := .region r91_0
abbrev r91_1 : List MOper := [⟨(some 3), .fieldAddr 1 (.t 1), none⟩,
  ⟨(some 4), .load1 (.t 3), none⟩,
  ⟨(some 5), .bin .neq .num (.t 4) (.c (.str [])), none⟩,
  ⟨(some 6), .move (.t 5), none⟩,
  ⟨(some 7), .fieldAddr 1 (.t 1), (some (6, true))⟩,
  ⟨(some 8), .load1 (.t 7), (some (6, true))⟩,
  ⟨(some 9), .fieldAddr 0 (.t 1), (some (6, true))⟩,
  ⟨(some 10), .load1 (.t 9), (some (6, true))⟩,
  ⟨(some 11), .bin .leq .num (.t 8) (.t 10), (some (6, true))⟩,
  ⟨(some 12), .pick (.t 6) (.t 11) (.c (.bool false)), none⟩,
  ⟨(some 2), .move (.t 12), none⟩]
def b91_1 : SCode := .region r91_1
def b91_2 : SCode := .seq b91_1 .ret
def b91_3 : SCode := .seq b91_0 b91_2
def s91 : SFunc := ⟨13, [.t 2], b91_3⟩
theorem c91 : sFn Try.prog 91 = some s91 := by kernel_rfl
theorem Z91 : XR b91_0 r91_0 ∧ XR b91_1 r91_1 ∧ XS b91_2 b91_1 .ret ∧ XS b91_3 b91_0 b91_2 ∧ XY s91 13 b91_3 [.t 2] := ⟨rfl, rfl, rfl, rfl, rfl⟩

end
set_option maxHeartbeats 4000000
set_option maxRecDepth 10000
theorem push_new' {σ : AHeap} {c : List AV} : hget (hpush σ c) (List.length σ) = some c := push_new rfl
/-! Numbers, parties, kinds. -/
def partyB (n : Int) : Bool := (decide (0 ≤ n) && decide (n ≤ 5)) || (decide (100 ≤ n) && decide (n < 104))
theorem party_ok (n : Int) : Tri Try.prog 35 [.int .i64 n] [] fun r _ => r.pure = true ∧ r = .bool (partyB n) := by
  refine Tri.of_s c35 (noCall_sound _) ?_
  cases h1 : decide (0 ≤ n) <;> cases h2 : decide (n ≤ 5) <;> cases h3 : decide (100 ≤ n) <;> cases h4 : decide (n < 104) <;>
    (simp only [Z35, base1, baseE, ↓reduceIte, Nat.reduceAdd, Nat.reduceSub, Nat.reduceMul, Nat.reduceEqDiff, Nat.reduceLeDiff, Nat.reduceLT, Int.reduceLT, Int.reduceLE, Int.reduceEq, Int.reduceNe, Int.reduceToNat, Int.reduceAdd, Int.reduceSub, reduceCtorEq, Nat.reduceBEq, Nat.reduceBNe, h1, h2, h3, h4]; exact ⟨rfl, by simp only [partyB, h1, h2, h3, h4]; rfl⟩)
def numB (n : Int) : Bool := decide (0 ≤ n) && decide (n ≤ 268435455)
theorem number_ok (n : Int) : Tri Try.prog 36 [.int .i64 n] [] fun r _ => r.pure = true ∧ r = .bool (numB n) := by
  refine Tri.of_s c36 (noCall_sound _) ?_
  cases h1 : decide (0 ≤ n) <;> cases h2 : decide (n ≤ 268435455) <;>
    (simp only [Z36, base1, baseE, ↓reduceIte, Nat.reduceAdd, Nat.reduceSub, Nat.reduceMul, Nat.reduceEqDiff, Nat.reduceLeDiff, Nat.reduceLT, Int.reduceLT, Int.reduceLE, Int.reduceEq, Int.reduceNe, Int.reduceToNat, Int.reduceAdd, Int.reduceSub, reduceCtorEq, Nat.reduceBEq, Nat.reduceBNe, h1, h2]; exact ⟨rfl, by simp only [numB, h1, h2]; rfl⟩)
def partyD : List AV → AHeap → (AV → AHeap → Prop) → Prop
  | [.int .i64 n], σ, K => K (.bool (partyB n)) σ
  | _, _, _ => False
theorem partyD_eq {n : Int} {σ : AHeap} {K : AV → AHeap → Prop} : partyD [.int .i64 n] σ K = K (.bool (partyB n)) σ := _root_.id rfl
theorem partyD_ok (args : List AV) (σ : AHeap) (K : AV → AHeap → Prop) (h : partyD args σ K) : Tri Try.prog 35 args σ K := by
  unfold partyD at h
  split at h
  · exact (Tri.pureD rfl (party_ok _) _).mono fun r σ' hr => by rw [hr.1, hr.2]; exact h
  · exact h.elim
def numberD : List AV → AHeap → (AV → AHeap → Prop) → Prop
  | [.int .i64 n], σ, K => K (.bool (numB n)) σ
  | _, _, _ => False
theorem numberD_eq {n : Int} {σ : AHeap} {K : AV → AHeap → Prop} : numberD [.int .i64 n] σ K = K (.bool (numB n)) σ := _root_.id rfl
theorem numberD_ok (args : List AV) (σ : AHeap) (K : AV → AHeap → Prop) (h : numberD args σ K) : Tri Try.prog 36 args σ K := by
  unfold numberD at h
  split at h
  · exact (Tri.pureD rfl (number_ok _) _).mono fun r σ' hr => by rw [hr.1, hr.2]; exact h
  · exact h.elim
def hasI (k : Int) (ks : List Int) (cs : List AV) (s : Nat) (σ0 : AHeap) (n : Nat) (e : Env) (σ : AHeap) : Prop :=
  ∃ i : Nat, i ≤ ks.length ∧ n = ks.length - i ∧ σ = σ0 ∧ (ks.take i).contains k = false ∧ e 0 = .int .i64 k ∧ e 7 = .slice s 0 ks.length (some ks.length) 1 ∧ e 8 = .int .i64 (ks.length : Int) ∧ e 9 = .int .i64 (i : Int)
theorem has_step (k : Int) (ks : List Int) (s : Nat) (σ0 : AHeap) (hs : hget σ0 s = some (ks.map fun n => AV.int .i64 n)) (hl : ks.length ≤ 1000) (Q : AV → AHeap → Prop) (hQ : Q (.bool (ks.contains k)) σ0) (n0 n : Nat) (e : Env) (σ : AHeap) (h : hasI k ks [] s σ0 n e σ) :
    sC noCall n0 b37_15 (unw noCall n0 (loopR noCall n0 (RetQ [MRes.t 4] Q) (.block 0 (.seq b37_20 .fin)) (hasI k ks [] s σ0) n) .fin) e σ := by
  obtain ⟨i, hi, hn, rfl, ht, h0, h7, h8, h9⟩ := h
  rcases Nat.lt_or_ge i ks.length with hlt | hge
  · have hlt' : (i : Int) < (ks.length : Int) := by omega
    have hge0 : (0 : Int) ≤ (i : Int) := by omega
    obtain ⟨x, hx⟩ : ∃ x, ks[i]? = some x := ⟨_, List.getElem?_eq_getElem hlt⟩
    have hxx : (ks.map fun n => AV.int .i64 n)[i]? = some (.int .i64 x) := by simp [hx]
    have htk : ks.take (i + 1) = ks.take i ++ [x] := by rw [List.take_add_one, hx]; rfl
    have hw : IntKind.wrap .i64 ((i : Int) + 1) = ((i + 1 : Nat) : Int) := by rw [Gz.wrap64 (by omega)]; omega
    by_cases hxk : x = k
    · have hc : ks.contains k = true := by rw [List.contains_iff_mem]; rw [← hxk]; exact List.mem_of_getElem? hx
      rw [hc] at hQ
      simp only [Z37, base1, baseE, ↓reduceIte, Nat.reduceAdd, Nat.reduceSub, Nat.reduceMul, Nat.reduceEqDiff, Nat.reduceLeDiff, Nat.reduceLT, Int.reduceLT, Int.reduceLE, Int.reduceEq, Int.reduceNe, Int.reduceToNat, Int.reduceAdd, Int.reduceSub, reduceCtorEq, Nat.reduceBEq, Nat.reduceBNe, loopR_exit, loopR_ret, h0, h7, h8, h9, hlt', hlt, hge0, hs, hxx, hxk, Int.toNat_natCast]
      exact hQ
    · simp only [Z37, base1, baseE, ↓reduceIte, Nat.reduceAdd, Nat.reduceSub, Nat.reduceMul, Nat.reduceEqDiff, Nat.reduceLeDiff, Nat.reduceLT, Int.reduceLT, Int.reduceLE, Int.reduceEq, Int.reduceNe, Int.reduceToNat, Int.reduceAdd, Int.reduceSub, reduceCtorEq, Nat.reduceBEq, Nat.reduceBNe, loopR_exit, loopR_ret, h0, h7, h8, h9, hlt', hlt, hge0, hs, hxx, hxk, hw, Int.toNat_natCast]
      rw [loopR_normal]
      refine ⟨ks.length - (i + 1), _, _, by omega, .refl _ _ _, i + 1, hlt, rfl, rfl, ?_, ?_, ?_, ?_, ?_⟩
      · have e1 : (ks.take i ++ [x]).contains k = ((ks.take i).contains k || [x].contains k) := by
          rw [Bool.eq_iff_iff]; simp
        rw [htk, e1, ht]
        have : ¬ k = x := fun e => hxk e.symm
        simp [this]
      all_goals simp only [putD_some, putD_none, Nat.reduceEqDiff, ↓reduceIte, h0, h7, h8, h9, hw]
  · have hlt' : ¬ (i : Int) < (ks.length : Int) := by omega
    have hie : i = ks.length := by omega
    subst hie
    rw [List.take_length] at ht
    rw [ht] at hQ
    simp only [Z37, base1, baseE, ↓reduceIte, Nat.reduceAdd, Nat.reduceSub, Nat.reduceMul, Nat.reduceEqDiff, Nat.reduceLeDiff, Nat.reduceLT, Int.reduceLT, Int.reduceLE, Int.reduceEq, Int.reduceNe, Int.reduceToNat, Int.reduceAdd, Int.reduceSub, reduceCtorEq, Nat.reduceBEq, Nat.reduceBNe, loopR_exit, loopR_ret, h0, h7, h8, h9, hlt']
    exact hQ
def intsL : List AV → Option (List Int)
  | [] => some []
  | .int .i64 n :: r => match intsL r with
    | some l => some (n :: l)
    | none => none
  | _ => none
theorem intsL_nil : intsL [] = some [] := _root_.id rfl
theorem intsL_cons {n : Int} {r : List AV} {l : List Int} (h : intsL r = some l) : intsL (.int .i64 n :: r) = some (n :: l) := by simp only [intsL, h]
theorem intsL_eq : ∀ {cs : List AV} {l : List Int}, intsL cs = some l → cs = l.map fun n => AV.int .i64 n
  | [], l, h => by cases h; rfl
  | .int .i64 n :: r, l, h => by
    simp only [intsL] at h
    split at h
    · rename_i l' hl; cases h; rw [intsL_eq hl]; rfl
    · cases h
theorem intsL_2 {a b : Int} : intsL [.int .i64 a, .int .i64 b] = some [a, b] := _root_.id rfl
theorem intsL_6 {a b c d e f : Int} : intsL [.int .i64 a, .int .i64 b, .int .i64 c, .int .i64 d, .int .i64 e, .int .i64 f] = some [a, b, c, d, e, f] := _root_.id rfl
def hasK (k : Int) (len : Nat) (o : Option (List AV)) (σ : AHeap) (K : AV → AHeap → Prop) : Prop :=
  match o with
  | some cs => (match intsL cs with | some ks => ks.length = len ∧ len ≤ 1000 ∧ K (.bool (ks.contains k)) σ | none => False)
  | none => False
theorem hasK_2 {k a b : Int} {σ : AHeap} {K : AV → AHeap → Prop} : hasK k 2 (some [.int .i64 a, .int .i64 b]) σ K = K (.bool ([a, b].contains k)) σ := by simp [hasK, intsL_2]
theorem hasK_6 {k a b c d e f : Int} {σ : AHeap} {K : AV → AHeap → Prop} : hasK k 6 (some [.int .i64 a, .int .i64 b, .int .i64 c, .int .i64 d, .int .i64 e, .int .i64 f]) σ K = K (.bool ([a, b, c, d, e, f].contains k)) σ := by simp [hasK, intsL_6]
def hasD : List AV → AHeap → (AV → AHeap → Prop) → Prop
  | [.int .i64 k, .slice s 0 len (some c) 1], σ, K => c = len ∧ hasK k len (hget σ s) σ K
  | _, _, _ => False
theorem hasD_eq {k : Int} {s len : Nat} {σ : AHeap} {K : AV → AHeap → Prop} : hasD [.int .i64 k, .slice s 0 len (some len) 1] σ K = hasK k len (hget σ s) σ K := by simp [hasD]
theorem hasD_ok (args : List AV) (σ : AHeap) (K : AV → AHeap → Prop) (h : hasD args σ K) : Tri Try.prog 37 args σ K := by
  unfold hasD at h
  split at h
  · obtain ⟨rfl, h⟩ := h
    rename_i k s len
    unfold hasK at h
    split at h
    · rename_i cs hcs
      split at h
      · rename_i ks hks
        obtain ⟨rfl, hl, h⟩ := h
        rw [intsL_eq hks] at hcs
        refine Tri.of_s c37 (noCall_sound _) ?_
        simp only [Z37, base1, baseE, ↓reduceIte, Nat.reduceAdd, Nat.reduceSub, Nat.reduceMul, Nat.reduceEqDiff, Nat.reduceLeDiff, Nat.reduceLT, Int.reduceLT, Int.reduceLE, Int.reduceEq, Int.reduceNe, Int.reduceToNat, Int.reduceAdd, Int.reduceSub, reduceCtorEq, Nat.reduceBEq, Nat.reduceBNe]
        exact sC_inv (a := b37_15) (hasI k ks [] s σ) ks.length _ σ (.refl _ _ _) ⟨0, Nat.zero_le _, rfl, rfl, rfl, rfl, rfl, rfl, rfl⟩ (has_step k ks s σ hcs hl K h σ.length)
      · exact h.elim
    · exact h.elim
  · exact h.elim
/-! No ask, no reply. -/
def noAskB (a : AskV) : Bool := decide (a.do_ = 0) && (decide (a.client = 0) && (decide (a.seq = 0) && (decide (a.text = []) && (decide (a.val = []) && (decide (a.from_ = []) && (decide (a.to = []) && decide (a.limit = 0)))))))
theorem noAsk_ok (a : AskV) : Tri Try.prog 73 [.agg a.cells] [] fun r _ => r.pure = true ∧ r = .bool (noAskB a) := by
  refine Tri.of_s c73 (noCall_sound _) ?_
  simp only [AskV.cells, Z73, base1, baseE, ↓reduceIte, Nat.reduceAdd, Nat.reduceSub, Nat.reduceMul, Nat.reduceEqDiff, Nat.reduceLeDiff, Nat.reduceLT, Int.reduceLT, Int.reduceLE, Int.reduceEq, Int.reduceNe, Int.reduceToNat, Int.reduceAdd, Int.reduceSub, reduceCtorEq, Nat.reduceBEq, Nat.reduceBNe]
  exact ⟨rfl, rfl⟩
def noRepB (r : RepV) : Bool := decide (r.client = 0) && (decide (r.seq = 0) && (decide (r.err = 0) && ((!r.found) && (decide (r.val = []) && (decide ((r.l.length : Int) = 0) && (decide (r.next = []) && !r.more))))))
theorem recs_len (l : List (List UInt8 × List UInt8)) : (recs l).length = l.length := by simp [recs]
theorem noReply_ok (a : RepV) : Tri Try.prog 74 [.agg a.cells] [] fun r _ => r.pure = true ∧ r = .bool (noRepB a) := by
  refine Tri.of_s c74 (noCall_sound _) ?_
  cases h1 : decide (a.client = 0) with
  | false =>
    simp only [RepV.cells, Z74, base1, baseE, ↓reduceIte, Nat.reduceAdd, Nat.reduceSub, Nat.reduceMul, Nat.reduceEqDiff, Nat.reduceLeDiff, Nat.reduceLT, Int.reduceLT, Int.reduceLE, Int.reduceEq, Int.reduceNe, Int.reduceToNat, Int.reduceAdd, Int.reduceSub, reduceCtorEq, Nat.reduceBEq, Nat.reduceBNe, recs_len, h1]
    exact ⟨rfl, by simp only [noRepB, h1]; rfl⟩
  | true =>
    cases h2 : decide (a.seq = 0) with
    | false =>
      simp only [RepV.cells, Z74, base1, baseE, ↓reduceIte, Nat.reduceAdd, Nat.reduceSub, Nat.reduceMul, Nat.reduceEqDiff, Nat.reduceLeDiff, Nat.reduceLT, Int.reduceLT, Int.reduceLE, Int.reduceEq, Int.reduceNe, Int.reduceToNat, Int.reduceAdd, Int.reduceSub, reduceCtorEq, Nat.reduceBEq, Nat.reduceBNe, recs_len, h1, h2]
      exact ⟨rfl, by simp only [noRepB, h1, h2]; rfl⟩
    | true =>
      cases h3 : decide (a.err = 0) with
      | false =>
        simp only [RepV.cells, Z74, base1, baseE, ↓reduceIte, Nat.reduceAdd, Nat.reduceSub, Nat.reduceMul, Nat.reduceEqDiff, Nat.reduceLeDiff, Nat.reduceLT, Int.reduceLT, Int.reduceLE, Int.reduceEq, Int.reduceNe, Int.reduceToNat, Int.reduceAdd, Int.reduceSub, reduceCtorEq, Nat.reduceBEq, Nat.reduceBNe, recs_len, h1, h2, h3]
        exact ⟨rfl, by simp only [noRepB, h1, h2, h3]; rfl⟩
      | true =>
        cases h4 : a.found with
        | false =>
          cases h5 : decide (a.val = []) with
          | false =>
            simp only [RepV.cells, Z74, base1, baseE, ↓reduceIte, Nat.reduceAdd, Nat.reduceSub, Nat.reduceMul, Nat.reduceEqDiff, Nat.reduceLeDiff, Nat.reduceLT, Int.reduceLT, Int.reduceLE, Int.reduceEq, Int.reduceNe, Int.reduceToNat, Int.reduceAdd, Int.reduceSub, reduceCtorEq, Nat.reduceBEq, Nat.reduceBNe, recs_len, h1, h2, h3, h4, h5]
            exact ⟨rfl, by simp only [noRepB, h1, h2, h3, h4, h5]; rfl⟩
          | true =>
            cases h6 : decide ((a.l.length : Int) = 0) with
            | false =>
              simp only [RepV.cells, Z74, base1, baseE, ↓reduceIte, Nat.reduceAdd, Nat.reduceSub, Nat.reduceMul, Nat.reduceEqDiff, Nat.reduceLeDiff, Nat.reduceLT, Int.reduceLT, Int.reduceLE, Int.reduceEq, Int.reduceNe, Int.reduceToNat, Int.reduceAdd, Int.reduceSub, reduceCtorEq, Nat.reduceBEq, Nat.reduceBNe, recs_len, h1, h2, h3, h4, h5, h6]
              exact ⟨rfl, by simp only [noRepB, h1, h2, h3, h4, h5, h6]; rfl⟩
            | true =>
              cases h7 : decide (a.next = []) with
              | false =>
                simp only [RepV.cells, Z74, base1, baseE, ↓reduceIte, Nat.reduceAdd, Nat.reduceSub, Nat.reduceMul, Nat.reduceEqDiff, Nat.reduceLeDiff, Nat.reduceLT, Int.reduceLT, Int.reduceLE, Int.reduceEq, Int.reduceNe, Int.reduceToNat, Int.reduceAdd, Int.reduceSub, reduceCtorEq, Nat.reduceBEq, Nat.reduceBNe, recs_len, h1, h2, h3, h4, h5, h6, h7]
                exact ⟨rfl, by simp only [noRepB, h1, h2, h3, h4, h5, h6, h7]; rfl⟩
              | true =>
                cases h8 : a.more with
                | false =>
                  simp only [RepV.cells, Z74, base1, baseE, ↓reduceIte, Nat.reduceAdd, Nat.reduceSub, Nat.reduceMul, Nat.reduceEqDiff, Nat.reduceLeDiff, Nat.reduceLT, Int.reduceLT, Int.reduceLE, Int.reduceEq, Int.reduceNe, Int.reduceToNat, Int.reduceAdd, Int.reduceSub, reduceCtorEq, Nat.reduceBEq, Nat.reduceBNe, recs_len, h1, h2, h3, h4, h5, h6, h7, h8]
                  exact ⟨rfl, by simp only [noRepB, h1, h2, h3, h4, h5, h6, h7, h8]; rfl⟩
                | true =>
                  simp only [RepV.cells, Z74, base1, baseE, ↓reduceIte, Nat.reduceAdd, Nat.reduceSub, Nat.reduceMul, Nat.reduceEqDiff, Nat.reduceLeDiff, Nat.reduceLT, Int.reduceLT, Int.reduceLE, Int.reduceEq, Int.reduceNe, Int.reduceToNat, Int.reduceAdd, Int.reduceSub, reduceCtorEq, Nat.reduceBEq, Nat.reduceBNe, recs_len, h1, h2, h3, h4, h5, h6, h7, h8]
                  exact ⟨rfl, by simp only [noRepB, h1, h2, h3, h4, h5, h6, h7, h8]; rfl⟩
        | true =>
          simp only [RepV.cells, Z74, base1, baseE, ↓reduceIte, Nat.reduceAdd, Nat.reduceSub, Nat.reduceMul, Nat.reduceEqDiff, Nat.reduceLeDiff, Nat.reduceLT, Int.reduceLT, Int.reduceLE, Int.reduceEq, Int.reduceNe, Int.reduceToNat, Int.reduceAdd, Int.reduceSub, reduceCtorEq, Nat.reduceBEq, Nat.reduceBNe, recs_len, h1, h2, h3, h4]
          exact ⟨rfl, by simp only [noRepB, h1, h2, h3, h4]; rfl⟩
/-! Spans. -/
def leB (x y : List UInt8) : Bool := lessBytes x y || x == y
def emptyB (p : List UInt8 × List UInt8) : Bool := decide (p.2 ≠ []) && leB p.2 p.1
theorem empty_ok (p : List UInt8 × List UInt8) : Tri Try.prog 91 [.agg (recC p)] [] fun r _ => r.pure = true ∧ r = .bool (emptyB p) := by
  refine Tri.of_s c91 (noCall_sound _) ?_
  have hle : (lessBytes p.2 p.1 || p.2 == p.1) = leB p.2 p.1 := rfl
  cases h1 : decide (p.2 ≠ []) with
  | false =>
    simp only [recC, Z91, base1, baseE, ↓reduceIte, Nat.reduceAdd, Nat.reduceSub, Nat.reduceMul, Nat.reduceEqDiff, Nat.reduceLeDiff, Nat.reduceLT, Int.reduceLT, Int.reduceLE, Int.reduceEq, Int.reduceNe, Int.reduceToNat, Int.reduceAdd, Int.reduceSub, reduceCtorEq, Nat.reduceBEq, Nat.reduceBNe, h1]
    exact ⟨rfl, by simp only [emptyB, h1]; rfl⟩
  | true =>
    simp only [recC, Z91, base1, baseE, ↓reduceIte, Nat.reduceAdd, Nat.reduceSub, Nat.reduceMul, Nat.reduceEqDiff, Nat.reduceLeDiff, Nat.reduceLT, Int.reduceLT, Int.reduceLE, Int.reduceEq, Int.reduceNe, Int.reduceToNat, Int.reduceAdd, Int.reduceSub, reduceCtorEq, Nat.reduceBEq, Nat.reduceBNe, h1]
    exact ⟨rfl, by simp only [emptyB, h1, leB]; rfl⟩
def emptyD : List AV → AHeap → (AV → AHeap → Prop) → Prop
  | [.agg [.str f, .str t]], σ, K => K (.bool (emptyB (f, t))) σ
  | _, _, _ => False
theorem emptyD_eq {f t : List UInt8} {σ : AHeap} {K : AV → AHeap → Prop} : emptyD [.agg [.str f, .str t]] σ K = K (.bool (emptyB (f, t))) σ := _root_.id rfl
theorem emptyD_ok (args : List AV) (σ : AHeap) (K : AV → AHeap → Prop) (h : emptyD args σ K) : Tri Try.prog 91 args σ K := by
  unfold emptyD at h
  split at h
  · rename_i f t
    exact (Tri.pureD rfl (empty_ok (f, t)) _).mono fun r σ' hr => by rw [hr.1, hr.2]; exact h
  · exact h.elim
def wholeG : Nat → List UInt8 → List (List UInt8 × List UInt8) → Bool
  | i, at_, [] => decide (0 < i) && decide (at_ = [])
  | i, at_, s :: r => if emptyB s || decide (s.1 ≠ at_) || (decide (0 < i) && decide (at_ = [])) then false else wholeG (i + 1) s.2 r
def wholeB (l : List (List UInt8 × List UInt8)) : Bool := wholeG 0 [] l
def W1 : PCall := rowQ 91 emptyD noCall
theorem W1_app {f : FuncId} {args : List AV} {σ : AHeap} {K : AV → AHeap → Prop} : W1 f args σ K = rowQ 91 emptyD noCall f args σ K := _root_.id rfl
theorem W1_sound : Sound Try.prog W1 := rowQ_sound emptyD_ok (noCall_sound _)
def whI (l : List (List UInt8 × List UInt8)) (n : Nat) (e : Env) (σ : AHeap) : Prop :=
  ∃ (i : Nat) (at_ : List UInt8), i ≤ l.length ∧ n = l.length - i ∧ wholeG i at_ (l.drop i) = wholeB l ∧ e 0 = .imm (l.map recC) false false ∧ e 3 = .str at_ ∧ e 6 = .imm (l.map recC) false false ∧ e 7 = .int .i64 (l.length : Int) ∧ e 8 = .int .i64 (i : Int)
theorem wh_step (l : List (List UInt8 × List UInt8)) (hl : l.length ≤ 1000000) (n : Nat) (e : Env) (σ : AHeap) (h : whI l n e σ) :
    sC W1 0 b88_18 (unw W1 0 (loopR W1 0 (RetQ [MRes.t 2] fun r _ => r.pure = true ∧ r = .bool (wholeB l)) (.block 0 (.seq b88_23 .fin)) (whI l) n) .fin) e σ := by
  obtain ⟨i, at_, hi, hn, hG, h0, h3, h6, h7, h8⟩ := h
  have hml : (l.map recC).length = l.length := by simp
  rcases Nat.lt_or_ge i l.length with hlt | hge
  · have hlt' : (i : Int) < (l.length : Int) := by omega
    have hge0 : (0 : Int) ≤ (i : Int) := by omega
    obtain ⟨x, hx⟩ : ∃ x, l[i]? = some x := ⟨_, List.getElem?_eq_getElem hlt⟩
    have hxx : (l.map recC)[i]? = some [.str x.1, .str x.2] := by simp [hx, recC]
    have hw : IntKind.wrap .i64 ((i : Int) + 1) = ((i + 1 : Nat) : Int) := by rw [Gz.wrap64 (by omega)]; omega
    have hdr : l.drop i = x :: l.drop (i + 1) := by
      rw [List.drop_eq_getElem_cons hlt]; congr 1
      exact Option.some.inj ((List.getElem?_eq_getElem hlt).symm.trans hx)
    rw [hdr] at hG
    simp only [wholeG] at hG
    have sn : ∀ c c' : List AV, hget (hset (hpush σ c) (List.length σ) c') (List.length σ) = some c' := fun c c' => set_same push_new'
    have hi0 : decide ((0 : Int) < (i : Int)) = decide (0 < i) := by by_cases h : 0 < i <;> simp [h] <;> omega
    have hp : (x.1, x.2) = x := rfl
    have bad : ∀ (σ' : AHeap), (emptyB x || decide (x.1 ≠ at_) || (decide (0 < i) && decide (at_ = []))) = true → (AV.bool false).pure = true ∧ AV.bool false = .bool (wholeB l) := by
      intro σ' hb
      rw [hb, if_pos rfl] at hG
      exact ⟨rfl, by rw [← hG]⟩
    have good : (emptyB x || decide (x.1 ≠ at_) || (decide (0 < i) && decide (at_ = []))) = false → wholeG (i + 1) x.2 (l.drop (i + 1)) = wholeB l := by
      intro hb
      rw [hb] at hG
      simpa using hG
    cases g1 : emptyB x with
    | true =>
      simp only [W1_app, Z88, base1, baseE, ↓reduceIte, Nat.reduceAdd, Nat.reduceSub, Nat.reduceMul, Nat.reduceEqDiff, Nat.reduceLeDiff, Nat.reduceLT, Int.reduceLT, Int.reduceLE, Int.reduceEq, Int.reduceNe, Int.reduceToNat, Int.reduceAdd, Int.reduceSub, reduceCtorEq, Nat.reduceBEq, Nat.reduceBNe, loopR_exit, loopR_ret, emptyD_eq, h0, h3, h6, h7, h8, hlt', hlt, hge0, hxx, hml, hw, Int.toNat_natCast, push_new', sn, hp, g1]
      exact bad σ (by simp [g1])
    | false =>
      cases g2 : decide (x.1 ≠ at_) with
      | true =>
        simp only [W1_app, Z88, base1, baseE, ↓reduceIte, Nat.reduceAdd, Nat.reduceSub, Nat.reduceMul, Nat.reduceEqDiff, Nat.reduceLeDiff, Nat.reduceLT, Int.reduceLT, Int.reduceLE, Int.reduceEq, Int.reduceNe, Int.reduceToNat, Int.reduceAdd, Int.reduceSub, reduceCtorEq, Nat.reduceBEq, Nat.reduceBNe, loopR_exit, loopR_ret, emptyD_eq, h0, h3, h6, h7, h8, hlt', hlt, hge0, hxx, hml, hw, Int.toNat_natCast, push_new', sn, hp, g1, g2]
        exact bad σ (by simp [g1, g2])
      | false =>
        have fin : ∀ e' : Env, ∀ σ', wholeG (i + 1) x.2 (l.drop (i + 1)) = wholeB l → e' 0 = .imm (l.map recC) false false → e' 3 = .str x.2 → e' 6 = .imm (l.map recC) false false → e' 7 = .int .i64 (l.length : Int) → e' 8 = .int .i64 ((i + 1 : Nat) : Int) → loopR W1 0 (RetQ [MRes.t 2] fun r _ => r.pure = true ∧ r = .bool (wholeB l)) (.block 0 (.seq b88_23 .fin)) (whI l) n .normal e' σ' := by
          intro e' σ' hg k0 k3 k6 k7 k8
          rw [loopR_normal]
          exact ⟨l.length - (i + 1), _, _, by omega, .refl _ _ _, i + 1, x.2, hlt, rfl, hg, k0, k3, k6, k7, k8⟩
        cases g3 : decide (0 < i) with
        | false =>
          have gg := good (by simp [g1, g2, g3])
          simp only [W1_app, Z88, base1, baseE, ↓reduceIte, Nat.reduceAdd, Nat.reduceSub, Nat.reduceMul, Nat.reduceEqDiff, Nat.reduceLeDiff, Nat.reduceLT, Int.reduceLT, Int.reduceLE, Int.reduceEq, Int.reduceNe, Int.reduceToNat, Int.reduceAdd, Int.reduceSub, reduceCtorEq, Nat.reduceBEq, Nat.reduceBNe, loopR_exit, loopR_ret, emptyD_eq, h0, h3, h6, h7, h8, hlt', hlt, hge0, hxx, hml, hw, Int.toNat_natCast, push_new', sn, hp, g1, g2, hi0, g3]
          refine fin _ _ gg ?_ ?_ ?_ ?_ ?_
          all_goals simp only [putD_some, putD_none, Nat.reduceEqDiff, ↓reduceIte, h0, h3, h6, h7, h8, hw]
        | true =>
          cases g4 : decide (at_ = []) with
          | true =>
            simp only [W1_app, Z88, base1, baseE, ↓reduceIte, Nat.reduceAdd, Nat.reduceSub, Nat.reduceMul, Nat.reduceEqDiff, Nat.reduceLeDiff, Nat.reduceLT, Int.reduceLT, Int.reduceLE, Int.reduceEq, Int.reduceNe, Int.reduceToNat, Int.reduceAdd, Int.reduceSub, reduceCtorEq, Nat.reduceBEq, Nat.reduceBNe, loopR_exit, loopR_ret, emptyD_eq, h0, h3, h6, h7, h8, hlt', hlt, hge0, hxx, hml, hw, Int.toNat_natCast, push_new', sn, hp, g1, g2, hi0, g3, g4]
            exact bad σ (by simp [g1, g2, g3, g4])
          | false =>
            have gg := good (by simp [g1, g2, g3, g4])
            simp only [W1_app, Z88, base1, baseE, ↓reduceIte, Nat.reduceAdd, Nat.reduceSub, Nat.reduceMul, Nat.reduceEqDiff, Nat.reduceLeDiff, Nat.reduceLT, Int.reduceLT, Int.reduceLE, Int.reduceEq, Int.reduceNe, Int.reduceToNat, Int.reduceAdd, Int.reduceSub, reduceCtorEq, Nat.reduceBEq, Nat.reduceBNe, loopR_exit, loopR_ret, emptyD_eq, h0, h3, h6, h7, h8, hlt', hlt, hge0, hxx, hml, hw, Int.toNat_natCast, push_new', sn, hp, g1, g2, hi0, g3, g4]
            refine fin _ _ gg ?_ ?_ ?_ ?_ ?_
            all_goals simp only [putD_some, putD_none, Nat.reduceEqDiff, ↓reduceIte, h0, h3, h6, h7, h8, hw]
  · have hlt' : ¬ (i : Int) < (l.length : Int) := by omega
    have hie : i = l.length := by omega
    subst hie
    have hd0 : l.drop l.length = [] := List.drop_length
    rw [hd0] at hG
    simp only [wholeG] at hG
    have hi0 : decide ((0 : Int) < (l.length : Int)) = decide (0 < l.length) := by by_cases h : 0 < l.length <;> simp [h] <;> omega
    cases g1 : decide (0 < l.length) <;> cases g2 : decide (at_ = []) <;>
      (simp only [W1_app, Z88, base1, baseE, ↓reduceIte, Nat.reduceAdd, Nat.reduceSub, Nat.reduceMul, Nat.reduceEqDiff, Nat.reduceLeDiff, Nat.reduceLT, Int.reduceLT, Int.reduceLE, Int.reduceEq, Int.reduceNe, Int.reduceToNat, Int.reduceAdd, Int.reduceSub, reduceCtorEq, Nat.reduceBEq, Nat.reduceBNe, loopR_exit, loopR_ret, h0, h3, h6, h7, h8, hlt', hml, hi0, g1, g2]; exact ⟨rfl, by rw [← hG, g1, g2]; rfl⟩)
theorem whole_ok (l : List (List UInt8 × List UInt8)) (hl : l.length ≤ 1000000) : Tri Try.prog 88 [.imm (l.map recC) false false] [] fun r _ => r.pure = true ∧ r = .bool (wholeB l) := by
  refine Tri.of_s c88 W1_sound ?_
  have hml : (l.map recC).length = l.length := by simp
  simp only [W1_app, Z88, base1, baseE, ↓reduceIte, Nat.reduceAdd, Nat.reduceSub, Nat.reduceMul, Nat.reduceEqDiff, Nat.reduceLeDiff, Nat.reduceLT, Int.reduceLT, Int.reduceLE, Int.reduceEq, Int.reduceNe, Int.reduceToNat, Int.reduceAdd, Int.reduceSub, reduceCtorEq, Nat.reduceBEq, Nat.reduceBNe, hml]
  exact sC_inv (a := b88_18) (whI l) l.length _ _ (.refl _ _ _) ⟨0, [], Nat.zero_le _, rfl, rfl, rfl, rfl, rfl, rfl, rfl⟩ (wh_step l hl)
end Go.Proofs.Ytndlgmciplckjaa.note
