/- Leases: which may be, which holds, which of two is later. No condition. -/
import Derived.Test.YtgaopohogdinhaaGreatDoorTC
import Derived.Test.YtgaopohogdinhaaGreatDoorK37
set_option linter.unusedVariables false
set_option linter.unusedSimpArgs false
namespace Go.Proofs.YtgaopohogdinhaaGreatDoor.keep
open Go.ChangeShapes Go.WideShapes Go.ChangeAt Go.RowKit Go.Gz Go.Proofs.YtgaopohogdinhaaGreatDoor.note
section
variable {C : PCall} {n0 : Nat} {R : MExit → Env → AHeap → Prop} {k : Cont} {e : Env} {σ : AHeap}
abbrev r25_0 : List MOper := [⟨(some 2), .box (.t 0), none⟩,
  ⟨(some 4), .move (.c (.bool false)), none⟩]
def b25_0 : SCode := .region r25_0
abbrev r25_1 : List MOper := [⟨(some 5), .loadN 3 (.t 2), none⟩,
  ⟨(some 6), .call 51 [(.t 5)], none⟩,
  ⟨(some 7), .move (.t 6), none⟩,
  ⟨(some 8), .move (.t 1), (some (7, true))⟩,
  ⟨(some 9), .fieldAddr 1 (.t 2), (some (7, true))⟩,
  ⟨(some 10), .load1 (.t 9), (some (7, true))⟩,
  ⟨(some 11), .bin .geq .num (.t 8) (.t 10), (some (7, true))⟩,
  ⟨(some 12), .pick (.t 7) (.t 11) (.c (.bool false)), none⟩,
  ⟨(some 13), .move (.t 12), none⟩,
  ⟨(some 14), .move (.t 1), (some (13, true))⟩,
  ⟨(some 15), .loadN 3 (.t 2), (some (13, true))⟩,
  ⟨(some 16), .call 52 [(.t 15)], (some (13, true))⟩,
  ⟨(some 17), .bin .lss .num (.t 14) (.t 16), (some (13, true))⟩,
  ⟨(some 18), .pick (.t 13) (.t 17) (.c (.bool false)), none⟩,
  ⟨(some 4), .move (.t 18), none⟩]
def b25_1 : SCode := .region r25_1
def b25_2 : SCode := .seq b25_1 .ret
def b25_3 : SCode := .seq b25_0 b25_2
def s25 : SFunc := ⟨19, [.t 4], b25_3⟩
theorem c25 : sFn Tryz.prog 25 = some s25 := by kernel_rfl
theorem Z25 : XR b25_0 r25_0 ∧ XR b25_1 r25_1 ∧ XS b25_2 b25_1 .ret ∧ XS b25_3 b25_0 b25_2 ∧ XY s25 19 b25_3 [.t 4] := ⟨rfl, rfl, rfl, rfl, rfl⟩
abbrev r41_0 : List MOper := [⟨(some 2), .box (.t 0), none⟩,
  ⟨(some 3), .box (.t 1), none⟩,
  ⟨(some 4), .alloc [.int .i64 0, .int .i64 0, .int .i64 0], none⟩]
def b41_0 : SCode := .region r41_0
abbrev r41_1 : List MOper := [⟨(some 6), .loadN 3 (.t 2), none⟩,
  ⟨(some 7), .call 51 [(.t 6)], none⟩,
  ⟨(some 8), .un .not (.t 7), none⟩,
  ⟨(some 9), .move (.t 8), none⟩,
  ⟨(some 10), .loadN 3 (.t 3), (some (9, true))⟩,
  ⟨(some 11), .call 51 [(.t 10)], (some (9, true))⟩,
  ⟨(some 12), .un .not (.t 11), (some (9, true))⟩,
  ⟨(some 13), .pick (.t 9) (.t 12) (.c (.bool false)), none⟩,
  ⟨(some 5), .move (.t 13), none⟩]
def b41_1 : SCode := .region r41_1
abbrev r41_2 : List MOper := [⟨(some 14), .build [.int .i64 0, .int .i64 0, .int .i64 0] [], none⟩,
  ⟨none, .store 3 (.t 4) (.t 14), none⟩]
def b41_2 : SCode := .region r41_2
def b41_3 : SCode := .seq b41_2 .ret
abbrev r41_4 : List MOper := [⟨(some 16), .loadN 3 (.t 2), none⟩,
  ⟨(some 17), .call 51 [(.t 16)], none⟩,
  ⟨(some 18), .un .not (.t 17), none⟩,
  ⟨(some 15), .move (.t 18), none⟩]
def b41_4 : SCode := .region r41_4
abbrev r41_5 : List MOper := [⟨(some 19), .loadN 3 (.t 3), none⟩,
  ⟨none, .store 3 (.t 4) (.t 19), none⟩]
def b41_5 : SCode := .region r41_5
def b41_6 : SCode := .seq b41_5 .ret
abbrev r41_7 : List MOper := [⟨(some 21), .loadN 3 (.t 3), none⟩,
  ⟨(some 22), .call 51 [(.t 21)], none⟩,
  ⟨(some 23), .un .not (.t 22), none⟩,
  ⟨(some 20), .move (.t 23), none⟩]
def b41_7 : SCode := .region r41_7
abbrev r41_8 : List MOper := [⟨(some 24), .loadN 3 (.t 2), none⟩,
  ⟨none, .store 3 (.t 4) (.t 24), none⟩]
def b41_8 : SCode := .region r41_8
def b41_9 : SCode := .seq b41_8 .ret
def b41_10 : SCode := .cond (.t 20) b41_9 .skip
def b41_11 : SCode := .seq b41_7 b41_10
def b41_12 : SCode := .cond (.t 15) b41_6 b41_11
def b41_13 : SCode := .seq b41_4 b41_12
def b41_14 : SCode := .cond (.t 5) b41_3 b41_13
def b41_15 : SCode := .seq b41_1 b41_14
def b41_16 : SCode := .block 0 b41_15
abbrev r41_17 : List MOper := [⟨(some 25), .loadN 3 (.t 3), none⟩,
  ⟨(some 26), .loadN 3 (.t 2), none⟩,
  ⟨(some 27), .buildSlice [.nilfunc] 1 2 [(0, 1, (.c (.func 76 []))), (1, 1, (.c (.func 52 [])))], none⟩,
  ⟨(some 28), .call 75 [(.t 25), (.t 26), (.t 27)], none⟩,
  ⟨(some 29), .bin .gtr .num (.t 28) (.c (.int .i64 0)), none⟩]
def b41_17 : SCode := .region r41_17
abbrev r41_18 : List MOper := [⟨(some 30), .loadN 3 (.t 3), none⟩,
  ⟨none, .store 3 (.t 4) (.t 30), none⟩]
def b41_18 : SCode := .region r41_18
def b41_19 : SCode := .seq b41_18 .ret
def b41_20 : SCode := .cond (.t 29) b41_19 .skip
def b41_21 : SCode := .seq b41_17 b41_20
abbrev r41_22 : List MOper := [⟨(some 31), .loadN 3 (.t 2), none⟩,
  ⟨none, .store 3 (.t 4) (.t 31), none⟩]
def b41_22 : SCode := .region r41_22
def b41_23 : SCode := .seq b41_22 .ret
def b41_24 : SCode := .seq b41_21 b41_23
def b41_25 : SCode := .seq b41_16 b41_24
def b41_26 : SCode := .seq b41_0 b41_25
def s41 : SFunc := ⟨32, [.cN 4 3], b41_26⟩
theorem c41 : sFn Tryz.prog 41 = some s41 := by kernel_rfl
theorem Z41 : XR b41_0 r41_0 ∧ XR b41_1 r41_1 ∧ XR b41_2 r41_2 ∧ XS b41_3 b41_2 .ret ∧ XR b41_4 r41_4 ∧ XR b41_5 r41_5 ∧ XS b41_6 b41_5 .ret ∧ XR b41_7 r41_7 ∧ XR b41_8 r41_8 ∧ XS b41_9 b41_8 .ret ∧ XC b41_10 (.t 20) b41_9 .skip ∧ XS b41_11 b41_7 b41_10 ∧ XC b41_12 (.t 15) b41_6 b41_11 ∧ XS b41_13 b41_4 b41_12 ∧ XC b41_14 (.t 5) b41_3 b41_13 ∧ XS b41_15 b41_1 b41_14 ∧ XB b41_16 0 b41_15 ∧ XR b41_17 r41_17 ∧ XR b41_18 r41_18 ∧ XS b41_19 b41_18 .ret ∧ XC b41_20 (.t 29) b41_19 .skip ∧ XS b41_21 b41_17 b41_20 ∧ XR b41_22 r41_22 ∧ XS b41_23 b41_22 .ret ∧ XS b41_24 b41_21 b41_23 ∧ XS b41_25 b41_16 b41_24 ∧ XS b41_26 b41_0 b41_25 ∧ XY s41 32 b41_26 [.cN 4 3] := ⟨rfl, rfl, rfl, rfl, rfl, rfl, rfl, rfl, rfl, rfl, sC_cond, rfl, sC_cond, rfl, sC_cond, rfl, rfl, rfl, rfl, rfl, sC_cond, rfl, rfl, rfl, rfl, rfl, rfl, rfl⟩
abbrev r51_0 : List MOper := [⟨(some 1), .box (.t 0), none⟩,
  ⟨(some 2), .move (.c (.bool false)), none⟩]
def b51_0 : SCode := .region r51_0
abbrev r51_1 : List MOper := [⟨(some 3), .fieldAddr 0 (.t 1), none⟩,
  ⟨(some 4), .load1 (.t 3), none⟩,
  ⟨(some 5), .bin .geq .num (.t 4) (.c (.int .i64 1)), none⟩,
  ⟨(some 6), .move (.t 5), none⟩,
  ⟨(some 7), .fieldAddr 1 (.t 1), (some (6, true))⟩,
  ⟨(some 8), .load1 (.t 7), (some (6, true))⟩,
  ⟨(some 9), .call 105 [(.t 8), (.c (.int .i64 0)), (.c (.int .i64 1099511627776))], (some (6, true))⟩,
  ⟨(some 10), .pick (.t 6) (.t 9) (.c (.bool false)), none⟩,
  ⟨(some 11), .move (.t 10), none⟩,
  ⟨(some 12), .fieldAddr 2 (.t 1), (some (11, true))⟩,
  ⟨(some 13), .load1 (.t 12), (some (11, true))⟩,
  ⟨(some 14), .call 105 [(.t 13), (.c (.int .i64 1)), (.c (.int .i64 1099511627776))], (some (11, true))⟩,
  ⟨(some 15), .pick (.t 11) (.t 14) (.c (.bool false)), none⟩,
  ⟨(some 2), .move (.t 15), none⟩]
def b51_1 : SCode := .region r51_1
def b51_2 : SCode := .seq b51_1 .ret
def b51_3 : SCode := .seq b51_0 b51_2
def s51 : SFunc := ⟨16, [.t 2], b51_3⟩
theorem c51 : sFn Tryz.prog 51 = some s51 := by kernel_rfl
theorem Z51 : XR b51_0 r51_0 ∧ XR b51_1 r51_1 ∧ XS b51_2 b51_1 .ret ∧ XS b51_3 b51_0 b51_2 ∧ XY s51 16 b51_3 [.t 2] := ⟨rfl, rfl, rfl, rfl, rfl⟩
abbrev r52_0 : List MOper := [⟨(some 1), .box (.t 0), none⟩,
  ⟨(some 2), .move (.c (.int .i64 0)), none⟩]
def b52_0 : SCode := .region r52_0
abbrev r52_1 : List MOper := [⟨(some 3), .fieldAddr 1 (.t 1), none⟩,
  ⟨(some 4), .load1 (.t 3), none⟩,
  ⟨(some 5), .fieldAddr 2 (.t 1), none⟩,
  ⟨(some 6), .load1 (.t 5), none⟩,
  ⟨(some 7), .bin .add .num (.t 4) (.t 6), none⟩,
  ⟨(some 2), .move (.t 7), none⟩]
def b52_1 : SCode := .region r52_1
def b52_2 : SCode := .seq b52_1 .ret
def b52_3 : SCode := .seq b52_0 b52_2
def s52 : SFunc := ⟨8, [.t 2], b52_3⟩
theorem c52 : sFn Tryz.prog 52 = some s52 := by kernel_rfl
theorem Z52 : XR b52_0 r52_0 ∧ XR b52_1 r52_1 ∧ XS b52_2 b52_1 .ret ∧ XS b52_3 b52_0 b52_2 ∧ XY s52 8 b52_3 [.t 2] := ⟨rfl, rfl, rfl, rfl, rfl⟩
abbrev r75_0 : List MOper := [⟨(some 3), .box (.t 0), none⟩,
  ⟨(some 4), .box (.t 1), none⟩,
  ⟨(some 6), .move (.c (.int .i64 0)), none⟩]
def b75_0 : SCode := .region r75_0
abbrev r75_1 : List MOper := [⟨(some 10), .move (.t 2), none⟩,
  ⟨(some 11), .lenSl (.t 10), none⟩,
  ⟨(some 12), .move (.c (.int .i64 0)), none⟩]
def b75_1 : SCode := .region r75_1
abbrev r75_2 : List MOper := [⟨(some 13), .bin .lss .num (.t 12) (.t 11), none⟩]
def b75_2 : SCode := .region r75_2
def b75_3 : SCode := .cond (.t 13) .skip (.exit 0)
abbrev r75_4 : List MOper := [⟨(some 14), .indexAddr 1 (.t 10) (.t 12), none⟩,
  ⟨(some 15), .load1 (.t 14), none⟩,
  ⟨(some 8), .move (.t 15), none⟩]
def b75_4 : SCode := .region r75_4
abbrev t75_5 : LTree := (.quiet ⟨(some 16), .move (.t 8), none⟩ 0
  (.quiet ⟨(some 17), .loadN 3 (.t 3), none⟩ 1
  (.quiet ⟨(some 19), .move (.t 8), none⟩ 3
  (.quiet ⟨(some 20), .loadN 3 (.t 4), none⟩ 4
  (.loud ⟨(some 18), .callv (.t 16) [(.t 17)], none⟩ [4]
  (.loud ⟨(some 21), .callv (.t 19) [(.t 20)], none⟩ []
  (.loud ⟨(some 22), .call 134 [(.t 18), (.t 21)], none⟩ []
  (.quiet ⟨(some 9), .move (.t 22), none⟩ 7
  .leaf) .stop) .stop) .stop)))))
def b75_5 : SCode := .draw t75_5
abbrev r75_6 : List MOper := [⟨(some 23), .move (.t 9), none⟩,
  ⟨(some 24), .bin .neq .num (.t 23) (.c (.int .i64 0)), none⟩]
def b75_6 : SCode := .region r75_6
abbrev r75_7 : List MOper := [⟨(some 25), .move (.t 9), none⟩,
  ⟨(some 6), .move (.t 25), none⟩]
def b75_7 : SCode := .region r75_7
def b75_8 : SCode := .seq b75_7 .ret
def b75_9 : SCode := .cond (.t 24) b75_8 .skip
def b75_10 : SCode := .seq b75_6 b75_9
def b75_11 : SCode := .seq b75_5 b75_10
def b75_12 : SCode := .seq b75_4 b75_11
def b75_13 : SCode := .block 1 b75_12
abbrev r75_14 : List MOper := [⟨(some 26), .bin .add .num (.t 12) (.c (.int .i64 1)), none⟩,
  ⟨(some 12), .move (.t 26), none⟩]
def b75_14 : SCode := .region r75_14
def b75_15 : SCode := .seq b75_13 b75_14
def b75_16 : SCode := .seq b75_3 b75_15
def b75_17 : SCode := .seq b75_2 b75_16
def b75_18 : SCode := .loop b75_17
def b75_19 : SCode := .block 0 b75_18
def b75_20 : SCode := .seq b75_1 b75_19
abbrev r75_21 : List MOper := [⟨(some 6), .move (.c (.int .i64 0)), none⟩]
def b75_21 : SCode := .region r75_21
def b75_22 : SCode := .seq b75_21 .ret
def b75_23 : SCode := .seq b75_20 b75_22
def b75_24 : SCode := .seq b75_0 b75_23
def s75 : SFunc := ⟨27, [.t 6], b75_24⟩
theorem c75 : sFn Tryz.prog 75 = some s75 := by kernel_rfl
theorem Z75 : XR b75_0 r75_0 ∧ XR b75_1 r75_1 ∧ XR b75_2 r75_2 ∧ XC b75_3 (.t 13) .skip (.exit 0) ∧ XR b75_4 r75_4 ∧ XT b75_5 t75_5 ∧ XR b75_6 r75_6 ∧ XR b75_7 r75_7 ∧ XS b75_8 b75_7 .ret ∧ XC b75_9 (.t 24) b75_8 .skip ∧ XS b75_10 b75_6 b75_9 ∧ XS b75_11 b75_5 b75_10 ∧ XS b75_12 b75_4 b75_11 ∧ XB b75_13 1 b75_12 ∧ XR b75_14 r75_14 ∧ XS b75_15 b75_13 b75_14 ∧ XS b75_16 b75_3 b75_15 ∧ XS b75_17 b75_2 b75_16 ∧ XB b75_19 0 b75_18 ∧ XS b75_20 b75_1 b75_19 ∧ XR b75_21 r75_21 ∧ XS b75_22 b75_21 .ret ∧ XS b75_23 b75_20 b75_22 ∧ XS b75_24 b75_0 b75_23 ∧ XY s75 27 b75_24 [.t 6] := ⟨rfl, rfl, rfl, sC_cond, rfl, rfl, rfl, rfl, rfl, sC_cond, rfl, rfl, rfl, rfl, rfl, rfl, rfl, rfl, rfl, rfl, rfl, rfl, rfl, rfl, rfl⟩
abbrev r76_0 : List MOper := [⟨(some 1), .box (.t 0), none⟩,
  ⟨(some 2), .move (.c (.int .i64 0)), none⟩]
def b76_0 : SCode := .region r76_0
abbrev r76_1 : List MOper := [⟨(some 3), .fieldAddr 0 (.t 1), none⟩,
  ⟨(some 4), .load1 (.t 3), none⟩,
  ⟨(some 2), .move (.t 4), none⟩]
def b76_1 : SCode := .region r76_1
def b76_2 : SCode := .seq b76_1 .ret
def b76_3 : SCode := .seq b76_0 b76_2
def s76 : SFunc := ⟨5, [.t 2], b76_3⟩
theorem c76 : sFn Tryz.prog 76 = some s76 := by kernel_rfl
theorem Z76 : XR b76_0 r76_0 ∧ XR b76_1 r76_1 ∧ XS b76_2 b76_1 .ret ∧ XS b76_3 b76_0 b76_2 ∧ XY s76 5 b76_3 [.t 2] := ⟨rfl, rfl, rfl, rfl, rfl⟩
abbrev r105_0 : List MOper := [⟨(some 6), .move (.c (.bool false)), none⟩]
def b105_0 : SCode := .region r105_0
abbrev r105_1 : List MOper := [⟨(some 7), .move (.t 0), none⟩,
  ⟨(some 8), .move (.t 1), none⟩,
  ⟨(some 9), .bin .geq .num (.t 7) (.t 8), none⟩,
  ⟨(some 10), .move (.t 9), none⟩,
  ⟨(some 11), .move (.t 0), (some (10, true))⟩,
  ⟨(some 12), .move (.t 2), (some (10, true))⟩,
  ⟨(some 13), .bin .leq .num (.t 11) (.t 12), (some (10, true))⟩,
  ⟨(some 14), .pick (.t 10) (.t 13) (.c (.bool false)), none⟩,
  ⟨(some 6), .move (.t 14), none⟩]
def b105_1 : SCode := .region r105_1
def b105_2 : SCode := .seq b105_1 .ret
def b105_3 : SCode := .seq b105_0 b105_2
def s105 : SFunc := ⟨15, [.t 6], b105_3⟩
theorem c105 : sFn Tryz.prog 105 = some s105 := by kernel_rfl
theorem Z105 : XR b105_0 r105_0 ∧ XR b105_1 r105_1 ∧ XS b105_2 b105_1 .ret ∧ XS b105_3 b105_0 b105_2 ∧ XY s105 15 b105_3 [.t 6] := ⟨rfl, rfl, rfl, rfl, rfl⟩
abbrev r134_0 : List MOper := [⟨(some 4), .move (.c (.int .i64 0)), none⟩]
def b134_0 : SCode := .region r134_0
abbrev r134_1 : List MOper := [⟨(some 7), .move (.t 0), none⟩,
  ⟨(some 8), .call 173 [(.t 7)], none⟩,
  ⟨(some 5), .move (.t 8), none⟩]
def b134_1 : SCode := .region r134_1
abbrev r134_2 : List MOper := [⟨(some 9), .move (.t 1), none⟩,
  ⟨(some 10), .call 173 [(.t 9)], none⟩,
  ⟨(some 6), .move (.t 10), none⟩]
def b134_2 : SCode := .region r134_2
abbrev r134_3 : List MOper := [⟨(some 11), .move (.t 5), none⟩]
def b134_3 : SCode := .region r134_3
abbrev r134_4 : List MOper := [⟨(some 12), .move (.t 6), none⟩]
def b134_4 : SCode := .region r134_4
abbrev r134_5 : List MOper := [⟨(some 4), .move (.c (.int .i64 0)), none⟩]
def b134_5 : SCode := .region r134_5
def b134_6 : SCode := .seq b134_5 .ret
def b134_7 : SCode := .cond (.t 12) b134_6 .skip
def b134_8 : SCode := .seq b134_4 b134_7
abbrev r134_9 : List MOper := [⟨(some 4), .move (.c (.int .i64 (-1))), none⟩]
def b134_9 : SCode := .region r134_9
def b134_10 : SCode := .seq b134_9 .ret
def b134_11 : SCode := .seq b134_8 b134_10
def b134_12 : SCode := .cond (.t 11) b134_11 .skip
def b134_13 : SCode := .seq b134_3 b134_12
abbrev r134_14 : List MOper := [⟨(some 13), .move (.t 6), none⟩]
def b134_14 : SCode := .region r134_14
abbrev r134_15 : List MOper := [⟨(some 4), .move (.c (.int .i64 1)), none⟩]
def b134_15 : SCode := .region r134_15
def b134_16 : SCode := .seq b134_15 .ret
def b134_17 : SCode := .cond (.t 13) b134_16 .skip
def b134_18 : SCode := .seq b134_14 b134_17
abbrev r134_19 : List MOper := [⟨(some 14), .move (.t 0), none⟩,
  ⟨(some 15), .move (.t 1), none⟩,
  ⟨(some 16), .bin .lss .num (.t 14) (.t 15), none⟩]
def b134_19 : SCode := .region r134_19
abbrev r134_20 : List MOper := [⟨(some 4), .move (.c (.int .i64 (-1))), none⟩]
def b134_20 : SCode := .region r134_20
def b134_21 : SCode := .seq b134_20 .ret
def b134_22 : SCode := .cond (.t 16) b134_21 .skip
def b134_23 : SCode := .seq b134_19 b134_22
abbrev r134_24 : List MOper := [⟨(some 17), .move (.t 0), none⟩,
  ⟨(some 18), .move (.t 1), none⟩,
  ⟨(some 19), .bin .gtr .num (.t 17) (.t 18), none⟩]
def b134_24 : SCode := .region r134_24
abbrev r134_25 : List MOper := [⟨(some 4), .move (.c (.int .i64 1)), none⟩]
def b134_25 : SCode := .region r134_25
def b134_26 : SCode := .seq b134_25 .ret
def b134_27 : SCode := .cond (.t 19) b134_26 .skip
def b134_28 : SCode := .seq b134_24 b134_27
abbrev r134_29 : List MOper := [⟨(some 4), .move (.c (.int .i64 0)), none⟩]
def b134_29 : SCode := .region r134_29
def b134_30 : SCode := .seq b134_29 .ret
def b134_31 : SCode := .seq b134_28 b134_30
def b134_32 : SCode := .seq b134_23 b134_31
def b134_33 : SCode := .seq b134_18 b134_32
def b134_34 : SCode := .seq b134_13 b134_33
def b134_35 : SCode := .seq b134_2 b134_34
def b134_36 : SCode := .seq b134_1 b134_35
def b134_37 : SCode := .seq b134_0 b134_36
def s134 : SFunc := ⟨20, [.t 4], b134_37⟩
theorem c134 : sFn Tryz.prog 134 = some s134 := by kernel_rfl
theorem Z134 : XR b134_0 r134_0 ∧ XR b134_1 r134_1 ∧ XR b134_2 r134_2 ∧ XR b134_3 r134_3 ∧ XR b134_4 r134_4 ∧ XR b134_5 r134_5 ∧ XS b134_6 b134_5 .ret ∧ XC b134_7 (.t 12) b134_6 .skip ∧ XS b134_8 b134_4 b134_7 ∧ XR b134_9 r134_9 ∧ XS b134_10 b134_9 .ret ∧ XS b134_11 b134_8 b134_10 ∧ XC b134_12 (.t 11) b134_11 .skip ∧ XS b134_13 b134_3 b134_12 ∧ XR b134_14 r134_14 ∧ XR b134_15 r134_15 ∧ XS b134_16 b134_15 .ret ∧ XC b134_17 (.t 13) b134_16 .skip ∧ XS b134_18 b134_14 b134_17 ∧ XR b134_19 r134_19 ∧ XR b134_20 r134_20 ∧ XS b134_21 b134_20 .ret ∧ XC b134_22 (.t 16) b134_21 .skip ∧ XS b134_23 b134_19 b134_22 ∧ XR b134_24 r134_24 ∧ XR b134_25 r134_25 ∧ XS b134_26 b134_25 .ret ∧ XC b134_27 (.t 19) b134_26 .skip ∧ XS b134_28 b134_24 b134_27 ∧ XR b134_29 r134_29 ∧ XS b134_30 b134_29 .ret ∧ XS b134_31 b134_28 b134_30 ∧ XS b134_32 b134_23 b134_31 ∧ XS b134_33 b134_18 b134_32 ∧ XS b134_34 b134_13 b134_33 ∧ XS b134_35 b134_2 b134_34 ∧ XS b134_36 b134_1 b134_35 ∧ XS b134_37 b134_0 b134_36 ∧ XY s134 20 b134_37 [.t 4] := ⟨rfl, rfl, rfl, rfl, rfl, rfl, rfl, sC_cond, rfl, rfl, rfl, rfl, sC_cond, rfl, rfl, rfl, rfl, sC_cond, rfl, rfl, rfl, rfl, sC_cond, rfl, rfl, rfl, rfl, sC_cond, rfl, rfl, rfl, rfl, rfl, rfl, rfl, rfl, rfl, rfl, rfl⟩
abbrev r173_0 : List MOper := [⟨(some 2), .move (.c (.bool false)), none⟩]
def b173_0 : SCode := .region r173_0
abbrev r173_1 : List MOper := [⟨(some 3), .move (.t 0), none⟩,
  ⟨(some 4), .move (.t 0), none⟩,
  ⟨(some 5), .bin .neq .num (.t 3) (.t 4), none⟩,
  ⟨(some 2), .move (.t 5), none⟩]
def b173_1 : SCode := .region r173_1
def b173_2 : SCode := .seq b173_1 .ret
def b173_3 : SCode := .seq b173_0 b173_2
def s173 : SFunc := ⟨6, [.t 2], b173_3⟩
theorem c173 : sFn Tryz.prog 173 = some s173 := by kernel_rfl
theorem Z173 : XR b173_0 r173_0 ∧ XR b173_1 r173_1 ∧ XS b173_2 b173_1 .ret ∧ XS b173_3 b173_0 b173_2 ∧ XY s173 6 b173_3 [.t 2] := ⟨rfl, rfl, rfl, rfl, rfl⟩

end
set_option maxHeartbeats 4000000
set_option maxRecDepth 10000
theorem within_ok (n a b : Int) : Tri Tryz.prog 105 [.int .i64 n, .int .i64 a, .int .i64 b] [] fun r _ => r.pure = true ∧ r = .bool (decide (a ≤ n) && decide (n ≤ b)) := by
  refine Tri.of_s c105 (noCall_sound _) ?_
  have e1 : decide (n ≥ a) = decide (a ≤ n) := rfl
  cases h1 : decide (a ≤ n) <;> cases h2 : decide (n ≤ b) <;>
    (simp only [Z105, base1, baseE, ↓reduceIte, Nat.reduceAdd, Nat.reduceSub, Nat.reduceMul, Nat.reduceEqDiff, Nat.reduceLeDiff, Nat.reduceLT, Int.reduceLT, Int.reduceLE, Int.reduceEq, Int.reduceNe, Int.reduceToNat, Int.reduceAdd, Int.reduceSub, reduceCtorEq, Nat.reduceBEq, Nat.reduceBNe, e1, h1, h2]; first | exact ⟨rfl, rfl⟩ | rfl)
def withinD (args : List AV) (σ : AHeap) (K : AV → AHeap → Prop) : Prop := ∃ n a b : Int, args = [.int .i64 n, .int .i64 a, .int .i64 b] ∧ K (.bool (decide (a ≤ n) && decide (n ≤ b))) σ
theorem withinD_ok (args : List AV) (σ : AHeap) (K : AV → AHeap → Prop) (h : withinD args σ K) : Tri Tryz.prog 105 args σ K := by
  obtain ⟨n, a, b, rfl, h⟩ := h
  exact (Tri.pureD rfl (within_ok n a b) σ).mono fun r σ' hr => by rw [hr.1, hr.2]; exact h
theorem withinD_eq {n a b : Int} {σ : AHeap} {K : AV → AHeap → Prop} : withinD [.int .i64 n, .int .i64 a, .int .i64 b] σ K = K (.bool (decide (a ≤ n) && decide (n ≤ b))) σ := by
  apply propext
  refine ⟨fun ⟨n', a', b', h1, h2⟩ => ?_, fun h => ⟨n, a, b, rfl, h⟩⟩
  simp only [List.cons.injEq, AV.int.injEq, true_and, and_true] at h1
  obtain ⟨rfl, rfl, rfl⟩ := h1
  exact h2
def leaseC (e s f : Int) : List AV := [.int .i64 e, .int .i64 s, .int .i64 f]
def lmayB (e s f : Int) : Bool := decide (1 ≤ e) && ((decide (0 ≤ s) && decide (s ≤ 1099511627776)) && (decide (1 ≤ f) && decide (f ≤ 1099511627776)))
def A1 : PCall := rowQ 105 withinD noCall
theorem A1_app {f : FuncId} {args : List AV} {σ : AHeap} {K : AV → AHeap → Prop} : A1 f args σ K = rowQ 105 withinD noCall f args σ K := _root_.id rfl
theorem A1_sound : Sound Tryz.prog A1 := rowQ_sound withinD_ok (noCall_sound _)
theorem lmay_ok (e s f : Int) : Tri Tryz.prog 51 [.agg (leaseC e s f)] [] fun r _ => r.pure = true ∧ r = .bool (lmayB e s f) := by
  refine Tri.of_s c51 A1_sound ?_
  have e1 : decide (e ≥ 1) = decide (1 ≤ e) := rfl
  unfold lmayB leaseC
  cases h1 : decide (1 ≤ e) with
  | false => simp only [A1_app, withinD_eq, Z51, base1, baseE, ↓reduceIte, Nat.reduceAdd, Nat.reduceSub, Nat.reduceMul, Nat.reduceEqDiff, Nat.reduceLeDiff, Nat.reduceLT, Int.reduceLT, Int.reduceLE, Int.reduceEq, Int.reduceNe, Int.reduceToNat, Int.reduceAdd, Int.reduceSub, reduceCtorEq, Nat.reduceBEq, Nat.reduceBNe, e1, h1]; first | exact ⟨rfl, rfl⟩ | rfl
  | true =>
    cases h2 : (decide (0 ≤ s) && decide (s ≤ 1099511627776)) with
    | false => simp only [A1_app, withinD_eq, Z51, base1, baseE, ↓reduceIte, Nat.reduceAdd, Nat.reduceSub, Nat.reduceMul, Nat.reduceEqDiff, Nat.reduceLeDiff, Nat.reduceLT, Int.reduceLT, Int.reduceLE, Int.reduceEq, Int.reduceNe, Int.reduceToNat, Int.reduceAdd, Int.reduceSub, reduceCtorEq, Nat.reduceBEq, Nat.reduceBNe, e1, h1, h2]; first | exact ⟨rfl, rfl⟩ | rfl
    | true => simp only [A1_app, withinD_eq, Z51, base1, baseE, ↓reduceIte, Nat.reduceAdd, Nat.reduceSub, Nat.reduceMul, Nat.reduceEqDiff, Nat.reduceLeDiff, Nat.reduceLT, Int.reduceLT, Int.reduceLE, Int.reduceEq, Int.reduceNe, Int.reduceToNat, Int.reduceAdd, Int.reduceSub, reduceCtorEq, Nat.reduceBEq, Nat.reduceBNe, e1, h1, h2]; first | exact ⟨rfl, rfl⟩ | rfl
theorem lease_inj {e s f e' s' f' : Int} (h : leaseC e s f = leaseC e' s' f') : e = e' ∧ s = s' ∧ f = f' := by
  simp only [leaseC, List.cons.injEq, AV.int.injEq, true_and, and_true] at h
  exact h
def lmayD (args : List AV) (σ : AHeap) (K : AV → AHeap → Prop) : Prop := ∃ e s f : Int, args = [.agg (leaseC e s f)] ∧ K (.bool (lmayB e s f)) σ
theorem lmayD_ok (args : List AV) (σ : AHeap) (K : AV → AHeap → Prop) (h : lmayD args σ K) : Tri Tryz.prog 51 args σ K := by
  obtain ⟨e, s, f, rfl, h⟩ := h
  exact (Tri.pureD rfl (lmay_ok e s f) σ).mono fun r σ' hr => by rw [hr.1, hr.2]; exact h
theorem lmayD_eq {e s f : Int} {σ : AHeap} {K : AV → AHeap → Prop} : lmayD [.agg [.int .i64 e, .int .i64 s, .int .i64 f]] σ K = K (.bool (lmayB e s f)) σ := by
  apply propext
  refine ⟨fun ⟨e', s', f', h1, h2⟩ => ?_, fun h => ⟨e, s, f, rfl, h⟩⟩
  obtain ⟨rfl, rfl, rfl⟩ := lease_inj (AV.agg.inj (List.cons.inj h1).1)
  exact h2
theorem lend_ok (e s f : Int) : Tri Tryz.prog 52 [.agg (leaseC e s f)] [] fun r _ => r.pure = true ∧ r = .int .i64 (IntKind.wrap .i64 (s + f)) := by
  refine Tri.of_s c52 (noCall_sound _) ?_
  simp only [leaseC, Z52, base1, baseE, ↓reduceIte, Nat.reduceAdd, Nat.reduceSub, Nat.reduceMul, Nat.reduceEqDiff, Nat.reduceLeDiff, Nat.reduceLT, Int.reduceLT, Int.reduceLE, Int.reduceEq, Int.reduceNe, Int.reduceToNat, Int.reduceAdd, Int.reduceSub, reduceCtorEq, Nat.reduceBEq, Nat.reduceBNe]
  first | exact ⟨rfl, rfl⟩ | rfl
def lendD (args : List AV) (σ : AHeap) (K : AV → AHeap → Prop) : Prop := ∃ e s f : Int, args = [.agg (leaseC e s f)] ∧ K (.int .i64 (IntKind.wrap .i64 (s + f))) σ
theorem lendD_ok (args : List AV) (σ : AHeap) (K : AV → AHeap → Prop) (h : lendD args σ K) : Tri Tryz.prog 52 args σ K := by
  obtain ⟨e, s, f, rfl, h⟩ := h
  exact (Tri.pureD rfl (lend_ok e s f) σ).mono fun r σ' hr => by rw [hr.1, hr.2]; exact h
theorem lendD_eq {e s f : Int} {σ : AHeap} {K : AV → AHeap → Prop} : lendD [.agg [.int .i64 e, .int .i64 s, .int .i64 f]] σ K = K (.int .i64 (IntKind.wrap .i64 (s + f))) σ := by
  apply propext
  refine ⟨fun ⟨e', s', f', h1, h2⟩ => ?_, fun h => ⟨e, s, f, rfl, h⟩⟩
  obtain ⟨rfl, rfl, rfl⟩ := lease_inj (AV.agg.inj (List.cons.inj h1).1)
  exact h2
/-- Does a lease hold? -/
def holdB (e s f now : Int) : Bool := lmayB e s f && (decide (s ≤ now) && decide (now < IntKind.wrap .i64 (s + f)))
def A2 : PCall := rowQ 51 lmayD (rowQ 52 lendD noCall)
theorem A2_app {f : FuncId} {args : List AV} {σ : AHeap} {K : AV → AHeap → Prop} : A2 f args σ K = rowQ 51 lmayD (rowQ 52 lendD noCall) f args σ K := _root_.id rfl
theorem A2_sound : Sound Tryz.prog A2 := rowQ_sound lmayD_ok (rowQ_sound lendD_ok (noCall_sound _))
theorem holds_ok (e s f now : Int) : Tri Tryz.prog 25 [.agg (leaseC e s f), .int .i64 now] [] fun r _ => r.pure = true ∧ r = .bool (holdB e s f now) := by
  refine Tri.of_s c25 A2_sound ?_
  have e1 : decide (now ≥ s) = decide (s ≤ now) := rfl
  unfold holdB leaseC
  cases h1 : lmayB e s f with
  | false => simp only [A2_app, lmayD_eq, lendD_eq, Z25, base1, baseE, ↓reduceIte, Nat.reduceAdd, Nat.reduceSub, Nat.reduceMul, Nat.reduceEqDiff, Nat.reduceLeDiff, Nat.reduceLT, Int.reduceLT, Int.reduceLE, Int.reduceEq, Int.reduceNe, Int.reduceToNat, Int.reduceAdd, Int.reduceSub, reduceCtorEq, Nat.reduceBEq, Nat.reduceBNe, e1, h1]; first | exact ⟨rfl, rfl⟩ | rfl
  | true =>
    cases h2 : decide (s ≤ now) with
    | false => simp only [A2_app, lmayD_eq, lendD_eq, Z25, base1, baseE, ↓reduceIte, Nat.reduceAdd, Nat.reduceSub, Nat.reduceMul, Nat.reduceEqDiff, Nat.reduceLeDiff, Nat.reduceLT, Int.reduceLT, Int.reduceLE, Int.reduceEq, Int.reduceNe, Int.reduceToNat, Int.reduceAdd, Int.reduceSub, reduceCtorEq, Nat.reduceBEq, Nat.reduceBNe, e1, h1, h2]; first | exact ⟨rfl, rfl⟩ | rfl
    | true => simp only [A2_app, lmayD_eq, lendD_eq, Z25, base1, baseE, ↓reduceIte, Nat.reduceAdd, Nat.reduceSub, Nat.reduceMul, Nat.reduceEqDiff, Nat.reduceLeDiff, Nat.reduceLT, Int.reduceLT, Int.reduceLE, Int.reduceEq, Int.reduceNe, Int.reduceToNat, Int.reduceAdd, Int.reduceSub, reduceCtorEq, Nat.reduceBEq, Nat.reduceBNe, e1, h1, h2]; first | exact ⟨rfl, rfl⟩ | rfl
def holdsD (args : List AV) (σ : AHeap) (K : AV → AHeap → Prop) : Prop := ∃ e s f now : Int, args = [.agg (leaseC e s f), .int .i64 now] ∧ K (.bool (holdB e s f now)) σ
theorem holdsD_ok (args : List AV) (σ : AHeap) (K : AV → AHeap → Prop) (h : holdsD args σ K) : Tri Tryz.prog 25 args σ K := by
  obtain ⟨e, s, f, now, rfl, h⟩ := h
  exact (Tri.pureD rfl (holds_ok e s f now) σ).mono fun r σ' hr => by rw [hr.1, hr.2]; exact h
theorem holdsD_eq {e s f now : Int} {σ : AHeap} {K : AV → AHeap → Prop} : holdsD [.agg [.int .i64 e, .int .i64 s, .int .i64 f], .int .i64 now] σ K = K (.bool (holdB e s f now)) σ := by
  apply propext
  refine ⟨fun ⟨e', s', f', now', h1, h2⟩ => ?_, fun h => ⟨e, s, f, now, rfl, h⟩⟩
  obtain ⟨rfl, rfl, rfl⟩ := lease_inj (AV.agg.inj (List.cons.inj h1).1)
  have := (List.cons.inj (List.cons.inj h1).2).1
  cases this
  exact h2
/-! Comparing. -/
theorem epoch_ok (e s f : Int) : Tri Tryz.prog 76 [.agg (leaseC e s f)] [] fun r _ => r.pure = true ∧ r = .int .i64 e := by
  refine Tri.of_s c76 (noCall_sound _) ?_
  simp only [leaseC, Z76, base1, baseE, ↓reduceIte, Nat.reduceAdd, Nat.reduceSub, Nat.reduceMul, Nat.reduceEqDiff, Nat.reduceLeDiff, Nat.reduceLT, Int.reduceLT, Int.reduceLE, Int.reduceEq, Int.reduceNe, Int.reduceToNat, Int.reduceAdd, Int.reduceSub, reduceCtorEq, Nat.reduceBEq, Nat.reduceBNe]
  first | exact ⟨rfl, rfl⟩ | rfl
def epochD (args : List AV) (σ : AHeap) (K : AV → AHeap → Prop) : Prop := ∃ e s f : Int, args = [.agg (leaseC e s f)] ∧ K (.int .i64 e) σ
theorem epochD_ok (args : List AV) (σ : AHeap) (K : AV → AHeap → Prop) (h : epochD args σ K) : Tri Tryz.prog 76 args σ K := by
  obtain ⟨e, s, f, rfl, h⟩ := h
  exact (Tri.pureD rfl (epoch_ok e s f) σ).mono fun r σ' hr => by rw [hr.1, hr.2]; exact h
theorem epochD_eq {e s f : Int} {σ : AHeap} {K : AV → AHeap → Prop} : epochD [.agg [.int .i64 e, .int .i64 s, .int .i64 f]] σ K = K (.int .i64 e) σ := by
  apply propext
  refine ⟨fun ⟨e', s', f', h1, h2⟩ => ?_, fun h => ⟨e, s, f, rfl, h⟩⟩
  obtain ⟨rfl, rfl, rfl⟩ := lease_inj (AV.agg.inj (List.cons.inj h1).1)
  exact h2
def cmpZ (a b : Int) : Int := if a < b then -1 else if b < a then 1 else 0
def A3 : PCall := rowF 173 noCall s173 noCall
theorem A3_app {f : FuncId} {args : List AV} {σ : AHeap} {K : AV → AHeap → Prop} : A3 f args σ K = rowF 173 noCall s173 noCall f args σ K := _root_.id rfl
theorem A3_sound : Sound Tryz.prog A3 := rowF_sound c173 (noCall_sound _) (noCall_sound _)
theorem cmpI_ok (a b : Int) : Tri Tryz.prog 134 [.int .i64 a, .int .i64 b] [] fun r _ => r.pure = true ∧ r = .int .i64 (cmpZ a b) := by
  refine Tri.of_s c134 A3_sound ?_
  have n1 : ∀ x : Int, (x != x) = false := fun x => by simp
  have e1 : decide (a > b) = decide (b < a) := rfl
  unfold cmpZ
  cases h1 : decide (a < b) with
  | true =>
    rw [if_pos (of_decide_eq_true h1)]
    simp only [A3_app, Z134, Z173, base1, baseE, ↓reduceIte, Nat.reduceAdd, Nat.reduceSub, Nat.reduceMul, Nat.reduceEqDiff, Nat.reduceLeDiff, Nat.reduceLT, Int.reduceLT, Int.reduceLE, Int.reduceEq, Int.reduceNe, Int.reduceToNat, Int.reduceAdd, Int.reduceSub, reduceCtorEq, Nat.reduceBEq, Nat.reduceBNe, n1, h1]; first | exact ⟨rfl, rfl⟩ | rfl
  | false =>
    rw [if_neg (of_decide_eq_false h1)]
    cases h2 : decide (b < a) with
    | true =>
      rw [if_pos (of_decide_eq_true h2)]
      simp only [A3_app, Z134, Z173, base1, baseE, ↓reduceIte, Nat.reduceAdd, Nat.reduceSub, Nat.reduceMul, Nat.reduceEqDiff, Nat.reduceLeDiff, Nat.reduceLT, Int.reduceLT, Int.reduceLE, Int.reduceEq, Int.reduceNe, Int.reduceToNat, Int.reduceAdd, Int.reduceSub, reduceCtorEq, Nat.reduceBEq, Nat.reduceBNe, n1, e1, h1, h2]; first | exact ⟨rfl, rfl⟩ | rfl
    | false =>
      rw [if_neg (of_decide_eq_false h2)]
      simp only [A3_app, Z134, Z173, base1, baseE, ↓reduceIte, Nat.reduceAdd, Nat.reduceSub, Nat.reduceMul, Nat.reduceEqDiff, Nat.reduceLeDiff, Nat.reduceLT, Int.reduceLT, Int.reduceLE, Int.reduceEq, Int.reduceNe, Int.reduceToNat, Int.reduceAdd, Int.reduceSub, reduceCtorEq, Nat.reduceBEq, Nat.reduceBNe, n1, e1, h1, h2]; first | exact ⟨rfl, rfl⟩ | rfl
def cmpID (args : List AV) (σ : AHeap) (K : AV → AHeap → Prop) : Prop := ∃ a b : Int, args = [.int .i64 a, .int .i64 b] ∧ K (.int .i64 (cmpZ a b)) σ
theorem cmpID_ok (args : List AV) (σ : AHeap) (K : AV → AHeap → Prop) (h : cmpID args σ K) : Tri Tryz.prog 134 args σ K := by
  obtain ⟨a, b, rfl, h⟩ := h
  exact (Tri.pureD rfl (cmpI_ok a b) σ).mono fun r σ' hr => by rw [hr.1, hr.2]; exact h
theorem cmpID_eq {a b : Int} {σ : AHeap} {K : AV → AHeap → Prop} : cmpID [.int .i64 a, .int .i64 b] σ K = K (.int .i64 (cmpZ a b)) σ := by
  apply propext
  refine ⟨fun ⟨a', b', h1, h2⟩ => ?_, fun h => ⟨a, b, rfl, h⟩⟩
  simp only [List.cons.injEq, AV.int.injEq, true_and, and_true] at h1
  obtain ⟨rfl, rfl⟩ := h1
  exact h2
end Go.Proofs.YtgaopohogdinhaaGreatDoor.keep

/- Leases: which of two is later. No condition. -/
set_option linter.unusedVariables false
set_option linter.unusedSimpArgs false
namespace Go.Proofs.YtgaopohogdinhaaGreatDoor.keep
open Go.ChangeShapes Go.WideShapes Go.ChangeAt Go.RowKit Go.Gz Go.Proofs.YtgaopohogdinhaaGreatDoor.note
set_option maxHeartbeats 4000000
set_option maxRecDepth 10000
def A4 : PCall := rowQ 76 epochD (rowQ 52 lendD (rowQ 134 cmpID noCall))
theorem A4_app {f : FuncId} {args : List AV} {σ : AHeap} {K : AV → AHeap → Prop} : A4 f args σ K = rowQ 76 epochD (rowQ 52 lendD (rowQ 134 cmpID noCall)) f args σ K := _root_.id rfl
theorem A4_sound : Sound Tryz.prog A4 := rowQ_sound epochD_ok (rowQ_sound lendD_ok (rowQ_sound cmpID_ok (noCall_sound _)))
theorem A4_mono : MonoC A4 := rowQ_mono (fun args σ K K' hk ⟨e, s, f, h1, h2⟩ => ⟨e, s, f, h1, hk _ _ h2⟩) (rowQ_mono (fun args σ K K' hk ⟨e, s, f, h1, h2⟩ => ⟨e, s, f, h1, hk _ _ h2⟩) (rowQ_mono (fun args σ K K' hk ⟨a, b, h1, h2⟩ => ⟨a, b, h1, hk _ _ h2⟩) noCall_mono))
def cmprZ (e s f e' s' f' : Int) : Int := if cmpZ e e' = 0 then cmpZ (IntKind.wrap .i64 (s + f)) (IntKind.wrap .i64 (s' + f')) else cmpZ e e'
abbrev funcs2 : List (List AV) := [[.func 76 []], [.func 52 []]]
theorem wl0 : IntKind.wrap .i64 0 = 0 := Gz.wrap64 (by omega)
theorem wl1 : IntKind.wrap .i64 1 = 1 := Gz.wrap64 (by omega)
theorem wl2 : IntKind.wrap .i64 2 = 2 := Gz.wrap64 (by omega)
theorem wl01 : IntKind.wrap .i64 (0 + 1) = 1 := Gz.wrap64 (by omega)
theorem wl11 : IntKind.wrap .i64 (1 + 1) = 2 := Gz.wrap64 (by omega)
theorem cmpr_ok (e s f e' s' f' : Int) : Tri Tryz.prog 75 [.agg (leaseC e s f), .agg (leaseC e' s' f'), .imm funcs2 false false] [] fun r _ => r.pure = true ∧ r = .int .i64 (cmprZ e s f e' s' f') := by
  refine Tri.of_s c75 A4_sound ?_
  unfold cmprZ
  have g0 : ([[AV.func 76 []], [AV.func 52 []]] : List (List AV))[0]? = some [.func 76 []] := rfl
  have g1 : ([[AV.func 76 []], [AV.func 52 []]] : List (List AV))[1]? = some [.func 52 []] := rfl
  simp only [A4_app, epochD_eq, lendD_eq, cmpID_eq, leaseC, Z75, base1, baseE, ↓reduceIte, Nat.reduceAdd, Nat.reduceSub, Nat.reduceMul, Nat.reduceEqDiff, Nat.reduceLeDiff, Nat.reduceLT, Int.reduceLT, Int.reduceLE, Int.reduceEq, Int.reduceNe, Int.reduceToNat, Int.reduceAdd, Int.reduceSub, reduceCtorEq, Nat.reduceBEq, Nat.reduceBNe, List.length_cons, List.length_nil, wl0, wl1, wl2, g0, g1]
  refine sC_unroll A4_mono (n := 3) ?_
  simp only [A4_app, epochD_eq, lendD_eq, cmpID_eq, leaseC, Z75, base1, baseE, ↓reduceIte, Nat.reduceAdd, Nat.reduceSub, Nat.reduceMul, Nat.reduceEqDiff, Nat.reduceLeDiff, Nat.reduceLT, Int.reduceLT, Int.reduceLE, Int.reduceEq, Int.reduceNe, Int.reduceToNat, Int.reduceAdd, Int.reduceSub, reduceCtorEq, Nat.reduceBEq, Nat.reduceBNe, List.length_cons, List.length_nil, unw_lp_succ, wl0, wl1, wl2, wl01, wl11, g0, g1]
  by_cases h : cmpZ e e' = 0
  · rw [if_pos h]
    by_cases h2 : cmpZ (IntKind.wrap .i64 (s + f)) (IntKind.wrap .i64 (s' + f')) = 0
    · simp only [A4_app, epochD_eq, lendD_eq, cmpID_eq, leaseC, Z75, base1, baseE, ↓reduceIte, Nat.reduceAdd, Nat.reduceSub, Nat.reduceMul, Nat.reduceEqDiff, Nat.reduceLeDiff, Nat.reduceLT, Int.reduceLT, Int.reduceLE, Int.reduceEq, Int.reduceNe, Int.reduceToNat, Int.reduceAdd, Int.reduceSub, reduceCtorEq, Nat.reduceBEq, Nat.reduceBNe, List.length_cons, List.length_nil, unw_lp_succ, wl0, wl1, wl2, wl01, wl11, g0, g1, h, h2, not_true_eq_false, decide_false]
      first | exact ⟨rfl, rfl⟩ | rfl
    · simp only [A4_app, epochD_eq, lendD_eq, cmpID_eq, leaseC, Z75, base1, baseE, ↓reduceIte, Nat.reduceAdd, Nat.reduceSub, Nat.reduceMul, Nat.reduceEqDiff, Nat.reduceLeDiff, Nat.reduceLT, Int.reduceLT, Int.reduceLE, Int.reduceEq, Int.reduceNe, Int.reduceToNat, Int.reduceAdd, Int.reduceSub, reduceCtorEq, Nat.reduceBEq, Nat.reduceBNe, List.length_cons, List.length_nil, unw_lp_succ, wl0, wl1, wl2, wl01, wl11, g0, g1, h, h2, not_false_eq_true, not_true_eq_false, decide_false, decide_true]
      first | exact ⟨rfl, rfl⟩ | rfl
  · rw [if_neg h]
    simp only [A4_app, epochD_eq, lendD_eq, cmpID_eq, leaseC, Z75, base1, baseE, ↓reduceIte, Nat.reduceAdd, Nat.reduceSub, Nat.reduceMul, Nat.reduceEqDiff, Nat.reduceLeDiff, Nat.reduceLT, Int.reduceLT, Int.reduceLE, Int.reduceEq, Int.reduceNe, Int.reduceToNat, Int.reduceAdd, Int.reduceSub, reduceCtorEq, Nat.reduceBEq, Nat.reduceBNe, List.length_cons, List.length_nil, unw_lp_succ, wl0, wl1, wl2, wl01, wl11, g0, g1, h, not_false_eq_true, decide_true]
    first | exact ⟨rfl, rfl⟩ | rfl
def cmprD (args : List AV) (σ : AHeap) (K : AV → AHeap → Prop) : Prop := ∃ (e s f e' s' f' : Int) (d : Nat), args = [.agg (leaseC e s f), .agg (leaseC e' s' f'), .slice d 0 2 (some 2) 1] ∧ hget σ d = some [.func 76 [], .func 52 []] ∧ K (.int .i64 (cmprZ e s f e' s' f')) (hkill σ d)
theorem cmprD_ok (args : List AV) (σ : AHeap) (K : AV → AHeap → Prop) (h : cmprD args σ K) : Tri Tryz.prog 75 args σ K := by
  obtain ⟨e, s, f, e', s', f', d, rfl, hd, h⟩ := h
  refine (Tri.give (args := [.agg (leaseC e s f), .agg (leaseC e' s' f'), .slice d 0 2 (some 2) 1]) (args1 := [.agg (leaseC e s f), .agg (leaseC e' s' f'), .imm funcs2 false false]) d rfl ?_ (cmpr_ok e s f e' s' f')).mono fun r σ' hr => by rw [hr.1, hr.2]; exact h
  intro i x y hx hy
  match i with
  | 0 => simp at hx hy; subst hx; subst hy; exact .inl ⟨rfl, rfl⟩
  | 1 => simp at hx hy; subst hx; subst hy; exact .inl ⟨rfl, rfl⟩
  | 2 => simp at hx hy; subst hx; subst hy; exact .inr (.inr ⟨0, 2, some 2, 1, _, funcs2, rfl, rfl, hd, rfl, rfl, by intro r hr; simp at hr; rcases hr with rfl | rfl <;> rfl, rfl⟩)
  | n + 3 => simp at hx
theorem cmprD_eq {e s f e' s' f' : Int} {d : Nat} {σ : AHeap} {K : AV → AHeap → Prop} (hd : hget σ d = some [.func 76 [], .func 52 []]) (h : K (.int .i64 (cmprZ e s f e' s' f')) (hkill σ d)) :
    cmprD [.agg [.int .i64 e, .int .i64 s, .int .i64 f], .agg [.int .i64 e', .int .i64 s', .int .i64 f'], .slice d 0 2 (some 2) 1] σ K := ⟨e, s, f, e', s', f', d, rfl, hd, h⟩
/-- The later one of two leases. -/
def laterL (e s f e' s' f' : Int) : List AV :=
  if lmayB e s f = true then (if lmayB e' s' f' = true then (if 0 < cmprZ e' s' f' e s f then leaseC e' s' f' else leaseC e s f) else leaseC e s f)
  else if lmayB e' s' f' = true then leaseC e' s' f' else leaseC 0 0 0
def A5 : PCall := rowQ 51 lmayD (rowQ 75 cmprD noCall)
theorem A5_app {f : FuncId} {args : List AV} {σ : AHeap} {K : AV → AHeap → Prop} : A5 f args σ K = rowQ 51 lmayD (rowQ 75 cmprD noCall) f args σ K := _root_.id rfl
theorem A5_sound : Sound Tryz.prog A5 := rowQ_sound lmayD_ok (rowQ_sound cmprD_ok (noCall_sound _))
theorem later_ok (e s f e' s' f' : Int) : Tri Tryz.prog 41 [.agg (leaseC e s f), .agg (leaseC e' s' f')] [] fun r _ => r.pure = true ∧ r = .agg (laterL e s f e' s' f') := by
  refine Tri.of_s c41 A5_sound ?_
  unfold laterL
  have pu : ∀ a b c : Int, (AV.agg [.int .i64 a, .int .i64 b, .int .i64 c]).pure = true := fun _ _ _ => rfl
  cases h1 : lmayB e s f with
  | false =>
    cases h2 : lmayB e' s' f' with
    | false => simp only [A5_app, lmayD_eq, leaseC, Z41, base1, baseE, ↓reduceIte, Nat.reduceAdd, Nat.reduceSub, Nat.reduceMul, Nat.reduceEqDiff, Nat.reduceLeDiff, Nat.reduceLT, Int.reduceLT, Int.reduceLE, Int.reduceEq, Int.reduceNe, Int.reduceToNat, Int.reduceAdd, Int.reduceSub, reduceCtorEq, Nat.reduceBEq, Nat.reduceBNe, h1, h2]; first | exact ⟨rfl, rfl⟩ | rfl
    | true => simp only [A5_app, lmayD_eq, leaseC, Z41, base1, baseE, ↓reduceIte, Nat.reduceAdd, Nat.reduceSub, Nat.reduceMul, Nat.reduceEqDiff, Nat.reduceLeDiff, Nat.reduceLT, Int.reduceLT, Int.reduceLE, Int.reduceEq, Int.reduceNe, Int.reduceToNat, Int.reduceAdd, Int.reduceSub, reduceCtorEq, Nat.reduceBEq, Nat.reduceBNe, h1, h2]; first | exact ⟨rfl, rfl⟩ | rfl
  | true =>
    cases h2 : lmayB e' s' f' with
    | false => simp only [A5_app, lmayD_eq, leaseC, Z41, base1, baseE, ↓reduceIte, Nat.reduceAdd, Nat.reduceSub, Nat.reduceMul, Nat.reduceEqDiff, Nat.reduceLeDiff, Nat.reduceLT, Int.reduceLT, Int.reduceLE, Int.reduceEq, Int.reduceNe, Int.reduceToNat, Int.reduceAdd, Int.reduceSub, reduceCtorEq, Nat.reduceBEq, Nat.reduceBNe, h1, h2]; first | exact ⟨rfl, rfl⟩ | rfl
    | true =>
      simp only [A5_app, lmayD_eq, leaseC, Z41, base1, baseE, ↓reduceIte, Nat.reduceAdd, Nat.reduceSub, Nat.reduceMul, Nat.reduceEqDiff, Nat.reduceLeDiff, Nat.reduceLT, Int.reduceLT, Int.reduceLE, Int.reduceEq, Int.reduceNe, Int.reduceToNat, Int.reduceAdd, Int.reduceSub, reduceCtorEq, Nat.reduceBEq, Nat.reduceBNe, h1, h2]
      refine cmprD_eq rfl ?_
      by_cases h3 : 0 < cmprZ e' s' f' e s f
      · have h3' : cmprZ e' s' f' e s f > 0 := h3
        simp only [A5_app, lmayD_eq, leaseC, Z41, base1, baseE, ↓reduceIte, Nat.reduceAdd, Nat.reduceSub, Nat.reduceMul, Nat.reduceEqDiff, Nat.reduceLeDiff, Nat.reduceLT, Int.reduceLT, Int.reduceLE, Int.reduceEq, Int.reduceNe, Int.reduceToNat, Int.reduceAdd, Int.reduceSub, reduceCtorEq, Nat.reduceBEq, Nat.reduceBNe, h1, h2, h3, h3', decide_true]; first | exact ⟨rfl, rfl⟩ | rfl
      · have h3' : ¬ cmprZ e' s' f' e s f > 0 := h3
        simp only [A5_app, lmayD_eq, leaseC, Z41, base1, baseE, ↓reduceIte, Nat.reduceAdd, Nat.reduceSub, Nat.reduceMul, Nat.reduceEqDiff, Nat.reduceLeDiff, Nat.reduceLT, Int.reduceLT, Int.reduceLE, Int.reduceEq, Int.reduceNe, Int.reduceToNat, Int.reduceAdd, Int.reduceSub, reduceCtorEq, Nat.reduceBEq, Nat.reduceBNe, h1, h2, h3, h3', decide_false]; first | exact ⟨rfl, rfl⟩ | rfl
def laterD (args : List AV) (σ : AHeap) (K : AV → AHeap → Prop) : Prop := ∃ e s f e' s' f' : Int, args = [.agg (leaseC e s f), .agg (leaseC e' s' f')] ∧ K (.agg (laterL e s f e' s' f')) σ
theorem later_pure (e s f e' s' f' : Int) : (AV.agg (laterL e s f e' s' f')).pure = true := by
  unfold laterL leaseC
  repeat' split
  all_goals rfl
theorem laterD_ok (args : List AV) (σ : AHeap) (K : AV → AHeap → Prop) (h : laterD args σ K) : Tri Tryz.prog 41 args σ K := by
  obtain ⟨e, s, f, e', s', f', rfl, h⟩ := h
  exact (Tri.pureD rfl (later_ok e s f e' s' f') σ).mono fun r σ' hr => by rw [hr.1, hr.2]; exact h
theorem laterD_eq {e s f e' s' f' : Int} {σ : AHeap} {K : AV → AHeap → Prop} : laterD [.agg [.int .i64 e, .int .i64 s, .int .i64 f], .agg [.int .i64 e', .int .i64 s', .int .i64 f']] σ K = K (.agg (laterL e s f e' s' f')) σ := by
  apply propext
  refine ⟨fun ⟨a, b, c, a', b', c', h1, h2⟩ => ?_, fun h => ⟨e, s, f, e', s', f', rfl, h⟩⟩
  have k1 := List.cons.inj h1
  have k2 := List.cons.inj k1.2
  obtain ⟨rfl, rfl, rfl⟩ := lease_inj (AV.agg.inj k1.1)
  obtain ⟨rfl, rfl, rfl⟩ := lease_inj (AV.agg.inj k2.1)
  exact h2
end Go.Proofs.YtgaopohogdinhaaGreatDoor.keep
