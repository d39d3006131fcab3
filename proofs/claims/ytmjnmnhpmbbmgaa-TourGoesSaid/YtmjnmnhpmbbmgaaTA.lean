/- Runes: which may be, where they are found, how rows of them compare; what is read of a text. No condition. -/
import Derived.Test.YtmjnmnhpmbbmgaaRows
import Derived.Test.YtmjnmnhpmbbmgaaK22
import Derived.Test.YtmjnmnhpmbbmgaaK38
import Derived.Test.YtmjnmnhpmbbmgaaK33
import Derived.Test.YtmjnmnhpmbbmgaaK39
set_option linter.unusedVariables false
set_option linter.unusedSimpArgs false
namespace Go.Proofs.Ytmjnmnhpmbbmgaa.tour
open Go.ChangeShapes Go.WideShapes Go.ChangeAt Go.RowKit Go.Gz Go.Gz.H
abbrev r62_0 : List MOper := [⟨(some 4), .move (.c (.int .i64 0)), none⟩]
def b62_0 : SCode := .region r62_0
abbrev r62_1 : List MOper := [⟨(some 5), .move (.c (.int .i64 0)), none⟩]
def b62_1 : SCode := .region r62_1
abbrev r62_2 : List MOper := [⟨(some 6), .move (.t 5), none⟩,
  ⟨(some 7), .move (.t 0), none⟩,
  ⟨(some 8), .lenSl (.t 7), none⟩,
  ⟨(some 9), .bin .lss .num (.t 6) (.t 8), none⟩]
def b62_2 : SCode := .region r62_2
def b62_3 : SCode := .cond (.t 9) .skip (.exit 0)
def b62_4 : SCode := .seq b62_2 b62_3
abbrev r62_5 : List MOper := [⟨(some 12), .move (.t 0), none⟩,
  ⟨(some 13), .move (.t 5), none⟩,
  ⟨(some 14), .indexAddr 3 (.t 12) (.t 13), none⟩,
  ⟨(some 15), .fieldAddr 0 (.t 14), none⟩,
  ⟨(some 16), .load1 (.t 15), none⟩,
  ⟨(some 17), .move (.t 1), none⟩,
  ⟨(some 18), .bin .eql .num (.t 16) (.t 17), none⟩]
def b62_5 : SCode := .region r62_5
abbrev r62_6 : List MOper := [⟨(some 19), .move (.t 5), none⟩,
  ⟨(some 4), .move (.t 19), none⟩]
def b62_6 : SCode := .region r62_6
def b62_7 : SCode := .seq b62_6 .ret
def b62_8 : SCode := .cond (.t 18) b62_7 .skip
def b62_9 : SCode := .seq b62_5 b62_8
def b62_10 : SCode := .block 1 b62_9
abbrev r62_11 : List MOper := [⟨(some 10), .move (.t 5), none⟩,
  ⟨(some 11), .bin .add .num (.t 10) (.c (.int .i64 1)), none⟩,
  ⟨(some 5), .move (.t 11), none⟩]
def b62_11 : SCode := .region r62_11
def b62_12 : SCode := .seq b62_10 b62_11
def b62_13 : SCode := .seq b62_4 b62_12
def b62_14 : SCode := .loop b62_13
def b62_15 : SCode := .block 0 b62_14
def b62_16 : SCode := .seq b62_1 b62_15
abbrev r62_17 : List MOper := [⟨(some 4), .move (.c (.int .i64 (-1))), none⟩]
def b62_17 : SCode := .region r62_17
def b62_18 : SCode := .seq b62_17 .ret
def b62_19 : SCode := .seq b62_16 b62_18
def b62_20 : SCode := .seq b62_0 b62_19
def s62 : SFunc := ⟨20, [.t 4], b62_20⟩
theorem c62 : sFn Try.prog 62 = some s62 := by kernel_rfl
theorem Z62 : XR b62_0 r62_0 ∧ XR b62_1 r62_1 ∧ XR b62_2 r62_2 ∧ XC b62_3 (.t 9) .skip (.exit 0) ∧ XS b62_4 b62_2 b62_3 ∧ XR b62_5 r62_5 ∧ XR b62_6 r62_6 ∧ XS b62_7 b62_6 .ret ∧ XC b62_8 (.t 18) b62_7 .skip ∧ XS b62_9 b62_5 b62_8 ∧ XB b62_10 1 b62_9 ∧ XR b62_11 r62_11 ∧ XS b62_12 b62_10 b62_11 ∧ XS b62_13 b62_4 b62_12 ∧ XB b62_15 0 b62_14 ∧ XS b62_16 b62_1 b62_15 ∧ XR b62_17 r62_17 ∧ XS b62_18 b62_17 .ret ∧ XS b62_19 b62_16 b62_18 ∧ XS b62_20 b62_0 b62_19 ∧ XY s62 20 b62_20 [.t 4] := ⟨rfl, rfl, rfl, sC_cond, rfl, rfl, rfl, rfl, sC_cond, rfl, rfl, rfl, rfl, rfl, rfl, rfl, rfl, rfl, rfl, rfl, rfl⟩
abbrev r63_0 : List MOper := [⟨(some 2), .move (.c (.bool false)), none⟩]
def b63_0 : SCode := .region r63_0
abbrev r63_1 : List MOper := [⟨(some 3), .move (.t 0), none⟩,
  ⟨(some 4), .bin .geq .num (.t 3) (.c (.int .i32 0)), none⟩,
  ⟨(some 5), .move (.t 4), none⟩,
  ⟨(some 6), .move (.t 0), (some (5, true))⟩,
  ⟨(some 7), .bin .leq .num (.t 6) (.c (.int .i32 1114111)), (some (5, true))⟩,
  ⟨(some 8), .pick (.t 5) (.t 7) (.c (.bool false)), none⟩,
  ⟨(some 9), .move (.t 8), none⟩,
  ⟨(some 10), .move (.t 0), (some (9, true))⟩,
  ⟨(some 11), .bin .lss .num (.t 10) (.c (.int .i32 55296)), (some (9, true))⟩,
  ⟨(some 12), .move (.t 11), (some (9, true))⟩,
  ⟨(some 13), .move (.t 0), (some (12, false))⟩,
  ⟨(some 14), .bin .gtr .num (.t 13) (.c (.int .i32 57343)), (some (12, false))⟩,
  ⟨(some 15), .pick (.t 12) (.c (.bool true)) (.t 14), (some (9, true))⟩,
  ⟨(some 16), .pick (.t 9) (.t 15) (.c (.bool false)), none⟩,
  ⟨(some 2), .move (.t 16), none⟩]
def b63_1 : SCode := .region r63_1
def b63_2 : SCode := .seq b63_1 .ret
def b63_3 : SCode := .seq b63_0 b63_2
def s63 : SFunc := ⟨17, [.t 2], b63_3⟩
theorem c63 : sFn Try.prog 63 = some s63 := by kernel_rfl
theorem Z63 : XR b63_0 r63_0 ∧ XR b63_1 r63_1 ∧ XS b63_2 b63_1 .ret ∧ XS b63_3 b63_0 b63_2 ∧ XY s63 17 b63_3 [.t 2] := ⟨rfl, rfl, rfl, rfl, rfl⟩
abbrev r68_0 : List MOper := [⟨(some 4), .move (.c (.int .i64 0)), none⟩]
def b68_0 : SCode := .region r68_0
abbrev r68_1 : List MOper := [⟨(some 6), .move (.t 0), none⟩,
  ⟨(some 7), .move (.t 1), none⟩,
  ⟨(some 8), .call 62 [(.t 6), (.t 7)], none⟩,
  ⟨(some 5), .move (.t 8), none⟩]
def b68_1 : SCode := .region r68_1
abbrev r68_2 : List MOper := [⟨(some 9), .move (.t 5), none⟩,
  ⟨(some 10), .bin .lss .num (.t 9) (.c (.int .i64 0)), none⟩]
def b68_2 : SCode := .region r68_2
abbrev r68_3 : List MOper := [⟨(some 4), .move (.c (.int .i64 0)), none⟩]
def b68_3 : SCode := .region r68_3
def b68_4 : SCode := .seq b68_3 .ret
def b68_5 : SCode := .cond (.t 10) b68_4 .skip
def b68_6 : SCode := .seq b68_2 b68_5
abbrev r68_7 : List MOper := [⟨(some 11), .move (.t 0), none⟩,
  ⟨(some 12), .move (.t 5), none⟩,
  ⟨(some 13), .indexAddr 3 (.t 11) (.t 12), none⟩,
  ⟨(some 14), .fieldAddr 1 (.t 13), none⟩,
  ⟨(some 15), .load1 (.t 14), none⟩,
  ⟨(some 4), .move (.t 15), none⟩]
def b68_7 : SCode := .region r68_7
def b68_8 : SCode := .seq b68_7 .ret
def b68_9 : SCode := .seq b68_6 b68_8
def b68_10 : SCode := .seq b68_1 b68_9
def b68_11 : SCode := .seq b68_0 b68_10
def s68 : SFunc := ⟨16, [.t 4], b68_11⟩
theorem c68 : sFn Try.prog 68 = some s68 := by kernel_rfl
theorem Z68 : XR b68_0 r68_0 ∧ XR b68_1 r68_1 ∧ XR b68_2 r68_2 ∧ XR b68_3 r68_3 ∧ XS b68_4 b68_3 .ret ∧ XC b68_5 (.t 10) b68_4 .skip ∧ XS b68_6 b68_2 b68_5 ∧ XR b68_7 r68_7 ∧ XS b68_8 b68_7 .ret ∧ XS b68_9 b68_6 b68_8 ∧ XS b68_10 b68_1 b68_9 ∧ XS b68_11 b68_0 b68_10 ∧ XY s68 16 b68_11 [.t 4] := ⟨rfl, rfl, rfl, rfl, rfl, sC_cond, rfl, rfl, rfl, rfl, rfl, rfl, rfl⟩
abbrev r61_0 : List MOper := [⟨(some 4), .move (.c (.int .i64 0)), none⟩]
def b61_0 : SCode := .region r61_0
abbrev r61_1 : List MOper := [⟨(some 5), .move (.c (.int .i64 0)), none⟩]
def b61_1 : SCode := .region r61_1
abbrev r61_2 : List MOper := [⟨(some 6), .move (.t 5), none⟩,
  ⟨(some 7), .move (.t 0), none⟩,
  ⟨(some 8), .lenSl (.t 7), none⟩,
  ⟨(some 9), .bin .lss .num (.t 6) (.t 8), none⟩,
  ⟨(some 10), .move (.t 9), none⟩,
  ⟨(some 11), .move (.t 5), (some (10, true))⟩,
  ⟨(some 12), .move (.t 1), (some (10, true))⟩,
  ⟨(some 13), .lenSl (.t 12), (some (10, true))⟩,
  ⟨(some 14), .bin .lss .num (.t 11) (.t 13), (some (10, true))⟩,
  ⟨(some 15), .pick (.t 10) (.t 14) (.c (.bool false)), none⟩]
def b61_2 : SCode := .region r61_2
def b61_3 : SCode := .cond (.t 15) .skip (.exit 0)
def b61_4 : SCode := .seq b61_2 b61_3
abbrev t61_5 : LTree := (.quiet ⟨(some 18), .move (.t 0), none⟩ 0
  (.quiet ⟨(some 19), .move (.t 5), none⟩ 1
  (.quiet ⟨(some 20), .indexAddr 1 (.t 18) (.t 19), none⟩ 2
  (.quiet ⟨(some 21), .load1 (.t 20), none⟩ 3
  (.quiet ⟨(some 22), .move (.t 1), none⟩ 4
  (.quiet ⟨(some 23), .move (.t 5), none⟩ 5
  (.quiet ⟨(some 24), .indexAddr 1 (.t 22) (.t 23), none⟩ 6
  (.quiet ⟨(some 25), .load1 (.t 24), none⟩ 7
  (.quiet ⟨(some 26), .bin .neq .num (.t 21) (.t 25), none⟩ 8
  .leaf)))))))))
def b61_5 : SCode := .draw t61_5
abbrev t61_6 : LTree := (.quiet ⟨(some 27), .move (.t 0), none⟩ 0
  (.quiet ⟨(some 28), .move (.t 5), none⟩ 1
  (.quiet ⟨(some 29), .indexAddr 1 (.t 27) (.t 28), none⟩ 2
  (.quiet ⟨(some 30), .load1 (.t 29), none⟩ 3
  (.quiet ⟨(some 31), .move (.t 1), none⟩ 4
  (.quiet ⟨(some 32), .move (.t 5), none⟩ 5
  (.quiet ⟨(some 33), .indexAddr 1 (.t 31) (.t 32), none⟩ 6
  (.quiet ⟨(some 34), .load1 (.t 33), none⟩ 7
  (.quiet ⟨(some 35), .bin .lss .num (.t 30) (.t 34), none⟩ 8
  .leaf)))))))))
def b61_6 : SCode := .draw t61_6
abbrev r61_7 : List MOper := [⟨(some 4), .move (.c (.int .i64 (-1))), none⟩]
def b61_7 : SCode := .region r61_7
def b61_8 : SCode := .seq b61_7 .ret
def b61_9 : SCode := .cond (.t 35) b61_8 .skip
def b61_10 : SCode := .seq b61_6 b61_9
abbrev r61_11 : List MOper := [⟨(some 4), .move (.c (.int .i64 1)), none⟩]
def b61_11 : SCode := .region r61_11
def b61_12 : SCode := .seq b61_11 .ret
def b61_13 : SCode := .seq b61_10 b61_12
def b61_14 : SCode := .cond (.t 26) b61_13 .skip
def b61_15 : SCode := .seq b61_5 b61_14
def b61_16 : SCode := .block 1 b61_15
abbrev r61_17 : List MOper := [⟨(some 16), .move (.t 5), none⟩,
  ⟨(some 17), .bin .add .num (.t 16) (.c (.int .i64 1)), none⟩,
  ⟨(some 5), .move (.t 17), none⟩]
def b61_17 : SCode := .region r61_17
def b61_18 : SCode := .seq b61_16 b61_17
def b61_19 : SCode := .seq b61_4 b61_18
def b61_20 : SCode := .loop b61_19
def b61_21 : SCode := .block 0 b61_20
def b61_22 : SCode := .seq b61_1 b61_21
abbrev r61_23 : List MOper := [⟨(some 36), .move (.t 0), none⟩,
  ⟨(some 37), .lenSl (.t 36), none⟩,
  ⟨(some 38), .move (.t 1), none⟩,
  ⟨(some 39), .lenSl (.t 38), none⟩,
  ⟨(some 40), .bin .sub .num (.t 37) (.t 39), none⟩,
  ⟨(some 4), .move (.t 40), none⟩]
def b61_23 : SCode := .region r61_23
def b61_24 : SCode := .seq b61_23 .ret
def b61_25 : SCode := .seq b61_22 b61_24
def b61_26 : SCode := .seq b61_0 b61_25
def s61 : SFunc := ⟨41, [.t 4], b61_26⟩
theorem c61 : sFn Try.prog 61 = some s61 := by kernel_rfl
theorem Z61 : XR b61_0 r61_0 ∧ XR b61_1 r61_1 ∧ XR b61_2 r61_2 ∧ XC b61_3 (.t 15) .skip (.exit 0) ∧ XS b61_4 b61_2 b61_3 ∧ XT b61_5 t61_5 ∧ XT b61_6 t61_6 ∧ XR b61_7 r61_7 ∧ XS b61_8 b61_7 .ret ∧ XC b61_9 (.t 35) b61_8 .skip ∧ XS b61_10 b61_6 b61_9 ∧ XR b61_11 r61_11 ∧ XS b61_12 b61_11 .ret ∧ XS b61_13 b61_10 b61_12 ∧ XC b61_14 (.t 26) b61_13 .skip ∧ XS b61_15 b61_5 b61_14 ∧ XB b61_16 1 b61_15 ∧ XR b61_17 r61_17 ∧ XS b61_18 b61_16 b61_17 ∧ XS b61_19 b61_4 b61_18 ∧ XB b61_21 0 b61_20 ∧ XS b61_22 b61_1 b61_21 ∧ XR b61_23 r61_23 ∧ XS b61_24 b61_23 .ret ∧ XS b61_25 b61_22 b61_24 ∧ XS b61_26 b61_0 b61_25 ∧ XY s61 41 b61_26 [.t 4] := ⟨rfl, rfl, rfl, sC_cond, rfl, rfl, rfl, rfl, rfl, sC_cond, rfl, rfl, rfl, rfl, sC_cond, rfl, rfl, rfl, rfl, rfl, rfl, rfl, rfl, rfl, rfl, rfl, rfl⟩
abbrev r64_0 : List MOper := [⟨(some 2), .box (.t 0), none⟩,
  ⟨(some 4), .move (.c (.int .i64 0)), none⟩]
def b64_0 : SCode := .region r64_0
abbrev r64_1 : List MOper := [⟨(some 5), .move (.c (.int .i64 0)), none⟩]
def b64_1 : SCode := .region r64_1
abbrev r64_2 : List MOper := [⟨(some 6), .move (.t 5), none⟩,
  ⟨(some 7), .fieldAddr 1 (.t 2), none⟩,
  ⟨(some 8), .load1 (.t 7), none⟩,
  ⟨(some 9), .lenSl (.t 8), none⟩,
  ⟨(some 10), .bin .lss .num (.t 6) (.t 9), none⟩]
def b64_2 : SCode := .region r64_2
def b64_3 : SCode := .cond (.t 10) .skip (.exit 0)
def b64_4 : SCode := .seq b64_2 b64_3
abbrev r64_5 : List MOper := [⟨(some 13), .fieldAddr 1 (.t 2), none⟩,
  ⟨(some 14), .load1 (.t 13), none⟩,
  ⟨(some 15), .move (.t 5), none⟩,
  ⟨(some 16), .indexAddr 2 (.t 14) (.t 15), none⟩,
  ⟨(some 17), .fieldAddr 0 (.t 16), none⟩,
  ⟨(some 18), .load1 (.t 17), none⟩,
  ⟨(some 19), .move (.t 1), none⟩,
  ⟨(some 20), .call 61 [(.t 18), (.t 19)], none⟩,
  ⟨(some 21), .bin .eql .num (.t 20) (.c (.int .i64 0)), none⟩]
def b64_5 : SCode := .region r64_5
abbrev r64_6 : List MOper := [⟨(some 22), .move (.t 5), none⟩,
  ⟨(some 4), .move (.t 22), none⟩]
def b64_6 : SCode := .region r64_6
def b64_7 : SCode := .seq b64_6 .ret
def b64_8 : SCode := .cond (.t 21) b64_7 .skip
def b64_9 : SCode := .seq b64_5 b64_8
def b64_10 : SCode := .block 1 b64_9
abbrev r64_11 : List MOper := [⟨(some 11), .move (.t 5), none⟩,
  ⟨(some 12), .bin .add .num (.t 11) (.c (.int .i64 1)), none⟩,
  ⟨(some 5), .move (.t 12), none⟩]
def b64_11 : SCode := .region r64_11
def b64_12 : SCode := .seq b64_10 b64_11
def b64_13 : SCode := .seq b64_4 b64_12
def b64_14 : SCode := .loop b64_13
def b64_15 : SCode := .block 0 b64_14
def b64_16 : SCode := .seq b64_1 b64_15
abbrev r64_17 : List MOper := [⟨(some 4), .move (.c (.int .i64 (-1))), none⟩]
def b64_17 : SCode := .region r64_17
def b64_18 : SCode := .seq b64_17 .ret
def b64_19 : SCode := .seq b64_16 b64_18
def b64_20 : SCode := .seq b64_0 b64_19
def s64 : SFunc := ⟨23, [.t 4], b64_20⟩
theorem c64 : sFn Try.prog 64 = some s64 := by kernel_rfl
theorem Z64 : XR b64_0 r64_0 ∧ XR b64_1 r64_1 ∧ XR b64_2 r64_2 ∧ XC b64_3 (.t 10) .skip (.exit 0) ∧ XS b64_4 b64_2 b64_3 ∧ XR b64_5 r64_5 ∧ XR b64_6 r64_6 ∧ XS b64_7 b64_6 .ret ∧ XC b64_8 (.t 21) b64_7 .skip ∧ XS b64_9 b64_5 b64_8 ∧ XB b64_10 1 b64_9 ∧ XR b64_11 r64_11 ∧ XS b64_12 b64_10 b64_11 ∧ XS b64_13 b64_4 b64_12 ∧ XB b64_15 0 b64_14 ∧ XS b64_16 b64_1 b64_15 ∧ XR b64_17 r64_17 ∧ XS b64_18 b64_17 .ret ∧ XS b64_19 b64_16 b64_18 ∧ XS b64_20 b64_0 b64_19 ∧ XY s64 23 b64_20 [.t 4] := ⟨rfl, rfl, rfl, sC_cond, rfl, rfl, rfl, rfl, sC_cond, rfl, rfl, rfl, rfl, rfl, rfl, rfl, rfl, rfl, rfl, rfl, rfl⟩

set_option maxHeartbeats 4000000
set_option maxRecDepth 10000
/-- A row of runes. -/
abbrev rnC (l : List Int) : List (List AV) := l.map fun (n : Int) => [AV.int .i32 n]
abbrev inC (l : List Int) : List (List AV) := l.map fun (n : Int) => [AV.int .i64 n]
theorem rn_pure (l : List Int) : pureLL (rnC l) = true := pureLL_of fun r hr => by
  obtain ⟨b, _, rfl⟩ := List.mem_map.1 hr
  rfl
theorem in_pure (l : List Int) : pureLL (inC l) = true := pureLL_of fun r hr => by
  obtain ⟨b, _, rfl⟩ := List.mem_map.1 hr
  rfl
/-! The table that stores are given. -/
abbrev loreR : List (List AV) := [[.int .i32 233, .int .i64 0, .imm (rnC [101, 769]) false false], [.int .i32 769, .int .i64 230, .nilslice]]
abbrev rowR (r : Int) (p s t : Int) : List AV := [.imm (rnC [r]) false false, .imm [[.int .i64 p, .int .i64 s, .int .i64 t]] false false]
def rowsR : List (List AV) := [rowR 97 10 32 2, rowR 98 11 32 2, rowR 99 12 32 2, rowR 101 13 32 2, rowR 769 0 41 2]
abbrev loreV : AV := .imm loreR false false
abbrev tabC : List AV := [loreV, .imm rowsR false false, .int .i64 0, .bool false]
/-! find. -/
def fdS (r : Int) : Int := if 233 = r then 0 else if 769 = r then 1 else -1
def fdI (m : Nat) (r : Int) (e : Env) (σ : AHeap) : Prop := ((m = 2 ∧ e 5 = .int .i64 0) ∨ (m = 1 ∧ e 5 = .int .i64 1 ∧ ¬ (233 : Int) = r) ∨ (m = 0 ∧ e 5 = .int .i64 2 ∧ ¬ (233 : Int) = r ∧ ¬ (769 : Int) = r)) ∧ e 0 = loreV ∧ e 1 = .int .i32 r
theorem find_ok (r : Int) : Tri Try.prog 62 [loreV, .int .i32 r] [] fun x _ => x.pure = true ∧ x = .int .i64 (fdS r) := by
  refine Tri.of_s c62 (noCall_sound _) ?_
  have w1 : IntKind.wrap .i64 (0 + 1) = 1 := Gz.wrap64 (by omega)
  have w2 : IntKind.wrap .i64 (1 + 1) = 2 := Gz.wrap64 (by omega)
  simp only [Z62, base1, ↓reduceIte, Nat.reduceAdd, Nat.reduceSub, Nat.reduceMul, Nat.reduceEqDiff, Nat.reduceLeDiff, Nat.reduceLT, Int.reduceLT, Int.reduceLE, Int.reduceEq, Int.reduceNe, Int.reduceToNat, Int.reduceAdd, Int.reduceSub, reduceCtorEq, Nat.reduceBEq, Nat.reduceBNe]
  refine sC_inv (a := b62_13) (fun m e σ => fdI m r e σ) 2 _ _ (.refl _ _ _) ⟨.inl ⟨rfl, rfl⟩, rfl, rfl⟩ ?_
  rintro m e σ ⟨h, e0, e1⟩
  rcases h with ⟨rfl, e5⟩ | ⟨rfl, e5, h1⟩ | ⟨rfl, e5, h1, h2⟩
  · by_cases h1 : (233 : Int) = r
    · simp only [Z62, base1, ↓reduceIte, Nat.reduceAdd, Nat.reduceSub, Nat.reduceMul, Nat.reduceEqDiff, Nat.reduceLeDiff, Nat.reduceLT, Int.reduceLT, Int.reduceLE, Int.reduceEq, Int.reduceNe, Int.reduceToNat, Int.reduceAdd, Int.reduceSub, reduceCtorEq, Nat.reduceBEq, Nat.reduceBNe, lenOf_imm, loopR_exit, loopR_ret, e0, e1, e5, h1]
      exact ⟨rfl, by unfold fdS; rw [if_pos h1]⟩
    · simp only [Z62, base1, ↓reduceIte, Nat.reduceAdd, Nat.reduceSub, Nat.reduceMul, Nat.reduceEqDiff, Nat.reduceLeDiff, Nat.reduceLT, Int.reduceLT, Int.reduceLE, Int.reduceEq, Int.reduceNe, Int.reduceToNat, Int.reduceAdd, Int.reduceSub, reduceCtorEq, Nat.reduceBEq, Nat.reduceBNe, lenOf_imm, loopR_exit, loopR_ret, e0, e1, e5, h1, w1]
      rw [loopR_normal]
      exact ⟨1, _, _, by decide, .refl _ _ _, .inr (.inl ⟨rfl, rfl, h1⟩), e0, e1⟩
  · by_cases h2 : (769 : Int) = r
    · simp only [Z62, base1, ↓reduceIte, Nat.reduceAdd, Nat.reduceSub, Nat.reduceMul, Nat.reduceEqDiff, Nat.reduceLeDiff, Nat.reduceLT, Int.reduceLT, Int.reduceLE, Int.reduceEq, Int.reduceNe, Int.reduceToNat, Int.reduceAdd, Int.reduceSub, reduceCtorEq, Nat.reduceBEq, Nat.reduceBNe, lenOf_imm, loopR_exit, loopR_ret, e0, e1, e5, h2]
      exact ⟨rfl, by unfold fdS; rw [if_neg h1, if_pos h2]⟩
    · simp only [Z62, base1, ↓reduceIte, Nat.reduceAdd, Nat.reduceSub, Nat.reduceMul, Nat.reduceEqDiff, Nat.reduceLeDiff, Nat.reduceLT, Int.reduceLT, Int.reduceLE, Int.reduceEq, Int.reduceNe, Int.reduceToNat, Int.reduceAdd, Int.reduceSub, reduceCtorEq, Nat.reduceBEq, Nat.reduceBNe, lenOf_imm, loopR_exit, loopR_ret, e0, e1, e5, h2, w2]
      rw [loopR_normal]
      exact ⟨0, _, _, by decide, .refl _ _ _, .inr (.inr ⟨rfl, rfl, h1, h2⟩), e0, e1⟩
  · simp only [Z62, base1, ↓reduceIte, Nat.reduceAdd, Nat.reduceSub, Nat.reduceMul, Nat.reduceEqDiff, Nat.reduceLeDiff, Nat.reduceLT, Int.reduceLT, Int.reduceLE, Int.reduceEq, Int.reduceNe, Int.reduceToNat, Int.reduceAdd, Int.reduceSub, reduceCtorEq, Nat.reduceBEq, Nat.reduceBNe, lenOf_imm, loopR_exit, loopR_ret, e0, e1, e5]
    exact ⟨rfl, by unfold fdS; rw [if_neg h1, if_neg h2]⟩
def findD (args : List AV) (σ : AHeap) (K : AV → AHeap → Prop) : Prop := ∃ r : Int, args = [loreV, .int .i32 r] ∧ K (.int .i64 (fdS r)) σ
theorem findD_ok (args : List AV) (σ : AHeap) (K : AV → AHeap → Prop) (h : findD args σ K) : Tri Try.prog 62 args σ K := by
  obtain ⟨r, rfl, h⟩ := h
  exact (Tri.pureD rfl (find_ok r) σ).mono fun x σ' hr => by rw [hr.1, hr.2]; exact h
theorem findD_one : OneD findD := ⟨fun args σ K K' hk ⟨r, h1, h⟩ => ⟨r, h1, hk _ _ h⟩, fun ι args σ K ⟨r, h1, i, h⟩ => ⟨i, r, h1, h⟩⟩
/-! May. -/
def myS (r : Int) : Bool := decide (0 ≤ r) && (decide (r ≤ 1114111) && (decide (r < 55296) || decide (57343 < r)))
theorem may_ok (r : Int) : Tri Try.prog 63 [.int .i32 r] [] fun x _ => x.pure = true ∧ x = .bool (myS r) := by
  refine Tri.of_s c63 (noCall_sound _) ?_
  unfold myS
  cases h1 : decide (0 ≤ r) with
  | false => simp only [Z63, base1, ↓reduceIte, Nat.reduceAdd, Nat.reduceSub, Nat.reduceMul, Nat.reduceEqDiff, Nat.reduceLeDiff, Nat.reduceLT, Int.reduceLT, Int.reduceLE, Int.reduceEq, Int.reduceNe, Int.reduceToNat, Int.reduceAdd, Int.reduceSub, reduceCtorEq, Nat.reduceBEq, Nat.reduceBNe, h1]; first | exact rfl | exact ⟨rfl, rfl⟩
  | true =>
    cases h2 : decide (r ≤ 1114111) with
    | false => simp only [Z63, base1, ↓reduceIte, Nat.reduceAdd, Nat.reduceSub, Nat.reduceMul, Nat.reduceEqDiff, Nat.reduceLeDiff, Nat.reduceLT, Int.reduceLT, Int.reduceLE, Int.reduceEq, Int.reduceNe, Int.reduceToNat, Int.reduceAdd, Int.reduceSub, reduceCtorEq, Nat.reduceBEq, Nat.reduceBNe, h1, h2]; first | exact rfl | exact ⟨rfl, rfl⟩
    | true =>
      cases h3 : decide (r < 55296) with
      | true => simp only [Z63, base1, ↓reduceIte, Nat.reduceAdd, Nat.reduceSub, Nat.reduceMul, Nat.reduceEqDiff, Nat.reduceLeDiff, Nat.reduceLT, Int.reduceLT, Int.reduceLE, Int.reduceEq, Int.reduceNe, Int.reduceToNat, Int.reduceAdd, Int.reduceSub, reduceCtorEq, Nat.reduceBEq, Nat.reduceBNe, h1, h2, h3]; first | exact rfl | exact ⟨rfl, rfl⟩
      | false => simp only [Z63, base1, ↓reduceIte, Nat.reduceAdd, Nat.reduceSub, Nat.reduceMul, Nat.reduceEqDiff, Nat.reduceLeDiff, Nat.reduceLT, Int.reduceLT, Int.reduceLE, Int.reduceEq, Int.reduceNe, Int.reduceToNat, Int.reduceAdd, Int.reduceSub, reduceCtorEq, Nat.reduceBEq, Nat.reduceBNe, h1, h2, h3]; first | exact rfl | exact ⟨rfl, rfl⟩
def myD (args : List AV) (σ : AHeap) (K : AV → AHeap → Prop) : Prop := ∃ r : Int, args = [.int .i32 r] ∧ K (.bool (myS r)) σ
theorem myD_ok (args : List AV) (σ : AHeap) (K : AV → AHeap → Prop) (h : myD args σ K) : Tri Try.prog 63 args σ K := by
  obtain ⟨r, rfl, h⟩ := h
  exact (Tri.pureD rfl (may_ok r) σ).mono fun x σ' hr => by rw [hr.1, hr.2]; exact h
theorem myD_one : OneD myD := ⟨fun args σ K K' hk ⟨r, h1, h⟩ => ⟨r, h1, hk _ _ h⟩, fun ι args σ K ⟨r, h1, i, h⟩ => ⟨i, r, h1, h⟩⟩
/-! Class. -/
def clS (r : Int) : Int := if fdS r = 1 then 230 else 0
def U68 : PCall := rowQ 62 findD noCall
theorem U68_app {f : FuncId} {args : List AV} {σ : AHeap} {K : AV → AHeap → Prop} : U68 f args σ K = rowQ 62 findD noCall f args σ K := _root_.id rfl
theorem U68_sound : Sound Try.prog U68 := rowQ_sound findD_ok (noCall_sound _)
theorem fd_cases (r : Int) : fdS r = 0 ∨ fdS r = 1 ∨ fdS r = -1 := by
  unfold fdS
  split
  · exact .inl rfl
  · split
    · exact .inr (.inl rfl)
    · exact .inr (.inr rfl)
theorem class_ok (r : Int) : Tri Try.prog 68 [loreV, .int .i32 r] [] fun x _ => x.pure = true ∧ x = .int .i64 (clS r) := by
  refine Tri.of_s c68 U68_sound ?_
  simp only [U68_app, Z68, base1, ↓reduceIte, Nat.reduceAdd, Nat.reduceSub, Nat.reduceMul, Nat.reduceEqDiff, Nat.reduceLeDiff, Nat.reduceLT, Int.reduceLT, Int.reduceLE, Int.reduceEq, Int.reduceNe, Int.reduceToNat, Int.reduceAdd, Int.reduceSub, reduceCtorEq, Nat.reduceBEq, Nat.reduceBNe]
  refine ⟨r, rfl, ?_⟩
  unfold clS
  rcases fd_cases r with h | h | h <;> rw [h] <;> simp only [U68_app, Z68, base1, ↓reduceIte, Nat.reduceAdd, Nat.reduceSub, Nat.reduceMul, Nat.reduceEqDiff, Nat.reduceLeDiff, Nat.reduceLT, Int.reduceLT, Int.reduceLE, Int.reduceEq, Int.reduceNe, Int.reduceToNat, Int.reduceAdd, Int.reduceSub, reduceCtorEq, Nat.reduceBEq, Nat.reduceBNe] <;> first | exact rfl | exact ⟨rfl, rfl⟩
def classD (args : List AV) (σ : AHeap) (K : AV → AHeap → Prop) : Prop := ∃ r : Int, args = [loreV, .int .i32 r] ∧ K (.int .i64 (clS r)) σ
theorem classD_ok (args : List AV) (σ : AHeap) (K : AV → AHeap → Prop) (h : classD args σ K) : Tri Try.prog 68 args σ K := by
  obtain ⟨r, rfl, h⟩ := h
  exact (Tri.pureD rfl (class_ok r) σ).mono fun x σ' hr => by rw [hr.1, hr.2]; exact h
theorem classD_one : OneD classD := ⟨fun args σ K K' hk ⟨r, h1, h⟩ => ⟨r, h1, hk _ _ h⟩, fun ι args σ K ⟨r, h1, i, h⟩ => ⟨i, r, h1, h⟩⟩
/-! Rows of runes compared. -/
def CmpQ (v : Int) (x : AV) (_ : AHeap) : Prop := x.pure = true ∧ x = .int .i64 v
def cpI (a b : List Int) (m : Nat) (e : Env) (σ : AHeap) : Prop := ∃ i : Nat, i ≤ a.length ∧ i ≤ b.length ∧ m = a.length - i ∧ e 0 = .imm (rnC a) false false ∧ e 1 = .imm (rnC b) false false ∧ e 5 = .int .i64 (i : Int)
theorem cmp_some (a b : List Int) (ha : a.length ≤ 1000000) (hb : b.length ≤ 1000000) : sF noCall s61 [.imm (rnC a) false false, .imm (rnC b) false false] [] fun x σ => ∃ v, CmpQ v x σ := by
  have la : (rnC a).length = a.length := by simp
  have lb : (rnC b).length = b.length := by simp
  simp only [Z61, base1, ↓reduceIte, Nat.reduceAdd, Nat.reduceSub, Nat.reduceMul, Nat.reduceEqDiff, Nat.reduceLeDiff, Nat.reduceLT, Int.reduceLT, Int.reduceLE, Int.reduceEq, Int.reduceNe, Int.reduceToNat, Int.reduceAdd, Int.reduceSub, reduceCtorEq, Nat.reduceBEq, Nat.reduceBNe]
  refine sC_inv (a := b61_19) (cpI a b) a.length _ _ (.refl _ _ _) ⟨0, Nat.zero_le _, Nat.zero_le _, rfl, rfl, rfl, rfl⟩ ?_
  rintro m e σ ⟨i, hi, hj, hm, e0, e1, e5⟩
  have hge0 : (0 : Int) ≤ (i : Int) := by omega
  have hwr : IntKind.wrap .i64 ((i : Int) + 1) = ((i + 1 : Nat) : Int) := by rw [Gz.wrap64 (by omega)]; omega
  by_cases h1 : (i : Int) < (a.length : Int)
  · by_cases h2 : (i : Int) < (b.length : Int)
    · have k1 : i < a.length := by omega
      have k2 : i < b.length := by omega
      obtain ⟨x, hx⟩ : ∃ x, a[i]? = some x := ⟨_, List.getElem?_eq_getElem k1⟩
      obtain ⟨y, hy⟩ : ∃ y, b[i]? = some y := ⟨_, List.getElem?_eq_getElem k2⟩
      have hxx : (rnC a)[i]? = some [.int .i32 x] := by rw [rnC, List.getElem?_map, hx]; rfl
      have hyy : (rnC b)[i]? = some [.int .i32 y] := by rw [rnC, List.getElem?_map, hy]; rfl
      by_cases h3 : x = y
      · simp only [Z61, base1, ↓reduceIte, Nat.reduceAdd, Nat.reduceSub, Nat.reduceMul, Nat.reduceEqDiff, Nat.reduceLeDiff, Nat.reduceLT, Int.reduceLT, Int.reduceLE, Int.reduceEq, Int.reduceNe, Int.reduceToNat, Int.reduceAdd, Int.reduceSub, reduceCtorEq, Nat.reduceBEq, Nat.reduceBNe, lenOf_imm, loopR_exit, loopR_ret, e0, e1, e5, la, lb, h1, h2, hge0, k1, k2, Int.toNat_natCast, hxx, hyy, h3, hwr, ne_eq]
        rw [loopR_normal]
        exact ⟨a.length - (i + 1), _, _, by omega, .refl _ _ _, i + 1, by omega, by omega, rfl, e0, e1, rfl⟩
      · by_cases h4 : x < y <;> simp only [Z61, base1, ↓reduceIte, Nat.reduceAdd, Nat.reduceSub, Nat.reduceMul, Nat.reduceEqDiff, Nat.reduceLeDiff, Nat.reduceLT, Int.reduceLT, Int.reduceLE, Int.reduceEq, Int.reduceNe, Int.reduceToNat, Int.reduceAdd, Int.reduceSub, reduceCtorEq, Nat.reduceBEq, Nat.reduceBNe, lenOf_imm, loopR_exit, loopR_ret, e0, e1, e5, la, lb, h1, h2, hge0, k1, k2, Int.toNat_natCast, hxx, hyy, h3, h4, ne_eq] <;> exact ⟨_, rfl, rfl⟩
    · simp only [Z61, base1, ↓reduceIte, Nat.reduceAdd, Nat.reduceSub, Nat.reduceMul, Nat.reduceEqDiff, Nat.reduceLeDiff, Nat.reduceLT, Int.reduceLT, Int.reduceLE, Int.reduceEq, Int.reduceNe, Int.reduceToNat, Int.reduceAdd, Int.reduceSub, reduceCtorEq, Nat.reduceBEq, Nat.reduceBNe, lenOf_imm, loopR_exit, loopR_ret, e0, e1, e5, la, lb, h1, h2]
      exact ⟨_, rfl, rfl⟩
  · simp only [Z61, base1, ↓reduceIte, Nat.reduceAdd, Nat.reduceSub, Nat.reduceMul, Nat.reduceEqDiff, Nat.reduceLeDiff, Nat.reduceLT, Int.reduceLT, Int.reduceLE, Int.reduceEq, Int.reduceNe, Int.reduceToNat, Int.reduceAdd, Int.reduceSub, reduceCtorEq, Nat.reduceBEq, Nat.reduceBNe, lenOf_imm, loopR_exit, loopR_ret, e0, e1, e5, la, lb, h1]
    exact ⟨_, rfl, rfl⟩
theorem cmp_ex (a b : List Int) : ∃ v : Int, a.length ≤ 1000000 → b.length ≤ 1000000 → Tri Try.prog 61 [.imm (rnC a) false false, .imm (rnC b) false false] [] (CmpQ v) := by
  by_cases h : a.length ≤ 1000000 ∧ b.length ≤ 1000000
  · obtain ⟨v, hv⟩ := Tri.one c61 (noCall_sound _) one_none (by kernel_rfl) (cmp_some a b h.1 h.2)
    exact ⟨v, fun _ _ => hv⟩
  · exact ⟨0, fun h1 h2 => absurd ⟨h1, h2⟩ h⟩
noncomputable def cmpS (a b : List Int) : Int := Classical.choose (cmp_ex a b)
theorem cmp_ok (a b : List Int) (ha : a.length ≤ 1000000) (hb : b.length ≤ 1000000) : Tri Try.prog 61 [.imm (rnC a) false false, .imm (rnC b) false false] [] (CmpQ (cmpS a b)) := Classical.choose_spec (cmp_ex a b) ha hb
def cmpD (args : List AV) (σ : AHeap) (K : AV → AHeap → Prop) : Prop := ∃ a b : List Int, args = [.imm (rnC a) false false, .imm (rnC b) false false] ∧ a.length ≤ 1000000 ∧ b.length ≤ 1000000 ∧ K (.int .i64 (cmpS a b)) σ
theorem cmpD_ok (args : List AV) (σ : AHeap) (K : AV → AHeap → Prop) (h : cmpD args σ K) : Tri Try.prog 61 args σ K := by
  obtain ⟨a, b, rfl, ha, hb, h⟩ := h
  exact (Tri.pureD (by simp only [pureL, AV.pure, rn_pure, Bool.and_self]) (cmp_ok a b ha hb) σ).mono fun x σ' hr => by rw [hr.1, hr.2]; exact h
theorem cmpD_one : OneD cmpD := ⟨fun args σ K K' hk ⟨a, b, h1, h2, h3, h⟩ => ⟨a, b, h1, h2, h3, hk _ _ h⟩, fun ι args σ K ⟨a, b, h1, h2, h3, i, h⟩ => ⟨i, a, b, h1, h2, h3, h⟩⟩
/-! The row of some runes. -/
def U64 : PCall := rowQ 61 cmpD noCall
theorem U64_app {f : FuncId} {args : List AV} {σ : AHeap} {K : AV → AHeap → Prop} : U64 f args σ K = rowQ 61 cmpD noCall f args σ K := _root_.id rfl
theorem U64_sound : Sound Try.prog U64 := rowQ_sound cmpD_ok (noCall_sound _)
theorem U64_one : OneC U64 := one_row cmpD_one one_none
abbrev RowI := {v : Int // -1 ≤ v ∧ v < 5}
def RowQ (v : RowI) (x : AV) (_ : AHeap) : Prop := x.pure = true ∧ x = .int .i64 v.1
def rwI (s : List Int) (m : Nat) (e : Env) (σ : AHeap) : Prop := ∃ i : Nat, i ≤ 5 ∧ m = 5 - i ∧ hget σ 0 = some tabC ∧ e 2 = .ptr 0 0 ∧ e 1 = .imm (rnC s) false false ∧ e 5 = .int .i64 (i : Int)
abbrev ofs : List Int := [97, 98, 99, 101, 769]
theorem rows_at {i : Nat} (h : i < 5) : ∃ (r p s t : Int), rowsR[i]? = some (rowR r p s t) := by
  match i, h with
  | 0, _ => exact ⟨_, _, _, _, rfl⟩
  | 1, _ => exact ⟨_, _, _, _, rfl⟩
  | 2, _ => exact ⟨_, _, _, _, rfl⟩
  | 3, _ => exact ⟨_, _, _, _, rfl⟩
  | 4, _ => exact ⟨_, _, _, _, rfl⟩
theorem row_some (s : List Int) (hs : s.length ≤ 1000000) : sF U64 s64 [.agg tabC, .imm (rnC s) false false] [] fun x σ => ∃ v, RowQ v x σ := by
  have l5 : rowsR.length = 5 := rfl
  simp only [U64_app, Z64, base1, ↓reduceIte, Nat.reduceAdd, Nat.reduceSub, Nat.reduceMul, Nat.reduceEqDiff, Nat.reduceLeDiff, Nat.reduceLT, Int.reduceLT, Int.reduceLE, Int.reduceEq, Int.reduceNe, Int.reduceToNat, Int.reduceAdd, Int.reduceSub, reduceCtorEq, Nat.reduceBEq, Nat.reduceBNe]
  refine sC_inv (a := b64_13) (rwI s) 5 _ _ (.refl _ _ _) ⟨0, by decide, rfl, rfl, rfl, rfl, rfl⟩ ?_
  rintro m e σ ⟨i, hi, hm, g0, e2, e1, e5⟩
  have hge0 : (0 : Int) ≤ (i : Int) := by omega
  have hwr : IntKind.wrap .i64 ((i : Int) + 1) = ((i + 1 : Nat) : Int) := by rw [Gz.wrap64 (by omega)]; omega
  have t1 : tabC[1]? = some (.imm rowsR false false) := rfl
  by_cases h1 : (i : Int) < 5
  · have k1 : i < 5 := by omega
    obtain ⟨r, p, q, t, hr⟩ := rows_at k1
    have hc0 : (rowR r p q t)[0]? = some (.imm (rnC [r]) false false) := rfl
    have hrl : (rowR r p q t).length = 2 := rfl
    simp only [U64_app, Z64, base1, ↓reduceIte, Nat.reduceAdd, Nat.reduceSub, Nat.reduceMul, Nat.reduceEqDiff, Nat.reduceLeDiff, Nat.reduceLT, Int.reduceLT, Int.reduceLE, Int.reduceEq, Int.reduceNe, Int.reduceToNat, Int.reduceAdd, Int.reduceSub, reduceCtorEq, Nat.reduceBEq, Nat.reduceBNe, lenOf_imm, loopR_exit, loopR_ret, e1, e2, e5, g0, l5, h1, k1, hge0, Int.toNat_natCast, hr]
    refine ⟨[r], s, rfl, by simp, hs, ?_⟩
    by_cases h2 : cmpS [r] s = 0
    · simp only [U64_app, Z64, base1, ↓reduceIte, Nat.reduceAdd, Nat.reduceSub, Nat.reduceMul, Nat.reduceEqDiff, Nat.reduceLeDiff, Nat.reduceLT, Int.reduceLT, Int.reduceLE, Int.reduceEq, Int.reduceNe, Int.reduceToNat, Int.reduceAdd, Int.reduceSub, reduceCtorEq, Nat.reduceBEq, Nat.reduceBNe, lenOf_imm, loopR_exit, loopR_ret, e1, e2, e5, h2]
      exact ⟨⟨(i : Int), by omega, by omega⟩, rfl, rfl⟩
    · simp only [U64_app, Z64, base1, ↓reduceIte, Nat.reduceAdd, Nat.reduceSub, Nat.reduceMul, Nat.reduceEqDiff, Nat.reduceLeDiff, Nat.reduceLT, Int.reduceLT, Int.reduceLE, Int.reduceEq, Int.reduceNe, Int.reduceToNat, Int.reduceAdd, Int.reduceSub, reduceCtorEq, Nat.reduceBEq, Nat.reduceBNe, lenOf_imm, loopR_exit, loopR_ret, e1, e2, e5, h2, hwr]
      rw [loopR_normal]
      exact ⟨5 - (i + 1), _, _, by omega, .refl _ _ _, i + 1, by omega, rfl, g0, e2, e1, rfl⟩
  · simp only [U64_app, Z64, base1, ↓reduceIte, Nat.reduceAdd, Nat.reduceSub, Nat.reduceMul, Nat.reduceEqDiff, Nat.reduceLeDiff, Nat.reduceLT, Int.reduceLT, Int.reduceLE, Int.reduceEq, Int.reduceNe, Int.reduceToNat, Int.reduceAdd, Int.reduceSub, reduceCtorEq, Nat.reduceBEq, Nat.reduceBNe, lenOf_imm, loopR_exit, loopR_ret, e1, e2, e5, g0, l5, h1]
    exact ⟨⟨-1, by decide, by decide⟩, rfl, rfl⟩
theorem row_ex (s : List Int) : ∃ v : RowI, s.length ≤ 1000000 → Tri Try.prog 64 [.agg tabC, .imm (rnC s) false false] [] (RowQ v) := by
  by_cases h : s.length ≤ 1000000
  · obtain ⟨v, hv⟩ := Tri.one c64 U64_sound U64_one (by kernel_rfl) (row_some s h)
    exact ⟨v, fun _ => hv⟩
  · exact ⟨⟨0, by decide, by decide⟩, fun h1 => absurd h1 h⟩
noncomputable def rowS (s : List Int) : RowI := Classical.choose (row_ex s)
theorem row_ok (s : List Int) (hs : s.length ≤ 1000000) : Tri Try.prog 64 [.agg tabC, .imm (rnC s) false false] [] (RowQ (rowS s)) := Classical.choose_spec (row_ex s) hs
end Go.Proofs.Ytmjnmnhpmbbmgaa.tour

/- Some of a row of runes; which row they are; what a text is read as. No condition. -/
set_option linter.unusedVariables false
set_option linter.unusedSimpArgs false
namespace Go.Proofs.Ytmjnmnhpmbbmgaa.tour
open Go.ChangeShapes Go.WideShapes Go.ChangeAt Go.RowKit Go.Gz Go.Gz.H
abbrev r66_0 : List MOper := [⟨(some 4), .move (.c (.nilslice)), none⟩]
def b66_0 : SCode := .region r66_0
abbrev r66_1 : List MOper := [⟨(some 5), .move (.c (.nilslice)), none⟩]
def b66_1 : SCode := .region r66_1
abbrev r66_2 : List MOper := [⟨(some 6), .move (.c (.int .i64 0)), none⟩]
def b66_2 : SCode := .region r66_2
abbrev r66_3 : List MOper := [⟨(some 7), .move (.t 6), none⟩,
  ⟨(some 8), .move (.t 1), none⟩,
  ⟨(some 9), .lenSl (.t 8), none⟩,
  ⟨(some 10), .bin .lss .num (.t 7) (.t 9), none⟩]
def b66_3 : SCode := .region r66_3
def b66_4 : SCode := .cond (.t 10) .skip (.exit 0)
def b66_5 : SCode := .seq b66_3 b66_4
abbrev r66_6 : List MOper := [⟨(some 13), .move (.t 5), none⟩,
  ⟨(some 14), .move (.t 0), none⟩,
  ⟨(some 15), .move (.t 1), none⟩,
  ⟨(some 16), .move (.t 6), none⟩,
  ⟨(some 17), .indexAddr 1 (.t 15) (.t 16), none⟩,
  ⟨(some 18), .load1 (.t 17), none⟩,
  ⟨(some 19), .indexAddr 1 (.t 14) (.t 18), none⟩,
  ⟨(some 20), .load1 (.t 19), none⟩,
  ⟨(some 21), .buildSlice [.int .i32 0] 1 1 [(0, 1, (.t 20))], none⟩,
  ⟨(some 22), .append 1 4 (.t 13) (.t 21), none⟩,
  ⟨(some 5), .move (.t 22), none⟩]
def b66_6 : SCode := .region r66_6
def b66_7 : SCode := .block 1 b66_6
abbrev r66_8 : List MOper := [⟨(some 11), .move (.t 6), none⟩,
  ⟨(some 12), .bin .add .num (.t 11) (.c (.int .i64 1)), none⟩,
  ⟨(some 6), .move (.t 12), none⟩]
def b66_8 : SCode := .region r66_8
def b66_9 : SCode := .seq b66_7 b66_8
def b66_10 : SCode := .seq b66_5 b66_9
def b66_11 : SCode := .loop b66_10
def b66_12 : SCode := .block 0 b66_11
def b66_13 : SCode := .seq b66_2 b66_12
abbrev r66_14 : List MOper := [⟨(some 23), .move (.t 5), none⟩,
  ⟨(some 4), .move (.t 23), none⟩]
def b66_14 : SCode := .region r66_14
def b66_15 : SCode := .seq b66_14 .ret
def b66_16 : SCode := .seq b66_13 b66_15
def b66_17 : SCode := .seq b66_1 b66_16
def b66_18 : SCode := .seq b66_0 b66_17
def s66 : SFunc := ⟨24, [.t 4], b66_18⟩
theorem c66 : sFn Try.prog 66 = some s66 := by kernel_rfl
theorem Z66 : XR b66_0 r66_0 ∧ XR b66_1 r66_1 ∧ XR b66_2 r66_2 ∧ XR b66_3 r66_3 ∧ XC b66_4 (.t 10) .skip (.exit 0) ∧ XS b66_5 b66_3 b66_4 ∧ XR b66_6 r66_6 ∧ XB b66_7 1 b66_6 ∧ XR b66_8 r66_8 ∧ XS b66_9 b66_7 b66_8 ∧ XS b66_10 b66_5 b66_9 ∧ XB b66_12 0 b66_11 ∧ XS b66_13 b66_2 b66_12 ∧ XR b66_14 r66_14 ∧ XS b66_15 b66_14 .ret ∧ XS b66_16 b66_13 b66_15 ∧ XS b66_17 b66_1 b66_16 ∧ XS b66_18 b66_0 b66_17 ∧ XY s66 24 b66_18 [.t 4] := ⟨rfl, rfl, rfl, rfl, sC_cond, rfl, rfl, rfl, rfl, rfl, rfl, rfl, rfl, rfl, rfl, rfl, rfl, rfl, rfl⟩

set_option maxHeartbeats 4000000
set_option maxRecDepth 10000
theorem rn_len1 (l : List Int) : ∀ r ∈ rnC l, r.length = 1 := fun r hr => by
  obtain ⟨b, _, rfl⟩ := List.mem_map.1 hr
  rfl
theorem rn_flat (l : List Int) : (rnC l).flatten = l.map fun n => AV.int .i32 n := by
  induction l with
  | nil => rfl
  | cons x l ih => simp only [rnC, List.map_cons, List.flatten_cons] at ih ⊢; rw [ih]; rfl
theorem in_flat (l : List Int) : (inC l).flatten = l.map fun n => AV.int .i64 n := by
  induction l with
  | nil => rfl
  | cons x l ih => simp only [inC, List.map_cons, List.flatten_cons] at ih ⊢; rw [ih]; rfl
theorem rn_cell (l : List Int) : ((rnC l).flatten.all fun x => x.isCell) = true := by
  rw [rn_flat, List.all_eq_true]
  intro x hx
  obtain ⟨b, _, rfl⟩ := List.mem_map.1 hx
  rfl
theorem rn_flatL (l : List Int) : flatL (rnC l).flatten := by
  rw [rn_flat]
  intro x hx
  obtain ⟨b, _, rfl⟩ := List.mem_map.1 hx
  rfl
theorem rn_flatLL (l : List Int) : flatLL (rnC l) := fun r hr x hx => by
  obtain ⟨b, _, rfl⟩ := List.mem_map.1 hr
  simp at hx; subst hx; rfl
theorem in_flatLL (l : List Int) : flatLL (inC l) := fun r hr x hx => by
  obtain ⟨b, _, rfl⟩ := List.mem_map.1 hr
  simp at hx; subst hx; rfl
/-! Some of them. -/
def pick (l : List Int) (at_ : List Nat) : List Int := at_.map fun a => l[a]?.getD 0
abbrev atC (at_ : List Nat) : List (List AV) := at_.map fun (a : Nat) => [AV.int .i64 (a : Int)]
theorem at_flatLL (l : List Nat) : flatLL (atC l) := fun r hr x hx => by
  obtain ⟨b, _, rfl⟩ := List.mem_map.1 hr
  simp at hx; subst hx; rfl
theorem at_len1 (l : List Nat) : ∀ r ∈ atC l, r.length = 1 := fun r hr => by
  obtain ⟨b, _, rfl⟩ := List.mem_map.1 hr
  rfl
def tkI (l : List Int) (at_ : List Nat) (m : Nat) (e : Env) (σ : AHeap) : Prop := ∃ (i : Nat) (Lv : AV), i ≤ at_.length ∧ m = at_.length - i ∧ Grow σ Lv 1 (rnC (pick l (at_.take i))) ∧ e 0 = .imm (rnC l) false false ∧ e 1 = .imm (atC at_) false false ∧ e 5 = Lv ∧ e 6 = .int .i64 (i : Int)
theorem take_ok (l : List Int) (at_ : List Nat) (ha : ∀ a ∈ at_, a < l.length) (hl : l.length ≤ 1000000) (hn : at_.length ≤ 1000000) (hne : at_ ≠ []) :
    Tri Try.prog 66 [.imm (rnC l) false false, .imm (atC at_) false false] [] fun r τ => r = .slice 0 0 at_.length none 1 ∧ τ = [some (rnC (pick l at_)).flatten] := by
  have key : Tri Try.prog 66 [.imm (rnC l) false false, .imm (atC at_) false false] [] fun r τ => Grow τ r 1 (rnC (pick l at_)) := by
    have ll : (rnC l).length = l.length := by simp
    have la : (atC at_).length = at_.length := by simp
    refine Tri.of_s c66 (noCall_sound _) ?_
    simp only [Z66, base1, ↓reduceIte, Nat.reduceAdd, Nat.reduceSub, Nat.reduceMul, Nat.reduceEqDiff, Nat.reduceLeDiff, Nat.reduceLT, Int.reduceLT, Int.reduceLE, Int.reduceEq, Int.reduceNe, Int.reduceToNat, Int.reduceAdd, Int.reduceSub, reduceCtorEq, Nat.reduceBEq, Nat.reduceBNe]
    refine sC_inv (a := b66_10) (tkI l at_) at_.length _ _ (.refl _ _ _) ⟨0, .nilslice, Nat.zero_le _, rfl, .inl ⟨rfl, rfl⟩, rfl, rfl, rfl, rfl⟩ ?_
    rintro m e σ ⟨i, Lv, hi, hm, hg, e0, e1, e5, e6⟩
    rcases Nat.lt_or_ge i at_.length with hlt | hge
    · have hlt' : (i : Int) < (at_.length : Int) := by omega
      have hge0 : (0 : Int) ≤ (i : Int) := by omega
      have hwr : IntKind.wrap .i64 ((i : Int) + 1) = ((i + 1 : Nat) : Int) := by rw [Gz.wrap64 (by omega)]; omega
      obtain ⟨a, hx⟩ : ∃ a, at_[i]? = some a := ⟨_, List.getElem?_eq_getElem hlt⟩
      have hal := ha a (List.mem_of_getElem? hx)
      have hal' : (a : Int) < (l.length : Int) := by omega
      have ha0 : (0 : Int) ≤ (a : Int) := by omega
      obtain ⟨n, hn'⟩ : ∃ n, l[a]? = some n := ⟨_, List.getElem?_eq_getElem hal⟩
      have hxx : (atC at_)[i]? = some [.int .i64 (a : Int)] := by rw [atC, List.getElem?_map, hx]; rfl
      have hnn : (rnC l)[a]? = some [.int .i32 n] := by rw [rnC, List.getElem?_map, hn']; rfl
      have htk : pick l (at_.take (i + 1)) = pick l (at_.take i) ++ [n] := by
        rw [List.take_add_one, hx, pick, List.map_append]
        show _ ++ [l[a]?.getD 0] = _
        rw [hn']; rfl
      obtain ⟨v, τ, a1, a2, a3, a4, a5⟩ := grow_one (b := 4) (by decide) hg (by simp [pick]; omega) [.int .i32 n] rfl rfl
      simp only [Z66, base1, ↓reduceIte, Nat.reduceAdd, Nat.reduceSub, Nat.reduceMul, Nat.reduceEqDiff, Nat.reduceLeDiff, Nat.reduceLT, Int.reduceLT, Int.reduceLE, Int.reduceEq, Int.reduceNe, Int.reduceToNat, Int.reduceAdd, Int.reduceSub, reduceCtorEq, Nat.reduceBEq, Nat.reduceBNe, lenOf_imm, loopR_exit, loopR_ret, e0, e1, e5, e6, la, ll, hlt, hlt', hge0, hal, hal', ha0, Int.toNat_natCast, hxx, hnn, a1, a2, a3, hwr]
      rw [loopR_normal]
      exact ⟨at_.length - (i + 1), _, _, by omega, .refl _ _ _, i + 1, v, hlt, rfl, by rw [htk, rnC, List.map_append]; exact a5, e0, e1, rfl, rfl⟩
    · have hlt' : ¬ (i : Int) < (at_.length : Int) := by omega
      have hie : i = at_.length := by omega
      subst hie
      rw [List.take_length] at hg
      simp only [Z66, base1, ↓reduceIte, Nat.reduceAdd, Nat.reduceSub, Nat.reduceMul, Nat.reduceEqDiff, Nat.reduceLeDiff, Nat.reduceLT, Int.reduceLT, Int.reduceLE, Int.reduceEq, Int.reduceNe, Int.reduceToNat, Int.reduceAdd, Int.reduceSub, reduceCtorEq, Nat.reduceBEq, Nat.reduceBNe, lenOf_imm, loopR_exit, loopR_ret, e0, e1, e5, e6, la, hlt']
      exact hg
  refine Tri.less key fun r σ' h => ?_
  rcases h with ⟨_, h0⟩ | ⟨d, rfl, hd, h1, hc⟩
  · cases at_ with
    | nil => exact absurd rfl hne
    | cons => cases h0
  · have hlt := hget_lt hd
    have hpl : (rnC (pick l at_)).length = at_.length := by simp [pick]
    rw [hpl]
    refine ⟨[some d], .slice 0 0 at_.length none 1, [some (rnC (pick l at_)).flatten], ?_, ?_, ?_, rfl, rfl⟩
    · have : Nat.blt d σ'.length = true := by rw [Nat.blt_eq]; exact hlt
      simp [keepB, this]
    · unfold blksP blkP blksP
      exact ⟨⟨_, hd, wvs_flat (rn_flatL _)⟩, trivial⟩
    · unfold wv; simp
/-- A row of places, as a value. -/
def ShowAt (σ : AHeap) (x : AV) (at_ : List Nat) : Prop := x = .imm (atC at_) false false ∨ ∃ (d off : Nat) (cap : Option Nat) (cells : List AV), x = .slice d off at_.length cap 1 ∧ hget σ d = some cells ∧ sub cells off at_.length = some (atC at_).flatten
def takeD (args : List AV) (σ : AHeap) (K : AV → AHeap → Prop) : Prop := ∃ (l : List Int) (x : AV) (at_ : List Nat), args = [.imm (rnC l) false false, x] ∧ ShowAt σ x at_ ∧ (∀ a ∈ at_, a < l.length) ∧ l.length ≤ 1000000 ∧ at_.length ≤ 1000000 ∧ at_ ≠ [] ∧ K (.slice σ.length 0 at_.length none 1) (hpush σ (rnC (pick l at_)).flatten)
theorem takeD_ok (args : List AV) (σ : AHeap) (K : AV → AHeap → Prop) (h : takeD args σ K) : Tri Try.prog 66 args σ K := by
  obtain ⟨l, x, at_, rfl, hx, h1, h2, h3, h4, h⟩ := h
  refine (Tri.behind1 (args1 := [.imm (rnC l) false false, .imm (atC at_) false false]) ?_ ((take_ok l at_ h1 h2 h3 h4).mono fun r τ hr => ⟨hr, ?_, ?_⟩)).mono ?_
  · unfold wvs wvs wvs
    refine ⟨?_, ?_, trivial⟩
    · unfold wv; exact ⟨rfl, rfl, rfl, rn_flatLL l⟩
    · rcases hx with rfl | ⟨d, off, cap, cells, rfl, hd, hs⟩
      · unfold wv; exact ⟨rfl, rfl, rfl, at_flatLL at_⟩
      · unfold wv
        exact ⟨by simp, ⟨cells, hd, by rw [Nat.mul_one]; exact hs⟩, by simp, at_len1 at_, by simp, by simp, at_flatLL at_⟩
  · rw [hr.1]; trivial
  · intro id c hc
    rw [hr.2] at hc
    match id with
    | 0 => simp at hc; subst hc; exact rn_flatL _
    | n + 1 => simp at hc
  · rintro r σ' ⟨r0, τ, ⟨rfl, rfl⟩, rfl, rfl⟩
    have : shV σ.length (.slice 0 0 at_.length none 1) = .slice σ.length 0 at_.length none 1 := by simp [shV, shC]
    rw [this]; exact h
theorem takeD_one : OneD takeD := ⟨fun args σ K K' hk ⟨l, x, a, h1, h2, h3, h4, h5, h6, h⟩ => ⟨l, x, a, h1, h2, h3, h4, h5, h6, hk _ _ h⟩, fun ι args σ K ⟨l, x, a, h1, h2, h3, h4, h5, h6, i, h⟩ => ⟨i, l, x, a, h1, h2, h3, h4, h5, h6, h⟩⟩
/-! The row of some runes, also of a slice that is handed over. -/
theorem tab_pure : pureL tabC = true := by kernel_rfl
def rowD (args : List AV) (σ : AHeap) (K : AV → AHeap → Prop) : Prop := ∃ (d : Nat) (s : List Int), args = [.agg tabC, .slice d 0 s.length none 1] ∧ hget σ d = some (rnC s).flatten ∧ s.length ≤ 1000000 ∧ K (.int .i64 (rowS s).1) (hkill σ d)
theorem rowD_ok (args : List AV) (σ : AHeap) (K : AV → AHeap → Prop) (h : rowD args σ K) : Tri Try.prog 64 args σ K := by
  obtain ⟨d, s, rfl, hd, hs, h⟩ := h
  refine (Tri.give d (args := [.agg tabC, .slice d 0 s.length none 1]) (args1 := [.agg tabC, .imm (rnC s) false false]) rfl (fun i x y hx hy => ?_) (row_ok s hs)).mono fun r σ' hr => by rw [hr.1, hr.2]; exact h
  match i with
  | 0 => simp at hx hy; subst hx; subst hy; exact .inl ⟨rfl, by simpa [AV.pure] using tab_pure⟩
  | 1 =>
    simp at hx hy; subst hx; subst hy
    exact .inr (.inr ⟨0, s.length, none, 1, _, rnC s, rfl, rfl, hd, by rw [Nat.mul_one]; exact sub_all (by rw [rn_flat]; simp), by simp, rn_len1 s, rn_pure s⟩)
  | n + 2 => simp at hx
theorem rowD_one : OneD rowD := ⟨fun args σ K K' hk ⟨d, s, h1, h2, h3, h⟩ => ⟨d, s, h1, h2, h3, hk _ _ h⟩, fun ι args σ K ⟨d, s, h1, h2, h3, i, h⟩ => ⟨i, d, s, h1, h2, h3, h⟩⟩
end Go.Proofs.Ytmjnmnhpmbbmgaa.tour
