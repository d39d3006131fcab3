/- Which notes may be: what May answers, as a truth that is counted from the note. No condition. -/
import Derived.Test.YtndlgmciplckjaaNMay3
set_option linter.unusedVariables false
set_option linter.unusedSimpArgs false
namespace Go.Proofs.Ytndlgmciplckjaa.note
open Go.ChangeShapes Go.WideShapes Go.ChangeAt Go.RowKit Go.Gz
section
variable {C : PCall} {n0 : Nat} {R : MExit → Env → AHeap → Prop} {k : Cont} {e : Env} {σ : AHeap}
abbrev r13_0 : List MOper := [⟨(some 1), .box (.t 0), none⟩,
  ⟨(some 2), .move (.c (.bool false)), none⟩]
def b13_0 : SCode := .region r13_0
abbrev r13_1 : List MOper := [⟨(some 3), .fieldAddr 0 (.t 1), none⟩,
  ⟨(some 4), .load1 (.t 3), none⟩,
  ⟨(some 5), .bin .lss .num (.t 4) (.c (.int .i64 1)), none⟩,
  ⟨(some 6), .move (.t 5), none⟩,
  ⟨(some 7), .fieldAddr 0 (.t 1), (some (6, false))⟩,
  ⟨(some 8), .load1 (.t 7), (some (6, false))⟩,
  ⟨(some 9), .bin .gtr .num (.t 8) (.c (.int .i64 12)), (some (6, false))⟩,
  ⟨(some 10), .pick (.t 6) (.c (.bool true)) (.t 9), none⟩,
  ⟨(some 11), .move (.t 10), none⟩,
  ⟨(some 12), .fieldAddr 1 (.t 1), (some (11, false))⟩,
  ⟨(some 13), .load1 (.t 12), (some (11, false))⟩,
  ⟨(some 14), .call 35 [(.t 13)], (some (11, false))⟩,
  ⟨(some 15), .un .not (.t 14), (some (11, false))⟩,
  ⟨(some 16), .pick (.t 11) (.c (.bool true)) (.t 15), none⟩,
  ⟨(some 17), .move (.t 16), none⟩,
  ⟨(some 18), .fieldAddr 2 (.t 1), (some (17, false))⟩,
  ⟨(some 19), .load1 (.t 18), (some (17, false))⟩,
  ⟨(some 20), .call 35 [(.t 19)], (some (17, false))⟩,
  ⟨(some 21), .un .not (.t 20), (some (17, false))⟩,
  ⟨(some 22), .pick (.t 17) (.c (.bool true)) (.t 21), none⟩,
  ⟨(some 23), .move (.t 22), none⟩,
  ⟨(some 24), .fieldAddr 1 (.t 1), (some (23, false))⟩,
  ⟨(some 25), .load1 (.t 24), (some (23, false))⟩,
  ⟨(some 26), .fieldAddr 2 (.t 1), (some (23, false))⟩,
  ⟨(some 27), .load1 (.t 26), (some (23, false))⟩,
  ⟨(some 28), .bin .eql .num (.t 25) (.t 27), (some (23, false))⟩,
  ⟨(some 29), .pick (.t 23) (.c (.bool true)) (.t 28), none⟩,
  ⟨(some 30), .move (.t 29), none⟩,
  ⟨(some 31), .fieldAddr 3 (.t 1), (some (30, false))⟩,
  ⟨(some 32), .load1 (.t 31), (some (30, false))⟩,
  ⟨(some 33), .call 36 [(.t 32)], (some (30, false))⟩,
  ⟨(some 34), .un .not (.t 33), (some (30, false))⟩,
  ⟨(some 35), .pick (.t 30) (.c (.bool true)) (.t 34), none⟩,
  ⟨(some 36), .move (.t 35), none⟩,
  ⟨(some 37), .fieldAddr 4 (.t 1), (some (36, false))⟩,
  ⟨(some 38), .load1 (.t 37), (some (36, false))⟩,
  ⟨(some 39), .call 36 [(.t 38)], (some (36, false))⟩,
  ⟨(some 40), .un .not (.t 39), (some (36, false))⟩,
  ⟨(some 41), .pick (.t 36) (.c (.bool true)) (.t 40), none⟩]
def b13_1 : SCode := .region r13_1
abbrev r13_2 : List MOper := [⟨(some 2), .move (.c (.bool false)), none⟩]
def b13_2 : SCode := .region r13_2
def b13_3 : SCode := .seq b13_2 .ret
def b13_4 : SCode := .cond (.t 41) b13_3 .skip
def b13_5 : SCode := .seq b13_1 b13_4
abbrev r13_6 : List MOper := [⟨(some 42), .fieldAddr 4 (.t 1), none⟩,
  ⟨(some 43), .load1 (.t 42), none⟩,
  ⟨(some 44), .bin .eql .num (.t 43) (.c (.int .i64 0)), none⟩,
  ⟨(some 45), .move (.t 44), none⟩,
  ⟨(some 46), .fieldAddr 0 (.t 1), (some (45, false))⟩,
  ⟨(some 47), .load1 (.t 46), (some (45, false))⟩,
  ⟨(some 48), .buildSlice [.int .i64 0] 1 2 [(0, 1, (.c (.int .i64 5))), (1, 1, (.c (.int .i64 6)))], (some (45, false))⟩,
  ⟨(some 49), .call 37 [(.t 47), (.t 48)], (some (45, false))⟩,
  ⟨(some 50), .pick (.t 45) (.c (.bool true)) (.t 49), none⟩,
  ⟨(some 51), .move (.t 50), none⟩,
  ⟨(some 52), .loadN 27 (.t 1), (some (51, true))⟩,
  ⟨(some 53), .call 38 [(.t 52)], (some (51, true))⟩,
  ⟨(some 54), .pick (.t 51) (.t 53) (.c (.bool false)), none⟩,
  ⟨(some 55), .move (.t 54), none⟩,
  ⟨(some 56), .loadN 27 (.t 1), (some (55, true))⟩,
  ⟨(some 57), .call 39 [(.t 56)], (some (55, true))⟩,
  ⟨(some 58), .pick (.t 55) (.t 57) (.c (.bool false)), none⟩,
  ⟨(some 59), .move (.t 58), none⟩,
  ⟨(some 60), .loadN 27 (.t 1), (some (59, true))⟩,
  ⟨(some 61), .call 40 [(.t 60)], (some (59, true))⟩,
  ⟨(some 62), .pick (.t 59) (.t 61) (.c (.bool false)), none⟩,
  ⟨(some 2), .move (.t 62), none⟩]
def b13_6 : SCode := .region r13_6
def b13_7 : SCode := .seq b13_6 .ret
def b13_8 : SCode := .seq b13_5 b13_7
def b13_9 : SCode := .seq b13_0 b13_8
def s13 : SFunc := ⟨63, [.t 2], b13_9⟩
theorem c13 : sFn Try.prog 13 = some s13 := by kernel_rfl
theorem Z13 : XR b13_0 r13_0 ∧ XR b13_1 r13_1 ∧ XR b13_2 r13_2 ∧ XS b13_3 b13_2 .ret ∧ XC b13_4 (.t 41) b13_3 .skip ∧ XS b13_5 b13_1 b13_4 ∧ XR b13_6 r13_6 ∧ XS b13_7 b13_6 .ret ∧ XS b13_8 b13_5 b13_7 ∧ XS b13_9 b13_0 b13_8 ∧ XY s13 63 b13_9 [.t 2] := ⟨rfl, rfl, rfl, rfl, sC_cond, rfl, rfl, rfl, rfl, rfl, rfl⟩
abbrev r39_0 : List MOper := [⟨(some 1), .box (.t 0), none⟩,
  ⟨(some 2), .move (.c (.bool false)), none⟩]
def b39_0 : SCode := .region r39_0
abbrev r39_1 : List MOper := [⟨(some 8), .fieldAddr 24 (.t 1), none⟩,
  ⟨(some 9), .load1 (.t 8), none⟩,
  ⟨(some 10), .lenSl (.t 9), none⟩,
  ⟨(some 11), .move (.c (.int .i64 0)), none⟩]
def b39_1 : SCode := .region r39_1
abbrev r39_2 : List MOper := [⟨(some 12), .bin .lss .num (.t 11) (.t 10), none⟩]
def b39_2 : SCode := .region r39_2
def b39_3 : SCode := .cond (.t 12) .skip (.exit 0)
abbrev r39_4 : List MOper := [⟨(some 13), .indexAddr 9 (.t 9) (.t 11), none⟩,
  ⟨(some 14), .loadN 9 (.t 13), none⟩,
  ⟨(some 4), .alloc [.int .i64 0, .int .i64 0, .int .i64 0, .int .i64 0, .bool false, .str [], .nilslice, .str [], .bool false], none⟩,
  ⟨none, .store 9 (.t 4) (.t 14), none⟩]
def b39_4 : SCode := .region r39_4
abbrev r39_5 : List MOper := [⟨(some 16), .fieldAddr 1 (.t 4), none⟩,
  ⟨(some 17), .loadN 8 (.t 16), none⟩,
  ⟨(some 18), .call 32 [(.t 17)], none⟩,
  ⟨(some 15), .move (.t 18), none⟩,
  ⟨(some 19), .extract (.t 15) 0, none⟩,
  ⟨(some 20), .extract (.t 15) 1, none⟩,
  ⟨(some 5), .move (.t 19), none⟩,
  ⟨(some 6), .move (.t 20), none⟩]
def b39_5 : SCode := .region r39_5
abbrev r39_6 : List MOper := [⟨(some 21), .move (.t 6), none⟩,
  ⟨(some 22), .bin .neq .num (.t 21) (.c (.int .i64 0)), none⟩,
  ⟨(some 23), .move (.t 22), none⟩,
  ⟨(some 24), .fieldAddr 0 (.t 4), (some (23, false))⟩,
  ⟨(some 25), .load1 (.t 24), (some (23, false))⟩,
  ⟨(some 26), .call 36 [(.t 25)], (some (23, false))⟩,
  ⟨(some 27), .un .not (.t 26), (some (23, false))⟩,
  ⟨(some 28), .pick (.t 23) (.c (.bool true)) (.t 27), none⟩]
def b39_6 : SCode := .region r39_6
abbrev r39_7 : List MOper := [⟨(some 2), .move (.c (.bool false)), none⟩]
def b39_7 : SCode := .region r39_7
def b39_8 : SCode := .seq b39_7 .ret
def b39_9 : SCode := .cond (.t 28) b39_8 .skip
def b39_10 : SCode := .seq b39_6 b39_9
def b39_11 : SCode := .seq b39_5 b39_10
def b39_12 : SCode := .seq b39_4 b39_11
def b39_13 : SCode := .block 1 b39_12
abbrev r39_14 : List MOper := [⟨(some 29), .bin .add .num (.t 11) (.c (.int .i64 1)), none⟩,
  ⟨(some 11), .move (.t 29), none⟩]
def b39_14 : SCode := .region r39_14
def b39_15 : SCode := .seq b39_13 b39_14
def b39_16 : SCode := .seq b39_3 b39_15
def b39_17 : SCode := .seq b39_2 b39_16
def b39_18 : SCode := .loop b39_17
def b39_19 : SCode := .block 0 b39_18
def b39_20 : SCode := .seq b39_1 b39_19
abbrev r39_21 : List MOper := [⟨(some 30), .fieldAddr 23 (.t 1), none⟩,
  ⟨(some 31), .load1 (.t 30), none⟩,
  ⟨(some 32), .lenSl (.t 31), none⟩,
  ⟨(some 33), .bin .eql .num (.t 32) (.c (.int .i64 0)), none⟩,
  ⟨(some 34), .move (.t 33), none⟩,
  ⟨(some 35), .fieldAddr 24 (.t 1), (some (34, true))⟩,
  ⟨(some 36), .load1 (.t 35), (some (34, true))⟩,
  ⟨(some 37), .lenSl (.t 36), (some (34, true))⟩,
  ⟨(some 38), .bin .eql .num (.t 37) (.c (.int .i64 0)), (some (34, true))⟩,
  ⟨(some 39), .pick (.t 34) (.t 38) (.c (.bool false)), none⟩,
  ⟨(some 40), .move (.t 39), none⟩,
  ⟨(some 41), .fieldAddr 0 (.t 1), (some (40, false))⟩,
  ⟨(some 42), .load1 (.t 41), (some (40, false))⟩,
  ⟨(some 43), .buildSlice [.int .i64 0] 1 2 [(0, 1, (.c (.int .i64 8))), (1, 1, (.c (.int .i64 9)))], (some (40, false))⟩,
  ⟨(some 44), .call 37 [(.t 42), (.t 43)], (some (40, false))⟩,
  ⟨(some 45), .pick (.t 40) (.c (.bool true)) (.t 44), none⟩,
  ⟨(some 7), .move (.t 45), none⟩]
def b39_21 : SCode := .region r39_21
abbrev r39_22 : List MOper := [⟨(some 46), .move (.t 7), none⟩,
  ⟨(some 47), .move (.t 46), none⟩,
  ⟨(some 48), .fieldAddr 3 (.t 1), (some (47, true))⟩,
  ⟨(some 49), .load1 (.t 48), (some (47, true))⟩,
  ⟨(some 50), .bin .eql .num (.t 49) (.c (.int .i64 0)), (some (47, true))⟩,
  ⟨(some 51), .move (.t 50), (some (47, true))⟩,
  ⟨(some 52), .fieldAddr 21 (.t 1), (some (51, true))⟩,
  ⟨(some 53), .loadN 2 (.t 52), (some (51, true))⟩,
  ⟨(some 54), .build [.str [], .str []] [], (some (51, true))⟩,
  ⟨(some 55), .bin .eql (.flat [.s, .s]) (.t 53) (.t 54), (some (51, true))⟩,
  ⟨(some 56), .pick (.t 51) (.t 55) (.c (.bool false)), (some (47, true))⟩,
  ⟨(some 57), .move (.t 56), (some (47, true))⟩,
  ⟨(some 58), .fieldAddr 0 (.t 1), (some (57, false))⟩,
  ⟨(some 59), .load1 (.t 58), (some (57, false))⟩,
  ⟨(some 60), .buildSlice [.int .i64 0] 1 6 [(0, 1, (.c (.int .i64 7))), (1, 1, (.c (.int .i64 11))), (2, 1, (.c (.int .i64 10))), (3, 1, (.c (.int .i64 12))), (4, 1, (.c (.int .i64 8))), (5, 1, (.c (.int .i64 9)))], (some (57, false))⟩,
  ⟨(some 61), .call 37 [(.t 59), (.t 60)], (some (57, false))⟩,
  ⟨(some 62), .pick (.t 57) (.c (.bool true)) (.t 61), (some (47, true))⟩,
  ⟨(some 63), .pick (.t 47) (.t 62) (.c (.bool false)), none⟩,
  ⟨(some 2), .move (.t 63), none⟩]
def b39_22 : SCode := .region r39_22
def b39_23 : SCode := .seq b39_22 .ret
def b39_24 : SCode := .seq b39_21 b39_23
def b39_25 : SCode := .seq b39_20 b39_24
def b39_26 : SCode := .seq b39_0 b39_25
def s39 : SFunc := ⟨64, [.t 2], b39_26⟩
theorem c39 : sFn Try.prog 39 = some s39 := by kernel_rfl
theorem Z39 : XR b39_0 r39_0 ∧ XR b39_1 r39_1 ∧ XR b39_2 r39_2 ∧ XC b39_3 (.t 12) .skip (.exit 0) ∧ XR b39_4 r39_4 ∧ XR b39_5 r39_5 ∧ XR b39_6 r39_6 ∧ XR b39_7 r39_7 ∧ XS b39_8 b39_7 .ret ∧ XC b39_9 (.t 28) b39_8 .skip ∧ XS b39_10 b39_6 b39_9 ∧ XS b39_11 b39_5 b39_10 ∧ XS b39_12 b39_4 b39_11 ∧ XB b39_13 1 b39_12 ∧ XR b39_14 r39_14 ∧ XS b39_15 b39_13 b39_14 ∧ XS b39_16 b39_3 b39_15 ∧ XS b39_17 b39_2 b39_16 ∧ XB b39_19 0 b39_18 ∧ XS b39_20 b39_1 b39_19 ∧ XR b39_21 r39_21 ∧ XR b39_22 r39_22 ∧ XS b39_23 b39_22 .ret ∧ XS b39_24 b39_21 b39_23 ∧ XS b39_25 b39_20 b39_24 ∧ XS b39_26 b39_0 b39_25 ∧ XY s39 64 b39_26 [.t 2] := ⟨rfl, rfl, rfl, sC_cond, rfl, rfl, rfl, rfl, rfl, sC_cond, rfl, rfl, rfl, rfl, rfl, rfl, rfl, rfl, rfl, rfl, rfl, rfl, rfl, rfl, rfl, rfl, rfl⟩
abbrev r40_0 : List MOper := [⟨(some 1), .box (.t 0), none⟩,
  ⟨(some 2), .move (.c (.bool false)), none⟩]
def b40_0 : SCode := .region r40_0
abbrev r40_1 : List MOper := [⟨(some 3), .fieldAddr 0 (.t 1), none⟩,
  ⟨(some 4), .load1 (.t 3), none⟩,
  ⟨(some 5), .buildSlice [.int .i64 0] 1 2 [(0, 1, (.c (.int .i64 4))), (1, 1, (.c (.int .i64 6)))], none⟩,
  ⟨(some 6), .call 37 [(.t 4), (.t 5)], none⟩]
def b40_1 : SCode := .region r40_1
abbrev r40_2 : List MOper := [⟨(some 7), .fieldAddr 25 (.t 1), none⟩,
  ⟨(some 8), .loadN 2 (.t 7), none⟩,
  ⟨(some 9), .call 75 [(.t 8), (.c (.int .i64 5))], none⟩,
  ⟨(some 10), .move (.t 9), none⟩,
  ⟨(some 11), .fieldAddr 25 (.t 1), (some (10, true))⟩,
  ⟨(some 12), .fieldAddr 0 (.t 11), (some (10, true))⟩,
  ⟨(some 13), .load1 (.t 12), (some (10, true))⟩,
  ⟨(some 14), .call 36 [(.t 13)], (some (10, true))⟩,
  ⟨(some 15), .pick (.t 10) (.t 14) (.c (.bool false)), none⟩,
  ⟨(some 2), .move (.t 15), none⟩]
def b40_2 : SCode := .region r40_2
def b40_3 : SCode := .seq b40_2 .ret
def b40_4 : SCode := .cond (.t 6) b40_3 .skip
def b40_5 : SCode := .seq b40_1 b40_4
abbrev r40_6 : List MOper := [⟨(some 16), .fieldAddr 25 (.t 1), none⟩,
  ⟨(some 17), .fieldAddr 0 (.t 16), none⟩,
  ⟨(some 18), .load1 (.t 17), none⟩,
  ⟨(some 19), .bin .eql .num (.t 18) (.c (.int .i64 0)), none⟩,
  ⟨(some 20), .move (.t 19), none⟩,
  ⟨(some 21), .fieldAddr 25 (.t 1), (some (20, true))⟩,
  ⟨(some 22), .fieldAddr 1 (.t 21), (some (20, true))⟩,
  ⟨(some 23), .load1 (.t 22), (some (20, true))⟩,
  ⟨(some 24), .lenSl (.t 23), (some (20, true))⟩,
  ⟨(some 25), .bin .eql .num (.t 24) (.c (.int .i64 0)), (some (20, true))⟩,
  ⟨(some 26), .pick (.t 20) (.t 25) (.c (.bool false)), none⟩,
  ⟨(some 2), .move (.t 26), none⟩]
def b40_6 : SCode := .region r40_6
def b40_7 : SCode := .seq b40_6 .ret
def b40_8 : SCode := .seq b40_5 b40_7
def b40_9 : SCode := .seq b40_0 b40_8
def s40 : SFunc := ⟨27, [.t 2], b40_9⟩
theorem c40 : sFn Try.prog 40 = some s40 := by kernel_rfl
theorem Z40 : XR b40_0 r40_0 ∧ XR b40_1 r40_1 ∧ XR b40_2 r40_2 ∧ XS b40_3 b40_2 .ret ∧ XC b40_4 (.t 6) b40_3 .skip ∧ XS b40_5 b40_1 b40_4 ∧ XR b40_6 r40_6 ∧ XS b40_7 b40_6 .ret ∧ XS b40_8 b40_5 b40_7 ∧ XS b40_9 b40_0 b40_8 ∧ XY s40 27 b40_9 [.t 2] := ⟨rfl, rfl, rfl, rfl, sC_cond, rfl, rfl, rfl, rfl, rfl, rfl⟩

end
set_option maxHeartbeats 4000000
set_option maxRecDepth 10000
/-! Spans. -/
def okLa (x : LaV) : Bool := !x.rep.bad && numB x.seq
def rowsB (n : NoteV) : Bool := (decide ((n.l.length : Int) = 0) && decide ((n.last.length : Int) = 0)) || [8, 9].contains n.kind
def spanB (n : NoteV) : Bool := (decide (n.epoch = 0) && (decide (n.sf = []) && decide (n.st = []))) || [7, 11, 10, 12, 8, 9].contains n.kind
def spansB (n : NoteV) : Bool := n.last.all okLa && (rowsB n && spanB n)
def S1 : PCall := rowQ 32 repPD (rowQ 36 numberD (rowQ 37 hasD noCall))
theorem S1_app {f : FuncId} {args : List AV} {σ : AHeap} {K : AV → AHeap → Prop} : S1 f args σ K = rowQ 32 repPD (rowQ 36 numberD (rowQ 37 hasD noCall)) f args σ K := _root_.id rfl
theorem S1_sound : Sound Try.prog S1 := rowQ_sound repPD_ok (rowQ_sound numberD_ok (rowQ_sound hasD_ok (noCall_sound _)))
def spI (x : NoteV) (n : Nat) (e : Env) (σ : AHeap) : Prop :=
  ∃ i : Nat, i ≤ x.last.length ∧ n = x.last.length - i ∧ hget σ 0 = some x.cells ∧ (x.last.take i).all okLa = true ∧ e 1 = .ptr 0 0 ∧ e 9 = .imm (x.last.map LaV.cells) false false ∧ e 10 = .int .i64 (x.last.length : Int) ∧ e 11 = .int .i64 (i : Int)
theorem sp_step (n : NoteV) (hs : n.sz) (k : Nat) (e : Env) (σ : AHeap) (h : spI n k e σ) :
    sC S1 0 b39_17 (unw S1 0 (loopR S1 0 (RetQ [MRes.t 2] fun r _ => r.pure = true ∧ r = .bool (spansB n)) (.block 0 (.seq b39_24 .fin)) (spI n) k) .fin) e σ := by
  obtain ⟨i, hi, hk, g0, hall, e1, e9, e10, e11⟩ := h
  have hml : (n.last.map LaV.cells).length = n.last.length := by simp
  have hll := hs.last
  rcases Nat.lt_or_ge i n.last.length with hlt | hge
  · have hlt' : (i : Int) < (n.last.length : Int) := by omega
    have hge0 : (0 : Int) ≤ (i : Int) := by omega
    obtain ⟨x, hx⟩ : ∃ x, n.last[i]? = some x := ⟨_, List.getElem?_eq_getElem hlt⟩
    have hxx : (n.last.map LaV.cells)[i]? = some [.int .i64 x.seq, .int .i64 x.rep.client, .int .i64 x.rep.seq, .int .i64 x.rep.err, .bool x.rep.found, .str x.rep.val, .imm (recs x.rep.l) false false, .str x.rep.next, .bool x.rep.more] := by simp [hx, LaV.cells, RepV.cells]
    have hw : IntKind.wrap .i64 ((i : Int) + 1) = ((i + 1 : Nat) : Int) := by rw [Gz.wrap64 (by omega)]; omega
    have htk : n.last.take (i + 1) = n.last.take i ++ [x] := by rw [List.take_add_one, hx]; rfl
    have sn : ∀ c c' : List AV, hget (hset (hpush σ c) (List.length σ) c') (List.length σ) = some c' := fun c c' => set_same push_new'
    have s0 : ∀ c c' : List AV, hget (hset (hpush σ c) (List.length σ) c') 0 = some n.cells := fun c c' => al_frame g0
    have hsz := hs.la x (List.mem_of_getElem? hx)
    have bad : okLa x = false → spansB n = false := fun hb => by
      have : n.last.all okLa = false := by
        rw [Bool.eq_false_iff]; intro ha
        have := List.all_eq_true.1 ha x (List.mem_of_getElem? hx)
        rw [hb] at this; cases this
      simp only [spansB, this]; rfl
    cases h1 : x.rep.bad with
    | true =>
      simp only [S1_app, Z39, base1, baseE, ↓reduceIte, Nat.reduceAdd, Nat.reduceSub, Nat.reduceMul, Nat.reduceEqDiff, Nat.reduceLeDiff, Nat.reduceLT, Int.reduceLT, Int.reduceLE, Int.reduceEq, Int.reduceNe, Int.reduceToNat, Int.reduceAdd, Int.reduceSub, reduceCtorEq, Nat.reduceBEq, Nat.reduceBNe, loopR_exit, loopR_ret, repPD_eq, numberD_eq, hasD_eq, hasK_2, hasK_6, e1, e9, e10, e11, hlt', hlt, hge0, hxx, hml, Int.toNat_natCast, push_new', sn, s0, hsz, packR_t, h1]
      exact ⟨rfl, by rw [bad (by simp only [okLa, h1]; rfl)]⟩
    | false =>
    cases h2 : numB x.seq with
    | false =>
      simp only [S1_app, Z39, base1, baseE, ↓reduceIte, Nat.reduceAdd, Nat.reduceSub, Nat.reduceMul, Nat.reduceEqDiff, Nat.reduceLeDiff, Nat.reduceLT, Int.reduceLT, Int.reduceLE, Int.reduceEq, Int.reduceNe, Int.reduceToNat, Int.reduceAdd, Int.reduceSub, reduceCtorEq, Nat.reduceBEq, Nat.reduceBNe, loopR_exit, loopR_ret, repPD_eq, numberD_eq, hasD_eq, hasK_2, hasK_6, e1, e9, e10, e11, hlt', hlt, hge0, hxx, hml, Int.toNat_natCast, push_new', sn, s0, hsz, packR_f, h1, h2]
      exact ⟨rfl, by rw [bad (by simp only [okLa, h1, h2]; rfl)]⟩
    | true =>
    simp only [S1_app, Z39, base1, baseE, ↓reduceIte, Nat.reduceAdd, Nat.reduceSub, Nat.reduceMul, Nat.reduceEqDiff, Nat.reduceLeDiff, Nat.reduceLT, Int.reduceLT, Int.reduceLE, Int.reduceEq, Int.reduceNe, Int.reduceToNat, Int.reduceAdd, Int.reduceSub, reduceCtorEq, Nat.reduceBEq, Nat.reduceBNe, loopR_exit, loopR_ret, repPD_eq, numberD_eq, hasD_eq, hasK_2, hasK_6, e1, e9, e10, e11, hlt', hlt, hge0, hxx, hml, Int.toNat_natCast, push_new', sn, s0, hsz, packR_f, h1, h2, hw]
    rw [loopR_normal]
    refine ⟨n.last.length - (i + 1), _, _, by omega, .refl _ _ _, i + 1, hlt, rfl, al_frame g0, ?_, ?_, ?_, ?_, ?_⟩
    · rw [htk, List.all_append, hall]
      simp only [List.all_cons, List.all_nil, okLa, h1, h2]; rfl
    all_goals simp only [putD_some, putD_none, Nat.reduceEqDiff, ↓reduceIte, e1, e9, e10, e11, hw]
  · have hlt' : ¬ (i : Int) < (n.last.length : Int) := by omega
    have hie : i = n.last.length := by omega
    subst hie
    rw [List.take_length] at hall
    have p0 : ∀ c : List AV, hget (hpush σ c) 0 = some n.cells := fun c => push_old g0
    have p1 : ∀ c c' : List AV, hget (hpush (hpush σ c) c') 0 = some n.cells := fun c c' => push_old (push_old g0)
    have hl1 : (n.l.map recC).length = n.l.length := by simp
    simp only [NoteV.cells] at g0 p0 p1
    have fin : ∀ (b : Bool), b = (rowsB n && spanB n) → (AV.bool b).pure = true ∧ AV.bool b = .bool (spansB n) := fun b hb => ⟨rfl, by rw [hb]; simp only [spansB, hall]; rfl⟩
    cases g1 : decide ((n.l.length : Int) = 0) <;> cases g2 : decide ((n.last.length : Int) = 0) <;> cases g3 : [8, 9].contains n.kind <;> cases ge : decide (n.epoch = 0) <;> cases gf : decide (n.sf = []) <;> cases gt : decide (n.st = []) <;> cases gk : [7, 11, 10, 12, 8, 9].contains n.kind <;>
      (simp only [S1_app, Z39, base1, baseE, ↓reduceIte, Nat.reduceAdd, Nat.reduceSub, Nat.reduceMul, Nat.reduceEqDiff, Nat.reduceLeDiff, Nat.reduceLT, Int.reduceLT, Int.reduceLE, Int.reduceEq, Int.reduceNe, Int.reduceToNat, Int.reduceAdd, Int.reduceSub, reduceCtorEq, Nat.reduceBEq, Nat.reduceBNe, loopR_exit, loopR_ret, hasD_eq, hasK_2, hasK_6, e1, e9, e10, e11, hlt', hml, hl1, push_new', g0, p0, p1, g1, g2, g3, ge, gf, gt, gk]; exact fin _ (by simp only [rowsB, spanB, g1, g2, g3, ge, gf, gt, gk]; rfl))
theorem spans_ok (n : NoteV) (hs : n.sz) : Tri Try.prog 39 [.agg n.cells] [] fun r _ => r.pure = true ∧ r = .bool (spansB n) := by
  refine Tri.of_s c39 S1_sound ?_
  have hml : (n.last.map LaV.cells).length = n.last.length := by simp
  have hc : n.cells[24]? = some (.imm (n.last.map LaV.cells) false false) := rfl
  simp only [S1_app, Z39, base1, baseE, ↓reduceIte, Nat.reduceAdd, Nat.reduceSub, Nat.reduceMul, Nat.reduceEqDiff, Nat.reduceLeDiff, Nat.reduceLT, Int.reduceLT, Int.reduceLE, Int.reduceEq, Int.reduceNe, Int.reduceToNat, Int.reduceAdd, Int.reduceSub, reduceCtorEq, Nat.reduceBEq, Nat.reduceBNe, hc, hml]
  exact sC_inv (a := b39_17) (spI n) n.last.length _ _ (.refl _ _ _) ⟨0, Nat.zero_le _, rfl, rfl, rfl, rfl, rfl, rfl, rfl⟩ (sp_step n hs)
/-! Maps. -/
def mapsB (n : NoteV) : Bool := if [4, 6].contains n.kind then atlasB n.aep n.sh && numB n.aep else decide (n.aep = 0) && decide ((n.sh.length : Int) = 0)
def atlasD (args : List AV) (σ : AHeap) (K : AV → AHeap → Prop) : Prop := ∃ (ep : Int) (sh : List ShV), args = [.agg [.int .i64 ep, .imm (sh.map ShV.cells) false false], .int .i64 5] ∧ sh.length ≤ 1000000 ∧ K (.bool (atlasB ep sh)) σ
theorem atlasD_eq {ep : Int} {sh : List ShV} {σ : AHeap} {K : AV → AHeap → Prop} : atlasD [.agg [.int .i64 ep, .imm (sh.map ShV.cells) false false], .int .i64 5] σ K = (sh.length ≤ 1000000 ∧ K (.bool (atlasB ep sh)) σ) := by
  apply propext
  refine ⟨fun ⟨ep', sh', h1, h2, h3⟩ => ?_, fun h => ⟨ep, sh, rfl, h.1, h.2⟩⟩
  simp only [List.cons.injEq, AV.agg.injEq, AV.int.injEq, AV.imm.injEq, true_and, and_true] at h1
  obtain ⟨rfl, h1⟩ := h1
  have := map_inj sh_inj h1
  subst this
  exact ⟨h2, h3⟩
theorem atlasD_ok (args : List AV) (σ : AHeap) (K : AV → AHeap → Prop) (h : atlasD args σ K) : Tri Try.prog 75 args σ K := by
  obtain ⟨ep, sh, rfl, hl, h⟩ := h
  exact (Tri.pureD (by simp only [pureL, AV.pure, rowsSh_pure, Bool.and_self]) (atlas_ok ep sh hl) σ).mono fun r σ' hr => by rw [hr.1, hr.2]; exact h
def P1 : PCall := rowQ 75 atlasD (rowQ 36 numberD (rowQ 37 hasD noCall))
theorem P1_app {f : FuncId} {args : List AV} {σ : AHeap} {K : AV → AHeap → Prop} : P1 f args σ K = rowQ 75 atlasD (rowQ 36 numberD (rowQ 37 hasD noCall)) f args σ K := _root_.id rfl
theorem P1_sound : Sound Try.prog P1 := rowQ_sound atlasD_ok (rowQ_sound numberD_ok (rowQ_sound hasD_ok (noCall_sound _)))
theorem maps_ok (n : NoteV) (hs : n.sz) : Tri Try.prog 40 [.agg n.cells] [] fun r _ => r.pure = true ∧ r = .bool (mapsB n) := by
  refine Tri.of_s c40 P1_sound ?_
  have hl := hs.sh
  have hml : (n.sh.map ShV.cells).length = n.sh.length := by simp
  cases h1 : [4, 6].contains n.kind <;> cases h2 : atlasB n.aep n.sh <;> cases h3 : numB n.aep <;> cases h4 : decide (n.aep = 0) <;> cases h5 : decide ((n.sh.length : Int) = 0) <;>
    (simp only [NoteV.cells, P1_app, Z40, base1, baseE, ↓reduceIte, Nat.reduceAdd, Nat.reduceSub, Nat.reduceMul, Nat.reduceEqDiff, Nat.reduceLeDiff, Nat.reduceLT, Int.reduceLT, Int.reduceLE, Int.reduceEq, Int.reduceNe, Int.reduceToNat, Int.reduceAdd, Int.reduceSub, reduceCtorEq, Nat.reduceBEq, Nat.reduceBNe, atlasD_eq, numberD_eq, hasD_eq, hasK_2, hml, hl, h1, h2, h3, h4, h5]; exact ⟨rfl, by simp only [mapsB, h1, h2, h3, h4, h5]; rfl⟩)
/-! May. -/
def headB (n : NoteV) : Bool := !decide (n.kind < 1) && (!decide (12 < n.kind) && (partyB n.from_ && (partyB n.to && (!decide (n.from_ = n.to) && (numB n.epoch && numB n.tick)))))
def tickB (n : NoteV) : Bool := decide (n.tick = 0) || [5, 6].contains n.kind
def mayB (n : NoteV) : Bool := headB n && (tickB n && (asksB n && (spansB n && mapsB n)))
def asksD (args : List AV) (σ : AHeap) (K : AV → AHeap → Prop) : Prop := ∃ n : NoteV, args = [.agg n.cells] ∧ n.sz ∧ K (.bool (asksB n)) σ
theorem asksD_eq {n : NoteV} {σ : AHeap} {K : AV → AHeap → Prop} : asksD [.agg [.int .i64 n.kind, .int .i64 n.from_, .int .i64 n.to, .int .i64 n.epoch, .int .i64 n.tick, .int .i64 n.ask.do_, .int .i64 n.ask.client, .int .i64 n.ask.seq, .str n.ask.text, .str n.ask.val, .str n.ask.from_, .str n.ask.to, .int .i64 n.ask.limit, .int .i64 n.rep.client, .int .i64 n.rep.seq, .int .i64 n.rep.err, .bool n.rep.found, .str n.rep.val, .imm (recs n.rep.l) false false, .str n.rep.next, .bool n.rep.more, .str n.sf, .str n.st, .imm (n.l.map recC) false false, .imm (n.last.map LaV.cells) false false, .int .i64 n.aep, .imm (n.sh.map ShV.cells) false false]] σ K = (n.sz ∧ K (.bool (asksB n)) σ) := by
  apply propext
  refine ⟨fun ⟨m, h1, h2, h3⟩ => ?_, fun h => ⟨n, rfl, h.1, h.2⟩⟩
  have : n = m := note_inj (List.cons.inj h1).1
  subst this
  exact ⟨h2, h3⟩
theorem asksD_ok (args : List AV) (σ : AHeap) (K : AV → AHeap → Prop) (h : asksD args σ K) : Tri Try.prog 38 args σ K := by
  obtain ⟨n, rfl, hs, h⟩ := h
  exact (Tri.pureD (by simp only [pureL, note_pure, Bool.and_self]) (asks_ok n hs) σ).mono fun r σ' hr => by rw [hr.1, hr.2]; exact h
def spansD (args : List AV) (σ : AHeap) (K : AV → AHeap → Prop) : Prop := ∃ n : NoteV, args = [.agg n.cells] ∧ n.sz ∧ K (.bool (spansB n)) σ
theorem spansD_eq {n : NoteV} {σ : AHeap} {K : AV → AHeap → Prop} : spansD [.agg [.int .i64 n.kind, .int .i64 n.from_, .int .i64 n.to, .int .i64 n.epoch, .int .i64 n.tick, .int .i64 n.ask.do_, .int .i64 n.ask.client, .int .i64 n.ask.seq, .str n.ask.text, .str n.ask.val, .str n.ask.from_, .str n.ask.to, .int .i64 n.ask.limit, .int .i64 n.rep.client, .int .i64 n.rep.seq, .int .i64 n.rep.err, .bool n.rep.found, .str n.rep.val, .imm (recs n.rep.l) false false, .str n.rep.next, .bool n.rep.more, .str n.sf, .str n.st, .imm (n.l.map recC) false false, .imm (n.last.map LaV.cells) false false, .int .i64 n.aep, .imm (n.sh.map ShV.cells) false false]] σ K = (n.sz ∧ K (.bool (spansB n)) σ) := by
  apply propext
  refine ⟨fun ⟨m, h1, h2, h3⟩ => ?_, fun h => ⟨n, rfl, h.1, h.2⟩⟩
  have : n = m := note_inj (List.cons.inj h1).1
  subst this
  exact ⟨h2, h3⟩
theorem spansD_ok (args : List AV) (σ : AHeap) (K : AV → AHeap → Prop) (h : spansD args σ K) : Tri Try.prog 39 args σ K := by
  obtain ⟨n, rfl, hs, h⟩ := h
  exact (Tri.pureD (by simp only [pureL, note_pure, Bool.and_self]) (spans_ok n hs) σ).mono fun r σ' hr => by rw [hr.1, hr.2]; exact h
def mapsD (args : List AV) (σ : AHeap) (K : AV → AHeap → Prop) : Prop := ∃ n : NoteV, args = [.agg n.cells] ∧ n.sz ∧ K (.bool (mapsB n)) σ
theorem mapsD_eq {n : NoteV} {σ : AHeap} {K : AV → AHeap → Prop} : mapsD [.agg [.int .i64 n.kind, .int .i64 n.from_, .int .i64 n.to, .int .i64 n.epoch, .int .i64 n.tick, .int .i64 n.ask.do_, .int .i64 n.ask.client, .int .i64 n.ask.seq, .str n.ask.text, .str n.ask.val, .str n.ask.from_, .str n.ask.to, .int .i64 n.ask.limit, .int .i64 n.rep.client, .int .i64 n.rep.seq, .int .i64 n.rep.err, .bool n.rep.found, .str n.rep.val, .imm (recs n.rep.l) false false, .str n.rep.next, .bool n.rep.more, .str n.sf, .str n.st, .imm (n.l.map recC) false false, .imm (n.last.map LaV.cells) false false, .int .i64 n.aep, .imm (n.sh.map ShV.cells) false false]] σ K = (n.sz ∧ K (.bool (mapsB n)) σ) := by
  apply propext
  refine ⟨fun ⟨m, h1, h2, h3⟩ => ?_, fun h => ⟨n, rfl, h.1, h.2⟩⟩
  have : n = m := note_inj (List.cons.inj h1).1
  subst this
  exact ⟨h2, h3⟩
theorem mapsD_ok (args : List AV) (σ : AHeap) (K : AV → AHeap → Prop) (h : mapsD args σ K) : Tri Try.prog 40 args σ K := by
  obtain ⟨n, rfl, hs, h⟩ := h
  exact (Tri.pureD (by simp only [pureL, note_pure, Bool.and_self]) (maps_ok n hs) σ).mono fun r σ' hr => by rw [hr.1, hr.2]; exact h
def Y1 : PCall := rowQ 35 partyD (rowQ 36 numberD (rowQ 37 hasD (rowQ 38 asksD (rowQ 39 spansD (rowQ 40 mapsD noCall)))))
theorem Y1_app {f : FuncId} {args : List AV} {σ : AHeap} {K : AV → AHeap → Prop} : Y1 f args σ K = rowQ 35 partyD (rowQ 36 numberD (rowQ 37 hasD (rowQ 38 asksD (rowQ 39 spansD (rowQ 40 mapsD noCall))))) f args σ K := _root_.id rfl
theorem Y1_sound : Sound Try.prog Y1 := rowQ_sound partyD_ok (rowQ_sound numberD_ok (rowQ_sound hasD_ok (rowQ_sound asksD_ok (rowQ_sound spansD_ok (rowQ_sound mapsD_ok (noCall_sound _))))))
theorem may_ok (n : NoteV) (hs : n.sz) : Tri Try.prog 13 [.agg n.cells] [] fun r _ => r.pure = true ∧ r = .bool (mayB n) := by
  refine Tri.of_s c13 Y1_sound ?_
  cases h1 : decide (n.kind < 1) with
  | true =>
    simp only [NoteV.cells, Y1_app, Z13, base1, baseE, ↓reduceIte, Nat.reduceAdd, Nat.reduceSub, Nat.reduceMul, Nat.reduceEqDiff, Nat.reduceLeDiff, Nat.reduceLT, Int.reduceLT, Int.reduceLE, Int.reduceEq, Int.reduceNe, Int.reduceToNat, Int.reduceAdd, Int.reduceSub, reduceCtorEq, Nat.reduceBEq, Nat.reduceBNe, partyD_eq, numberD_eq, hasD_eq, hasK_2, asksD_eq, spansD_eq, mapsD_eq, hs, h1]
    exact ⟨rfl, by simp only [mayB, headB, h1]; rfl⟩
  | false =>
  cases h2 : decide (12 < n.kind) with
  | true =>
    simp only [NoteV.cells, Y1_app, Z13, base1, baseE, ↓reduceIte, Nat.reduceAdd, Nat.reduceSub, Nat.reduceMul, Nat.reduceEqDiff, Nat.reduceLeDiff, Nat.reduceLT, Int.reduceLT, Int.reduceLE, Int.reduceEq, Int.reduceNe, Int.reduceToNat, Int.reduceAdd, Int.reduceSub, reduceCtorEq, Nat.reduceBEq, Nat.reduceBNe, partyD_eq, numberD_eq, hasD_eq, hasK_2, asksD_eq, spansD_eq, mapsD_eq, hs, h1, h2]
    exact ⟨rfl, by simp only [mayB, headB, h1, h2]; rfl⟩
  | false =>
  cases h3 : partyB n.from_ with
  | false =>
    simp only [NoteV.cells, Y1_app, Z13, base1, baseE, ↓reduceIte, Nat.reduceAdd, Nat.reduceSub, Nat.reduceMul, Nat.reduceEqDiff, Nat.reduceLeDiff, Nat.reduceLT, Int.reduceLT, Int.reduceLE, Int.reduceEq, Int.reduceNe, Int.reduceToNat, Int.reduceAdd, Int.reduceSub, reduceCtorEq, Nat.reduceBEq, Nat.reduceBNe, partyD_eq, numberD_eq, hasD_eq, hasK_2, asksD_eq, spansD_eq, mapsD_eq, hs, h1, h2, h3]
    exact ⟨rfl, by simp only [mayB, headB, h1, h2, h3]; rfl⟩
  | true =>
  cases h4 : partyB n.to with
  | false =>
    simp only [NoteV.cells, Y1_app, Z13, base1, baseE, ↓reduceIte, Nat.reduceAdd, Nat.reduceSub, Nat.reduceMul, Nat.reduceEqDiff, Nat.reduceLeDiff, Nat.reduceLT, Int.reduceLT, Int.reduceLE, Int.reduceEq, Int.reduceNe, Int.reduceToNat, Int.reduceAdd, Int.reduceSub, reduceCtorEq, Nat.reduceBEq, Nat.reduceBNe, partyD_eq, numberD_eq, hasD_eq, hasK_2, asksD_eq, spansD_eq, mapsD_eq, hs, h1, h2, h3, h4]
    exact ⟨rfl, by simp only [mayB, headB, h1, h2, h3, h4]; rfl⟩
  | true =>
  cases h5 : decide (n.from_ = n.to) with
  | true =>
    simp only [NoteV.cells, Y1_app, Z13, base1, baseE, ↓reduceIte, Nat.reduceAdd, Nat.reduceSub, Nat.reduceMul, Nat.reduceEqDiff, Nat.reduceLeDiff, Nat.reduceLT, Int.reduceLT, Int.reduceLE, Int.reduceEq, Int.reduceNe, Int.reduceToNat, Int.reduceAdd, Int.reduceSub, reduceCtorEq, Nat.reduceBEq, Nat.reduceBNe, partyD_eq, numberD_eq, hasD_eq, hasK_2, asksD_eq, spansD_eq, mapsD_eq, hs, h1, h2, h3, h4, h5]
    exact ⟨rfl, by simp only [mayB, headB, h1, h2, h3, h4, h5]; rfl⟩
  | false =>
  cases h6 : numB n.epoch with
  | false =>
    simp only [NoteV.cells, Y1_app, Z13, base1, baseE, ↓reduceIte, Nat.reduceAdd, Nat.reduceSub, Nat.reduceMul, Nat.reduceEqDiff, Nat.reduceLeDiff, Nat.reduceLT, Int.reduceLT, Int.reduceLE, Int.reduceEq, Int.reduceNe, Int.reduceToNat, Int.reduceAdd, Int.reduceSub, reduceCtorEq, Nat.reduceBEq, Nat.reduceBNe, partyD_eq, numberD_eq, hasD_eq, hasK_2, asksD_eq, spansD_eq, mapsD_eq, hs, h1, h2, h3, h4, h5, h6]
    exact ⟨rfl, by simp only [mayB, headB, h1, h2, h3, h4, h5, h6]; rfl⟩
  | true =>
  cases h7 : numB n.tick with
  | false =>
    simp only [NoteV.cells, Y1_app, Z13, base1, baseE, ↓reduceIte, Nat.reduceAdd, Nat.reduceSub, Nat.reduceMul, Nat.reduceEqDiff, Nat.reduceLeDiff, Nat.reduceLT, Int.reduceLT, Int.reduceLE, Int.reduceEq, Int.reduceNe, Int.reduceToNat, Int.reduceAdd, Int.reduceSub, reduceCtorEq, Nat.reduceBEq, Nat.reduceBNe, partyD_eq, numberD_eq, hasD_eq, hasK_2, asksD_eq, spansD_eq, mapsD_eq, hs, h1, h2, h3, h4, h5, h6, h7]
    exact ⟨rfl, by simp only [mayB, headB, h1, h2, h3, h4, h5, h6, h7]; rfl⟩
  | true =>
  cases g1 : decide (n.tick = 0) <;> cases g2 : [5, 6].contains n.kind <;> cases g3 : asksB n <;> cases g4 : spansB n <;> cases g5 : mapsB n <;>
    (simp only [NoteV.cells, Y1_app, Z13, base1, baseE, ↓reduceIte, Nat.reduceAdd, Nat.reduceSub, Nat.reduceMul, Nat.reduceEqDiff, Nat.reduceLeDiff, Nat.reduceLT, Int.reduceLT, Int.reduceLE, Int.reduceEq, Int.reduceNe, Int.reduceToNat, Int.reduceAdd, Int.reduceSub, reduceCtorEq, Nat.reduceBEq, Nat.reduceBNe, partyD_eq, numberD_eq, hasD_eq, hasK_2, asksD_eq, spansD_eq, mapsD_eq, hs, h1, h2, h3, h4, h5, h6, h7, g1, g2, g3, g4, g5]; exact ⟨rfl, by simp only [mayB, headB, tickB, h1, h2, h3, h4, h5, h6, h7, g1, g2, g3, g4, g5]; rfl⟩)
end Go.Proofs.Ytndlgmciplckjaa.note
