/- Which notes may be: what May answers, as a truth that is counted from the note. No condition. -/
import Derived.Test.YtndlgmciplckjabNB
set_option linter.unusedVariables false
set_option linter.unusedSimpArgs false
namespace Go.Proofs.Ytndlgmciplckjab.note
open Go.ChangeShapes Go.WideShapes Go.ChangeAt Go.RowKit Go.Gz
section
variable {C : PCall} {n0 : Nat} {R : MExit → Env → AHeap → Prop} {k : Cont} {e : Env} {σ : AHeap}
abbrev r9_0 : List MOper := [⟨(some 1), .box (.t 0), none⟩,
  ⟨(some 2), .move (.c (.bool false)), none⟩]
def b9_0 : SCode := .region r9_0
abbrev r9_1 : List MOper := [⟨(some 3), .fieldAddr 0 (.t 1), none⟩,
  ⟨(some 4), .load1 (.t 3), none⟩,
  ⟨(some 5), .bin .lss .num (.t 4) (.c (.int .i64 1)), none⟩,
  ⟨(some 6), .move (.t 5), none⟩,
  ⟨(some 7), .fieldAddr 0 (.t 1), (some (6, false))⟩,
  ⟨(some 8), .load1 (.t 7), (some (6, false))⟩,
  ⟨(some 9), .bin .gtr .num (.t 8) (.c (.int .i64 12)), (some (6, false))⟩,
  ⟨(some 10), .pick (.t 6) (.c (.bool true)) (.t 9), none⟩,
  ⟨(some 11), .move (.t 10), none⟩,
  ⟨(some 12), .fieldAddr 1 (.t 1), (some (11, false))⟩,
  ⟨(some 13), .load1 (.t 12), (some (11, false))⟩,
  ⟨(some 14), .call 20 [(.t 13)], (some (11, false))⟩,
  ⟨(some 15), .un .not (.t 14), (some (11, false))⟩,
  ⟨(some 16), .pick (.t 11) (.c (.bool true)) (.t 15), none⟩,
  ⟨(some 17), .move (.t 16), none⟩,
  ⟨(some 18), .fieldAddr 2 (.t 1), (some (17, false))⟩,
  ⟨(some 19), .load1 (.t 18), (some (17, false))⟩,
  ⟨(some 20), .call 20 [(.t 19)], (some (17, false))⟩,
  ⟨(some 21), .un .not (.t 20), (some (17, false))⟩,
  ⟨(some 22), .pick (.t 17) (.c (.bool true)) (.t 21), none⟩,
  ⟨(some 23), .move (.t 22), none⟩,
  ⟨(some 24), .fieldAddr 1 (.t 1), (some (23, false))⟩,
  ⟨(some 25), .load1 (.t 24), (some (23, false))⟩,
  ⟨(some 26), .fieldAddr 2 (.t 1), (some (23, false))⟩,
  ⟨(some 27), .load1 (.t 26), (some (23, false))⟩,
  ⟨(some 28), .bin .eql .num (.t 25) (.t 27), (some (23, false))⟩,
  ⟨(some 29), .pick (.t 23) (.c (.bool true)) (.t 28), none⟩,
  ⟨(some 30), .move (.t 29), none⟩,
  ⟨(some 31), .fieldAddr 3 (.t 1), (some (30, false))⟩,
  ⟨(some 32), .load1 (.t 31), (some (30, false))⟩,
  ⟨(some 33), .call 21 [(.t 32)], (some (30, false))⟩,
  ⟨(some 34), .un .not (.t 33), (some (30, false))⟩,
  ⟨(some 35), .pick (.t 30) (.c (.bool true)) (.t 34), none⟩,
  ⟨(some 36), .move (.t 35), none⟩,
  ⟨(some 37), .fieldAddr 4 (.t 1), (some (36, false))⟩,
  ⟨(some 38), .load1 (.t 37), (some (36, false))⟩,
  ⟨(some 39), .call 21 [(.t 38)], (some (36, false))⟩,
  ⟨(some 40), .un .not (.t 39), (some (36, false))⟩,
  ⟨(some 41), .pick (.t 36) (.c (.bool true)) (.t 40), none⟩]
def b9_1 : SCode := .region r9_1
abbrev r9_2 : List MOper := [⟨(some 2), .move (.c (.bool false)), none⟩]
def b9_2 : SCode := .region r9_2
def b9_3 : SCode := .seq b9_2 .ret
def b9_4 : SCode := .cond (.t 41) b9_3 .skip
def b9_5 : SCode := .seq b9_1 b9_4
abbrev r9_6 : List MOper := [⟨(some 42), .fieldAddr 4 (.t 1), none⟩,
  ⟨(some 43), .load1 (.t 42), none⟩,
  ⟨(some 44), .bin .eql .num (.t 43) (.c (.int .i64 0)), none⟩,
  ⟨(some 45), .move (.t 44), none⟩,
  ⟨(some 46), .fieldAddr 0 (.t 1), (some (45, false))⟩,
  ⟨(some 47), .load1 (.t 46), (some (45, false))⟩,
  ⟨(some 48), .buildSlice [.int .i64 0] 1 2 [(0, 1, (.c (.int .i64 5))), (1, 1, (.c (.int .i64 6)))], (some (45, false))⟩,
  ⟨(some 49), .call 22 [(.t 47), (.t 48)], (some (45, false))⟩,
  ⟨(some 50), .pick (.t 45) (.c (.bool true)) (.t 49), none⟩,
  ⟨(some 51), .move (.t 50), none⟩,
  ⟨(some 52), .loadN 27 (.t 1), (some (51, true))⟩,
  ⟨(some 53), .call 23 [(.t 52)], (some (51, true))⟩,
  ⟨(some 54), .pick (.t 51) (.t 53) (.c (.bool false)), none⟩,
  ⟨(some 55), .move (.t 54), none⟩,
  ⟨(some 56), .loadN 27 (.t 1), (some (55, true))⟩,
  ⟨(some 57), .call 24 [(.t 56)], (some (55, true))⟩,
  ⟨(some 58), .pick (.t 55) (.t 57) (.c (.bool false)), none⟩,
  ⟨(some 59), .move (.t 58), none⟩,
  ⟨(some 60), .loadN 27 (.t 1), (some (59, true))⟩,
  ⟨(some 61), .call 25 [(.t 60)], (some (59, true))⟩,
  ⟨(some 62), .pick (.t 59) (.t 61) (.c (.bool false)), none⟩,
  ⟨(some 2), .move (.t 62), none⟩]
def b9_6 : SCode := .region r9_6
def b9_7 : SCode := .seq b9_6 .ret
def b9_8 : SCode := .seq b9_5 b9_7
def b9_9 : SCode := .seq b9_0 b9_8
def s9 : SFunc := ⟨63, [.t 2], b9_9⟩
theorem c9 : sFn Try.prog 9 = some s9 := by kernel_rfl
theorem Z9 : XR b9_0 r9_0 ∧ XR b9_1 r9_1 ∧ XR b9_2 r9_2 ∧ XS b9_3 b9_2 .ret ∧ XC b9_4 (.t 41) b9_3 .skip ∧ XS b9_5 b9_1 b9_4 ∧ XR b9_6 r9_6 ∧ XS b9_7 b9_6 .ret ∧ XS b9_8 b9_5 b9_7 ∧ XS b9_9 b9_0 b9_8 ∧ XY s9 63 b9_9 [.t 2] := ⟨rfl, rfl, rfl, rfl, sC_cond, rfl, rfl, rfl, rfl, rfl, rfl⟩
abbrev r24_0 : List MOper := [⟨(some 1), .box (.t 0), none⟩,
  ⟨(some 2), .move (.c (.bool false)), none⟩]
def b24_0 : SCode := .region r24_0
abbrev r24_1 : List MOper := [⟨(some 8), .fieldAddr 24 (.t 1), none⟩,
  ⟨(some 9), .load1 (.t 8), none⟩,
  ⟨(some 10), .lenSl (.t 9), none⟩,
  ⟨(some 11), .move (.c (.int .i64 0)), none⟩]
def b24_1 : SCode := .region r24_1
abbrev r24_2 : List MOper := [⟨(some 12), .bin .lss .num (.t 11) (.t 10), none⟩]
def b24_2 : SCode := .region r24_2
def b24_3 : SCode := .cond (.t 12) .skip (.exit 0)
abbrev r24_4 : List MOper := [⟨(some 13), .indexAddr 9 (.t 9) (.t 11), none⟩,
  ⟨(some 14), .loadN 9 (.t 13), none⟩,
  ⟨(some 4), .alloc [.int .i64 0, .int .i64 0, .int .i64 0, .int .i64 0, .bool false, .str [], .nilslice, .str [], .bool false], none⟩,
  ⟨none, .store 9 (.t 4) (.t 14), none⟩]
def b24_4 : SCode := .region r24_4
abbrev r24_5 : List MOper := [⟨(some 16), .fieldAddr 1 (.t 4), none⟩,
  ⟨(some 17), .loadN 8 (.t 16), none⟩,
  ⟨(some 18), .call 41 [(.t 17)], none⟩,
  ⟨(some 15), .move (.t 18), none⟩,
  ⟨(some 19), .extract (.t 15) 0, none⟩,
  ⟨(some 20), .extract (.t 15) 1, none⟩,
  ⟨(some 5), .move (.t 19), none⟩,
  ⟨(some 6), .move (.t 20), none⟩]
def b24_5 : SCode := .region r24_5
abbrev r24_6 : List MOper := [⟨(some 21), .move (.t 6), none⟩,
  ⟨(some 22), .bin .neq .num (.t 21) (.c (.int .i64 0)), none⟩,
  ⟨(some 23), .move (.t 22), none⟩,
  ⟨(some 24), .fieldAddr 0 (.t 4), (some (23, false))⟩,
  ⟨(some 25), .load1 (.t 24), (some (23, false))⟩,
  ⟨(some 26), .call 21 [(.t 25)], (some (23, false))⟩,
  ⟨(some 27), .un .not (.t 26), (some (23, false))⟩,
  ⟨(some 28), .pick (.t 23) (.c (.bool true)) (.t 27), none⟩]
def b24_6 : SCode := .region r24_6
abbrev r24_7 : List MOper := [⟨(some 2), .move (.c (.bool false)), none⟩]
def b24_7 : SCode := .region r24_7
def b24_8 : SCode := .seq b24_7 .ret
def b24_9 : SCode := .cond (.t 28) b24_8 .skip
def b24_10 : SCode := .seq b24_6 b24_9
def b24_11 : SCode := .seq b24_5 b24_10
def b24_12 : SCode := .seq b24_4 b24_11
def b24_13 : SCode := .block 1 b24_12
abbrev r24_14 : List MOper := [⟨(some 29), .bin .add .num (.t 11) (.c (.int .i64 1)), none⟩,
  ⟨(some 11), .move (.t 29), none⟩]
def b24_14 : SCode := .region r24_14
def b24_15 : SCode := .seq b24_13 b24_14
def b24_16 : SCode := .seq b24_3 b24_15
def b24_17 : SCode := .seq b24_2 b24_16
def b24_18 : SCode := .loop b24_17
def b24_19 : SCode := .block 0 b24_18
def b24_20 : SCode := .seq b24_1 b24_19
abbrev r24_21 : List MOper := [⟨(some 30), .fieldAddr 23 (.t 1), none⟩,
  ⟨(some 31), .load1 (.t 30), none⟩,
  ⟨(some 32), .lenSl (.t 31), none⟩,
  ⟨(some 33), .bin .eql .num (.t 32) (.c (.int .i64 0)), none⟩,
  ⟨(some 34), .move (.t 33), none⟩,
  ⟨(some 35), .fieldAddr 24 (.t 1), (some (34, true))⟩,
  ⟨(some 36), .load1 (.t 35), (some (34, true))⟩,
  ⟨(some 37), .lenSl (.t 36), (some (34, true))⟩,
  ⟨(some 38), .bin .eql .num (.t 37) (.c (.int .i64 0)), (some (34, true))⟩,
  ⟨(some 39), .pick (.t 34) (.t 38) (.c (.bool false)), none⟩,
  ⟨(some 40), .move (.t 39), none⟩,
  ⟨(some 41), .fieldAddr 0 (.t 1), (some (40, false))⟩,
  ⟨(some 42), .load1 (.t 41), (some (40, false))⟩,
  ⟨(some 43), .buildSlice [.int .i64 0] 1 2 [(0, 1, (.c (.int .i64 8))), (1, 1, (.c (.int .i64 9)))], (some (40, false))⟩,
  ⟨(some 44), .call 22 [(.t 42), (.t 43)], (some (40, false))⟩,
  ⟨(some 45), .pick (.t 40) (.c (.bool true)) (.t 44), none⟩,
  ⟨(some 7), .move (.t 45), none⟩]
def b24_21 : SCode := .region r24_21
abbrev r24_22 : List MOper := [⟨(some 46), .move (.t 7), none⟩,
  ⟨(some 47), .move (.t 46), none⟩,
  ⟨(some 48), .fieldAddr 3 (.t 1), (some (47, true))⟩,
  ⟨(some 49), .load1 (.t 48), (some (47, true))⟩,
  ⟨(some 50), .bin .eql .num (.t 49) (.c (.int .i64 0)), (some (47, true))⟩,
  ⟨(some 51), .move (.t 50), (some (47, true))⟩,
  ⟨(some 52), .fieldAddr 21 (.t 1), (some (51, true))⟩,
  ⟨(some 53), .loadN 2 (.t 52), (some (51, true))⟩,
  ⟨(some 54), .build [.str [], .str []] [], (some (51, true))⟩,
  ⟨(some 55), .bin .eql (.flat [.s, .s]) (.t 53) (.t 54), (some (51, true))⟩,
  ⟨(some 56), .pick (.t 51) (.t 55) (.c (.bool false)), (some (47, true))⟩,
  ⟨(some 57), .move (.t 56), (some (47, true))⟩,
  ⟨(some 58), .fieldAddr 0 (.t 1), (some (57, false))⟩,
  ⟨(some 59), .load1 (.t 58), (some (57, false))⟩,
  ⟨(some 60), .buildSlice [.int .i64 0] 1 6 [(0, 1, (.c (.int .i64 7))), (1, 1, (.c (.int .i64 11))), (2, 1, (.c (.int .i64 10))), (3, 1, (.c (.int .i64 12))), (4, 1, (.c (.int .i64 8))), (5, 1, (.c (.int .i64 9)))], (some (57, false))⟩,
  ⟨(some 61), .call 22 [(.t 59), (.t 60)], (some (57, false))⟩,
  ⟨(some 62), .pick (.t 57) (.c (.bool true)) (.t 61), (some (47, true))⟩,
  ⟨(some 63), .pick (.t 47) (.t 62) (.c (.bool false)), none⟩,
  ⟨(some 2), .move (.t 63), none⟩]
def b24_22 : SCode := .region r24_22
def b24_23 : SCode := .seq b24_22 .ret
def b24_24 : SCode := .seq b24_21 b24_23
def b24_25 : SCode := .seq b24_20 b24_24
def b24_26 : SCode := .seq b24_0 b24_25
def s24 : SFunc := ⟨64, [.t 2], b24_26⟩
theorem c24 : sFn Try.prog 24 = some s24 := by kernel_rfl
theorem Z24 : XR b24_0 r24_0 ∧ XR b24_1 r24_1 ∧ XR b24_2 r24_2 ∧ XC b24_3 (.t 12) .skip (.exit 0) ∧ XR b24_4 r24_4 ∧ XR b24_5 r24_5 ∧ XR b24_6 r24_6 ∧ XR b24_7 r24_7 ∧ XS b24_8 b24_7 .ret ∧ XC b24_9 (.t 28) b24_8 .skip ∧ XS b24_10 b24_6 b24_9 ∧ XS b24_11 b24_5 b24_10 ∧ XS b24_12 b24_4 b24_11 ∧ XB b24_13 1 b24_12 ∧ XR b24_14 r24_14 ∧ XS b24_15 b24_13 b24_14 ∧ XS b24_16 b24_3 b24_15 ∧ XS b24_17 b24_2 b24_16 ∧ XB b24_19 0 b24_18 ∧ XS b24_20 b24_1 b24_19 ∧ XR b24_21 r24_21 ∧ XR b24_22 r24_22 ∧ XS b24_23 b24_22 .ret ∧ XS b24_24 b24_21 b24_23 ∧ XS b24_25 b24_20 b24_24 ∧ XS b24_26 b24_0 b24_25 ∧ XY s24 64 b24_26 [.t 2] := ⟨rfl, rfl, rfl, sC_cond, rfl, rfl, rfl, rfl, rfl, sC_cond, rfl, rfl, rfl, rfl, rfl, rfl, rfl, rfl, rfl, rfl, rfl, rfl, rfl, rfl, rfl, rfl, rfl⟩
abbrev r25_0 : List MOper := [⟨(some 1), .box (.t 0), none⟩,
  ⟨(some 2), .move (.c (.bool false)), none⟩]
def b25_0 : SCode := .region r25_0
abbrev r25_1 : List MOper := [⟨(some 3), .fieldAddr 0 (.t 1), none⟩,
  ⟨(some 4), .load1 (.t 3), none⟩,
  ⟨(some 5), .buildSlice [.int .i64 0] 1 2 [(0, 1, (.c (.int .i64 4))), (1, 1, (.c (.int .i64 6)))], none⟩,
  ⟨(some 6), .call 22 [(.t 4), (.t 5)], none⟩]
def b25_1 : SCode := .region r25_1
abbrev r25_2 : List MOper := [⟨(some 7), .fieldAddr 25 (.t 1), none⟩,
  ⟨(some 8), .loadN 2 (.t 7), none⟩,
  ⟨(some 9), .call 44 [(.t 8), (.c (.int .i64 5))], none⟩,
  ⟨(some 10), .move (.t 9), none⟩,
  ⟨(some 11), .fieldAddr 25 (.t 1), (some (10, true))⟩,
  ⟨(some 12), .fieldAddr 0 (.t 11), (some (10, true))⟩,
  ⟨(some 13), .load1 (.t 12), (some (10, true))⟩,
  ⟨(some 14), .call 21 [(.t 13)], (some (10, true))⟩,
  ⟨(some 15), .pick (.t 10) (.t 14) (.c (.bool false)), none⟩,
  ⟨(some 2), .move (.t 15), none⟩]
def b25_2 : SCode := .region r25_2
def b25_3 : SCode := .seq b25_2 .ret
def b25_4 : SCode := .cond (.t 6) b25_3 .skip
def b25_5 : SCode := .seq b25_1 b25_4
abbrev r25_6 : List MOper := [⟨(some 16), .fieldAddr 25 (.t 1), none⟩,
  ⟨(some 17), .fieldAddr 0 (.t 16), none⟩,
  ⟨(some 18), .load1 (.t 17), none⟩,
  ⟨(some 19), .bin .eql .num (.t 18) (.c (.int .i64 0)), none⟩,
  ⟨(some 20), .move (.t 19), none⟩,
  ⟨(some 21), .fieldAddr 25 (.t 1), (some (20, true))⟩,
  ⟨(some 22), .fieldAddr 1 (.t 21), (some (20, true))⟩,
  ⟨(some 23), .load1 (.t 22), (some (20, true))⟩,
  ⟨(some 24), .lenSl (.t 23), (some (20, true))⟩,
  ⟨(some 25), .bin .eql .num (.t 24) (.c (.int .i64 0)), (some (20, true))⟩,
  ⟨(some 26), .pick (.t 20) (.t 25) (.c (.bool false)), none⟩,
  ⟨(some 2), .move (.t 26), none⟩]
def b25_6 : SCode := .region r25_6
def b25_7 : SCode := .seq b25_6 .ret
def b25_8 : SCode := .seq b25_5 b25_7
def b25_9 : SCode := .seq b25_0 b25_8
def s25 : SFunc := ⟨27, [.t 2], b25_9⟩
theorem c25 : sFn Try.prog 25 = some s25 := by kernel_rfl
theorem Z25 : XR b25_0 r25_0 ∧ XR b25_1 r25_1 ∧ XR b25_2 r25_2 ∧ XS b25_3 b25_2 .ret ∧ XC b25_4 (.t 6) b25_3 .skip ∧ XS b25_5 b25_1 b25_4 ∧ XR b25_6 r25_6 ∧ XS b25_7 b25_6 .ret ∧ XS b25_8 b25_5 b25_7 ∧ XS b25_9 b25_0 b25_8 ∧ XY s25 27 b25_9 [.t 2] := ⟨rfl, rfl, rfl, rfl, sC_cond, rfl, rfl, rfl, rfl, rfl, rfl⟩

end
set_option maxHeartbeats 4000000
set_option maxRecDepth 10000
/-! Spans. -/
def okLa (x : LaV) : Bool := !x.rep.bad && numB x.seq
def rowsB (n : NoteV) : Bool := (decide ((n.l.length : Int) = 0) && decide ((n.last.length : Int) = 0)) || [8, 9].contains n.kind
def spanB (n : NoteV) : Bool := (decide (n.epoch = 0) && (decide (n.sf = []) && decide (n.st = []))) || [7, 11, 10, 12, 8, 9].contains n.kind
def spansB (n : NoteV) : Bool := n.last.all okLa && (rowsB n && spanB n)
def S1 : PCall := rowQ 41 repPD (rowQ 21 numberD (rowQ 22 hasD noCall))
theorem S1_app {f : FuncId} {args : List AV} {σ : AHeap} {K : AV → AHeap → Prop} : S1 f args σ K = rowQ 41 repPD (rowQ 21 numberD (rowQ 22 hasD noCall)) f args σ K := _root_.id rfl
theorem S1_sound : Sound Try.prog S1 := rowQ_sound repPD_ok (rowQ_sound numberD_ok (rowQ_sound hasD_ok (noCall_sound _)))
def spI (x : NoteV) (n : Nat) (e : Env) (σ : AHeap) : Prop :=
  ∃ i : Nat, i ≤ x.last.length ∧ n = x.last.length - i ∧ hget σ 0 = some x.cells ∧ (x.last.take i).all okLa = true ∧ e 1 = .ptr 0 0 ∧ e 9 = .imm (x.last.map LaV.cells) false false ∧ e 10 = .int .i64 (x.last.length : Int) ∧ e 11 = .int .i64 (i : Int)
theorem sp_step (n : NoteV) (hs : n.sz) (k : Nat) (e : Env) (σ : AHeap) (h : spI n k e σ) :
    sC S1 0 b24_17 (unw S1 0 (loopR S1 0 (RetQ [MRes.t 2] fun r _ => r.pure = true ∧ r = .bool (spansB n)) (.block 0 (.seq b24_24 .fin)) (spI n) k) .fin) e σ := by
  obtain ⟨i, hi, hk, g0, hall, e1, e9, e10, e11⟩ := h
  have hml : (n.last.map LaV.cells).length = n.last.length := by simp
  have hll := hs.last
  rcases Nat.lt_or_ge i n.last.length with hlt | hge
  · have hlt' : (i : Int) < (n.last.length : Int) := by omega
    have hge0 : (0 : Int) ≤ (i : Int) := by omega
    obtain ⟨x, hx⟩ : ∃ x, n.last[i]? = some x := ⟨_, List.getElem?_eq_getElem hlt⟩
    have hxx : (n.last.map LaV.cells)[i]? = some [.int .i64 x.seq, .int .i64 x.rep.client, .int .i64 x.rep.seq, .int .i64 x.rep.err, .bool x.rep.found, .str x.rep.val, .imm (recs x.rep.l) false false, .str x.rep.next, .bool x.rep.more] := by simp [hx, LaV.cells, RepV.cells]
    have hw : IntKind.wrap .i64 ((i : Int) + 1) = ((i + 1 : Nat) : Int) := by rw [Gz.wrap64 (by omega)]; omega
    have htk : n.last.take (i + 1) = n.last.take i ++ [x] := by rw [List.take_add_one, hx]; rfl
    have sn : ∀ c c' : List AV, hget (hset (hpush σ c) (List.length σ) c') (List.length σ) = some c' := fun c c' => set_same push_new'
    have s0 : ∀ c c' : List AV, hget (hset (hpush σ c) (List.length σ) c') 0 = some n.cells := fun c c' => al_frame g0
    have hsz := hs.la x (List.mem_of_getElem? hx)
    have bad : okLa x = false → spansB n = false := fun hb => by
      have : n.last.all okLa = false := by
        rw [Bool.eq_false_iff]; intro ha
        have := List.all_eq_true.1 ha x (List.mem_of_getElem? hx)
        rw [hb] at this; cases this
      simp only [spansB, this]; rfl
    cases h1 : x.rep.bad with
    | true =>
      simp only [S1_app, Z24, base1, baseE, ↓reduceIte, Nat.reduceAdd, Nat.reduceSub, Nat.reduceMul, Nat.reduceEqDiff, Nat.reduceLeDiff, Nat.reduceLT, Int.reduceLT, Int.reduceLE, Int.reduceEq, Int.reduceNe, Int.reduceToNat, Int.reduceAdd, Int.reduceSub, reduceCtorEq, Nat.reduceBEq, Nat.reduceBNe, loopR_exit, loopR_ret, repPD_eq, numberD_eq, hasD_eq, hasK_2, hasK_6, e1, e9, e10, e11, hlt', hlt, hge0, hxx, hml, Int.toNat_natCast, push_new', sn, s0, hsz, packR_t, h1]
      exact ⟨rfl, by rw [bad (by simp only [okLa, h1]; rfl)]⟩
    | false =>
    cases h2 : numB x.seq with
    | false =>
      simp only [S1_app, Z24, base1, baseE, ↓reduceIte, Nat.reduceAdd, Nat.reduceSub, Nat.reduceMul, Nat.reduceEqDiff, Nat.reduceLeDiff, Nat.reduceLT, Int.reduceLT, Int.reduceLE, Int.reduceEq, Int.reduceNe, Int.reduceToNat, Int.reduceAdd, Int.reduceSub, reduceCtorEq, Nat.reduceBEq, Nat.reduceBNe, loopR_exit, loopR_ret, repPD_eq, numberD_eq, hasD_eq, hasK_2, hasK_6, e1, e9, e10, e11, hlt', hlt, hge0, hxx, hml, Int.toNat_natCast, push_new', sn, s0, hsz, packR_f, h1, h2]
      exact ⟨rfl, by rw [bad (by simp only [okLa, h1, h2]; rfl)]⟩
    | true =>
    simp only [S1_app, Z24, base1, baseE, ↓reduceIte, Nat.reduceAdd, Nat.reduceSub, Nat.reduceMul, Nat.reduceEqDiff, Nat.reduceLeDiff, Nat.reduceLT, Int.reduceLT, Int.reduceLE, Int.reduceEq, Int.reduceNe, Int.reduceToNat, Int.reduceAdd, Int.reduceSub, reduceCtorEq, Nat.reduceBEq, Nat.reduceBNe, loopR_exit, loopR_ret, repPD_eq, numberD_eq, hasD_eq, hasK_2, hasK_6, e1, e9, e10, e11, hlt', hlt, hge0, hxx, hml, Int.toNat_natCast, push_new', sn, s0, hsz, packR_f, h1, h2, hw]
    rw [loopR_normal]
    refine ⟨n.last.length - (i + 1), _, _, by omega, .refl _ _ _, i + 1, hlt, rfl, al_frame g0, ?_, ?_, ?_, ?_, ?_⟩
    · rw [htk, List.all_append, hall]
      simp only [List.all_cons, List.all_nil, okLa, h1, h2]; rfl
    all_goals simp only [putD_some, putD_none, Nat.reduceEqDiff, ↓reduceIte, e1, e9, e10, e11, hw]
  · have hlt' : ¬ (i : Int) < (n.last.length : Int) := by omega
    have hie : i = n.last.length := by omega
    subst hie
    rw [List.take_length] at hall
    have p0 : ∀ c : List AV, hget (hpush σ c) 0 = some n.cells := fun c => push_old g0
    have p1 : ∀ c c' : List AV, hget (hpush (hpush σ c) c') 0 = some n.cells := fun c c' => push_old (push_old g0)
    have hl1 : (n.l.map recC).length = n.l.length := by simp
    simp only [NoteV.cells] at g0 p0 p1
    have fin : ∀ (b : Bool), b = (rowsB n && spanB n) → (AV.bool b).pure = true ∧ AV.bool b = .bool (spansB n) := fun b hb => ⟨rfl, by rw [hb]; simp only [spansB, hall]; rfl⟩
    cases g1 : decide ((n.l.length : Int) = 0) <;> cases g2 : decide ((n.last.length : Int) = 0) <;> cases g3 : [8, 9].contains n.kind <;> cases ge : decide (n.epoch = 0) <;> cases gf : decide (n.sf = []) <;> cases gt : decide (n.st = []) <;> cases gk : [7, 11, 10, 12, 8, 9].contains n.kind <;>
      (simp only [S1_app, Z24, base1, baseE, ↓reduceIte, Nat.reduceAdd, Nat.reduceSub, Nat.reduceMul, Nat.reduceEqDiff, Nat.reduceLeDiff, Nat.reduceLT, Int.reduceLT, Int.reduceLE, Int.reduceEq, Int.reduceNe, Int.reduceToNat, Int.reduceAdd, Int.reduceSub, reduceCtorEq, Nat.reduceBEq, Nat.reduceBNe, loopR_exit, loopR_ret, hasD_eq, hasK_2, hasK_6, e1, e9, e10, e11, hlt', hml, hl1, push_new', g0, p0, p1, g1, g2, g3, ge, gf, gt, gk]; exact fin _ (by simp only [rowsB, spanB, g1, g2, g3, ge, gf, gt, gk]; rfl))
theorem spans_ok (n : NoteV) (hs : n.sz) : Tri Try.prog 24 [.agg n.cells] [] fun r _ => r.pure = true ∧ r = .bool (spansB n) := by
  refine Tri.of_s c24 S1_sound ?_
  have hml : (n.last.map LaV.cells).length = n.last.length := by simp
  have hc : n.cells[24]? = some (.imm (n.last.map LaV.cells) false false) := rfl
  simp only [S1_app, Z24, base1, baseE, ↓reduceIte, Nat.reduceAdd, Nat.reduceSub, Nat.reduceMul, Nat.reduceEqDiff, Nat.reduceLeDiff, Nat.reduceLT, Int.reduceLT, Int.reduceLE, Int.reduceEq, Int.reduceNe, Int.reduceToNat, Int.reduceAdd, Int.reduceSub, reduceCtorEq, Nat.reduceBEq, Nat.reduceBNe, hc, hml]
  exact sC_inv (a := b24_17) (spI n) n.last.length _ _ (.refl _ _ _) ⟨0, Nat.zero_le _, rfl, rfl, rfl, rfl, rfl, rfl, rfl⟩ (sp_step n hs)
/-! Maps. -/
def mapsB (n : NoteV) : Bool := if [4, 6].contains n.kind then atlasB n.aep n.sh && numB n.aep else decide (n.aep = 0) && decide ((n.sh.length : Int) = 0)
def atlasD (args : List AV) (σ : AHeap) (K : AV → AHeap → Prop) : Prop := ∃ (ep : Int) (sh : List ShV), args = [.agg [.int .i64 ep, .imm (sh.map ShV.cells) false false], .int .i64 5] ∧ sh.length ≤ 1000000 ∧ K (.bool (atlasB ep sh)) σ
theorem atlasD_eq {ep : Int} {sh : List ShV} {σ : AHeap} {K : AV → AHeap → Prop} : atlasD [.agg [.int .i64 ep, .imm (sh.map ShV.cells) false false], .int .i64 5] σ K = (sh.length ≤ 1000000 ∧ K (.bool (atlasB ep sh)) σ) := by
  apply propext
  refine ⟨fun ⟨ep', sh', h1, h2, h3⟩ => ?_, fun h => ⟨ep, sh, rfl, h.1, h.2⟩⟩
  simp only [List.cons.injEq, AV.agg.injEq, AV.int.injEq, AV.imm.injEq, true_and, and_true] at h1
  obtain ⟨rfl, h1⟩ := h1
  have := map_inj sh_inj h1
  subst this
  exact ⟨h2, h3⟩
theorem atlasD_ok (args : List AV) (σ : AHeap) (K : AV → AHeap → Prop) (h : atlasD args σ K) : Tri Try.prog 44 args σ K := by
  obtain ⟨ep, sh, rfl, hl, h⟩ := h
  exact (Tri.pureD (by simp only [pureL, AV.pure, rowsSh_pure, Bool.and_self]) (atlas_ok ep sh hl) σ).mono fun r σ' hr => by rw [hr.1, hr.2]; exact h
def P1 : PCall := rowQ 44 atlasD (rowQ 21 numberD (rowQ 22 hasD noCall))
theorem P1_app {f : FuncId} {args : List AV} {σ : AHeap} {K : AV → AHeap → Prop} : P1 f args σ K = rowQ 44 atlasD (rowQ 21 numberD (rowQ 22 hasD noCall)) f args σ K := _root_.id rfl
theorem P1_sound : Sound Try.prog P1 := rowQ_sound atlasD_ok (rowQ_sound numberD_ok (rowQ_sound hasD_ok (noCall_sound _)))
theorem maps_ok (n : NoteV) (hs : n.sz) : Tri Try.prog 25 [.agg n.cells] [] fun r _ => r.pure = true ∧ r = .bool (mapsB n) := by
  refine Tri.of_s c25 P1_sound ?_
  have hl := hs.sh
  have hml : (n.sh.map ShV.cells).length = n.sh.length := by simp
  cases h1 : [4, 6].contains n.kind <;> cases h2 : atlasB n.aep n.sh <;> cases h3 : numB n.aep <;> cases h4 : decide (n.aep = 0) <;> cases h5 : decide ((n.sh.length : Int) = 0) <;>
    (simp only [NoteV.cells, P1_app, Z25, base1, baseE, ↓reduceIte, Nat.reduceAdd, Nat.reduceSub, Nat.reduceMul, Nat.reduceEqDiff, Nat.reduceLeDiff, Nat.reduceLT, Int.reduceLT, Int.reduceLE, Int.reduceEq, Int.reduceNe, Int.reduceToNat, Int.reduceAdd, Int.reduceSub, reduceCtorEq, Nat.reduceBEq, Nat.reduceBNe, atlasD_eq, numberD_eq, hasD_eq, hasK_2, hml, hl, h1, h2, h3, h4, h5]; exact ⟨rfl, by simp only [mapsB, h1, h2, h3, h4, h5]; rfl⟩)
/-! May. -/
def headB (n : NoteV) : Bool := !decide (n.kind < 1) && (!decide (12 < n.kind) && (partyB n.from_ && (partyB n.to && (!decide (n.from_ = n.to) && (numB n.epoch && numB n.tick)))))
def tickB (n : NoteV) : Bool := decide (n.tick = 0) || [5, 6].contains n.kind
def mayB (n : NoteV) : Bool := headB n && (tickB n && (asksB n && (spansB n && mapsB n)))
def asksD (args : List AV) (σ : AHeap) (K : AV → AHeap → Prop) : Prop := ∃ n : NoteV, args = [.agg n.cells] ∧ n.sz ∧ K (.bool (asksB n)) σ
theorem asksD_eq {n : NoteV} {σ : AHeap} {K : AV → AHeap → Prop} : asksD [.agg [.int .i64 n.kind, .int .i64 n.from_, .int .i64 n.to, .int .i64 n.epoch, .int .i64 n.tick, .int .i64 n.ask.do_, .int .i64 n.ask.client, .int .i64 n.ask.seq, .str n.ask.text, .str n.ask.val, .str n.ask.from_, .str n.ask.to, .int .i64 n.ask.limit, .int .i64 n.rep.client, .int .i64 n.rep.seq, .int .i64 n.rep.err, .bool n.rep.found, .str n.rep.val, .imm (recs n.rep.l) false false, .str n.rep.next, .bool n.rep.more, .str n.sf, .str n.st, .imm (n.l.map recC) false false, .imm (n.last.map LaV.cells) false false, .int .i64 n.aep, .imm (n.sh.map ShV.cells) false false]] σ K = (n.sz ∧ K (.bool (asksB n)) σ) := by
  apply propext
  refine ⟨fun ⟨m, h1, h2, h3⟩ => ?_, fun h => ⟨n, rfl, h.1, h.2⟩⟩
  have : n = m := note_inj (List.cons.inj h1).1
  subst this
  exact ⟨h2, h3⟩
theorem asksD_ok (args : List AV) (σ : AHeap) (K : AV → AHeap → Prop) (h : asksD args σ K) : Tri Try.prog 23 args σ K := by
  obtain ⟨n, rfl, hs, h⟩ := h
  exact (Tri.pureD (by simp only [pureL, note_pure, Bool.and_self]) (asks_ok n hs) σ).mono fun r σ' hr => by rw [hr.1, hr.2]; exact h
def spansD (args : List AV) (σ : AHeap) (K : AV → AHeap → Prop) : Prop := ∃ n : NoteV, args = [.agg n.cells] ∧ n.sz ∧ K (.bool (spansB n)) σ
theorem spansD_eq {n : NoteV} {σ : AHeap} {K : AV → AHeap → Prop} : spansD [.agg [.int .i64 n.kind, .int .i64 n.from_, .int .i64 n.to, .int .i64 n.epoch, .int .i64 n.tick, .int .i64 n.ask.do_, .int .i64 n.ask.client, .int .i64 n.ask.seq, .str n.ask.text, .str n.ask.val, .str n.ask.from_, .str n.ask.to, .int .i64 n.ask.limit, .int .i64 n.rep.client, .int .i64 n.rep.seq, .int .i64 n.rep.err, .bool n.rep.found, .str n.rep.val, .imm (recs n.rep.l) false false, .str n.rep.next, .bool n.rep.more, .str n.sf, .str n.st, .imm (n.l.map recC) false false, .imm (n.last.map LaV.cells) false false, .int .i64 n.aep, .imm (n.sh.map ShV.cells) false false]] σ K = (n.sz ∧ K (.bool (spansB n)) σ) := by
  apply propext
  refine ⟨fun ⟨m, h1, h2, h3⟩ => ?_, fun h => ⟨n, rfl, h.1, h.2⟩⟩
  have : n = m := note_inj (List.cons.inj h1).1
  subst this
  exact ⟨h2, h3⟩
theorem spansD_ok (args : List AV) (σ : AHeap) (K : AV → AHeap → Prop) (h : spansD args σ K) : Tri Try.prog 24 args σ K := by
  obtain ⟨n, rfl, hs, h⟩ := h
  exact (Tri.pureD (by simp only [pureL, note_pure, Bool.and_self]) (spans_ok n hs) σ).mono fun r σ' hr => by rw [hr.1, hr.2]; exact h
def mapsD (args : List AV) (σ : AHeap) (K : AV → AHeap → Prop) : Prop := ∃ n : NoteV, args = [.agg n.cells] ∧ n.sz ∧ K (.bool (mapsB n)) σ
theorem mapsD_eq {n : NoteV} {σ : AHeap} {K : AV → AHeap → Prop} : mapsD [.agg [.int .i64 n.kind, .int .i64 n.from_, .int .i64 n.to, .int .i64 n.epoch, .int .i64 n.tick, .int .i64 n.ask.do_, .int .i64 n.ask.client, .int .i64 n.ask.seq, .str n.ask.text, .str n.ask.val, .str n.ask.from_, .str n.ask.to, .int .i64 n.ask.limit, .int .i64 n.rep.client, .int .i64 n.rep.seq, .int .i64 n.rep.err, .bool n.rep.found, .str n.rep.val, .imm (recs n.rep.l) false false, .str n.rep.next, .bool n.rep.more, .str n.sf, .str n.st, .imm (n.l.map recC) false false, .imm (n.last.map LaV.cells) false false, .int .i64 n.aep, .imm (n.sh.map ShV.cells) false false]] σ K = (n.sz ∧ K (.bool (mapsB n)) σ) := by
  apply propext
  refine ⟨fun ⟨m, h1, h2, h3⟩ => ?_, fun h => ⟨n, rfl, h.1, h.2⟩⟩
  have : n = m := note_inj (List.cons.inj h1).1
  subst this
  exact ⟨h2, h3⟩
theorem mapsD_ok (args : List AV) (σ : AHeap) (K : AV → AHeap → Prop) (h : mapsD args σ K) : Tri Try.prog 25 args σ K := by
  obtain ⟨n, rfl, hs, h⟩ := h
  exact (Tri.pureD (by simp only [pureL, note_pure, Bool.and_self]) (maps_ok n hs) σ).mono fun r σ' hr => by rw [hr.1, hr.2]; exact h
def Y1 : PCall := rowQ 20 partyD (rowQ 21 numberD (rowQ 22 hasD (rowQ 23 asksD (rowQ 24 spansD (rowQ 25 mapsD noCall)))))
theorem Y1_app {f : FuncId} {args : List AV} {σ : AHeap} {K : AV → AHeap → Prop} : Y1 f args σ K = rowQ 20 partyD (rowQ 21 numberD (rowQ 22 hasD (rowQ 23 asksD (rowQ 24 spansD (rowQ 25 mapsD noCall))))) f args σ K := _root_.id rfl
theorem Y1_sound : Sound Try.prog Y1 := rowQ_sound partyD_ok (rowQ_sound numberD_ok (rowQ_sound hasD_ok (rowQ_sound asksD_ok (rowQ_sound spansD_ok (rowQ_sound mapsD_ok (noCall_sound _))))))
theorem may_ok (n : NoteV) (hs : n.sz) : Tri Try.prog 9 [.agg n.cells] [] fun r _ => r.pure = true ∧ r = .bool (mayB n) := by
  refine Tri.of_s c9 Y1_sound ?_
  cases h1 : decide (n.kind < 1) with
  | true =>
    simp only [NoteV.cells, Y1_app, Z9, base1, baseE, ↓reduceIte, Nat.reduceAdd, Nat.reduceSub, Nat.reduceMul, Nat.reduceEqDiff, Nat.reduceLeDiff, Nat.reduceLT, Int.reduceLT, Int.reduceLE, Int.reduceEq, Int.reduceNe, Int.reduceToNat, Int.reduceAdd, Int.reduceSub, reduceCtorEq, Nat.reduceBEq, Nat.reduceBNe, partyD_eq, numberD_eq, hasD_eq, hasK_2, asksD_eq, spansD_eq, mapsD_eq, hs, h1]
    exact ⟨rfl, by simp only [mayB, headB, h1]; rfl⟩
  | false =>
  cases h2 : decide (12 < n.kind) with
  | true =>
    simp only [NoteV.cells, Y1_app, Z9, base1, baseE, ↓reduceIte, Nat.reduceAdd, Nat.reduceSub, Nat.reduceMul, Nat.reduceEqDiff, Nat.reduceLeDiff, Nat.reduceLT, Int.reduceLT, Int.reduceLE, Int.reduceEq, Int.reduceNe, Int.reduceToNat, Int.reduceAdd, Int.reduceSub, reduceCtorEq, Nat.reduceBEq, Nat.reduceBNe, partyD_eq, numberD_eq, hasD_eq, hasK_2, asksD_eq, spansD_eq, mapsD_eq, hs, h1, h2]
    exact ⟨rfl, by simp only [mayB, headB, h1, h2]; rfl⟩
  | false =>
  cases h3 : partyB n.from_ with
  | false =>
    simp only [NoteV.cells, Y1_app, Z9, base1, baseE, ↓reduceIte, Nat.reduceAdd, Nat.reduceSub, Nat.reduceMul, Nat.reduceEqDiff, Nat.reduceLeDiff, Nat.reduceLT, Int.reduceLT, Int.reduceLE, Int.reduceEq, Int.reduceNe, Int.reduceToNat, Int.reduceAdd, Int.reduceSub, reduceCtorEq, Nat.reduceBEq, Nat.reduceBNe, partyD_eq, numberD_eq, hasD_eq, hasK_2, asksD_eq, spansD_eq, mapsD_eq, hs, h1, h2, h3]
    exact ⟨rfl, by simp only [mayB, headB, h1, h2, h3]; rfl⟩
  | true =>
  cases h4 : partyB n.to with
  | false =>
    simp only [NoteV.cells, Y1_app, Z9, base1, baseE, ↓reduceIte, Nat.reduceAdd, Nat.reduceSub, Nat.reduceMul, Nat.reduceEqDiff, Nat.reduceLeDiff, Nat.reduceLT, Int.reduceLT, Int.reduceLE, Int.reduceEq, Int.reduceNe, Int.reduceToNat, Int.reduceAdd, Int.reduceSub, reduceCtorEq, Nat.reduceBEq, Nat.reduceBNe, partyD_eq, numberD_eq, hasD_eq, hasK_2, asksD_eq, spansD_eq, mapsD_eq, hs, h1, h2, h3, h4]
    exact ⟨rfl, by simp only [mayB, headB, h1, h2, h3, h4]; rfl⟩
  | true =>
  cases h5 : decide (n.from_ = n.to) with
  | true =>
    simp only [NoteV.cells, Y1_app, Z9, base1, baseE, ↓reduceIte, Nat.reduceAdd, Nat.reduceSub, Nat.reduceMul, Nat.reduceEqDiff, Nat.reduceLeDiff, Nat.reduceLT, Int.reduceLT, Int.reduceLE, Int.reduceEq, Int.reduceNe, Int.reduceToNat, Int.reduceAdd, Int.reduceSub, reduceCtorEq, Nat.reduceBEq, Nat.reduceBNe, partyD_eq, numberD_eq, hasD_eq, hasK_2, asksD_eq, spansD_eq, mapsD_eq, hs, h1, h2, h3, h4, h5]
    exact ⟨rfl, by simp only [mayB, headB, h1, h2, h3, h4, h5]; rfl⟩
  | false =>
  cases h6 : numB n.epoch with
  | false =>
    simp only [NoteV.cells, Y1_app, Z9, base1, baseE, ↓reduceIte, Nat.reduceAdd, Nat.reduceSub, Nat.reduceMul, Nat.reduceEqDiff, Nat.reduceLeDiff, Nat.reduceLT, Int.reduceLT, Int.reduceLE, Int.reduceEq, Int.reduceNe, Int.reduceToNat, Int.reduceAdd, Int.reduceSub, reduceCtorEq, Nat.reduceBEq, Nat.reduceBNe, partyD_eq, numberD_eq, hasD_eq, hasK_2, asksD_eq, spansD_eq, mapsD_eq, hs, h1, h2, h3, h4, h5, h6]
    exact ⟨rfl, by simp only [mayB, headB, h1, h2, h3, h4, h5, h6]; rfl⟩
  | true =>
  cases h7 : numB n.tick with
  | false =>
    simp only [NoteV.cells, Y1_app, Z9, base1, baseE, ↓reduceIte, Nat.reduceAdd, Nat.reduceSub, Nat.reduceMul, Nat.reduceEqDiff, Nat.reduceLeDiff, Nat.reduceLT, Int.reduceLT, Int.reduceLE, Int.reduceEq, Int.reduceNe, Int.reduceToNat, Int.reduceAdd, Int.reduceSub, reduceCtorEq, Nat.reduceBEq, Nat.reduceBNe, partyD_eq, numberD_eq, hasD_eq, hasK_2, asksD_eq, spansD_eq, mapsD_eq, hs, h1, h2, h3, h4, h5, h6, h7]
    exact ⟨rfl, by simp only [mayB, headB, h1, h2, h3, h4, h5, h6, h7]; rfl⟩
  | true =>
  cases g1 : decide (n.tick = 0) <;> cases g2 : [5, 6].contains n.kind <;> cases g3 : asksB n <;> cases g4 : spansB n <;> cases g5 : mapsB n <;>
    (simp only [NoteV.cells, Y1_app, Z9, base1, baseE, ↓reduceIte, Nat.reduceAdd, Nat.reduceSub, Nat.reduceMul, Nat.reduceEqDiff, Nat.reduceLeDiff, Nat.reduceLT, Int.reduceLT, Int.reduceLE, Int.reduceEq, Int.reduceNe, Int.reduceToNat, Int.reduceAdd, Int.reduceSub, reduceCtorEq, Nat.reduceBEq, Nat.reduceBNe, partyD_eq, numberD_eq, hasD_eq, hasK_2, asksD_eq, spansD_eq, mapsD_eq, hs, h1, h2, h3, h4, h5, h6, h7, g1, g2, g3, g4, g5]; exact ⟨rfl, by simp only [mayB, headB, tickB, h1, h2, h3, h4, h5, h6, h7, g1, g2, g3, g4, g5]; rfl⟩)
end Go.Proofs.Ytndlgmciplckjab.note

/- What Small says of a row: where it says yes the row is small. No condition. -/
set_option linter.unusedVariables false
set_option linter.unusedSimpArgs false
namespace Go.Proofs.Ytndlgmciplckjab.note
open Go.ChangeShapes Go.WideShapes Go.ChangeAt Go.RowKit Go.Gz
section
variable {C : PCall} {n0 : Nat} {R : MExit → Env → AHeap → Prop} {k : Cont} {e : Env} {σ : AHeap}
abbrev r16_0 : List MOper := [⟨(some 1), .box (.t 0), none⟩,
  ⟨(some 2), .move (.c (.bool false)), none⟩]
def b16_0 : SCode := .region r16_0
abbrev r16_1 : List MOper := [⟨(some 6), .fieldAddr 5 (.t 1), none⟩,
  ⟨(some 7), .fieldAddr 3 (.t 6), none⟩,
  ⟨(some 8), .load1 (.t 7), none⟩,
  ⟨(some 9), .lenStr (.t 8), none⟩,
  ⟨(some 10), .fieldAddr 5 (.t 1), none⟩,
  ⟨(some 11), .fieldAddr 4 (.t 10), none⟩,
  ⟨(some 12), .load1 (.t 11), none⟩,
  ⟨(some 13), .lenStr (.t 12), none⟩,
  ⟨(some 14), .bin .add .num (.t 9) (.t 13), none⟩,
  ⟨(some 15), .fieldAddr 5 (.t 1), none⟩,
  ⟨(some 16), .fieldAddr 5 (.t 15), none⟩,
  ⟨(some 17), .load1 (.t 16), none⟩,
  ⟨(some 18), .lenStr (.t 17), none⟩,
  ⟨(some 19), .bin .add .num (.t 14) (.t 18), none⟩,
  ⟨(some 20), .fieldAddr 5 (.t 1), none⟩,
  ⟨(some 21), .fieldAddr 6 (.t 20), none⟩,
  ⟨(some 22), .load1 (.t 21), none⟩,
  ⟨(some 23), .lenStr (.t 22), none⟩,
  ⟨(some 24), .bin .add .num (.t 19) (.t 23), none⟩,
  ⟨(some 25), .fieldAddr 21 (.t 1), none⟩,
  ⟨(some 26), .fieldAddr 0 (.t 25), none⟩,
  ⟨(some 27), .load1 (.t 26), none⟩,
  ⟨(some 28), .lenStr (.t 27), none⟩,
  ⟨(some 29), .bin .add .num (.t 24) (.t 28), none⟩,
  ⟨(some 30), .fieldAddr 21 (.t 1), none⟩,
  ⟨(some 31), .fieldAddr 1 (.t 30), none⟩,
  ⟨(some 32), .load1 (.t 31), none⟩,
  ⟨(some 33), .lenStr (.t 32), none⟩,
  ⟨(some 34), .bin .add .num (.t 29) (.t 33), none⟩,
  ⟨(some 3), .move (.t 34), none⟩]
def b16_1 : SCode := .region r16_1
abbrev r16_2 : List MOper := [⟨(some 4), .move (.c (.int .i64 0)), none⟩]
def b16_2 : SCode := .region r16_2
abbrev r16_3 : List MOper := [⟨(some 35), .move (.t 4), none⟩,
  ⟨(some 36), .fieldAddr 23 (.t 1), none⟩,
  ⟨(some 37), .load1 (.t 36), none⟩,
  ⟨(some 38), .lenSl (.t 37), none⟩,
  ⟨(some 39), .bin .lss .num (.t 35) (.t 38), none⟩]
def b16_3 : SCode := .region r16_3
def b16_4 : SCode := .cond (.t 39) .skip (.exit 0)
def b16_5 : SCode := .seq b16_3 b16_4
abbrev t16_6 : LTree := (.quiet ⟨(some 42), .move (.t 3), none⟩ 0
  (.quiet ⟨(some 43), .fieldAddr 23 (.t 1), none⟩ 1
  (.quiet ⟨(some 44), .load1 (.t 43), none⟩ 2
  (.quiet ⟨(some 45), .move (.t 4), none⟩ 3
  (.quiet ⟨(some 46), .indexAddr 2 (.t 44) (.t 45), none⟩ 4
  (.quiet ⟨(some 47), .fieldAddr 0 (.t 46), none⟩ 5
  (.quiet ⟨(some 48), .load1 (.t 47), none⟩ 6
  (.quiet ⟨(some 49), .lenStr (.t 48), none⟩ 7
  (.quiet ⟨(some 50), .bin .add .num (.t 42) (.t 49), none⟩ 8
  (.quiet ⟨(some 51), .fieldAddr 23 (.t 1), none⟩ 9
  (.quiet ⟨(some 52), .load1 (.t 51), none⟩ 10
  (.quiet ⟨(some 53), .move (.t 4), none⟩ 11
  (.quiet ⟨(some 54), .indexAddr 2 (.t 52) (.t 53), none⟩ 12
  (.quiet ⟨(some 55), .fieldAddr 1 (.t 54), none⟩ 13
  (.quiet ⟨(some 56), .load1 (.t 55), none⟩ 14
  (.quiet ⟨(some 57), .lenStr (.t 56), none⟩ 15
  (.quiet ⟨(some 58), .bin .add .num (.t 50) (.t 57), none⟩ 16
  (.quiet ⟨(some 3), .move (.t 58), none⟩ 17
  .leaf))))))))))))))))))
def b16_6 : SCode := .draw t16_6
def b16_7 : SCode := .block 1 b16_6
abbrev r16_8 : List MOper := [⟨(some 40), .move (.t 4), none⟩,
  ⟨(some 41), .bin .add .num (.t 40) (.c (.int .i64 1)), none⟩,
  ⟨(some 4), .move (.t 41), none⟩]
def b16_8 : SCode := .region r16_8
def b16_9 : SCode := .seq b16_7 b16_8
def b16_10 : SCode := .seq b16_5 b16_9
def b16_11 : SCode := .loop b16_10
def b16_12 : SCode := .block 0 b16_11
def b16_13 : SCode := .seq b16_2 b16_12
abbrev r16_14 : List MOper := [⟨(some 5), .move (.c (.int .i64 0)), none⟩]
def b16_14 : SCode := .region r16_14
abbrev r16_15 : List MOper := [⟨(some 59), .move (.t 5), none⟩,
  ⟨(some 60), .fieldAddr 24 (.t 1), none⟩,
  ⟨(some 61), .load1 (.t 60), none⟩,
  ⟨(some 62), .lenSl (.t 61), none⟩,
  ⟨(some 63), .bin .lss .num (.t 59) (.t 62), none⟩]
def b16_15 : SCode := .region r16_15
def b16_16 : SCode := .cond (.t 63) .skip (.exit 2)
def b16_17 : SCode := .seq b16_15 b16_16
abbrev r16_18 : List MOper := [⟨(some 66), .move (.t 5), none⟩,
  ⟨(some 67), .bin .gtr .num (.t 66) (.c (.int .i64 20)), none⟩,
  ⟨(some 68), .move (.t 67), none⟩,
  ⟨(some 69), .fieldAddr 24 (.t 1), (some (68, false))⟩,
  ⟨(some 70), .load1 (.t 69), (some (68, false))⟩,
  ⟨(some 71), .move (.t 5), (some (68, false))⟩,
  ⟨(some 72), .indexAddr 8 (.t 70) (.t 71), (some (68, false))⟩,
  ⟨(some 73), .loadN 8 (.t 72), (some (68, false))⟩,
  ⟨(some 74), .call 38 [(.t 73)], (some (68, false))⟩,
  ⟨(some 75), .un .not (.t 74), (some (68, false))⟩,
  ⟨(some 76), .pick (.t 68) (.c (.bool true)) (.t 75), none⟩,
  ⟨(some 77), .move (.t 76), none⟩,
  ⟨(some 78), .fieldAddr 24 (.t 1), (some (77, false))⟩,
  ⟨(some 79), .load1 (.t 78), (some (77, false))⟩,
  ⟨(some 80), .move (.t 5), (some (77, false))⟩,
  ⟨(some 81), .indexAddr 8 (.t 79) (.t 80), (some (77, false))⟩,
  ⟨(some 82), .fieldAddr 4 (.t 81), (some (77, false))⟩,
  ⟨(some 83), .load1 (.t 82), (some (77, false))⟩,
  ⟨(some 84), .lenStr (.t 83), (some (77, false))⟩,
  ⟨(some 85), .bin .gtr .num (.t 84) (.c (.int .i64 500)), (some (77, false))⟩,
  ⟨(some 86), .pick (.t 77) (.c (.bool true)) (.t 85), none⟩]
def b16_18 : SCode := .region r16_18
abbrev r16_19 : List MOper := [⟨(some 2), .move (.c (.bool false)), none⟩]
def b16_19 : SCode := .region r16_19
def b16_20 : SCode := .seq b16_19 .ret
def b16_21 : SCode := .cond (.t 86) b16_20 .skip
def b16_22 : SCode := .seq b16_18 b16_21
def b16_23 : SCode := .block 3 b16_22
abbrev r16_24 : List MOper := [⟨(some 64), .move (.t 5), none⟩,
  ⟨(some 65), .bin .add .num (.t 64) (.c (.int .i64 1)), none⟩,
  ⟨(some 5), .move (.t 65), none⟩]
def b16_24 : SCode := .region r16_24
def b16_25 : SCode := .seq b16_23 b16_24
def b16_26 : SCode := .seq b16_17 b16_25
def b16_27 : SCode := .loop b16_26
def b16_28 : SCode := .block 2 b16_27
def b16_29 : SCode := .seq b16_14 b16_28
abbrev r16_30 : List MOper := [⟨(some 87), .move (.t 3), none⟩,
  ⟨(some 88), .bin .leq .num (.t 87) (.c (.int .i64 20000)), none⟩,
  ⟨(some 89), .move (.t 88), none⟩,
  ⟨(some 90), .fieldAddr 23 (.t 1), (some (89, true))⟩,
  ⟨(some 91), .load1 (.t 90), (some (89, true))⟩,
  ⟨(some 92), .lenSl (.t 91), (some (89, true))⟩,
  ⟨(some 93), .bin .leq .num (.t 92) (.c (.int .i64 100)), (some (89, true))⟩,
  ⟨(some 94), .pick (.t 89) (.t 93) (.c (.bool false)), none⟩,
  ⟨(some 95), .move (.t 94), none⟩,
  ⟨(some 96), .fieldAddr 25 (.t 1), (some (95, true))⟩,
  ⟨(some 97), .loadN 2 (.t 96), (some (95, true))⟩,
  ⟨(some 98), .call 39 [(.t 97)], (some (95, true))⟩,
  ⟨(some 99), .pick (.t 95) (.t 98) (.c (.bool false)), none⟩,
  ⟨(some 100), .move (.t 99), none⟩,
  ⟨(some 101), .fieldAddr 13 (.t 1), (some (100, true))⟩,
  ⟨(some 102), .loadN 8 (.t 101), (some (100, true))⟩,
  ⟨(some 103), .call 38 [(.t 102)], (some (100, true))⟩,
  ⟨(some 104), .pick (.t 100) (.t 103) (.c (.bool false)), none⟩,
  ⟨(some 2), .move (.t 104), none⟩]
def b16_30 : SCode := .region r16_30
def b16_31 : SCode := .seq b16_30 .ret
def b16_32 : SCode := .seq b16_29 b16_31
def b16_33 : SCode := .seq b16_13 b16_32
def b16_34 : SCode := .seq b16_1 b16_33
def b16_35 : SCode := .seq b16_0 b16_34
def s16 : SFunc := ⟨105, [.t 2], b16_35⟩
theorem c16 : sFn Try.prog 16 = some s16 := by kernel_rfl
theorem x16_32 : XS b16_32 b16_29 b16_31 := rfl
theorem Z16 : XR b16_0 r16_0 ∧ XR b16_1 r16_1 ∧ XR b16_2 r16_2 ∧ XR b16_3 r16_3 ∧ XC b16_4 (.t 39) .skip (.exit 0) ∧ XS b16_5 b16_3 b16_4 ∧ XT b16_6 t16_6 ∧ XB b16_7 1 b16_6 ∧ XR b16_8 r16_8 ∧ XS b16_9 b16_7 b16_8 ∧ XS b16_10 b16_5 b16_9 ∧ XB b16_12 0 b16_11 ∧ XS b16_13 b16_2 b16_12 ∧ XR b16_14 r16_14 ∧ XR b16_15 r16_15 ∧ XC b16_16 (.t 63) .skip (.exit 2) ∧ XS b16_17 b16_15 b16_16 ∧ XR b16_18 r16_18 ∧ XR b16_19 r16_19 ∧ XS b16_20 b16_19 .ret ∧ XC b16_21 (.t 86) b16_20 .skip ∧ XS b16_22 b16_18 b16_21 ∧ XB b16_23 3 b16_22 ∧ XR b16_24 r16_24 ∧ XS b16_25 b16_23 b16_24 ∧ XS b16_26 b16_17 b16_25 ∧ XB b16_28 2 b16_27 ∧ XS b16_29 b16_14 b16_28 ∧ XR b16_30 r16_30 ∧ XS b16_31 b16_30 .ret ∧ XS b16_33 b16_13 b16_32 ∧ XS b16_34 b16_1 b16_33 ∧ XS b16_35 b16_0 b16_34 ∧ XY s16 105 b16_35 [.t 2] := ⟨rfl, rfl, rfl, rfl, sC_cond, rfl, rfl, rfl, rfl, rfl, rfl, rfl, rfl, rfl, rfl, sC_cond, rfl, rfl, rfl, rfl, sC_cond, rfl, rfl, rfl, rfl, rfl, rfl, rfl, rfl, rfl, rfl, rfl, rfl, rfl⟩
abbrev r39_0 : List MOper := [⟨(some 1), .box (.t 0), none⟩,
  ⟨(some 2), .move (.c (.bool false)), none⟩]
def b39_0 : SCode := .region r39_0
abbrev r39_1 : List MOper := [⟨(some 3), .move (.c (.nilslice)), none⟩]
def b39_1 : SCode := .region r39_1
abbrev r39_2 : List MOper := [⟨(some 4), .move (.c (.int .i64 0)), none⟩]
def b39_2 : SCode := .region r39_2
abbrev r39_3 : List MOper := [⟨(some 5), .move (.t 4), none⟩,
  ⟨(some 6), .fieldAddr 1 (.t 1), none⟩,
  ⟨(some 7), .load1 (.t 6), none⟩,
  ⟨(some 8), .lenSl (.t 7), none⟩,
  ⟨(some 9), .bin .lss .num (.t 5) (.t 8), none⟩,
  ⟨(some 10), .move (.t 9), none⟩,
  ⟨(some 11), .move (.t 4), (some (10, true))⟩,
  ⟨(some 12), .bin .lss .num (.t 11) (.c (.int .i64 100)), (some (10, true))⟩,
  ⟨(some 13), .pick (.t 10) (.t 12) (.c (.bool false)), none⟩]
def b39_3 : SCode := .region r39_3
def b39_4 : SCode := .cond (.t 13) .skip (.exit 0)
def b39_5 : SCode := .seq b39_3 b39_4
abbrev r39_6 : List MOper := [⟨(some 16), .move (.t 3), none⟩,
  ⟨(some 17), .fieldAddr 1 (.t 1), none⟩,
  ⟨(some 18), .load1 (.t 17), none⟩,
  ⟨(some 19), .move (.t 4), none⟩,
  ⟨(some 20), .indexAddr 4 (.t 18) (.t 19), none⟩,
  ⟨(some 21), .fieldAddr 0 (.t 20), none⟩,
  ⟨(some 22), .loadN 2 (.t 21), none⟩,
  ⟨(some 23), .buildSlice [.str [], .str []] 2 1 [(0, 2, (.t 22))], none⟩,
  ⟨(some 24), .append 2 32 (.t 16) (.t 23), none⟩,
  ⟨(some 3), .move (.t 24), none⟩]
def b39_6 : SCode := .region r39_6
def b39_7 : SCode := .block 1 b39_6
abbrev r39_8 : List MOper := [⟨(some 14), .move (.t 4), none⟩,
  ⟨(some 15), .bin .add .num (.t 14) (.c (.int .i64 1)), none⟩,
  ⟨(some 4), .move (.t 15), none⟩]
def b39_8 : SCode := .region r39_8
def b39_9 : SCode := .seq b39_7 b39_8
def b39_10 : SCode := .seq b39_5 b39_9
def b39_11 : SCode := .loop b39_10
def b39_12 : SCode := .block 0 b39_11
def b39_13 : SCode := .seq b39_2 b39_12
abbrev r39_14 : List MOper := [⟨(some 25), .fieldAddr 1 (.t 1), none⟩,
  ⟨(some 26), .load1 (.t 25), none⟩,
  ⟨(some 27), .lenSl (.t 26), none⟩,
  ⟨(some 28), .bin .leq .num (.t 27) (.c (.int .i64 60)), none⟩,
  ⟨(some 29), .move (.t 28), none⟩,
  ⟨(some 30), .move (.t 3), (some (29, true))⟩,
  ⟨(some 31), .call 53 [(.t 30)], (some (29, true))⟩,
  ⟨(some 32), .pick (.t 29) (.t 31) (.c (.bool false)), none⟩,
  ⟨(some 2), .move (.t 32), none⟩]
def b39_14 : SCode := .region r39_14
def b39_15 : SCode := .seq b39_14 .ret
def b39_16 : SCode := .seq b39_13 b39_15
def b39_17 : SCode := .seq b39_1 b39_16
def b39_18 : SCode := .seq b39_0 b39_17
def s39 : SFunc := ⟨33, [.t 2], b39_18⟩
theorem c39 : sFn Try.prog 39 = some s39 := by kernel_rfl
theorem x39_15 : XS b39_15 b39_14 .ret := rfl
theorem Z39 : XR b39_0 r39_0 ∧ XR b39_1 r39_1 ∧ XR b39_2 r39_2 ∧ XR b39_3 r39_3 ∧ XC b39_4 (.t 13) .skip (.exit 0) ∧ XS b39_5 b39_3 b39_4 ∧ XR b39_6 r39_6 ∧ XB b39_7 1 b39_6 ∧ XR b39_8 r39_8 ∧ XS b39_9 b39_7 b39_8 ∧ XS b39_10 b39_5 b39_9 ∧ XB b39_12 0 b39_11 ∧ XS b39_13 b39_2 b39_12 ∧ XR b39_14 r39_14 ∧ XS b39_16 b39_13 b39_15 ∧ XS b39_17 b39_1 b39_16 ∧ XS b39_18 b39_0 b39_17 ∧ XY s39 33 b39_18 [.t 2] := ⟨rfl, rfl, rfl, rfl, sC_cond, rfl, rfl, rfl, rfl, rfl, rfl, rfl, rfl, rfl, rfl, rfl, rfl, rfl⟩
abbrev r53_0 : List MOper := [⟨(some 2), .move (.c (.bool false)), none⟩]
def b53_0 : SCode := .region r53_0
abbrev r53_1 : List MOper := [⟨(some 3), .move (.c (.int .i64 0)), none⟩]
def b53_1 : SCode := .region r53_1
abbrev r53_2 : List MOper := [⟨(some 4), .move (.c (.int .i64 0)), none⟩]
def b53_2 : SCode := .region r53_2
abbrev r53_3 : List MOper := [⟨(some 5), .move (.t 4), none⟩,
  ⟨(some 6), .move (.t 0), none⟩,
  ⟨(some 7), .lenSl (.t 6), none⟩,
  ⟨(some 8), .bin .lss .num (.t 5) (.t 7), none⟩]
def b53_3 : SCode := .region r53_3
def b53_4 : SCode := .cond (.t 8) .skip (.exit 0)
def b53_5 : SCode := .seq b53_3 b53_4
abbrev t53_6 : LTree := (.quiet ⟨(some 11), .move (.t 3), none⟩ 0
  (.quiet ⟨(some 12), .move (.t 0), none⟩ 1
  (.quiet ⟨(some 13), .move (.t 4), none⟩ 2
  (.quiet ⟨(some 14), .indexAddr 2 (.t 12) (.t 13), none⟩ 3
  (.quiet ⟨(some 15), .fieldAddr 0 (.t 14), none⟩ 4
  (.quiet ⟨(some 16), .load1 (.t 15), none⟩ 5
  (.quiet ⟨(some 17), .lenStr (.t 16), none⟩ 6
  (.quiet ⟨(some 18), .bin .add .num (.t 11) (.t 17), none⟩ 7
  (.quiet ⟨(some 19), .move (.t 0), none⟩ 8
  (.quiet ⟨(some 20), .move (.t 4), none⟩ 9
  (.quiet ⟨(some 21), .indexAddr 2 (.t 19) (.t 20), none⟩ 10
  (.quiet ⟨(some 22), .fieldAddr 1 (.t 21), none⟩ 11
  (.quiet ⟨(some 23), .load1 (.t 22), none⟩ 12
  (.quiet ⟨(some 24), .lenStr (.t 23), none⟩ 13
  (.quiet ⟨(some 25), .bin .add .num (.t 18) (.t 24), none⟩ 14
  (.quiet ⟨(some 3), .move (.t 25), none⟩ 15
  .leaf))))))))))))))))
def b53_6 : SCode := .draw t53_6
def b53_7 : SCode := .block 1 b53_6
abbrev r53_8 : List MOper := [⟨(some 9), .move (.t 4), none⟩,
  ⟨(some 10), .bin .add .num (.t 9) (.c (.int .i64 1)), none⟩,
  ⟨(some 4), .move (.t 10), none⟩]
def b53_8 : SCode := .region r53_8
def b53_9 : SCode := .seq b53_7 b53_8
def b53_10 : SCode := .seq b53_5 b53_9
def b53_11 : SCode := .loop b53_10
def b53_12 : SCode := .block 0 b53_11
def b53_13 : SCode := .seq b53_2 b53_12
abbrev r53_14 : List MOper := [⟨(some 26), .move (.t 0), none⟩,
  ⟨(some 27), .lenSl (.t 26), none⟩,
  ⟨(some 28), .bin .leq .num (.t 27) (.c (.int .i64 60)), none⟩,
  ⟨(some 29), .move (.t 28), none⟩,
  ⟨(some 30), .move (.t 3), (some (29, true))⟩,
  ⟨(some 31), .bin .leq .num (.t 30) (.c (.int .i64 3000)), (some (29, true))⟩,
  ⟨(some 32), .pick (.t 29) (.t 31) (.c (.bool false)), none⟩,
  ⟨(some 2), .move (.t 32), none⟩]
def b53_14 : SCode := .region r53_14
def b53_15 : SCode := .seq b53_14 .ret
def b53_16 : SCode := .seq b53_13 b53_15
def b53_17 : SCode := .seq b53_1 b53_16
def b53_18 : SCode := .seq b53_0 b53_17
def s53 : SFunc := ⟨33, [.t 2], b53_18⟩
theorem c53 : sFn Try.prog 53 = some s53 := by kernel_rfl
theorem Z53 : XR b53_0 r53_0 ∧ XR b53_1 r53_1 ∧ XR b53_2 r53_2 ∧ XR b53_3 r53_3 ∧ XC b53_4 (.t 8) .skip (.exit 0) ∧ XS b53_5 b53_3 b53_4 ∧ XT b53_6 t53_6 ∧ XB b53_7 1 b53_6 ∧ XR b53_8 r53_8 ∧ XS b53_9 b53_7 b53_8 ∧ XS b53_10 b53_5 b53_9 ∧ XB b53_12 0 b53_11 ∧ XS b53_13 b53_2 b53_12 ∧ XR b53_14 r53_14 ∧ XS b53_15 b53_14 .ret ∧ XS b53_16 b53_13 b53_15 ∧ XS b53_17 b53_1 b53_16 ∧ XS b53_18 b53_0 b53_17 ∧ XY s53 33 b53_18 [.t 2] := ⟨rfl, rfl, rfl, rfl, sC_cond, rfl, rfl, rfl, rfl, rfl, rfl, rfl, rfl, rfl, rfl, rfl, rfl, rfl, rfl⟩

end
set_option maxHeartbeats 4000000
set_option maxRecDepth 10000

structure RowV where
  kind : Int
  from_ : Int
  to : Int
  epoch : Int
  tick : Int
  ask : AskV
  rep : RepV
  sf : List UInt8
  st : List UInt8
  l : List (List UInt8 × List UInt8)
  last : List RepV
  aep : Int
  sh : List ShV
def RowV.cells (r : RowV) : List AV := [.int .i64 r.kind, .int .i64 r.from_, .int .i64 r.to, .int .i64 r.epoch, .int .i64 r.tick, .int .i64 r.ask.do_, .int .i64 r.ask.client, .int .i64 r.ask.seq, .str r.ask.text, .str r.ask.val, .str r.ask.from_, .str r.ask.to, .int .i64 r.ask.limit, .int .i64 r.rep.client, .int .i64 r.rep.seq, .int .i64 r.rep.err, .bool r.rep.found, .str r.rep.val, .imm (recs r.rep.l) false false, .str r.rep.next, .bool r.rep.more, .str r.sf, .str r.st, .imm (r.l.map recC) false false, .imm (r.last.map RepV.cells) false false, .int .i64 r.aep, .imm (r.sh.map ShV.cells) false false]
theorem rowsRep_pure (l : List RepV) : pureLL (l.map RepV.cells) = true := pureLL_of fun r hr => by
  obtain ⟨x, _, rfl⟩ := List.mem_map.1 hr
  simpa [AV.pure] using rep_pure x
theorem row_pure (r : RowV) : (AV.agg r.cells).pure = true := by
  have h1 := recs_pure r.rep.l
  have h2 := rowsRec_pure r.l
  have h3 := rowsRep_pure r.last
  have h4 := rowsSh_pure r.sh
  simp only [AV.pure, RowV.cells, pureL, h1, h2, h3, h4, Bool.and_self]
abbrev big : Nat := 140737488351232
def pairS (p : List UInt8 × List UInt8) : Prop := p.1.length ≤ big ∧ p.2.length ≤ big
structure RowV.okS (r : RowV) : Prop where
  ask : r.ask.okS
  rep : r.rep.okS
  sf : r.sf.length ≤ big
  st : r.st.length ≤ big
  ll : r.l.length ≤ big
  l : ∀ p ∈ r.l, pairS p
  lal : r.last.length ≤ big
  last : ∀ p ∈ r.last, p.okS
  shl : r.sh.length ≤ big
  sh : ∀ s ∈ r.sh, pairS s.span
def RowV.base (r : RowV) : Int := (r.ask.text.length : Int) + r.ask.val.length + r.ask.from_.length + r.ask.to.length + r.sf.length + r.st.length
structure RowV.smallP (r : RowV) : Prop where
  sum : r.base + sumL r.l ≤ 20000
  l : r.l.length ≤ 100
  lal : r.last.length ≤ 21
  last : ∀ x ∈ r.last, x.small = true
  shl : r.sh.length ≤ 60
  sh : sumL (r.sh.map ShV.span) ≤ 3000
  rep : r.rep.small = true
theorem sumL_take {l : List (List UInt8 × List UInt8)} {i : Nat} {x : List UInt8 × List UInt8} (hx : l[i]? = some x) : sumL (l.take (i + 1)) = sumL (l.take i) + ((x.1.length : Int) + x.2.length) := by
  rw [List.take_add_one, hx]
  simp [sumL, List.sum_append]
theorem sumL_le {l : List (List UInt8 × List UInt8)} (h : ∀ p ∈ l, pairS p) (i : Nat) : 0 ≤ sumL (l.take i) ∧ sumL (l.take i) ≤ (l.take i).length * 281474976702464 := sumL_bound fun p hp => h p (List.mem_of_mem_take hp)
/-! Few. -/
def fewP (l : List (List UInt8 × List UInt8)) : Prop := l.length ≤ 60 ∧ sumL l ≤ 3000
def fwI (l : List (List UInt8 × List UInt8)) (n : Nat) (e : Env) (σ : AHeap) : Prop :=
  ∃ i : Nat, i ≤ l.length ∧ n = l.length - i ∧ e 0 = .imm (l.map recC) false false ∧ e 3 = .int .i64 (sumL (l.take i)) ∧ e 4 = .int .i64 (i : Int)
theorem fw_step (l : List (List UInt8 × List UInt8)) (hl : l.length ≤ 100) (hp : ∀ p ∈ l, pairS p) (n : Nat) (e : Env) (σ : AHeap) (h : fwI l n e σ) :
    sC noCall 0 b53_10 (unw noCall 0 (loopR noCall 0 (RetQ [MRes.t 2] fun r _ => ∃ b, r = .bool b ∧ (b = true → fewP l)) (.block 0 (.seq b53_15 .fin)) (fwI l) n) .fin) e σ := by
  obtain ⟨i, hi, hn, e0, e3, e4⟩ := h
  have hml : (l.map recC).length = l.length := by simp
  rcases Nat.lt_or_ge i l.length with hlt | hge
  · have hlt' : (i : Int) < (l.length : Int) := by omega
    have hge0 : (0 : Int) ≤ (i : Int) := by omega
    obtain ⟨x, hx⟩ : ∃ x, l[i]? = some x := ⟨_, List.getElem?_eq_getElem hlt⟩
    have hxx : (l.map recC)[i]? = some [.str x.1, .str x.2] := by simp [hx, recC]
    have hw : IntKind.wrap .i64 ((i : Int) + 1) = ((i + 1 : Nat) : Int) := by rw [Gz.wrap64 (by omega)]; omega
    obtain ⟨q1, q2⟩ := hp x (List.mem_of_getElem? hx)
    obtain ⟨q3, q4⟩ := sumL_le hp i
    have q5 : (l.take i).length ≤ 100 := by rw [List.length_take]; omega
    have hs := sumL_take hx
    have w1 : IntKind.wrap .i64 (sumL (l.take i) + (x.1.length : Int)) = sumL (l.take i) + (x.1.length : Int) := Gz.wrap64 (by simp only [big] at q1 q2; omega)
    have w2 : IntKind.wrap .i64 (sumL (l.take i) + (x.1.length : Int) + (x.2.length : Int)) = sumL (l.take (i + 1)) := by rw [hs, Gz.wrap64 (by simp only [big] at q1 q2; omega)]; omega
    simp only [Z53, base1, baseE, ↓reduceIte, Nat.reduceAdd, Nat.reduceSub, Nat.reduceMul, Nat.reduceEqDiff, Nat.reduceLeDiff, Nat.reduceLT, Int.reduceLT, Int.reduceLE, Int.reduceEq, Int.reduceNe, Int.reduceToNat, Int.reduceAdd, Int.reduceSub, reduceCtorEq, Nat.reduceBEq, Nat.reduceBNe, loopR_exit, loopR_ret, e0, e3, e4, hlt', hlt, hge0, hxx, hml, hw, w1, w2, Int.toNat_natCast]
    rw [loopR_normal]
    refine ⟨l.length - (i + 1), _, _, by omega, .refl _ _ _, i + 1, hlt, rfl, ?_, ?_, ?_⟩
    all_goals simp only [putD_some, putD_none, Nat.reduceEqDiff, ↓reduceIte, e0, e3, e4, hw, w1, w2]
  · have hlt' : ¬ (i : Int) < (l.length : Int) := by omega
    have hie : i = l.length := by omega
    subst hie
    rw [List.take_length] at e3
    cases g1 : decide ((l.length : Int) ≤ 60) with
    | false =>
      simp only [Z53, base1, baseE, ↓reduceIte, Nat.reduceAdd, Nat.reduceSub, Nat.reduceMul, Nat.reduceEqDiff, Nat.reduceLeDiff, Nat.reduceLT, Int.reduceLT, Int.reduceLE, Int.reduceEq, Int.reduceNe, Int.reduceToNat, Int.reduceAdd, Int.reduceSub, reduceCtorEq, Nat.reduceBEq, Nat.reduceBNe, loopR_exit, loopR_ret, e0, e3, e4, hlt', hml, g1]
      exact ⟨_, rfl, by simp⟩
    | true =>
      cases g2 : decide (sumL l ≤ 3000) with
      | false =>
        simp only [Z53, base1, baseE, ↓reduceIte, Nat.reduceAdd, Nat.reduceSub, Nat.reduceMul, Nat.reduceEqDiff, Nat.reduceLeDiff, Nat.reduceLT, Int.reduceLT, Int.reduceLE, Int.reduceEq, Int.reduceNe, Int.reduceToNat, Int.reduceAdd, Int.reduceSub, reduceCtorEq, Nat.reduceBEq, Nat.reduceBNe, loopR_exit, loopR_ret, e0, e3, e4, hlt', hml, g1, g2]
        exact ⟨_, rfl, by simp⟩
      | true =>
        simp only [Z53, base1, baseE, ↓reduceIte, Nat.reduceAdd, Nat.reduceSub, Nat.reduceMul, Nat.reduceEqDiff, Nat.reduceLeDiff, Nat.reduceLT, Int.reduceLT, Int.reduceLE, Int.reduceEq, Int.reduceNe, Int.reduceToNat, Int.reduceAdd, Int.reduceSub, reduceCtorEq, Nat.reduceBEq, Nat.reduceBNe, loopR_exit, loopR_ret, e0, e3, e4, hlt', hml, g1, g2]
        exact ⟨_, rfl, fun _ => ⟨by have := of_decide_eq_true g1; omega, of_decide_eq_true g2⟩⟩
theorem few_ok (l : List (List UInt8 × List UInt8)) (hl : l.length ≤ 100) (hp : ∀ p ∈ l, pairS p) : Tri Try.prog 53 [.imm (l.map recC) false false] [] fun r _ => r.pure = true ∧ ∃ b, r = .bool b ∧ (b = true → fewP l) := by
  have key : Tri Try.prog 53 [.imm (l.map recC) false false] [] fun r _ => ∃ b, r = .bool b ∧ (b = true → fewP l) := by
    refine Tri.of_s c53 (noCall_sound _) ?_
    have hml : (l.map recC).length = l.length := by simp
    simp only [Z53, base1, baseE, ↓reduceIte, Nat.reduceAdd, Nat.reduceSub, Nat.reduceMul, Nat.reduceEqDiff, Nat.reduceLeDiff, Nat.reduceLT, Int.reduceLT, Int.reduceLE, Int.reduceEq, Int.reduceNe, Int.reduceToNat, Int.reduceAdd, Int.reduceSub, reduceCtorEq, Nat.reduceBEq, Nat.reduceBNe, hml]
    exact sC_inv (a := b53_10) (fwI l) l.length _ _ (.refl _ _ _) ⟨0, Nat.zero_le _, rfl, rfl, rfl, rfl⟩ (fw_step l hl hp)
  exact key.mono fun r _ ⟨b, h1, h2⟩ => ⟨by rw [h1]; rfl, b, h1, h2⟩
def fewD (args : List AV) (σ : AHeap) (K : AV → AHeap → Prop) : Prop := ∃ (Lv : AV) (l : List (List UInt8 × List UInt8)), args = [Lv] ∧ Grow σ Lv 2 (l.map recC) ∧ l.length ≤ 100 ∧ (∀ p ∈ l, pairS p) ∧ ∀ b, (b = true → fewP l) → ∀ σ', K (.bool b) σ'
theorem fewD_ok (args : List AV) (σ : AHeap) (K : AV → AHeap → Prop) (h : fewD args σ K) : Tri Try.prog 53 args σ K := by
  obtain ⟨Lv, l, rfl, hg, hl, hp, h⟩ := h
  obtain ⟨d, hd⟩ := grow_given hg (rowsRec_pure l)
  exact (Tri.give (args := [Lv]) (args1 := [.imm (l.map recC) false false]) d rfl (given1 hd) (few_ok l hl hp)).mono fun r σ' ⟨⟨b, h1, h2⟩, _⟩ => by rw [h1]; exact h b h2 _
/-! A small atlas. -/
def F58 : PCall := rowQ 53 fewD noCall
theorem F58_app {f : FuncId} {args : List AV} {σ : AHeap} {K : AV → AHeap → Prop} : F58 f args σ K = rowQ 53 fewD noCall f args σ K := _root_.id rfl
theorem F58_sound : Sound Try.prog F58 := rowQ_sound fewD_ok (noCall_sound _)
def atlP (sh : List ShV) : Prop := sh.length ≤ 60 ∧ sumL (sh.map ShV.span) ≤ 3000
def asI (ep : Int) (sh : List ShV) (n : Nat) (e : Env) (σ : AHeap) : Prop :=
  ∃ (i : Nat) (Lv : AV), i ≤ sh.length ∧ i ≤ 100 ∧ n = sh.length - i ∧ hget σ 0 = some [.int .i64 ep, .imm (sh.map ShV.cells) false false] ∧ Grow σ Lv 2 (((sh.take i).map ShV.span).map recC) ∧ LvD Lv ≠ some 0 ∧ e 1 = .ptr 0 0 ∧ e 3 = Lv ∧ e 4 = .int .i64 (i : Int)
theorem as_step (ep : Int) (sh : List ShV) (hl : sh.length ≤ big) (hp : ∀ s ∈ sh, pairS s.span) (n : Nat) (e : Env) (σ : AHeap) (h : asI ep sh n e σ) :
    sC F58 0 b39_10 (unw F58 0 (loopR F58 0 (RetQ [MRes.t 2] fun r _ => ∃ b, r = .bool b ∧ (b = true → atlP sh)) (.block 0 (.seq b39_15 .fin)) (asI ep sh) n) .fin) e σ := by
  obtain ⟨i, Lv, hi, hi2, hn, g0, hLv, d0, e1, e3, e4⟩ := h
  have hml : (sh.map ShV.cells).length = sh.length := by simp
  have lc := grow_cell hLv
  have fin : ¬ (i < sh.length ∧ i < 100) → ∀ e' : Env, e' 1 = .ptr 0 0 → e' 3 = Lv → sC F58 0 b39_15 (unw F58 0 (RetQ [MRes.t 2] fun r _ => ∃ b, r = .bool b ∧ (b = true → atlP sh)) .fin) e' σ := by
    intro hno e' k1 k3
    cases g1 : decide ((sh.length : Int) ≤ 60) with
    | false =>
      simp only [F58_app, Z39, x39_15, base1, ↓reduceIte, Nat.reduceAdd, Nat.reduceSub, Nat.reduceMul, Nat.reduceEqDiff, Nat.reduceLeDiff, Nat.reduceLT, Int.reduceLT, Int.reduceLE, Int.reduceEq, Int.reduceNe, Int.reduceToNat, Int.reduceAdd, Int.reduceSub, reduceCtorEq, Nat.reduceBEq, Nat.reduceBNe, lenOf_imm, k1, k3, g0, hml, g1]
      exact ⟨_, rfl, by simp⟩
    | true =>
      simp only [F58_app, Z39, x39_15, base1, ↓reduceIte, Nat.reduceAdd, Nat.reduceSub, Nat.reduceMul, Nat.reduceEqDiff, Nat.reduceLeDiff, Nat.reduceLT, Int.reduceLT, Int.reduceLE, Int.reduceEq, Int.reduceNe, Int.reduceToNat, Int.reduceAdd, Int.reduceSub, reduceCtorEq, Nat.reduceBEq, Nat.reduceBNe, lenOf_imm, k1, k3, g0, hml, g1]
      have h60 := of_decide_eq_true g1
      have hii : i = sh.length := by omega
      subst hii
      rw [List.take_length] at hLv
      refine ⟨Lv, sh.map ShV.span, rfl, hLv, by simp; omega, fun p hp' => ?_, fun b hb σ' => ?_⟩
      · obtain ⟨s, hs, rfl⟩ := List.mem_map.1 hp'
        exact hp s hs
      · simp only [F58_app, Z39, x39_15, base1, ↓reduceIte, Nat.reduceAdd, Nat.reduceSub, Nat.reduceMul, Nat.reduceEqDiff, Nat.reduceLeDiff, Nat.reduceLT, Int.reduceLT, Int.reduceLE, Int.reduceEq, Int.reduceNe, Int.reduceToNat, Int.reduceAdd, Int.reduceSub, reduceCtorEq, Nat.reduceBEq, Nat.reduceBNe, lenOf_imm, k1, k3]
        exact ⟨b, rfl, fun h => ⟨by have := (hb h).1; simpa using this, (hb h).2⟩⟩
  rcases Nat.lt_or_ge i sh.length with hlt | hge
  · have hlt' : (i : Int) < (sh.length : Int) := by omega
    have hge0 : (0 : Int) ≤ (i : Int) := by omega
    rcases Nat.lt_or_ge i 100 with hlt1 | hge1
    · have hlt2 : (i : Int) < 100 := by omega
      obtain ⟨x, hx⟩ : ∃ x, sh[i]? = some x := ⟨_, List.getElem?_eq_getElem hlt⟩
      have hxx : (sh.map ShV.cells)[i]? = some [.str x.from_, .str x.to, .int .i64 x.node, .int .i64 x.epoch] := by simp [hx, ShV.cells]
      have hw : IntKind.wrap .i64 ((i : Int) + 1) = ((i + 1 : Nat) : Int) := by rw [Gz.wrap64 (by omega)]; omega
      have htk : sh.take (i + 1) = sh.take i ++ [x] := by rw [List.take_add_one, hx]; rfl
      obtain ⟨v, τ, a1, a2, a3, a4, a5⟩ := grow_one (b := 32) (by decide) hLv (by simp; omega) (recC x.span) rfl rfl
      obtain ⟨q0, u0⟩ := a4 0 _ g0 d0
      simp only [recC, ShV.span] at a1
      simp only [F58_app, Z39, x39_15, base1, ↓reduceIte, Nat.reduceAdd, Nat.reduceSub, Nat.reduceMul, Nat.reduceEqDiff, Nat.reduceLeDiff, Nat.reduceLT, Int.reduceLT, Int.reduceLE, Int.reduceEq, Int.reduceNe, Int.reduceToNat, Int.reduceAdd, Int.reduceSub, reduceCtorEq, Nat.reduceBEq, Nat.reduceBNe, lenOf_imm, loopR_exit, loopR_ret, e1, e3, e4, hlt', hlt, hlt2, hge0, g0, hxx, hml, hw, Int.toNat_natCast, a1, a2, a3]
      rw [loopR_normal]
      refine ⟨sh.length - (i + 1), _, _, by omega, .refl _ _ _, i + 1, v, hlt, hlt1, rfl, q0, ?_, u0, ?_, ?_, ?_⟩
      · rw [htk]; simpa using a5
      all_goals simp only [putD_some, putD_none, Nat.reduceEqDiff, ↓reduceIte, e1, e3, e4, hw]
    · have hlt2 : ¬ (i : Int) < 100 := by omega
      simp only [F58_app, Z39, base1, ↓reduceIte, Nat.reduceAdd, Nat.reduceSub, Nat.reduceMul, Nat.reduceEqDiff, Nat.reduceLeDiff, Nat.reduceLT, Int.reduceLT, Int.reduceLE, Int.reduceEq, Int.reduceNe, Int.reduceToNat, Int.reduceAdd, Int.reduceSub, reduceCtorEq, Nat.reduceBEq, Nat.reduceBNe, lenOf_imm, loopR_exit, loopR_ret, e1, e3, e4, hlt', hlt2, g0, hml]
      exact fin (by omega) _ (by simp only [putD_some, putD_none, Nat.reduceEqDiff, ↓reduceIte, e1]) (by simp only [putD_some, putD_none, Nat.reduceEqDiff, ↓reduceIte, e3])
  · have hlt' : ¬ (i : Int) < (sh.length : Int) := by omega
    simp only [F58_app, Z39, base1, ↓reduceIte, Nat.reduceAdd, Nat.reduceSub, Nat.reduceMul, Nat.reduceEqDiff, Nat.reduceLeDiff, Nat.reduceLT, Int.reduceLT, Int.reduceLE, Int.reduceEq, Int.reduceNe, Int.reduceToNat, Int.reduceAdd, Int.reduceSub, reduceCtorEq, Nat.reduceBEq, Nat.reduceBNe, lenOf_imm, loopR_exit, loopR_ret, e1, e3, e4, hlt', g0, hml]
    exact fin (by omega) _ (by simp only [putD_some, putD_none, Nat.reduceEqDiff, ↓reduceIte, e1]) (by simp only [putD_some, putD_none, Nat.reduceEqDiff, ↓reduceIte, e3])
theorem atlSmall_ok (ep : Int) (sh : List ShV) (hl : sh.length ≤ big) (hp : ∀ s ∈ sh, pairS s.span) : Tri Try.prog 39 [.agg [.int .i64 ep, .imm (sh.map ShV.cells) false false]] [] fun r _ => r.pure = true ∧ ∃ b, r = .bool b ∧ (b = true → atlP sh) := by
  have key : Tri Try.prog 39 [.agg [.int .i64 ep, .imm (sh.map ShV.cells) false false]] [] fun r _ => ∃ b, r = .bool b ∧ (b = true → atlP sh) := by
    refine Tri.of_s c39 F58_sound ?_
    simp only [F58_app, Z39, x39_15, base1, baseE, ↓reduceIte, Nat.reduceAdd, Nat.reduceSub, Nat.reduceMul, Nat.reduceEqDiff, Nat.reduceLeDiff, Nat.reduceLT, Int.reduceLT, Int.reduceLE, Int.reduceEq, Int.reduceNe, Int.reduceToNat, Int.reduceAdd, Int.reduceSub, reduceCtorEq, Nat.reduceBEq, Nat.reduceBNe]
    exact sC_inv (a := b39_10) (asI ep sh) sh.length _ _ (.refl _ _ _) ⟨0, .nilslice, Nat.zero_le _, by omega, rfl, rfl, .inl ⟨rfl, rfl⟩, by simp [LvD], rfl, rfl, rfl⟩ (as_step ep sh hl hp)
  exact key.mono fun r _ ⟨b, h1, h2⟩ => ⟨by rw [h1]; rfl, b, h1, h2⟩
def atlSmallD (args : List AV) (σ : AHeap) (K : AV → AHeap → Prop) : Prop := ∃ (ep : Int) (sh : List ShV), args = [.agg [.int .i64 ep, .imm (sh.map ShV.cells) false false]] ∧ sh.length ≤ big ∧ (∀ s ∈ sh, pairS s.span) ∧ ∀ b, (b = true → atlP sh) → K (.bool b) σ
theorem atlSmallD_ok (args : List AV) (σ : AHeap) (K : AV → AHeap → Prop) (h : atlSmallD args σ K) : Tri Try.prog 39 args σ K := by
  obtain ⟨ep, sh, rfl, hl, hp, h⟩ := h
  exact (Tri.pureD (by simp only [pureL, AV.pure, rowsSh_pure, Bool.and_self]) (atlSmall_ok ep sh hl hp) σ).mono fun r σ' ⟨⟨b, h1, h2⟩, h3⟩ => by rw [h1, h3]; exact h b h2
def smallRPD (args : List AV) (σ : AHeap) (K : AV → AHeap → Prop) : Prop := ∃ r : RepV, args = [.agg r.cells] ∧ r.okS ∧ K (.bool r.small) σ
theorem smallRPD_eq {a : RepV} {σ : AHeap} {K : AV → AHeap → Prop} : smallRPD [.agg [.int .i64 a.client, .int .i64 a.seq, .int .i64 a.err, .bool a.found, .str a.val, .imm (recs a.l) false false, .str a.next, .bool a.more]] σ K = (a.okS ∧ K (.bool a.small) σ) := by
  apply propext
  refine ⟨fun ⟨r, h1, h2, h3⟩ => ?_, fun h => ⟨a, rfl, h.1, h.2⟩⟩
  have : a = r := rep_inj (List.cons.inj h1).1
  subst this
  exact ⟨h2, h3⟩
theorem smallRPD_ok (args : List AV) (σ : AHeap) (K : AV → AHeap → Prop) (h : smallRPD args σ K) : Tri Try.prog 38 args σ K := by
  obtain ⟨r, rfl, hs, h⟩ := h
  exact (Tri.pureD (by simp only [pureL, rep_pure, Bool.and_self]) ((smallR_ok r hs).mono fun x _ hx => ⟨by rw [hx.2]; rfl, hx.2⟩) σ).mono fun x σ' hx => by rw [hx.1, hx.2]; exact h
/-! Small. -/
def T10 : PCall := rowQ 38 smallRPD (rowQ 39 atlSmallD noCall)
theorem T10_app {f : FuncId} {args : List AV} {σ : AHeap} {K : AV → AHeap → Prop} : T10 f args σ K = rowQ 38 smallRPD (rowQ 39 atlSmallD noCall) f args σ K := _root_.id rfl
theorem T10_sound : Sound Try.prog T10 := rowQ_sound smallRPD_ok (rowQ_sound atlSmallD_ok (noCall_sound _))
def SmQ (r : RowV) (x : AV) (_ : AHeap) : Prop := ∃ b, x = .bool b ∧ (b = true → r.smallP)
def saI (r : RowV) (n : Nat) (e : Env) (σ : AHeap) : Prop :=
  ∃ (i : Nat) (v : Int), i ≤ r.l.length ∧ n = r.l.length - i ∧ σ = [some r.cells] ∧ e 1 = .ptr 0 0 ∧ e 3 = .int .i64 v ∧ e 4 = .int .i64 (i : Int) ∧ (r.l.length ≤ 100 → v = r.base + sumL (r.l.take i))
def sbI (r : RowV) (v : Int) (n : Nat) (e : Env) (σ : AHeap) : Prop :=
  ∃ i : Nat, i ≤ r.last.length ∧ i ≤ 21 ∧ n = r.last.length - i ∧ σ = [some r.cells] ∧ e 1 = .ptr 0 0 ∧ e 3 = .int .i64 v ∧ e 5 = .int .i64 (i : Int) ∧ ∀ x ∈ r.last.take i, x.small = true
theorem sb_step (r : RowV) (h : r.okS) (v : Int) (hv : r.l.length ≤ 100 → v = r.base + sumL r.l) (n : Nat) (e : Env) (σ : AHeap) (hI : sbI r v n e σ) :
    sC T10 0 b16_26 (unw T10 0 (loopR T10 0 (RetQ [MRes.t 2] (SmQ r)) (.block 2 (.seq b16_31 .fin)) (sbI r v) n) .fin) e σ := by
  obtain ⟨i, hi, hi2, hn, rfl, e1, e3, e5, hall⟩ := hI
  have hml : (r.last.map RepV.cells).length = r.last.length := by simp
  have hm2 : (r.l.map recC).length = r.l.length := by simp
  have no : ∀ x : AV, x = .bool false → SmQ r x [some r.cells] := fun x hx => ⟨false, hx, fun h => by cases h⟩
  rcases Nat.lt_or_ge i r.last.length with hlt | hge
  · have hlt' : (i : Int) < (r.last.length : Int) := by omega
    have hge0 : (0 : Int) ≤ (i : Int) := by omega
    obtain ⟨x, hx⟩ : ∃ x, r.last[i]? = some x := ⟨_, List.getElem?_eq_getElem hlt⟩
    have hxx : (r.last.map RepV.cells)[i]? = some [.int .i64 x.client, .int .i64 x.seq, .int .i64 x.err, .bool x.found, .str x.val, .imm (recs x.l) false false, .str x.next, .bool x.more] := by simp [hx, RepV.cells]
    have hw : IntKind.wrap .i64 ((i : Int) + 1) = ((i + 1 : Nat) : Int) := by rw [Gz.wrap64 (by omega)]; omega
    have htk : r.last.take (i + 1) = r.last.take i ++ [x] := by rw [List.take_add_one, hx]; rfl
    have hxs := h.last x (List.mem_of_getElem? hx)
    rcases Nat.lt_or_ge 20 i with h20 | h20
    · have h20' : (20 : Int) < (i : Int) := by omega
      simp only [RowV.cells, T10_app, Z16, x16_32, base1, baseE, ↓reduceIte, Nat.reduceAdd, Nat.reduceSub, Nat.reduceMul, Nat.reduceEqDiff, Nat.reduceLeDiff, Nat.reduceLT, Int.reduceLT, Int.reduceLE, Int.reduceEq, Int.reduceNe, Int.reduceToNat, Int.reduceAdd, Int.reduceSub, reduceCtorEq, Nat.reduceBEq, Nat.reduceBNe, loopR_exit, loopR_ret, smallRPD_eq, e1, e3, e5, hlt', hlt, hge0, hxx, hml, Int.toNat_natCast, h20']
      exact ⟨_, rfl, fun h => by cases h⟩
    · have h20' : ¬ (20 : Int) < (i : Int) := by omega
      cases g1 : x.small with
      | false =>
        simp only [RowV.cells, T10_app, Z16, x16_32, base1, baseE, ↓reduceIte, Nat.reduceAdd, Nat.reduceSub, Nat.reduceMul, Nat.reduceEqDiff, Nat.reduceLeDiff, Nat.reduceLT, Int.reduceLT, Int.reduceLE, Int.reduceEq, Int.reduceNe, Int.reduceToNat, Int.reduceAdd, Int.reduceSub, reduceCtorEq, Nat.reduceBEq, Nat.reduceBNe, loopR_exit, loopR_ret, smallRPD_eq, e1, e3, e5, hlt', hlt, hge0, hxx, hml, Int.toNat_natCast, h20', hxs, g1]
        exact ⟨_, rfl, fun h => by cases h⟩
      | true =>
        cases g2 : decide (500 < (x.val.length : Int)) with
        | true =>
          simp only [RowV.cells, T10_app, Z16, x16_32, base1, baseE, ↓reduceIte, Nat.reduceAdd, Nat.reduceSub, Nat.reduceMul, Nat.reduceEqDiff, Nat.reduceLeDiff, Nat.reduceLT, Int.reduceLT, Int.reduceLE, Int.reduceEq, Int.reduceNe, Int.reduceToNat, Int.reduceAdd, Int.reduceSub, reduceCtorEq, Nat.reduceBEq, Nat.reduceBNe, loopR_exit, loopR_ret, smallRPD_eq, e1, e3, e5, hlt', hlt, hge0, hxx, hml, Int.toNat_natCast, h20', hxs, g1, g2]
          exact ⟨_, rfl, fun h => by cases h⟩
        | false =>
          simp only [RowV.cells, T10_app, Z16, x16_32, base1, baseE, ↓reduceIte, Nat.reduceAdd, Nat.reduceSub, Nat.reduceMul, Nat.reduceEqDiff, Nat.reduceLeDiff, Nat.reduceLT, Int.reduceLT, Int.reduceLE, Int.reduceEq, Int.reduceNe, Int.reduceToNat, Int.reduceAdd, Int.reduceSub, reduceCtorEq, Nat.reduceBEq, Nat.reduceBNe, loopR_exit, loopR_ret, smallRPD_eq, e1, e3, e5, hlt', hlt, hge0, hxx, hml, Int.toNat_natCast, h20', hxs, g1, g2, hw]
          rw [loopR_normal]
          refine ⟨r.last.length - (i + 1), _, _, by omega, .refl _ _ _, i + 1, hlt, by omega, rfl, rfl, ?_, ?_, ?_, ?_⟩
          rotate_right 1
          · intro y hy
            rw [htk] at hy
            rcases List.mem_append.1 hy with hy | hy
            · exact hall y hy
            · simp at hy; rw [hy]; exact g1
          all_goals simp only [putD_some, putD_none, Nat.reduceEqDiff, ↓reduceIte, e1, e3, e5, hw]
  · have hlt' : ¬ (i : Int) < (r.last.length : Int) := by omega
    have hie : i = r.last.length := by omega
    subst hie
    rw [List.take_length] at hall
    cases g1 : decide (v ≤ 20000) with
    | false =>
      simp only [RowV.cells, T10_app, Z16, x16_32, base1, baseE, ↓reduceIte, Nat.reduceAdd, Nat.reduceSub, Nat.reduceMul, Nat.reduceEqDiff, Nat.reduceLeDiff, Nat.reduceLT, Int.reduceLT, Int.reduceLE, Int.reduceEq, Int.reduceNe, Int.reduceToNat, Int.reduceAdd, Int.reduceSub, reduceCtorEq, Nat.reduceBEq, Nat.reduceBNe, loopR_exit, loopR_ret, e1, e3, e5, hlt', hml, g1]
      exact ⟨_, rfl, fun h => by cases h⟩
    | true =>
    cases g2 : decide ((r.l.length : Int) ≤ 100) with
    | false =>
      simp only [RowV.cells, T10_app, Z16, x16_32, base1, baseE, ↓reduceIte, Nat.reduceAdd, Nat.reduceSub, Nat.reduceMul, Nat.reduceEqDiff, Nat.reduceLeDiff, Nat.reduceLT, Int.reduceLT, Int.reduceLE, Int.reduceEq, Int.reduceNe, Int.reduceToNat, Int.reduceAdd, Int.reduceSub, reduceCtorEq, Nat.reduceBEq, Nat.reduceBNe, loopR_exit, loopR_ret, e1, e3, e5, hlt', hml, hm2, g1, g2]
      exact ⟨_, rfl, fun h => by cases h⟩
    | true =>
    simp only [RowV.cells, T10_app, Z16, x16_32, base1, baseE, ↓reduceIte, Nat.reduceAdd, Nat.reduceSub, Nat.reduceMul, Nat.reduceEqDiff, Nat.reduceLeDiff, Nat.reduceLT, Int.reduceLT, Int.reduceLE, Int.reduceEq, Int.reduceNe, Int.reduceToNat, Int.reduceAdd, Int.reduceSub, reduceCtorEq, Nat.reduceBEq, Nat.reduceBNe, loopR_exit, loopR_ret, e1, e3, e5, hlt', hml, hm2, g1, g2]
    refine ⟨r.aep, r.sh, rfl, h.shl, h.sh, fun b hb => ?_⟩
    have hrr := h.rep
    cases b with
    | false =>
      simp only [RowV.cells, T10_app, Z16, x16_32, base1, baseE, ↓reduceIte, Nat.reduceAdd, Nat.reduceSub, Nat.reduceMul, Nat.reduceEqDiff, Nat.reduceLeDiff, Nat.reduceLT, Int.reduceLT, Int.reduceLE, Int.reduceEq, Int.reduceNe, Int.reduceToNat, Int.reduceAdd, Int.reduceSub, reduceCtorEq, Nat.reduceBEq, Nat.reduceBNe, e1, e3, e5]
      exact ⟨_, rfl, fun h => by cases h⟩
    | true =>
      cases g3 : r.rep.small with
      | false =>
        simp only [RowV.cells, T10_app, Z16, x16_32, base1, baseE, ↓reduceIte, Nat.reduceAdd, Nat.reduceSub, Nat.reduceMul, Nat.reduceEqDiff, Nat.reduceLeDiff, Nat.reduceLT, Int.reduceLT, Int.reduceLE, Int.reduceEq, Int.reduceNe, Int.reduceToNat, Int.reduceAdd, Int.reduceSub, reduceCtorEq, Nat.reduceBEq, Nat.reduceBNe, smallRPD_eq, e1, e3, e5, hrr, g3]
        exact ⟨_, rfl, fun h => by cases h⟩
      | true =>
        simp only [RowV.cells, T10_app, Z16, x16_32, base1, baseE, ↓reduceIte, Nat.reduceAdd, Nat.reduceSub, Nat.reduceMul, Nat.reduceEqDiff, Nat.reduceLeDiff, Nat.reduceLT, Int.reduceLT, Int.reduceLE, Int.reduceEq, Int.reduceNe, Int.reduceToNat, Int.reduceAdd, Int.reduceSub, reduceCtorEq, Nat.reduceBEq, Nat.reduceBNe, smallRPD_eq, e1, e3, e5, hrr, g3]
        have p1 := of_decide_eq_true g1
        have p2 := of_decide_eq_true g2
        have p3 : r.l.length ≤ 100 := by omega
        exact ⟨true, rfl, fun _ => ⟨by rw [← hv p3]; exact p1, p3, hi2, hall, (hb rfl).1, (hb rfl).2, g3⟩⟩
theorem sa_step (r : RowV) (h : r.okS) (n : Nat) (e : Env) (σ : AHeap) (hI : saI r n e σ) :
    sC T10 0 b16_10 (unw T10 0 (loopR T10 0 (RetQ [MRes.t 2] (SmQ r)) (.block 0 (.seq b16_32 .fin)) (saI r) n) .fin) e σ := by
  obtain ⟨i, v, hi, hn, rfl, e1, e3, e4, hv⟩ := hI
  have hml : (r.l.map recC).length = r.l.length := by simp
  have hll := h.ll
  rcases Nat.lt_or_ge i r.l.length with hlt | hge
  · have hlt' : (i : Int) < (r.l.length : Int) := by omega
    have hge0 : (0 : Int) ≤ (i : Int) := by omega
    obtain ⟨x, hx⟩ : ∃ x, r.l[i]? = some x := ⟨_, List.getElem?_eq_getElem hlt⟩
    have hxx : (r.l.map recC)[i]? = some [.str x.1, .str x.2] := by simp [hx, recC]
    have hw : IntKind.wrap .i64 ((i : Int) + 1) = ((i + 1 : Nat) : Int) := by rw [Gz.wrap64 (by simp only [big] at hll; omega)]; omega
    have hvv : r.l.length ≤ 100 → IntKind.wrap .i64 (IntKind.wrap .i64 (v + (x.1.length : Int)) + (x.2.length : Int)) = r.base + sumL (r.l.take (i + 1)) := by
      intro h100
      obtain ⟨q1, q2⟩ := h.l x (List.mem_of_getElem? hx)
      obtain ⟨q3, q4⟩ := sumL_le h.l i
      have q5 : (r.l.take i).length ≤ 100 := by rw [List.length_take]; omega
      obtain ⟨b1, b2, b3, b4⟩ := h.ask
      have b5 := h.sf
      have b6 := h.st
      have hb : 0 ≤ r.base ∧ r.base ≤ 6 * 140737488351232 := by simp only [RowV.base, big] at *; omega
      rw [hv h100, sumL_take hx]
      simp only [big] at q1 q2
      generalize sumL (r.l.take i) = S at q3 q4 ⊢
      generalize r.base = B at hb ⊢
      rw [Gz.wrap64 (z := B + S + (x.1.length : Int)) (by omega), Gz.wrap64 (by omega)]
      omega
    simp only [RowV.cells, T10_app, Z16, x16_32, base1, baseE, ↓reduceIte, Nat.reduceAdd, Nat.reduceSub, Nat.reduceMul, Nat.reduceEqDiff, Nat.reduceLeDiff, Nat.reduceLT, Int.reduceLT, Int.reduceLE, Int.reduceEq, Int.reduceNe, Int.reduceToNat, Int.reduceAdd, Int.reduceSub, reduceCtorEq, Nat.reduceBEq, Nat.reduceBNe, loopR_exit, loopR_ret, e1, e3, e4, hlt', hlt, hge0, hxx, hml, hw, Int.toNat_natCast]
    rw [loopR_normal]
    refine ⟨r.l.length - (i + 1), _, _, by omega, .refl _ _ _, i + 1, _, hlt, rfl, rfl, ?_, ?_, ?_, hvv⟩
    all_goals simp only [putD_some, putD_none, Nat.reduceEqDiff, ↓reduceIte, e1, e3, e4, hw]
  · have hlt' : ¬ (i : Int) < (r.l.length : Int) := by omega
    have hie : i = r.l.length := by omega
    subst hie
    rw [List.take_length] at hv
    simp only [T10_app, Z16, base1, baseE, ↓reduceIte, Nat.reduceAdd, Nat.reduceSub, Nat.reduceMul, Nat.reduceEqDiff, Nat.reduceLeDiff, Nat.reduceLT, Int.reduceLT, Int.reduceLE, Int.reduceEq, Int.reduceNe, Int.reduceToNat, Int.reduceAdd, Int.reduceSub, reduceCtorEq, Nat.reduceBEq, Nat.reduceBNe, loopR_exit, loopR_ret, e1, e3, e4]
    simp only [RowV.cells, T10_app, Z16, x16_32, base1, baseE, ↓reduceIte, Nat.reduceAdd, Nat.reduceSub, Nat.reduceMul, Nat.reduceEqDiff, Nat.reduceLeDiff, Nat.reduceLT, Int.reduceLT, Int.reduceLE, Int.reduceEq, Int.reduceNe, Int.reduceToNat, Int.reduceAdd, Int.reduceSub, reduceCtorEq, Nat.reduceBEq, Nat.reduceBNe, loopR_exit, loopR_ret, e1, e3, e4, hlt', hml]
    exact sC_inv (a := b16_26) (sbI r v) r.last.length _ _ (.refl _ _ _) ⟨0, Nat.zero_le _, by omega, rfl, rfl, e1, e3, rfl, by simp⟩ (sb_step r h v hv)
theorem small_ok (r : RowV) (h : r.okS) : Tri Try.prog 16 [.agg r.cells] [] fun x _ => x.pure = true ∧ ∃ b, x = .bool b ∧ (b = true → r.smallP) := by
  have key : Tri Try.prog 16 [.agg r.cells] [] (SmQ r) := by
    refine Tri.of_s c16 T10_sound ?_
    obtain ⟨b1, b2, b3, b4⟩ := h.ask
    have b5 := h.sf
    have b6 := h.st
    simp only [big] at b5 b6
    have w1 : IntKind.wrap .i64 ((r.ask.text.length : Int) + r.ask.val.length) = (r.ask.text.length : Int) + r.ask.val.length := Gz.wrap64 (by omega)
    have w2 : IntKind.wrap .i64 ((r.ask.text.length : Int) + r.ask.val.length + r.ask.from_.length) = (r.ask.text.length : Int) + r.ask.val.length + r.ask.from_.length := Gz.wrap64 (by omega)
    have w3 : IntKind.wrap .i64 ((r.ask.text.length : Int) + r.ask.val.length + r.ask.from_.length + r.ask.to.length) = (r.ask.text.length : Int) + r.ask.val.length + r.ask.from_.length + r.ask.to.length := Gz.wrap64 (by omega)
    have w4 : IntKind.wrap .i64 ((r.ask.text.length : Int) + r.ask.val.length + r.ask.from_.length + r.ask.to.length + r.sf.length) = (r.ask.text.length : Int) + r.ask.val.length + r.ask.from_.length + r.ask.to.length + r.sf.length := Gz.wrap64 (by omega)
    have w5 : IntKind.wrap .i64 ((r.ask.text.length : Int) + r.ask.val.length + r.ask.from_.length + r.ask.to.length + r.sf.length + r.st.length) = r.base := Gz.wrap64 (by omega)
    simp only [RowV.cells, T10_app, Z16, x16_32, base1, baseE, ↓reduceIte, Nat.reduceAdd, Nat.reduceSub, Nat.reduceMul, Nat.reduceEqDiff, Nat.reduceLeDiff, Nat.reduceLT, Int.reduceLT, Int.reduceLE, Int.reduceEq, Int.reduceNe, Int.reduceToNat, Int.reduceAdd, Int.reduceSub, reduceCtorEq, Nat.reduceBEq, Nat.reduceBNe, w1, w2, w3, w4, w5]
    exact sC_inv (a := b16_10) (saI r) r.l.length _ _ (.refl _ _ _) ⟨0, r.base, Nat.zero_le _, rfl, rfl, rfl, rfl, rfl, fun _ => by simp [sumL]⟩ (sa_step r h)
  exact key.mono fun x _ ⟨b, h1, h2⟩ => ⟨by rw [h1]; rfl, b, h1, h2⟩
def smallD (args : List AV) (σ : AHeap) (K : AV → AHeap → Prop) : Prop := ∃ r : RowV, args = [.agg r.cells] ∧ r.okS ∧ ∀ b, (b = true → r.smallP) → K (.bool b) σ
theorem smallD_ok (args : List AV) (σ : AHeap) (K : AV → AHeap → Prop) (h : smallD args σ K) : Tri Try.prog 16 args σ K := by
  obtain ⟨r, rfl, hs, h⟩ := h
  exact (Tri.pureD (by simp only [pureL, row_pure, Bool.and_self]) (small_ok r hs) σ).mono fun x σ' ⟨⟨b, h1, h2⟩, h3⟩ => by rw [h1, h3]; exact h b h2
end Go.Proofs.Ytndlgmciplckjab.note

/- The note that Made makes of a row. No condition. -/
set_option linter.unusedVariables false
set_option linter.unusedSimpArgs false
namespace Go.Proofs.Ytndlgmciplckjab.note
open Go.ChangeShapes Go.WideShapes Go.ChangeAt Go.RowKit Go.Gz
section
variable {C : PCall} {n0 : Nat} {R : MExit → Env → AHeap → Prop} {k : Cont} {e : Env} {σ : AHeap}
abbrev r8_0 : List MOper := [⟨(some 1), .box (.t 0), none⟩,
  ⟨(some 2), .alloc [.int .i64 0, .int .i64 0, .int .i64 0, .int .i64 0, .int .i64 0, .int .i64 0, .int .i64 0, .int .i64 0, .str [], .str [], .str [], .str [], .int .i64 0, .int .i64 0, .int .i64 0, .int .i64 0, .bool false, .str [], .nilslice, .str [], .bool false, .str [], .str [], .nilslice, .nilslice, .int .i64 0, .nilslice], none⟩]
def b8_0 : SCode := .region r8_0
abbrev r8_1 : List MOper := [⟨(some 5), .fieldAddr 0 (.t 1), none⟩,
  ⟨(some 6), .load1 (.t 5), none⟩,
  ⟨(some 7), .fieldAddr 1 (.t 1), none⟩,
  ⟨(some 8), .load1 (.t 7), none⟩,
  ⟨(some 9), .fieldAddr 2 (.t 1), none⟩,
  ⟨(some 10), .load1 (.t 9), none⟩,
  ⟨(some 11), .fieldAddr 3 (.t 1), none⟩,
  ⟨(some 12), .load1 (.t 11), none⟩,
  ⟨(some 13), .fieldAddr 4 (.t 1), none⟩,
  ⟨(some 14), .load1 (.t 13), none⟩,
  ⟨(some 15), .fieldAddr 5 (.t 1), none⟩,
  ⟨(some 16), .loadN 8 (.t 15), none⟩,
  ⟨(some 17), .fieldAddr 13 (.t 1), none⟩,
  ⟨(some 18), .loadN 8 (.t 17), none⟩,
  ⟨(some 19), .fieldAddr 21 (.t 1), none⟩,
  ⟨(some 20), .loadN 2 (.t 19), none⟩,
  ⟨(some 21), .fieldAddr 23 (.t 1), none⟩,
  ⟨(some 22), .load1 (.t 21), none⟩,
  ⟨(some 23), .build [.int .i64 0, .int .i64 0, .int .i64 0, .int .i64 0, .int .i64 0, .int .i64 0, .int .i64 0, .int .i64 0, .str [], .str [], .str [], .str [], .int .i64 0, .int .i64 0, .int .i64 0, .int .i64 0, .bool false, .str [], .nilslice, .str [], .bool false, .str [], .str [], .nilslice, .nilslice, .int .i64 0, .nilslice] [(0, 1, (.t 6)), (1, 1, (.t 8)), (2, 1, (.t 10)), (3, 1, (.t 12)), (4, 1, (.t 14)), (5, 8, (.t 16)), (13, 8, (.t 18)), (21, 2, (.t 20)), (23, 1, (.t 22))], none⟩,
  ⟨(some 3), .alloc [.int .i64 0, .int .i64 0, .int .i64 0, .int .i64 0, .int .i64 0, .int .i64 0, .int .i64 0, .int .i64 0, .str [], .str [], .str [], .str [], .int .i64 0, .int .i64 0, .int .i64 0, .int .i64 0, .bool false, .str [], .nilslice, .str [], .bool false, .str [], .str [], .nilslice, .nilslice, .int .i64 0, .nilslice], none⟩,
  ⟨none, .store 27 (.t 3) (.t 23), none⟩]
def b8_1 : SCode := .region r8_1
abbrev r8_2 : List MOper := [⟨(some 4), .move (.c (.int .i64 0)), none⟩]
def b8_2 : SCode := .region r8_2
abbrev r8_3 : List MOper := [⟨(some 24), .move (.t 4), none⟩,
  ⟨(some 25), .fieldAddr 24 (.t 1), none⟩,
  ⟨(some 26), .load1 (.t 25), none⟩,
  ⟨(some 27), .lenSl (.t 26), none⟩,
  ⟨(some 28), .bin .lss .num (.t 24) (.t 27), none⟩]
def b8_3 : SCode := .region r8_3
def b8_4 : SCode := .cond (.t 28) .skip (.exit 0)
def b8_5 : SCode := .seq b8_3 b8_4
abbrev t8_6 : LTree := (.quiet ⟨(some 31), .fieldAddr 24 (.t 3), none⟩ 0
  (.quiet ⟨(some 32), .load1 (.t 31), none⟩ 1
  (.quiet ⟨(some 33), .fieldAddr 24 (.t 1), none⟩ 2
  (.quiet ⟨(some 34), .load1 (.t 33), none⟩ 3
  (.quiet ⟨(some 35), .move (.t 4), none⟩ 4
  (.quiet ⟨(some 36), .indexAddr 8 (.t 34) (.t 35), none⟩ 5
  (.quiet ⟨(some 37), .fieldAddr 1 (.t 36), none⟩ 6
  (.quiet ⟨(some 38), .load1 (.t 37), none⟩ 7
  (.quiet ⟨(some 39), .fieldAddr 24 (.t 1), none⟩ 8
  (.quiet ⟨(some 40), .load1 (.t 39), none⟩ 9
  (.quiet ⟨(some 41), .move (.t 4), none⟩ 10
  (.quiet ⟨(some 42), .indexAddr 8 (.t 40) (.t 41), none⟩ 11
  (.quiet ⟨(some 43), .loadN 8 (.t 42), none⟩ 12
  (.quiet ⟨(some 44), .build [.int .i64 0, .int .i64 0, .int .i64 0, .int .i64 0, .bool false, .str [], .nilslice, .str [], .bool false] [(0, 1, (.t 38)), (1, 8, (.t 43))], none⟩ 13
  (.loud ⟨(some 45), .buildSlice [.int .i64 0, .int .i64 0, .int .i64 0, .int .i64 0, .bool false, .str [], .nilslice, .str [], .bool false] 9 1 [(0, 9, (.t 44))], none⟩ [1]
  (.loud ⟨(some 46), .call 18 [(.t 45)], none⟩ [1]
  (.loud ⟨(some 47), .append 9 104 (.t 32) (.t 46), none⟩ []
  (.quiet ⟨(some 48), .fieldAddr 24 (.t 3), none⟩ 17
  (.loud ⟨none, .store 1 (.t 48) (.t 47), none⟩ []
  .leaf .stop)) .stop) .stop) .stop)))))))))))))))
def b8_6 : SCode := .draw t8_6
def b8_7 : SCode := .block 1 b8_6
abbrev r8_8 : List MOper := [⟨(some 29), .move (.t 4), none⟩,
  ⟨(some 30), .bin .add .num (.t 29) (.c (.int .i64 1)), none⟩,
  ⟨(some 4), .move (.t 30), none⟩]
def b8_8 : SCode := .region r8_8
def b8_9 : SCode := .seq b8_7 b8_8
def b8_10 : SCode := .seq b8_5 b8_9
def b8_11 : SCode := .loop b8_10
def b8_12 : SCode := .block 0 b8_11
def b8_13 : SCode := .seq b8_2 b8_12
abbrev r8_14 : List MOper := [⟨(some 49), .fieldAddr 25 (.t 1), none⟩,
  ⟨(some 50), .fieldAddr 0 (.t 49), none⟩,
  ⟨(some 51), .load1 (.t 50), none⟩,
  ⟨(some 52), .bin .neq .num (.t 51) (.c (.int .i64 0)), none⟩,
  ⟨(some 53), .move (.t 52), none⟩,
  ⟨(some 54), .fieldAddr 25 (.t 1), (some (53, false))⟩,
  ⟨(some 55), .fieldAddr 1 (.t 54), (some (53, false))⟩,
  ⟨(some 56), .load1 (.t 55), (some (53, false))⟩,
  ⟨(some 57), .lenSl (.t 56), (some (53, false))⟩,
  ⟨(some 58), .bin .gtr .num (.t 57) (.c (.int .i64 0)), (some (53, false))⟩,
  ⟨(some 59), .pick (.t 53) (.c (.bool true)) (.t 58), none⟩]
def b8_14 : SCode := .region r8_14
abbrev r8_15 : List MOper := [⟨(some 60), .fieldAddr 25 (.t 1), none⟩,
  ⟨(some 61), .loadN 2 (.t 60), none⟩,
  ⟨(some 62), .call 19 [(.t 61)], none⟩,
  ⟨(some 63), .fieldAddr 25 (.t 3), none⟩,
  ⟨none, .store 2 (.t 63) (.t 62), none⟩]
def b8_15 : SCode := .region r8_15
def b8_16 : SCode := .cond (.t 59) b8_15 .skip
def b8_17 : SCode := .seq b8_14 b8_16
abbrev r8_18 : List MOper := [⟨(some 64), .loadN 27 (.t 3), none⟩,
  ⟨none, .store 27 (.t 2) (.t 64), none⟩]
def b8_18 : SCode := .region r8_18
def b8_19 : SCode := .seq b8_18 .ret
def b8_20 : SCode := .seq b8_17 b8_19
def b8_21 : SCode := .seq b8_13 b8_20
def b8_22 : SCode := .seq b8_1 b8_21
def b8_23 : SCode := .seq b8_0 b8_22
def s8 : SFunc := ⟨65, [.cN 2 27], b8_23⟩
theorem c8 : sFn Try.prog 8 = some s8 := by kernel_rfl
theorem Z8 : XR b8_0 r8_0 ∧ XR b8_1 r8_1 ∧ XR b8_2 r8_2 ∧ XR b8_3 r8_3 ∧ XC b8_4 (.t 28) .skip (.exit 0) ∧ XS b8_5 b8_3 b8_4 ∧ XT b8_6 t8_6 ∧ XB b8_7 1 b8_6 ∧ XR b8_8 r8_8 ∧ XS b8_9 b8_7 b8_8 ∧ XS b8_10 b8_5 b8_9 ∧ XB b8_12 0 b8_11 ∧ XS b8_13 b8_2 b8_12 ∧ XR b8_14 r8_14 ∧ XR b8_15 r8_15 ∧ XC b8_16 (.t 59) b8_15 .skip ∧ XS b8_17 b8_14 b8_16 ∧ XR b8_18 r8_18 ∧ XS b8_19 b8_18 .ret ∧ XS b8_20 b8_17 b8_19 ∧ XS b8_21 b8_13 b8_20 ∧ XS b8_22 b8_1 b8_21 ∧ XS b8_23 b8_0 b8_22 ∧ XY s8 65 b8_23 [.cN 2 27] := ⟨rfl, rfl, rfl, rfl, sC_cond, rfl, rfl, rfl, rfl, rfl, rfl, rfl, rfl, rfl, rfl, sC_cond, rfl, rfl, rfl, rfl, rfl, rfl, rfl, rfl⟩
abbrev r18_0 : List MOper := [⟨(some 2), .move (.c (.nilslice)), none⟩]
def b18_0 : SCode := .region r18_0
abbrev r18_1 : List MOper := [⟨(some 3), .move (.c (.nilslice)), none⟩]
def b18_1 : SCode := .region r18_1
abbrev r18_2 : List MOper := [⟨(some 4), .move (.c (.int .i64 0)), none⟩]
def b18_2 : SCode := .region r18_2
abbrev r18_3 : List MOper := [⟨(some 5), .move (.t 4), none⟩,
  ⟨(some 6), .move (.t 0), none⟩,
  ⟨(some 7), .lenSl (.t 6), none⟩,
  ⟨(some 8), .bin .lss .num (.t 5) (.t 7), none⟩]
def b18_3 : SCode := .region r18_3
def b18_4 : SCode := .cond (.t 8) .skip (.exit 0)
def b18_5 : SCode := .seq b18_3 b18_4
abbrev t18_6 : LTree := (.quiet ⟨(some 11), .move (.t 3), none⟩ 0
  (.quiet ⟨(some 12), .move (.t 0), none⟩ 1
  (.quiet ⟨(some 13), .move (.t 4), none⟩ 2
  (.quiet ⟨(some 14), .indexAddr 9 (.t 12) (.t 13), none⟩ 3
  (.quiet ⟨(some 15), .fieldAddr 0 (.t 14), none⟩ 4
  (.quiet ⟨(some 16), .load1 (.t 15), none⟩ 5
  (.quiet ⟨(some 17), .move (.t 0), none⟩ 6
  (.quiet ⟨(some 18), .move (.t 4), none⟩ 7
  (.quiet ⟨(some 19), .indexAddr 9 (.t 17) (.t 18), none⟩ 8
  (.quiet ⟨(some 20), .fieldAddr 1 (.t 19), none⟩ 9
  (.quiet ⟨(some 21), .loadN 8 (.t 20), none⟩ 10
  (.quiet ⟨(some 22), .build [.int .i64 0, .int .i64 0, .int .i64 0, .int .i64 0, .bool false, .str [], .nilslice, .str [], .bool false] [(0, 1, (.t 16)), (1, 8, (.t 21))], none⟩ 11
  (.loud ⟨(some 23), .buildSlice [.int .i64 0, .int .i64 0, .int .i64 0, .int .i64 0, .bool false, .str [], .nilslice, .str [], .bool false] 9 1 [(0, 9, (.t 22))], none⟩ []
  (.loud ⟨(some 24), .append 9 104 (.t 11) (.t 23), none⟩ []
  (.quiet ⟨(some 3), .move (.t 24), none⟩ 14
  .leaf) .stop) .stop)))))))))))))
def b18_6 : SCode := .draw t18_6
def b18_7 : SCode := .block 1 b18_6
abbrev r18_8 : List MOper := [⟨(some 9), .move (.t 4), none⟩,
  ⟨(some 10), .bin .add .num (.t 9) (.c (.int .i64 1)), none⟩,
  ⟨(some 4), .move (.t 10), none⟩]
def b18_8 : SCode := .region r18_8
def b18_9 : SCode := .seq b18_7 b18_8
def b18_10 : SCode := .seq b18_5 b18_9
def b18_11 : SCode := .loop b18_10
def b18_12 : SCode := .block 0 b18_11
def b18_13 : SCode := .seq b18_2 b18_12
abbrev r18_14 : List MOper := [⟨(some 25), .move (.t 3), none⟩,
  ⟨(some 2), .move (.t 25), none⟩]
def b18_14 : SCode := .region r18_14
def b18_15 : SCode := .seq b18_14 .ret
def b18_16 : SCode := .seq b18_13 b18_15
def b18_17 : SCode := .seq b18_1 b18_16
def b18_18 : SCode := .seq b18_0 b18_17
def s18 : SFunc := ⟨26, [.t 2], b18_18⟩
theorem c18 : sFn Try.prog 18 = some s18 := by kernel_rfl
theorem Z18 : XR b18_0 r18_0 ∧ XR b18_1 r18_1 ∧ XR b18_2 r18_2 ∧ XR b18_3 r18_3 ∧ XC b18_4 (.t 8) .skip (.exit 0) ∧ XS b18_5 b18_3 b18_4 ∧ XT b18_6 t18_6 ∧ XB b18_7 1 b18_6 ∧ XR b18_8 r18_8 ∧ XS b18_9 b18_7 b18_8 ∧ XS b18_10 b18_5 b18_9 ∧ XB b18_12 0 b18_11 ∧ XS b18_13 b18_2 b18_12 ∧ XR b18_14 r18_14 ∧ XS b18_15 b18_14 .ret ∧ XS b18_16 b18_13 b18_15 ∧ XS b18_17 b18_1 b18_16 ∧ XS b18_18 b18_0 b18_17 ∧ XY s18 26 b18_18 [.t 2] := ⟨rfl, rfl, rfl, rfl, sC_cond, rfl, rfl, rfl, rfl, rfl, rfl, rfl, rfl, rfl, rfl, rfl, rfl, rfl, rfl⟩
abbrev r19_0 : List MOper := [⟨(some 1), .box (.t 0), none⟩,
  ⟨(some 2), .alloc [.int .i64 0, .nilslice], none⟩]
def b19_0 : SCode := .region r19_0
abbrev r19_1 : List MOper := [⟨(some 5), .fieldAddr 0 (.t 1), none⟩,
  ⟨(some 6), .load1 (.t 5), none⟩,
  ⟨(some 7), .build [.int .i64 0, .nilslice] [(0, 1, (.t 6))], none⟩,
  ⟨(some 3), .alloc [.int .i64 0, .nilslice], none⟩,
  ⟨none, .store 2 (.t 3) (.t 7), none⟩]
def b19_1 : SCode := .region r19_1
abbrev r19_2 : List MOper := [⟨(some 4), .move (.c (.int .i64 0)), none⟩]
def b19_2 : SCode := .region r19_2
abbrev r19_3 : List MOper := [⟨(some 8), .move (.t 4), none⟩,
  ⟨(some 9), .fieldAddr 1 (.t 1), none⟩,
  ⟨(some 10), .load1 (.t 9), none⟩,
  ⟨(some 11), .lenSl (.t 10), none⟩,
  ⟨(some 12), .bin .lss .num (.t 8) (.t 11), none⟩]
def b19_3 : SCode := .region r19_3
def b19_4 : SCode := .cond (.t 12) .skip (.exit 0)
def b19_5 : SCode := .seq b19_3 b19_4
abbrev t19_6 : LTree := (.quiet ⟨(some 15), .fieldAddr 1 (.t 3), none⟩ 0
  (.quiet ⟨(some 16), .load1 (.t 15), none⟩ 1
  (.quiet ⟨(some 17), .fieldAddr 1 (.t 1), none⟩ 2
  (.quiet ⟨(some 18), .load1 (.t 17), none⟩ 3
  (.quiet ⟨(some 19), .move (.t 4), none⟩ 4
  (.quiet ⟨(some 20), .indexAddr 4 (.t 18) (.t 19), none⟩ 5
  (.quiet ⟨(some 21), .fieldAddr 0 (.t 20), none⟩ 6
  (.quiet ⟨(some 22), .loadN 2 (.t 21), none⟩ 7
  (.quiet ⟨(some 23), .fieldAddr 1 (.t 1), none⟩ 8
  (.quiet ⟨(some 24), .load1 (.t 23), none⟩ 9
  (.quiet ⟨(some 25), .move (.t 4), none⟩ 10
  (.quiet ⟨(some 26), .indexAddr 4 (.t 24) (.t 25), none⟩ 11
  (.quiet ⟨(some 27), .fieldAddr 2 (.t 26), none⟩ 12
  (.quiet ⟨(some 28), .load1 (.t 27), none⟩ 13
  (.quiet ⟨(some 29), .fieldAddr 1 (.t 1), none⟩ 14
  (.quiet ⟨(some 30), .load1 (.t 29), none⟩ 15
  (.quiet ⟨(some 31), .move (.t 4), none⟩ 16
  (.quiet ⟨(some 32), .indexAddr 4 (.t 30) (.t 31), none⟩ 17
  (.quiet ⟨(some 33), .fieldAddr 3 (.t 32), none⟩ 18
  (.quiet ⟨(some 34), .load1 (.t 33), none⟩ 19
  (.quiet ⟨(some 35), .build [.str [], .str [], .int .i64 0, .int .i64 0] [(0, 2, (.t 22)), (2, 1, (.t 28)), (3, 1, (.t 34))], none⟩ 20
  (.loud ⟨(some 36), .buildSlice [.str [], .str [], .int .i64 0, .int .i64 0] 4 1 [(0, 4, (.t 35))], none⟩ [1]
  (.loud ⟨(some 37), .append 4 48 (.t 16) (.t 36), none⟩ []
  (.quiet ⟨(some 38), .fieldAddr 1 (.t 3), none⟩ 23
  (.loud ⟨none, .store 1 (.t 38) (.t 37), none⟩ []
  .leaf .stop)) .stop) .stop))))))))))))))))))))))
def b19_6 : SCode := .draw t19_6
def b19_7 : SCode := .block 1 b19_6
abbrev r19_8 : List MOper := [⟨(some 13), .move (.t 4), none⟩,
  ⟨(some 14), .bin .add .num (.t 13) (.c (.int .i64 1)), none⟩,
  ⟨(some 4), .move (.t 14), none⟩]
def b19_8 : SCode := .region r19_8
def b19_9 : SCode := .seq b19_7 b19_8
def b19_10 : SCode := .seq b19_5 b19_9
def b19_11 : SCode := .loop b19_10
def b19_12 : SCode := .block 0 b19_11
def b19_13 : SCode := .seq b19_2 b19_12
abbrev r19_14 : List MOper := [⟨(some 39), .loadN 2 (.t 3), none⟩,
  ⟨none, .store 2 (.t 2) (.t 39), none⟩]
def b19_14 : SCode := .region r19_14
def b19_15 : SCode := .seq b19_14 .ret
def b19_16 : SCode := .seq b19_13 b19_15
def b19_17 : SCode := .seq b19_1 b19_16
def b19_18 : SCode := .seq b19_0 b19_17
def s19 : SFunc := ⟨40, [.cN 2 2], b19_18⟩
theorem c19 : sFn Try.prog 19 = some s19 := by kernel_rfl
theorem Z19 : XR b19_0 r19_0 ∧ XR b19_1 r19_1 ∧ XR b19_2 r19_2 ∧ XR b19_3 r19_3 ∧ XC b19_4 (.t 12) .skip (.exit 0) ∧ XS b19_5 b19_3 b19_4 ∧ XT b19_6 t19_6 ∧ XB b19_7 1 b19_6 ∧ XR b19_8 r19_8 ∧ XS b19_9 b19_7 b19_8 ∧ XS b19_10 b19_5 b19_9 ∧ XB b19_12 0 b19_11 ∧ XS b19_13 b19_2 b19_12 ∧ XR b19_14 r19_14 ∧ XS b19_15 b19_14 .ret ∧ XS b19_16 b19_13 b19_15 ∧ XS b19_17 b19_1 b19_16 ∧ XS b19_18 b19_0 b19_17 ∧ XY s19 40 b19_18 [.cN 2 2] := ⟨rfl, rfl, rfl, rfl, sC_cond, rfl, rfl, rfl, rfl, rfl, rfl, rfl, rfl, rfl, rfl, rfl, rfl, rfl, rfl⟩

end
set_option maxHeartbeats 4000000
set_option maxRecDepth 10000

/-! Last replies, shards: as they are. -/
def mlI (l : List LaV) (n : Nat) (e : Env) (σ : AHeap) : Prop :=
  ∃ (i : Nat) (Lv : AV), i ≤ l.length ∧ n = l.length - i ∧ Grow σ Lv 9 ((l.take i).map LaV.cells) ∧ e 0 = .imm (l.map LaV.cells) false false ∧ e 3 = Lv ∧ e 4 = .int .i64 (i : Int)
def ImmQ (rows : List (List AV)) (r : AV) (σ : AHeap) : Prop := Frz σ r (.imm rows false false)
theorem ml_step (l : List LaV) (hl : l.length ≤ 1000000) (n : Nat) (e : Env) (σ : AHeap) (h : mlI l n e σ) :
    sC noCall 0 b18_10 (unw noCall 0 (loopR noCall 0 (RetQ [MRes.t 2] (ImmQ (l.map LaV.cells))) (.block 0 (.seq b18_15 .fin)) (mlI l) n) .fin) e σ := by
  obtain ⟨i, Lv, hi, hn, hLv, e0, e3, e4⟩ := h
  have hml : (l.map LaV.cells).length = l.length := by simp
  have lc := grow_cell hLv
  rcases Nat.lt_or_ge i l.length with hlt | hge
  · have hlt' : (i : Int) < (l.length : Int) := by omega
    have hge0 : (0 : Int) ≤ (i : Int) := by omega
    obtain ⟨x, hx⟩ : ∃ x, l[i]? = some x := ⟨_, List.getElem?_eq_getElem hlt⟩
    have hxx : (l.map LaV.cells)[i]? = some [.int .i64 x.seq, .int .i64 x.rep.client, .int .i64 x.rep.seq, .int .i64 x.rep.err, .bool x.rep.found, .str x.rep.val, .imm (recs x.rep.l) false false, .str x.rep.next, .bool x.rep.more] := by simp [hx, LaV.cells, RepV.cells]
    have hw : IntKind.wrap .i64 ((i : Int) + 1) = ((i + 1 : Nat) : Int) := by rw [Gz.wrap64 (by omega)]; omega
    have htk : l.take (i + 1) = l.take i ++ [x] := by rw [List.take_add_one, hx]; rfl
    obtain ⟨v, τ, a1, a2, a3, a4, a5⟩ := grow_one (b := 104) (by decide) hLv (by simp; omega) x.cells rfl rfl
    simp only [LaV.cells, RepV.cells] at a1
    simp only [Z18, base1, ↓reduceIte, Nat.reduceAdd, Nat.reduceSub, Nat.reduceMul, Nat.reduceEqDiff, Nat.reduceLeDiff, Nat.reduceLT, Int.reduceLT, Int.reduceLE, Int.reduceEq, Int.reduceNe, Int.reduceToNat, Int.reduceAdd, Int.reduceSub, reduceCtorEq, Nat.reduceBEq, Nat.reduceBNe, lenOf_imm, loopR_exit, loopR_ret, e0, e3, e4, hlt', hlt, hge0, hxx, hml, hw, Int.toNat_natCast, a1, a2, a3]
    rw [loopR_normal]
    refine ⟨l.length - (i + 1), _, _, by omega, .refl _ _ _, i + 1, v, hlt, rfl, ?_, ?_, ?_, ?_⟩
    · rw [htk]; simpa using a5
    all_goals simp only [putD_some, putD_none, Nat.reduceEqDiff, ↓reduceIte, e0, e3, e4, hw]
  · have hlt' : ¬ (i : Int) < (l.length : Int) := by omega
    have hie : i = l.length := by omega
    subst hie
    rw [List.take_length] at hLv
    simp only [Z18, base1, ↓reduceIte, Nat.reduceAdd, Nat.reduceSub, Nat.reduceMul, Nat.reduceEqDiff, Nat.reduceLeDiff, Nat.reduceLT, Int.reduceLT, Int.reduceLE, Int.reduceEq, Int.reduceNe, Int.reduceToNat, Int.reduceAdd, Int.reduceSub, reduceCtorEq, Nat.reduceBEq, Nat.reduceBNe, lenOf_imm, loopR_exit, loopR_ret, e0, e3, e4, hlt', hml]
    exact grow_frz hLv (rowsLa_pure l)
theorem madeL_ok (l : List LaV) (hl : l.length ≤ 1000000) : Tri Try.prog 18 [.imm (l.map LaV.cells) false false] [] fun r _ => r.pure = true ∧ r = .imm (l.map LaV.cells) false false := by
  refine Tri.frozen (Q := ImmQ (l.map LaV.cells)) (Tri.of_s c18 (noCall_sound _) ?_) (fun r σ hr => ⟨_, hr, by simp only [AV.pure, rowsLa_pure], rfl⟩)
  simp only [Z18, base1, baseE, ↓reduceIte, Nat.reduceAdd, Nat.reduceSub, Nat.reduceMul, Nat.reduceEqDiff, Nat.reduceLeDiff, Nat.reduceLT, Int.reduceLT, Int.reduceLE, Int.reduceEq, Int.reduceNe, Int.reduceToNat, Int.reduceAdd, Int.reduceSub, reduceCtorEq, Nat.reduceBEq, Nat.reduceBNe]
  exact sC_inv (a := b18_10) (mlI l) l.length _ _ (.refl _ _ _) ⟨0, .nilslice, Nat.zero_le _, rfl, .inl ⟨rfl, rfl⟩, rfl, rfl, rfl⟩ (ml_step l hl)
def madeLD (args : List AV) (σ : AHeap) (K : AV → AHeap → Prop) : Prop := ∃ (d : Nat) (x : LaV), args = [.slice d 0 1 (some 1) 9] ∧ hget σ d = some x.cells ∧ K (.imm [x.cells] false false) (hkill σ d)
theorem madeLD_ok (args : List AV) (σ : AHeap) (K : AV → AHeap → Prop) (h : madeLD args σ K) : Tri Try.prog 18 args σ K := by
  obtain ⟨d, x, rfl, hd, h⟩ := h
  have hg : Given σ d (.slice d 0 1 (some 1) 9) (.imm ([x].map LaV.cells) false false) := .inr (.inr ⟨0, 1, some 1, 9, _, [x.cells], rfl, rfl, hd, by rw [show [x.cells].flatten = x.cells by simp]; exact sub_all rfl, rfl, by simp [LaV.cells, RepV.cells], rowsLa_pure [x]⟩)
  exact (Tri.give (args := [.slice d 0 1 (some 1) 9]) (args1 := [.imm ([x].map LaV.cells) false false]) d rfl (given1 hg) (madeL_ok [x] (by simp))).mono fun r σ' hr => by rw [hr.1, hr.2]; exact h
def ma14I (ep : Int) (sh : List ShV) (n : Nat) (e : Env) (σ : AHeap) : Prop :=
  ∃ (i : Nat) (Lv : AV), i ≤ sh.length ∧ n = sh.length - i ∧ hget σ 0 = some [.int .i64 ep, .imm (sh.map ShV.cells) false false] ∧ hget σ 1 = some [.int .i64 0, .nilslice] ∧ hget σ 2 = some [.int .i64 ep, Lv] ∧ Grow σ Lv 4 ((sh.take i).map ShV.cells) ∧ LvD Lv ≠ some 0 ∧ LvD Lv ≠ some 1 ∧ LvD Lv ≠ some 2 ∧
    e 1 = .ptr 0 0 ∧ e 2 = .ptr 1 0 ∧ e 3 = .ptr 2 0 ∧ e 4 = .int .i64 (i : Int)
def AtQ (ep : Int) (sh : List ShV) (r : AV) (σ : AHeap) : Prop := Frz σ r (.agg [.int .i64 ep, .imm (sh.map ShV.cells) false false])
theorem frz_at {σ : AHeap} {ep : Int} {Lv : AV} {rows : List (List AV)} (h : Frz σ Lv (.imm rows false false)) : Frz σ (.agg [.int .i64 ep, Lv]) (.agg [.int .i64 ep, .imm rows false false]) := by
  refine .agg rfl (fun i x y hx hy => ?_)
  match i with
  | 0 => simp at hx hy; subst hx; subst hy; exact .pure rfl
  | 1 => simp at hx hy; subst hx; subst hy; exact h
  | n + 2 => simp at hx
theorem ma14_step (ep : Int) (sh : List ShV) (hl : sh.length ≤ 1000000) (n : Nat) (e : Env) (σ : AHeap) (h : ma14I ep sh n e σ) :
    sC noCall 0 b19_10 (unw noCall 0 (loopR noCall 0 (RetQ [MRes.cN 2 2] (AtQ ep sh)) (.block 0 (.seq b19_15 .fin)) (ma14I ep sh) n) .fin) e σ := by
  obtain ⟨i, Lv, hi, hn, g0, g1, g2, hLv, d0, d1, d2, e1, e2, e3, e4⟩ := h
  have hml : (sh.map ShV.cells).length = sh.length := by simp
  have lc := grow_cell hLv
  rcases Nat.lt_or_ge i sh.length with hlt | hge
  · have hlt' : (i : Int) < (sh.length : Int) := by omega
    have hge0 : (0 : Int) ≤ (i : Int) := by omega
    obtain ⟨x, hx⟩ : ∃ x, sh[i]? = some x := ⟨_, List.getElem?_eq_getElem hlt⟩
    have hxx : (sh.map ShV.cells)[i]? = some [.str x.from_, .str x.to, .int .i64 x.node, .int .i64 x.epoch] := by simp [hx, ShV.cells]
    have hw : IntKind.wrap .i64 ((i : Int) + 1) = ((i + 1 : Nat) : Int) := by rw [Gz.wrap64 (by omega)]; omega
    have htk : sh.take (i + 1) = sh.take i ++ [x] := by rw [List.take_add_one, hx]; rfl
    obtain ⟨v, τ, a1, a2, a3, a4, a5⟩ := grow_one (b := 48) (by decide) hLv (by simp; omega) x.cells rfl rfl
    obtain ⟨q0, u0⟩ := a4 0 _ g0 d0
    obtain ⟨q1, u1⟩ := a4 1 _ g1 d1
    obtain ⟨q2, u2⟩ := a4 2 _ g2 d2
    simp only [ShV.cells] at a1
    have p2 : ∀ c : List AV, hget (hpush σ c) 2 = some [.int .i64 ep, Lv] := fun c => push_old g2
    simp only [Z19, base1, ↓reduceIte, Nat.reduceAdd, Nat.reduceSub, Nat.reduceMul, Nat.reduceEqDiff, Nat.reduceLeDiff, Nat.reduceLT, Int.reduceLT, Int.reduceLE, Int.reduceEq, Int.reduceNe, Int.reduceToNat, Int.reduceAdd, Int.reduceSub, reduceCtorEq, Nat.reduceBEq, Nat.reduceBNe, lenOf_imm, loopR_exit, loopR_ret, e1, e2, e3, e4, g0, g1, g2, p2, q2, hlt', hlt, hge0, hxx, hml, hw, Int.toNat_natCast, a1, a2, a3]
    rw [loopR_normal]
    refine ⟨sh.length - (i + 1), _, _, by omega, .refl _ _ _, i + 1, v, hlt, rfl, by rw [set_other (by decide)]; exact q0, by rw [set_other (by decide)]; exact q1, set_same q2, ?_, u0, u1, u2, ?_, ?_, ?_, ?_⟩
    · rw [htk]
      refine grow_frame (by simpa using a5) fun j c hj hd => ?_
      rw [set_other (fun e => u2 (by rw [hd, e]))]; exact hj
    all_goals simp only [putD_some, putD_none, Nat.reduceEqDiff, ↓reduceIte, e1, e2, e3, e4, hw]
  · have hlt' : ¬ (i : Int) < (sh.length : Int) := by omega
    have hie : i = sh.length := by omega
    subst hie
    rw [List.take_length] at hLv
    have s1 : ∀ c : List AV, hget (hset σ 1 c) 1 = some c := fun c => set_same g1
    simp only [Z19, base1, ↓reduceIte, Nat.reduceAdd, Nat.reduceSub, Nat.reduceMul, Nat.reduceEqDiff, Nat.reduceLeDiff, Nat.reduceLT, Int.reduceLT, Int.reduceLE, Int.reduceEq, Int.reduceNe, Int.reduceToNat, Int.reduceAdd, Int.reduceSub, reduceCtorEq, Nat.reduceBEq, Nat.reduceBNe, lenOf_imm, loopR_exit, loopR_ret, e1, e2, e3, e4, g0, g1, g2, s1, hlt', hml, lc]
    refine frz_at (grow_frz (grow_frame hLv fun j c hj hd => ?_) (rowsSh_pure sh))
    rw [set_other (fun e => d1 (by rw [hd, e]))]; exact hj
theorem made14_ok (ep : Int) (sh : List ShV) (hl : sh.length ≤ 1000000) : Tri Try.prog 19 [.agg [.int .i64 ep, .imm (sh.map ShV.cells) false false]] [] fun r _ => r.pure = true ∧ r = .agg [.int .i64 ep, .imm (sh.map ShV.cells) false false] := by
  refine Tri.frozen (Q := AtQ ep sh) (Tri.of_s c19 (noCall_sound _) ?_) (fun r σ hr => ⟨_, hr, by simp only [AV.pure, pureL, rowsSh_pure, Bool.and_self], rfl⟩)
  simp only [Z19, base1, baseE, ↓reduceIte, Nat.reduceAdd, Nat.reduceSub, Nat.reduceMul, Nat.reduceEqDiff, Nat.reduceLeDiff, Nat.reduceLT, Int.reduceLT, Int.reduceLE, Int.reduceEq, Int.reduceNe, Int.reduceToNat, Int.reduceAdd, Int.reduceSub, reduceCtorEq, Nat.reduceBEq, Nat.reduceBNe]
  exact sC_inv (a := b19_10) (ma14I ep sh) sh.length _ _ (.refl _ _ _) ⟨0, .nilslice, Nat.zero_le _, rfl, rfl, rfl, rfl, .inl ⟨rfl, rfl⟩, by simp [LvD], by simp [LvD], by simp [LvD], rfl, rfl, rfl, rfl⟩ (ma14_step ep sh hl)
def made14D (args : List AV) (σ : AHeap) (K : AV → AHeap → Prop) : Prop := ∃ (ep : Int) (sh : List ShV), args = [.agg [.int .i64 ep, .imm (sh.map ShV.cells) false false]] ∧ sh.length ≤ 1000000 ∧ K (.agg [.int .i64 ep, .imm (sh.map ShV.cells) false false]) σ
theorem made14D_eq {ep : Int} {sh : List ShV} {σ : AHeap} {K : AV → AHeap → Prop} : made14D [.agg [.int .i64 ep, .imm (sh.map ShV.cells) false false]] σ K = (sh.length ≤ 1000000 ∧ K (.agg [.int .i64 ep, .imm (sh.map ShV.cells) false false]) σ) := by
  apply propext
  refine ⟨fun ⟨ep', sh', h1, h2, h3⟩ => ?_, fun h => ⟨ep, sh, rfl, h.1, h.2⟩⟩
  simp only [List.cons.injEq, AV.agg.injEq, AV.int.injEq, AV.imm.injEq, true_and, and_true] at h1
  obtain ⟨rfl, h1⟩ := h1
  have := map_inj sh_inj h1
  subst this
  exact ⟨h2, h3⟩
theorem made14D_ok (args : List AV) (σ : AHeap) (K : AV → AHeap → Prop) (h : made14D args σ K) : Tri Try.prog 19 args σ K := by
  obtain ⟨ep, sh, rfl, hl, h⟩ := h
  exact (Tri.pureD (by simp only [pureL, AV.pure, rowsSh_pure, Bool.and_self]) (made14_ok ep sh hl) σ).mono fun r σ' hr => by rw [hr.1, hr.2]; exact h
/-! Made. -/
def mkLa (x : RepV) : LaV := ⟨x.seq, x⟩
def made (r : RowV) : NoteV := ⟨r.kind, r.from_, r.to, r.epoch, r.tick, r.ask, r.rep, r.sf, r.st, r.l, r.last.map mkLa, r.aep, r.sh⟩
def nCells (r : RowV) (Lv : AV) (ae : Int) (Sv : AV) : List AV := [.int .i64 r.kind, .int .i64 r.from_, .int .i64 r.to, .int .i64 r.epoch, .int .i64 r.tick, .int .i64 r.ask.do_, .int .i64 r.ask.client, .int .i64 r.ask.seq, .str r.ask.text, .str r.ask.val, .str r.ask.from_, .str r.ask.to, .int .i64 r.ask.limit, .int .i64 r.rep.client, .int .i64 r.rep.seq, .int .i64 r.rep.err, .bool r.rep.found, .str r.rep.val, .imm (recs r.rep.l) false false, .str r.rep.next, .bool r.rep.more, .str r.sf, .str r.st, .imm (r.l.map recC) false false, Lv, .int .i64 ae, Sv]
def MaQ (r : RowV) (x : AV) (σ : AHeap) : Prop := Frz σ x (.agg (made r).cells)
theorem frz_note {σ : AHeap} {r : RowV} {Lv Sv : AV} (h : Frz σ Lv (.imm ((r.last.map mkLa).map LaV.cells) false false)) (k : Frz σ Sv (.imm (r.sh.map ShV.cells) false false)) : Frz σ (.agg (nCells r Lv r.aep Sv)) (.agg (made r).cells) := by
  refine .agg rfl (fun i x y hx hy => ?_)
  have h1 := recs_pure r.rep.l
  have h2 := rowsRec_pure r.l
  match i with
  | 0 | 1 | 2 | 3 | 4 | 5 | 6 | 7 | 8 | 9 | 10 | 11 | 12 | 13 | 14 | 15 | 16 | 17 | 19 | 20 | 21 | 22 | 25 => simp only [nCells, made, NoteV.cells, List.getElem?_cons_zero, List.getElem?_cons_succ, Option.some.injEq] at hx hy; subst hx; subst hy; exact .pure rfl
  | 18 => simp only [nCells, made, NoteV.cells, List.getElem?_cons_zero, List.getElem?_cons_succ, Option.some.injEq] at hx hy; subst hx; subst hy; exact .pure (by simp only [AV.pure, h1])
  | 23 => simp only [nCells, made, NoteV.cells, List.getElem?_cons_zero, List.getElem?_cons_succ, Option.some.injEq] at hx hy; subst hx; subst hy; exact .pure (by simp only [AV.pure, h2])
  | 24 => simp only [nCells, made, NoteV.cells, List.getElem?_cons_zero, List.getElem?_cons_succ, Option.some.injEq] at hx hy; subst hx; subst hy; exact h
  | 26 => simp only [nCells, made, NoteV.cells, List.getElem?_cons_zero, List.getElem?_cons_succ, Option.some.injEq] at hx hy; subst hx; subst hy; exact k
  | n + 27 => simp [nCells] at hx
def T14 : PCall := rowQ 18 madeLD (rowQ 19 made14D noCall)
theorem T14_app {f : FuncId} {args : List AV} {σ : AHeap} {K : AV → AHeap → Prop} : T14 f args σ K = rowQ 18 madeLD (rowQ 19 made14D noCall) f args σ K := _root_.id rfl
theorem T14_sound : Sound Try.prog T14 := rowQ_sound madeLD_ok (rowQ_sound made14D_ok (noCall_sound _))
abbrev z27 : List AV := [.int .i64 0, .int .i64 0, .int .i64 0, .int .i64 0, .int .i64 0, .int .i64 0, .int .i64 0, .int .i64 0, .str [], .str [], .str [], .str [], .int .i64 0, .int .i64 0, .int .i64 0, .int .i64 0, .bool false, .str [], .nilslice, .str [], .bool false, .str [], .str [], .nilslice, .nilslice, .int .i64 0, .nilslice]
def ma1I (r : RowV) (n : Nat) (e : Env) (σ : AHeap) : Prop :=
  ∃ (i : Nat) (Lv : AV), i ≤ r.last.length ∧ n = r.last.length - i ∧ hget σ 0 = some r.cells ∧ hget σ 1 = some z27 ∧ hget σ 2 = some (nCells r Lv 0 .nilslice) ∧ Grow σ Lv 9 (((r.last.take i).map mkLa).map LaV.cells) ∧ LvD Lv ≠ some 0 ∧ LvD Lv ≠ some 1 ∧ LvD Lv ≠ some 2 ∧
    e 1 = .ptr 0 0 ∧ e 2 = .ptr 1 0 ∧ e 3 = .ptr 2 0 ∧ e 4 = .int .i64 (i : Int)
theorem ma1_step (r : RowV) (hl : r.last.length ≤ 1000000) (hs : r.sh.length ≤ 1000000) (n : Nat) (e : Env) (σ : AHeap) (h : ma1I r n e σ) :
    sC T14 0 b8_10 (unw T14 0 (loopR T14 0 (RetQ [MRes.cN 2 27] (MaQ r)) (.block 0 (.seq b8_20 .fin)) (ma1I r) n) .fin) e σ := by
  obtain ⟨i, Lv, hi, hn, g0, g1, g2, hLv, d0, d1, d2, e1, e2, e3, e4⟩ := h
  have hml : (r.last.map RepV.cells).length = r.last.length := by simp
  have lc := grow_cell hLv
  simp only [RowV.cells] at g0
  simp only [nCells] at g2
  rcases Nat.lt_or_ge i r.last.length with hlt | hge
  · have hlt' : (i : Int) < (r.last.length : Int) := by omega
    have hge0 : (0 : Int) ≤ (i : Int) := by omega
    obtain ⟨x, hx⟩ : ∃ x, r.last[i]? = some x := ⟨_, List.getElem?_eq_getElem hlt⟩
    have hxx : (r.last.map RepV.cells)[i]? = some [.int .i64 x.client, .int .i64 x.seq, .int .i64 x.err, .bool x.found, .str x.val, .imm (recs x.l) false false, .str x.next, .bool x.more] := by simp [hx, RepV.cells]
    have hw : IntKind.wrap .i64 ((i : Int) + 1) = ((i + 1 : Nat) : Int) := by rw [Gz.wrap64 (by omega)]; omega
    have htk : r.last.take (i + 1) = r.last.take i ++ [x] := by rw [List.take_add_one, hx]; rfl
    have hxc : (mkLa x).cells = [.int .i64 x.seq, .int .i64 x.client, .int .i64 x.seq, .int .i64 x.err, .bool x.found, .str x.val, .imm (recs x.l) false false, .str x.next, .bool x.more] := rfl
    have fk : ∀ j c, hget σ j = some c → hget (hkill (hpush σ (mkLa x).cells) σ.length) j = some c := fun j c hj => Fr1.kill (id := σ.length) j c hj (by have := hget_lt hj; omega)
    have v1 := grow_frame hLv (τ := hkill (hpush σ (mkLa x).cells) σ.length) fun j c hj hd => fk j c hj
    obtain ⟨v, τ, a1, a2, a3, a4, a5⟩ := grow_any (b := 104) (x := .imm [(mkLa x).cells] false false) (ys := [(mkLa x).cells]) (by decide) v1 (by simp; omega) (by simp [elemsOf, hxc]) rfl (by simp [hxc]) rfl
    obtain ⟨q0, u0⟩ := a4 0 _ (fk _ _ g0) d0
    obtain ⟨q1, u1⟩ := a4 1 _ (fk _ _ g1) d1
    obtain ⟨q2, u2⟩ := a4 2 _ (fk _ _ g2) d2
    have p2 : ∀ c : List AV, hget (hpush σ c) 2 = _ := fun c => push_old g2
    have k2 := fk _ _ g2
    rw [hxc] at a1 k2
    simp only [T14_app, Z8, base1, ↓reduceIte, Nat.reduceAdd, Nat.reduceSub, Nat.reduceMul, Nat.reduceEqDiff, Nat.reduceLeDiff, Nat.reduceLT, Int.reduceLT, Int.reduceLE, Int.reduceEq, Int.reduceNe, Int.reduceToNat, Int.reduceAdd, Int.reduceSub, reduceCtorEq, Nat.reduceBEq, Nat.reduceBNe, lenOf_imm, loopR_exit, loopR_ret, e1, e2, e3, e4, g0, g1, g2, p2, hlt', hlt, hge0, hxx, hml, Int.toNat_natCast, push_new']
    refine ⟨σ.length, mkLa x, rfl, push_new', ?_⟩
    rw [hxc]
    simp only [T14_app, Z8, base1, ↓reduceIte, Nat.reduceAdd, Nat.reduceSub, Nat.reduceMul, Nat.reduceEqDiff, Nat.reduceLeDiff, Nat.reduceLT, Int.reduceLT, Int.reduceLE, Int.reduceEq, Int.reduceNe, Int.reduceToNat, Int.reduceAdd, Int.reduceSub, reduceCtorEq, Nat.reduceBEq, Nat.reduceBNe, lenOf_imm, loopR_exit, loopR_ret, e1, e2, e3, e4, k2, q2, a1, a2, a3, hw]
    rw [loopR_normal]
    refine ⟨r.last.length - (i + 1), _, _, by omega, .refl _ _ _, i + 1, v, hlt, rfl, by rw [set_other (by decide)]; exact q0, by rw [set_other (by decide)]; exact q1, set_same q2, ?_, u0, u1, u2, ?_, ?_, ?_, ?_⟩
    · rw [htk]
      refine grow_frame (by simpa using a5) fun j c hj hd => ?_
      rw [set_other (fun e => u2 (by rw [hd, e]))]; exact hj
    all_goals simp only [putD_some, putD_none, Nat.reduceEqDiff, ↓reduceIte, e1, e2, e3, e4, hw]
  · have hlt' : ¬ (i : Int) < (r.last.length : Int) := by omega
    have hie : i = r.last.length := by omega
    subst hie
    rw [List.take_length] at hLv
    have hsl : (r.sh.map ShV.cells).length = r.sh.length := by simp
    have s1 : ∀ c : List AV, hget (hset σ 1 c) 1 = some c := fun c => set_same g1
    have s2 : ∀ c : List AV, hget (hset σ 2 c) 2 = some c := fun c => set_same g2
    have s13 : ∀ c d : List AV, hget (hset (hset σ 2 c) 1 d) 1 = some d := fun c d => set_same (by rw [set_other (by decide)]; exact g1)
    have o1 : ∀ c : List AV, hget (hset σ 2 c) 1 = some z27 := fun c => (set_other (by decide)).trans g1
    have fin1 : ∀ c d : List AV, Grow (hset (hset σ 2 c) 1 d) Lv 9 ((r.last.map mkLa).map LaV.cells) := fun c d => grow_frame hLv fun j c hj hd => by
      rw [set_other (fun e => d1 (by rw [hd, e])), set_other (fun e => d2 (by rw [hd, e]))]; exact hj
    have fin2 : ∀ d : List AV, Grow (hset σ 1 d) Lv 9 ((r.last.map mkLa).map LaV.cells) := fun d => grow_frame hLv fun j c hj hd => by
      rw [set_other (fun e => d1 (by rw [hd, e]))]; exact hj
    have withA : ∀ d c : List AV, MaQ r (.agg (nCells r Lv r.aep (.imm (r.sh.map ShV.cells) false false))) (hset (hset σ 2 c) 1 d) := fun d c => frz_note (grow_frz (fin1 c d) (rowsLa_pure _)) (.pure (by simp only [AV.pure, rowsSh_pure]))
    cases h1 : decide (r.aep ≠ 0) with
    | true =>
      simp only [T14_app, Z8, base1, ↓reduceIte, Nat.reduceAdd, Nat.reduceSub, Nat.reduceMul, Nat.reduceEqDiff, Nat.reduceLeDiff, Nat.reduceLT, Int.reduceLT, Int.reduceLE, Int.reduceEq, Int.reduceNe, Int.reduceToNat, Int.reduceAdd, Int.reduceSub, reduceCtorEq, Nat.reduceBEq, Nat.reduceBNe, lenOf_imm, loopR_exit, loopR_ret, made14D_eq, e1, e2, e3, e4, g0, g1, g2, hlt', hml, hs, s2, o1, s13, h1, lc]
      exact withA _ _
    | false =>
      cases h2 : decide ((0 : Int) < (r.sh.length : Int)) with
      | true =>
        simp only [T14_app, Z8, base1, ↓reduceIte, Nat.reduceAdd, Nat.reduceSub, Nat.reduceMul, Nat.reduceEqDiff, Nat.reduceLeDiff, Nat.reduceLT, Int.reduceLT, Int.reduceLE, Int.reduceEq, Int.reduceNe, Int.reduceToNat, Int.reduceAdd, Int.reduceSub, reduceCtorEq, Nat.reduceBEq, Nat.reduceBNe, lenOf_imm, loopR_exit, loopR_ret, made14D_eq, e1, e2, e3, e4, g0, g1, g2, hlt', hml, hsl, hs, s2, o1, s13, h1, h2, lc]
        exact withA _ _
      | false =>
        have z1 : r.aep = 0 := by simpa using h1
        have z2 : r.sh = [] := by
          have := of_decide_eq_false h2
          exact List.length_eq_zero_iff.1 (by omega)
        simp only [T14_app, Z8, base1, ↓reduceIte, Nat.reduceAdd, Nat.reduceSub, Nat.reduceMul, Nat.reduceEqDiff, Nat.reduceLeDiff, Nat.reduceLT, Int.reduceLT, Int.reduceLE, Int.reduceEq, Int.reduceNe, Int.reduceToNat, Int.reduceAdd, Int.reduceSub, reduceCtorEq, Nat.reduceBEq, Nat.reduceBNe, lenOf_imm, loopR_exit, loopR_ret, e1, e2, e3, e4, g0, g1, g2, hlt', hml, hsl, s1, h1, h2, lc]
        have := frz_note (r := r) (Sv := .nilslice) (grow_frz (fin2 (nCells r Lv 0 .nilslice)) (rowsLa_pure _)) (by rw [z2]; exact .nil)
        rw [z1] at this
        exact this
theorem made_ok (r : RowV) (hl : r.last.length ≤ 1000000) (hs : r.sh.length ≤ 1000000) : Tri Try.prog 8 [.agg r.cells] [] fun x _ => x.pure = true ∧ x = .agg (made r).cells := by
  refine Tri.frozen (Q := MaQ r) (Tri.of_s c8 T14_sound ?_) (fun x σ hx => ⟨_, hx, note_pure _, rfl⟩)
  simp only [RowV.cells, T14_app, Z8, base1, baseE, ↓reduceIte, Nat.reduceAdd, Nat.reduceSub, Nat.reduceMul, Nat.reduceEqDiff, Nat.reduceLeDiff, Nat.reduceLT, Int.reduceLT, Int.reduceLE, Int.reduceEq, Int.reduceNe, Int.reduceToNat, Int.reduceAdd, Int.reduceSub, reduceCtorEq, Nat.reduceBEq, Nat.reduceBNe]
  exact sC_inv (a := b8_10) (ma1I r) r.last.length _ _ (.refl _ _ _) ⟨0, .nilslice, Nat.zero_le _, rfl, rfl, rfl, rfl, .inl ⟨rfl, rfl⟩, by simp [LvD], by simp [LvD], by simp [LvD], rfl, rfl, rfl, rfl⟩ (ma1_step r hl hs)
def madeD (args : List AV) (σ : AHeap) (K : AV → AHeap → Prop) : Prop := ∃ r : RowV, args = [.agg r.cells] ∧ r.last.length ≤ 1000000 ∧ r.sh.length ≤ 1000000 ∧ K (.agg (made r).cells) σ
theorem madeD_ok (args : List AV) (σ : AHeap) (K : AV → AHeap → Prop) (h : madeD args σ K) : Tri Try.prog 8 args σ K := by
  obtain ⟨r, rfl, hl, hs, h⟩ := h
  exact (Tri.pureD (by simp only [pureL, row_pure, Bool.and_self]) (made_ok r hl hs) σ).mono fun x σ' hx => by rw [hx.1, hx.2]; exact h
end Go.Proofs.Ytndlgmciplckjab.note

/- The bytes that Pack makes of a note. No condition. -/
set_option linter.unusedVariables false
set_option linter.unusedSimpArgs false
namespace Go.Proofs.Ytndlgmciplckjab.note
open Go.ChangeShapes Go.WideShapes Go.ChangeAt Go.RowKit Go.Gz
section
variable {C : PCall} {n0 : Nat} {R : MExit → Env → AHeap → Prop} {k : Cont} {e : Env} {σ : AHeap}
abbrev r26_0 : List MOper := [⟨(some 1), .box (.t 0), none⟩,
  ⟨(some 2), .move (.c (.nilslice)), none⟩,
  ⟨(some 3), .move (.c (.int .i64 0)), none⟩]
def b26_0 : SCode := .region r26_0
abbrev r26_1 : List MOper := [⟨(some 9), .loadN 27 (.t 1), none⟩,
  ⟨(some 10), .call 9 [(.t 9)], none⟩,
  ⟨(some 11), .un .not (.t 10), none⟩]
def b26_1 : SCode := .region r26_1
abbrev r26_2 : List MOper := [⟨(some 2), .move (.c (.nilslice)), none⟩,
  ⟨(some 3), .move (.c (.int .i64 1)), none⟩]
def b26_2 : SCode := .region r26_2
def b26_3 : SCode := .seq b26_2 .ret
def b26_4 : SCode := .cond (.t 11) b26_3 .skip
def b26_5 : SCode := .seq b26_1 b26_4
abbrev r26_6 : List MOper := [⟨(some 4), .alloc [.nilslice, .bool false], none⟩]
def b26_6 : SCode := .region r26_6
abbrev r26_7 : List MOper := [⟨(some 12), .fieldAddr 0 (.t 1), none⟩,
  ⟨(some 13), .load1 (.t 12), none⟩,
  ⟨(some 14), .fieldAddr 1 (.t 1), none⟩,
  ⟨(some 15), .load1 (.t 14), none⟩,
  ⟨(some 16), .fieldAddr 2 (.t 1), none⟩,
  ⟨(some 17), .load1 (.t 16), none⟩,
  ⟨(some 18), .fieldAddr 3 (.t 1), none⟩,
  ⟨(some 19), .load1 (.t 18), none⟩,
  ⟨(some 20), .fieldAddr 4 (.t 1), none⟩,
  ⟨(some 21), .load1 (.t 20), none⟩,
  ⟨(some 22), .buildSlice [.int .i64 0] 1 5 [(0, 1, (.t 13)), (1, 1, (.t 15)), (2, 1, (.t 17)), (3, 1, (.t 19)), (4, 1, (.t 21))], none⟩,
  ⟨(some 23), .call 45 [(.t 4), (.t 22)], none⟩]
def b26_7 : SCode := .region r26_7
abbrev r26_8 : List MOper := [⟨(some 24), .fieldAddr 0 (.t 1), none⟩,
  ⟨(some 25), .load1 (.t 24), none⟩]
def b26_8 : SCode := .region r26_8
abbrev r26_9 : List MOper := [⟨(some 27), .bin .eql .num (.t 25) (.c (.int .i64 1)), none⟩,
  ⟨(some 26), .move (.t 27), none⟩]
def b26_9 : SCode := .region r26_9
abbrev r26_10 : List MOper := [⟨(some 29), .fieldAddr 5 (.t 1), none⟩,
  ⟨(some 30), .loadN 8 (.t 29), none⟩,
  ⟨(some 31), .call 40 [(.t 30)], none⟩,
  ⟨(some 28), .move (.t 31), none⟩,
  ⟨(some 32), .extract (.t 28) 0, none⟩,
  ⟨(some 33), .extract (.t 28) 1, none⟩,
  ⟨(some 5), .move (.t 32), none⟩,
  ⟨(some 6), .move (.t 33), none⟩]
def b26_10 : SCode := .region r26_10
abbrev r26_11 : List MOper := [⟨(some 34), .move (.t 5), none⟩,
  ⟨(some 35), .ofBytes (.t 34), none⟩,
  ⟨(some 36), .buildSlice [.str []] 1 1 [(0, 1, (.t 35))], none⟩,
  ⟨(some 37), .call 46 [(.t 4), (.t 36)], none⟩]
def b26_11 : SCode := .region r26_11
def b26_12 : SCode := .seq b26_10 b26_11
abbrev r26_13 : List MOper := [⟨(some 39), .bin .eql .num (.t 25) (.c (.int .i64 2)), none⟩,
  ⟨(some 38), .move (.t 39), none⟩]
def b26_13 : SCode := .region r26_13
abbrev r26_14 : List MOper := [⟨(some 41), .fieldAddr 13 (.t 1), none⟩,
  ⟨(some 42), .loadN 8 (.t 41), none⟩,
  ⟨(some 43), .call 41 [(.t 42)], none⟩,
  ⟨(some 40), .move (.t 43), none⟩,
  ⟨(some 44), .extract (.t 40) 0, none⟩,
  ⟨(some 45), .extract (.t 40) 1, none⟩,
  ⟨(some 7), .move (.t 44), none⟩,
  ⟨(some 8), .move (.t 45), none⟩]
def b26_14 : SCode := .region r26_14
abbrev r26_15 : List MOper := [⟨(some 46), .move (.t 7), none⟩,
  ⟨(some 47), .ofBytes (.t 46), none⟩,
  ⟨(some 48), .buildSlice [.str []] 1 1 [(0, 1, (.t 47))], none⟩,
  ⟨(some 49), .call 46 [(.t 4), (.t 48)], none⟩]
def b26_15 : SCode := .region r26_15
def b26_16 : SCode := .seq b26_14 b26_15
abbrev r26_17 : List MOper := [⟨(some 51), .bin .eql .num (.t 25) (.c (.int .i64 4)), none⟩,
  ⟨(some 50), .move (.t 51), none⟩]
def b26_17 : SCode := .region r26_17
abbrev r26_18 : List MOper := [⟨(some 52), .bin .eql .num (.t 25) (.c (.int .i64 6)), none⟩,
  ⟨(some 50), .move (.t 52), none⟩]
def b26_18 : SCode := .region r26_18
def b26_19 : SCode := .cond (.t 50) .skip b26_18
def b26_20 : SCode := .seq b26_17 b26_19
abbrev r26_21 : List MOper := [⟨(some 53), .fieldAddr 25 (.t 1), none⟩,
  ⟨(some 54), .loadN 2 (.t 53), none⟩,
  ⟨(some 55), .call 47 [(.t 4), (.t 54)], none⟩]
def b26_21 : SCode := .region r26_21
abbrev r26_22 : List MOper := [⟨(some 57), .bin .eql .num (.t 25) (.c (.int .i64 7)), none⟩,
  ⟨(some 56), .move (.t 57), none⟩]
def b26_22 : SCode := .region r26_22
abbrev r26_23 : List MOper := [⟨(some 58), .bin .eql .num (.t 25) (.c (.int .i64 11)), none⟩,
  ⟨(some 56), .move (.t 58), none⟩]
def b26_23 : SCode := .region r26_23
abbrev r26_24 : List MOper := [⟨(some 59), .bin .eql .num (.t 25) (.c (.int .i64 10)), none⟩,
  ⟨(some 56), .move (.t 59), none⟩]
def b26_24 : SCode := .region r26_24
abbrev r26_25 : List MOper := [⟨(some 60), .bin .eql .num (.t 25) (.c (.int .i64 12)), none⟩,
  ⟨(some 56), .move (.t 60), none⟩]
def b26_25 : SCode := .region r26_25
abbrev r26_26 : List MOper := [⟨(some 61), .bin .eql .num (.t 25) (.c (.int .i64 8)), none⟩,
  ⟨(some 56), .move (.t 61), none⟩]
def b26_26 : SCode := .region r26_26
abbrev r26_27 : List MOper := [⟨(some 62), .bin .eql .num (.t 25) (.c (.int .i64 9)), none⟩,
  ⟨(some 56), .move (.t 62), none⟩]
def b26_27 : SCode := .region r26_27
def b26_28 : SCode := .cond (.t 56) .skip b26_27
def b26_29 : SCode := .seq b26_26 b26_28
def b26_30 : SCode := .cond (.t 56) .skip b26_29
def b26_31 : SCode := .seq b26_25 b26_30
def b26_32 : SCode := .cond (.t 56) .skip b26_31
def b26_33 : SCode := .seq b26_24 b26_32
def b26_34 : SCode := .cond (.t 56) .skip b26_33
def b26_35 : SCode := .seq b26_23 b26_34
def b26_36 : SCode := .cond (.t 56) .skip b26_35
def b26_37 : SCode := .seq b26_22 b26_36
abbrev r26_38 : List MOper := [⟨(some 63), .fieldAddr 21 (.t 1), none⟩,
  ⟨(some 64), .fieldAddr 0 (.t 63), none⟩,
  ⟨(some 65), .load1 (.t 64), none⟩,
  ⟨(some 66), .fieldAddr 21 (.t 1), none⟩,
  ⟨(some 67), .fieldAddr 1 (.t 66), none⟩,
  ⟨(some 68), .load1 (.t 67), none⟩,
  ⟨(some 69), .buildSlice [.str []] 1 2 [(0, 1, (.t 65)), (1, 1, (.t 68))], none⟩,
  ⟨(some 70), .call 46 [(.t 4), (.t 69)], none⟩]
def b26_38 : SCode := .region r26_38
abbrev r26_39 : List MOper := [⟨(some 71), .fieldAddr 23 (.t 1), none⟩,
  ⟨(some 72), .load1 (.t 71), none⟩,
  ⟨(some 73), .fieldAddr 24 (.t 1), none⟩,
  ⟨(some 74), .load1 (.t 73), none⟩,
  ⟨(some 75), .call 48 [(.t 4), (.t 72), (.t 74)], none⟩]
def b26_39 : SCode := .region r26_39
def b26_40 : SCode := .seq b26_38 b26_39
def b26_41 : SCode := .cond (.t 56) b26_40 .skip
def b26_42 : SCode := .seq b26_37 b26_41
def b26_43 : SCode := .cond (.t 50) b26_21 b26_42
def b26_44 : SCode := .seq b26_20 b26_43
def b26_45 : SCode := .cond (.t 38) b26_16 b26_44
def b26_46 : SCode := .seq b26_13 b26_45
def b26_47 : SCode := .cond (.t 26) b26_12 b26_46
def b26_48 : SCode := .seq b26_9 b26_47
def b26_49 : SCode := .block 0 b26_48
def b26_50 : SCode := .seq b26_8 b26_49
abbrev r26_51 : List MOper := [⟨(some 76), .fieldAddr 0 (.t 4), none⟩,
  ⟨(some 77), .load1 (.t 76), none⟩,
  ⟨(some 2), .move (.t 77), none⟩,
  ⟨(some 3), .move (.c (.int .i64 0)), none⟩]
def b26_51 : SCode := .region r26_51
def b26_52 : SCode := .seq b26_51 .ret
def b26_53 : SCode := .seq b26_50 b26_52
def b26_54 : SCode := .seq b26_7 b26_53
def b26_55 : SCode := .seq b26_6 b26_54
def b26_56 : SCode := .seq b26_5 b26_55
def b26_57 : SCode := .seq b26_0 b26_56
def s26 : SFunc := ⟨78, [.t 2, .t 3], b26_57⟩
theorem c26 : sFn Try.prog 26 = some s26 := by kernel_rfl
theorem Z26 : XR b26_0 r26_0 ∧ XR b26_1 r26_1 ∧ XR b26_2 r26_2 ∧ XS b26_3 b26_2 .ret ∧ XC b26_4 (.t 11) b26_3 .skip ∧ XS b26_5 b26_1 b26_4 ∧ XR b26_6 r26_6 ∧ XR b26_7 r26_7 ∧ XR b26_8 r26_8 ∧ XR b26_9 r26_9 ∧ XR b26_10 r26_10 ∧ XR b26_11 r26_11 ∧ XS b26_12 b26_10 b26_11 ∧ XR b26_13 r26_13 ∧ XR b26_14 r26_14 ∧ XR b26_15 r26_15 ∧ XS b26_16 b26_14 b26_15 ∧ XR b26_17 r26_17 ∧ XR b26_18 r26_18 ∧ XC b26_19 (.t 50) .skip b26_18 ∧ XS b26_20 b26_17 b26_19 ∧ XR b26_21 r26_21 ∧ XR b26_22 r26_22 ∧ XR b26_23 r26_23 ∧ XR b26_24 r26_24 ∧ XR b26_25 r26_25 ∧ XR b26_26 r26_26 ∧ XR b26_27 r26_27 ∧ XC b26_28 (.t 56) .skip b26_27 ∧ XS b26_29 b26_26 b26_28 ∧ XC b26_30 (.t 56) .skip b26_29 ∧ XS b26_31 b26_25 b26_30 ∧ XC b26_32 (.t 56) .skip b26_31 ∧ XS b26_33 b26_24 b26_32 ∧ XC b26_34 (.t 56) .skip b26_33 ∧ XS b26_35 b26_23 b26_34 ∧ XC b26_36 (.t 56) .skip b26_35 ∧ XS b26_37 b26_22 b26_36 ∧ XR b26_38 r26_38 ∧ XR b26_39 r26_39 ∧ XS b26_40 b26_38 b26_39 ∧ XC b26_41 (.t 56) b26_40 .skip ∧ XS b26_42 b26_37 b26_41 ∧ XC b26_43 (.t 50) b26_21 b26_42 ∧ XS b26_44 b26_20 b26_43 ∧ XC b26_45 (.t 38) b26_16 b26_44 ∧ XS b26_46 b26_13 b26_45 ∧ XC b26_47 (.t 26) b26_12 b26_46 ∧ XS b26_48 b26_9 b26_47 ∧ XB b26_49 0 b26_48 ∧ XS b26_50 b26_8 b26_49 ∧ XR b26_51 r26_51 ∧ XS b26_52 b26_51 .ret ∧ XS b26_53 b26_50 b26_52 ∧ XS b26_54 b26_7 b26_53 ∧ XS b26_55 b26_6 b26_54 ∧ XS b26_56 b26_5 b26_55 ∧ XS b26_57 b26_0 b26_56 ∧ XY s26 78 b26_57 [.t 2, .t 3] := ⟨rfl, rfl, rfl, rfl, sC_cond, rfl, rfl, rfl, rfl, rfl, rfl, rfl, rfl, rfl, rfl, rfl, rfl, rfl, rfl, sC_cond, rfl, rfl, rfl, rfl, rfl, rfl, rfl, rfl, sC_cond, rfl, sC_cond, rfl, sC_cond, rfl, sC_cond, rfl, sC_cond, rfl, rfl, rfl, rfl, sC_cond, rfl, sC_cond, rfl, sC_cond, rfl, sC_cond, rfl, rfl, rfl, rfl, rfl, rfl, rfl, rfl, rfl, rfl, rfl⟩
abbrev r47_0 : List MOper := [⟨(some 3), .box (.t 1), none⟩]
def b47_0 : SCode := .region r47_0
abbrev r47_1 : List MOper := [⟨(some 4), .move (.t 0), none⟩,
  ⟨(some 5), .fieldAddr 0 (.t 3), none⟩,
  ⟨(some 6), .load1 (.t 5), none⟩,
  ⟨(some 7), .buildSlice [.int .i64 0] 1 1 [(0, 1, (.t 6))], none⟩,
  ⟨(some 8), .call 45 [(.t 4), (.t 7)], none⟩]
def b47_1 : SCode := .region r47_1
abbrev r47_2 : List MOper := [⟨(some 9), .move (.t 0), none⟩,
  ⟨(some 10), .fieldAddr 1 (.t 3), none⟩,
  ⟨(some 11), .load1 (.t 10), none⟩,
  ⟨(some 12), .call 57 [(.t 11), (.c (.func 58 []))], none⟩,
  ⟨(some 13), .ofBytes (.t 12), none⟩,
  ⟨(some 14), .buildSlice [.str []] 1 1 [(0, 1, (.t 13))], none⟩,
  ⟨(some 15), .call 46 [(.t 9), (.t 14)], none⟩]
def b47_2 : SCode := .region r47_2
def b47_3 : SCode := .seq b47_1 b47_2
def b47_4 : SCode := .seq b47_0 b47_3
def s47 : SFunc := ⟨16, [], b47_4⟩
theorem c47 : sFn Try.prog 47 = some s47 := by kernel_rfl
theorem Z47 : XR b47_0 r47_0 ∧ XR b47_1 r47_1 ∧ XR b47_2 r47_2 ∧ XS b47_3 b47_1 b47_2 ∧ XS b47_4 b47_0 b47_3 ∧ XY s47 16 b47_4 [] := ⟨rfl, rfl, rfl, rfl, rfl, rfl⟩
abbrev t48_0 : LTree := (.quiet ⟨(some 6), .move (.t 0), none⟩ 0
  (.quiet ⟨(some 7), .move (.t 1), none⟩ 1
  (.quiet ⟨(some 10), .move (.t 2), none⟩ 4
  (.loud ⟨(some 8), .call 59 [(.t 7), (.c (.func 60 []))], none⟩ []
  (.quiet ⟨(some 9), .ofBytes (.t 8), none⟩ 3
  (.loud ⟨(some 11), .call 61 [(.t 10), (.c (.func 62 []))], none⟩ [3]
  (.quiet ⟨(some 12), .ofBytes (.t 11), none⟩ 6
  (.loud ⟨(some 13), .buildSlice [.str []] 1 2 [(0, 1, (.t 9)), (1, 1, (.t 12))], none⟩ []
  (.loud ⟨(some 14), .call 46 [(.t 6), (.t 13)], none⟩ []
  .leaf .stop) .stop)) .stop)) .stop))))
def b48_0 : SCode := .draw t48_0
def s48 : SFunc := ⟨15, [], b48_0⟩
theorem c48 : sFn Try.prog 48 = some s48 := by kernel_rfl
theorem Z48 : XT b48_0 t48_0 ∧ XY s48 15 b48_0 [] := ⟨rfl, rfl⟩

end
set_option maxHeartbeats 4000000
set_option maxRecDepth 10000

def mayD (args : List AV) (σ : AHeap) (K : AV → AHeap → Prop) : Prop := ∃ n : NoteV, args = [.agg n.cells] ∧ n.sz ∧ K (.bool (mayB n)) σ
theorem mayD_eq {n : NoteV} {σ : AHeap} {K : AV → AHeap → Prop} : mayD [.agg [.int .i64 n.kind, .int .i64 n.from_, .int .i64 n.to, .int .i64 n.epoch, .int .i64 n.tick, .int .i64 n.ask.do_, .int .i64 n.ask.client, .int .i64 n.ask.seq, .str n.ask.text, .str n.ask.val, .str n.ask.from_, .str n.ask.to, .int .i64 n.ask.limit, .int .i64 n.rep.client, .int .i64 n.rep.seq, .int .i64 n.rep.err, .bool n.rep.found, .str n.rep.val, .imm (recs n.rep.l) false false, .str n.rep.next, .bool n.rep.more, .str n.sf, .str n.st, .imm (n.l.map recC) false false, .imm (n.last.map LaV.cells) false false, .int .i64 n.aep, .imm (n.sh.map ShV.cells) false false]] σ K = (n.sz ∧ K (.bool (mayB n)) σ) := by
  apply propext
  refine ⟨fun ⟨m, h1, h2, h3⟩ => ?_, fun h => ⟨n, rfl, h.1, h.2⟩⟩
  have : n = m := note_inj (List.cons.inj h1).1
  subst this
  exact ⟨h2, h3⟩
theorem mayD_ok (args : List AV) (σ : AHeap) (K : AV → AHeap → Prop) (h : mayD args σ K) : Tri Try.prog 9 args σ K := by
  obtain ⟨n, rfl, hs, h⟩ := h
  exact (Tri.pureD (by simp only [pureL, note_pure, Bool.and_self]) (may_ok n hs) σ).mono fun r σ' hr => by rw [hr.1, hr.2]; exact h
def listRecD (args : List AV) (σ : AHeap) (K : AV → AHeap → Prop) : Prop := ∃ l : List (List UInt8 × List UInt8), args = [.imm (l.map recC) false false, .func 60 []] ∧ (∀ x ∈ l, (txt2 x).length ≤ 900000000) ∧ (l.flatMap fun x => txt (txt2 x)).length ≤ 900000000 ∧ l.length ≤ 1048576 ∧ K (.imm (rws (bytesRec l)) false false) σ
theorem listRecD_ok (args : List AV) (σ : AHeap) (K : AV → AHeap → Prop) (h : listRecD args σ K) : Tri Try.prog 59 args σ K := by
  obtain ⟨l, rfl, h1, h2, h3, h⟩ := h
  exact (Tri.pureD (by simp only [pureL, AV.pure, rowsRec_pure, Bool.and_self]) (listRec_ok l false false h1 h2 h3) σ).mono fun r σ' hr => by rw [hr.1, hr.2]; exact h
def listLaD (args : List AV) (σ : AHeap) (K : AV → AHeap → Prop) : Prop := ∃ l : List LaV, args = [.imm (l.map LaV.cells) false false, .func 62 []] ∧ (∀ x ∈ l, x.rep.bytes.length ≤ 900000000) ∧ (l.flatMap fun x => txt x.bytes).length ≤ 900000000 ∧ l.length ≤ 1048576 ∧ K (.imm (rws (bytesLa l)) false false) σ
theorem listLaD_ok (args : List AV) (σ : AHeap) (K : AV → AHeap → Prop) (h : listLaD args σ K) : Tri Try.prog 61 args σ K := by
  obtain ⟨l, rfl, h1, h2, h3, h⟩ := h
  exact (Tri.pureD (by simp only [pureL, AV.pure, rowsLa_pure, Bool.and_self]) (listLa_ok l false false h1 h2 h3) σ).mono fun r σ' hr => by rw [hr.1, hr.2]; exact h
def listShD (args : List AV) (σ : AHeap) (K : AV → AHeap → Prop) : Prop := ∃ l : List ShV, args = [.imm (l.map ShV.cells) false false, .func 58 []] ∧ (∀ x ∈ l, x.bytes.length ≤ 900000000) ∧ (l.flatMap fun x => txt x.bytes).length ≤ 900000000 ∧ l.length ≤ 1048576 ∧ K (.imm (rws (bytesSh l)) false false) σ
theorem listShD_ok (args : List AV) (σ : AHeap) (K : AV → AHeap → Prop) (h : listShD args σ K) : Tri Try.prog 57 args σ K := by
  obtain ⟨l, rfl, h1, h2, h3, h⟩ := h
  exact (Tri.pureD (by simp only [pureL, AV.pure, rowsSh_pure, Bool.and_self]) (listSh_ok l false false h1 h2 h3) σ).mono fun r σ' hr => by rw [hr.1, hr.2]; exact h
theorem pk_D {σ : AHeap} {id : Nat} {bs : List UInt8} {bad : Bool} {D : Option Nat} (h : Pk σ id bs bad D) : id < σ.length ∧ ∀ d, D = some d → d < σ.length := by
  obtain ⟨P, hP⟩ := pk_get h
  refine ⟨hget_lt hP, fun d hd => ?_⟩
  subst hd
  exact (pk_lt h).2
theorem total2 (a b : List UInt8) : total [a, b] = (4 + a.length) + (4 + b.length) := by simp only [total, List.flatMap_cons, List.flatMap_nil, List.append_nil, List.length_append, txt, u32_len]
theorem total1 (a : List UInt8) : total [a] = 4 + a.length := by simp only [total, List.flatMap_cons, List.flatMap_nil, List.append_nil, List.length_append, txt, u32_len]
theorem len_rec (l : List (List UInt8 × List UInt8)) : (bytesRec l).length = 4 + (l.flatMap fun x => txt (txt2 x)).length := by simp only [bytesRec, List.length_append, u32_len]
theorem len_la (l : List LaV) : (bytesLa l).length = 4 + (l.flatMap fun x => txt x.bytes).length := by simp only [bytesLa, List.length_append, u32_len]
theorem len_sh (l : List ShV) : (bytesSh l).length = 4 + (l.flatMap fun x => txt x.bytes).length := by simp only [bytesSh, List.length_append, u32_len]
/-! Rows, Chart. -/
def B1 : PCall := rowQ 59 listRecD (rowQ 61 listLaD (rowQ 57 listShD (rowQ 45 numD (rowQ 46 textD noCall))))
theorem B1_app {f : FuncId} {args : List AV} {σ : AHeap} {K : AV → AHeap → Prop} : B1 f args σ K = rowQ 59 listRecD (rowQ 61 listLaD (rowQ 57 listShD (rowQ 45 numD (rowQ 46 textD noCall)))) f args σ K := _root_.id rfl
theorem B1_sound : Sound Try.prog B1 := rowQ_sound listRecD_ok (rowQ_sound listLaD_ok (rowQ_sound listShD_ok (rowQ_sound numD_ok (rowQ_sound textD_ok (noCall_sound _)))))
def rowsD (args : List AV) (σ : AHeap) (K : AV → AHeap → Prop) : Prop := ∃ (id : Nat) (bs : List UInt8) (bad : Bool) (d : Nat) (n : NoteV), args = [.ptr id 0, .imm (n.l.map recC) false false, .imm (n.last.map LaV.cells) false false] ∧ n.sz ∧ bs.length ≤ 200000000 ∧ Pk σ id bs bad (some d) ∧
  ∀ σ' bad' d', Pk σ' id (bs ++ [bytesRec n.l, bytesLa n.last].flatMap txt) bad' (some d') → Fr σ σ' id (some d) (some d') → K (.tuple []) σ'
theorem rowsD_ok (args : List AV) (σ : AHeap) (K : AV → AHeap → Prop) (h : rowsD args σ K) : Tri Try.prog 48 args σ K := by
  obtain ⟨id, bs, bad, d, n, rfl, hs, hl, hp, h⟩ := h
  refine Tri.of_s c48 B1_sound ?_
  have q1 := hs.recs
  have q2 := hs.las
  have q3 := hs.l
  have q4 := hs.last
  simp only [B1_app, Z48, base1, baseE, ↓reduceIte, Nat.reduceAdd, Nat.reduceSub, Nat.reduceMul, Nat.reduceEqDiff, Nat.reduceLeDiff, Nat.reduceLT, Int.reduceLT, Int.reduceLE, Int.reduceEq, Int.reduceNe, Int.reduceToNat, Int.reduceAdd, Int.reduceSub, reduceCtorEq, Nat.reduceBEq, Nat.reduceBNe]
  refine ⟨n.l, rfl, hs.recz, by omega, by omega, ?_⟩
  simp only [B1_app, Z48, base1, baseE, ↓reduceIte, Nat.reduceAdd, Nat.reduceSub, Nat.reduceMul, Nat.reduceEqDiff, Nat.reduceLeDiff, Nat.reduceLT, Int.reduceLT, Int.reduceLE, Int.reduceEq, Int.reduceNe, Int.reduceToNat, Int.reduceAdd, Int.reduceSub, reduceCtorEq, Nat.reduceBEq, Nat.reduceBNe, ofRws]
  refine ⟨n.last, rfl, hs.la, by omega, by omega, ?_⟩
  simp only [B1_app, Z48, base1, baseE, ↓reduceIte, Nat.reduceAdd, Nat.reduceSub, Nat.reduceMul, Nat.reduceEqDiff, Nat.reduceLeDiff, Nat.reduceLT, Int.reduceLT, Int.reduceLE, Int.reduceEq, Int.reduceNe, Int.reduceToNat, Int.reduceAdd, Int.reduceSub, reduceCtorEq, Nat.reduceBEq, Nat.reduceBNe, ofRws]
  obtain ⟨p1, r1⟩ := pk_push hp [.str (bytesRec n.l), .str (bytesLa n.last)]
  obtain ⟨l1, l2⟩ := pk_lt hp
  refine ⟨id, σ.length, [bytesRec n.l, bytesLa n.last], some 2, _, _, some d, rfl, push_new rfl, by omega, by simp; omega, ?_, by simp, p1, fun σ1 D1 k1 f1 => ?_⟩
  · rw [total2, len_rec, len_la]; omega
  obtain ⟨d1, rfl, hd1⟩ := pk_some k1 (by simp [txt, u32])
  simp only [B1_app, Z48, base1, baseE, ↓reduceIte, Nat.reduceAdd, Nat.reduceSub, Nat.reduceMul, Nat.reduceEqDiff, Nat.reduceLeDiff, Nat.reduceLT, Int.reduceLT, Int.reduceLE, Int.reduceEq, Int.reduceNe, Int.reduceToNat, Int.reduceAdd, Int.reduceSub, reduceCtorEq, Nat.reduceBEq, Nat.reduceBNe]
  exact h σ1 _ d1 k1 (r1.trans f1)
def chartD (args : List AV) (σ : AHeap) (K : AV → AHeap → Prop) : Prop := ∃ (id : Nat) (bs : List UInt8) (bad : Bool) (d : Nat) (n : NoteV), args = [.ptr id 0, .agg [.int .i64 n.aep, .imm (n.sh.map ShV.cells) false false]] ∧ n.sz ∧ bs.length ≤ 200000000 ∧ Pk σ id bs bad (some d) ∧
  ∀ σ' bad' d', Pk σ' id (bs ++ ([n.aep].flatMap u32 ++ [bytesSh n.sh].flatMap txt)) bad' (some d') → Fr σ σ' id (some d) (some d') → K (.tuple []) σ'
theorem chartD_ok (args : List AV) (σ : AHeap) (K : AV → AHeap → Prop) (h : chartD args σ K) : Tri Try.prog 47 args σ K := by
  obtain ⟨id, bs, bad, d, n, rfl, hs, hl, hp, h⟩ := h
  refine Tri.of_s c47 B1_sound ?_
  have q1 := hs.shsum
  have q3 := hs.sh
  obtain ⟨l1, l2⟩ := pk_lt hp
  have pn : ∀ c : List AV, hget (hpush σ c) σ.length = some c := fun c => push_new rfl
  simp only [B1_app, Z47, base1, baseE, ↓reduceIte, Nat.reduceAdd, Nat.reduceSub, Nat.reduceMul, Nat.reduceEqDiff, Nat.reduceLeDiff, Nat.reduceLT, Int.reduceLT, Int.reduceLE, Int.reduceEq, Int.reduceNe, Int.reduceToNat, Int.reduceAdd, Int.reduceSub, reduceCtorEq, Nat.reduceBEq, Nat.reduceBNe, pn]
  obtain ⟨p0, r0⟩ := pk_push hp [.int .i64 n.aep, .imm (n.sh.map ShV.cells) false false]
  generalize hσ1 : hpush σ [.int .i64 n.aep, .imm (n.sh.map ShV.cells) false false] = σ1 at p0 r0
  have hA : hget σ1 σ.length = some [.int .i64 n.aep, .imm (n.sh.map ShV.cells) false false] := by rw [← hσ1]; exact pn _
  have hL : σ1.length = σ.length + 1 := by rw [← hσ1]; exact push_len
  obtain ⟨p1, r1⟩ := pk_push p0 [.int .i64 n.aep]
  refine ⟨id, σ1.length, [n.aep], some 1, _, _, some d, rfl, push_new rfl, by omega, by simp; omega, by simp; omega, p1, fun σ2 D2 k2 f2 => ?_⟩
  obtain ⟨d2, rfl, hd2⟩ := pk_some k2 (by simp [u32])
  obtain ⟨hA2, nd2⟩ := f2 σ.length _ (push_old hA) (by omega) (by simp; omega)
  simp only [B1_app, Z47, base1, baseE, ↓reduceIte, Nat.reduceAdd, Nat.reduceSub, Nat.reduceMul, Nat.reduceEqDiff, Nat.reduceLeDiff, Nat.reduceLT, Int.reduceLT, Int.reduceLE, Int.reduceEq, Int.reduceNe, Int.reduceToNat, Int.reduceAdd, Int.reduceSub, reduceCtorEq, Nat.reduceBEq, Nat.reduceBNe, hA2]
  refine ⟨n.sh, rfl, hs.shs, by omega, by omega, ?_⟩
  simp only [B1_app, Z47, base1, baseE, ↓reduceIte, Nat.reduceAdd, Nat.reduceSub, Nat.reduceMul, Nat.reduceEqDiff, Nat.reduceLeDiff, Nat.reduceLT, Int.reduceLT, Int.reduceLE, Int.reduceEq, Int.reduceNe, Int.reduceToNat, Int.reduceAdd, Int.reduceSub, reduceCtorEq, Nat.reduceBEq, Nat.reduceBNe, ofRws]
  obtain ⟨p3, r3⟩ := pk_push k2 [.str (bytesSh n.sh)]
  obtain ⟨l3, l4⟩ := pk_lt k2
  refine ⟨id, σ2.length, [bytesSh n.sh], some 1, _, _, some d2, rfl, push_new rfl, by omega, by simp; omega, ?_, by simp, p3, fun σ3 D3 k3 f3 => ?_⟩
  · rw [total1, len_sh]; simp only [List.length_append, List.flatMap_cons, List.flatMap_nil, List.append_nil, u32_len]; omega
  obtain ⟨d3, rfl, hd3⟩ := pk_some k3 (by simp [u32])
  simp only [B1_app, Z47, base1, baseE, ↓reduceIte, Nat.reduceAdd, Nat.reduceSub, Nat.reduceMul, Nat.reduceEqDiff, Nat.reduceLeDiff, Nat.reduceLT, Int.reduceLT, Int.reduceLE, Int.reduceEq, Int.reduceNe, Int.reduceToNat, Int.reduceAdd, Int.reduceSub, reduceCtorEq, Nat.reduceBEq, Nat.reduceBNe]
  exact h σ3 _ d3 (by rw [← List.append_assoc]; exact k3) (r0.trans (r1.trans (f2.trans (r3.trans f3))))
/-! Pack. -/
def NoteV.head (n : NoteV) : List UInt8 := [n.kind, n.from_, n.to, n.epoch, n.tick].flatMap u32
def rowsBy (n : NoteV) : List UInt8 := [n.sf, n.st].flatMap txt ++ [bytesRec n.l, bytesLa n.last].flatMap txt
def chartBy (n : NoteV) : List UInt8 := [n.aep].flatMap u32 ++ [bytesSh n.sh].flatMap txt
def NoteV.body (n : NoteV) : List UInt8 :=
  if n.kind = 1 then [n.ask.bytes].flatMap txt else if n.kind = 2 then [n.rep.bytes].flatMap txt else if n.kind = 4 ∨ n.kind = 6 then chartBy n else if n.kind = 3 ∨ n.kind = 5 then [] else rowsBy n
def NoteV.bytes (n : NoteV) : List UInt8 := n.head ++ n.body
def packN (n : NoteV) : AV := if mayB n = true then .tuple [.imm (rws n.bytes) false false, .int .i64 0] else .tuple [.nilslice, .int .i64 1]
theorem packN_pure (n : NoteV) : (packN n).pure = true := by
  unfold packN
  split
  · simp only [AV.pure, pureL, rws_pure, Bool.and_self]
  · rfl
def TP : PCall := rowQ 9 mayD (rowQ 40 askPD (rowQ 41 repPD (rowQ 47 chartD (rowQ 48 rowsD (rowQ 45 numD (rowQ 46 textD noCall))))))
theorem TP_app {f : FuncId} {args : List AV} {σ : AHeap} {K : AV → AHeap → Prop} : TP f args σ K = rowQ 9 mayD (rowQ 40 askPD (rowQ 41 repPD (rowQ 47 chartD (rowQ 48 rowsD (rowQ 45 numD (rowQ 46 textD noCall)))))) f args σ K := _root_.id rfl
theorem TP_sound : Sound Try.prog TP := rowQ_sound mayD_ok (rowQ_sound askPD_ok (rowQ_sound repPD_ok (rowQ_sound chartD_ok (rowQ_sound rowsD_ok (rowQ_sound numD_ok (rowQ_sound textD_ok (noCall_sound _)))))))
theorem kinds {k : Int} (h1 : decide (k < 1) = false) (h2 : decide (12 < k) = false) : k = 1 ∨ k = 2 ∨ k = 3 ∨ k = 4 ∨ k = 5 ∨ k = 6 ∨ k = 7 ∨ k = 8 ∨ k = 9 ∨ k = 10 ∨ k = 11 ∨ k = 12 := by
  have h1 := of_decide_eq_false h1
  have h2 := of_decide_eq_false h2
  omega
theorem may_kind {n : NoteV} (h : mayB n = true) : decide (n.kind < 1) = false ∧ decide (12 < n.kind) = false ∧ n.ask.bad = false ∧ n.rep.bad = false := by
  simp only [mayB, headB, asksB, Bool.and_eq_true, Bool.not_eq_true'] at h
  exact ⟨h.1.1, h.1.2.1, h.2.2.1.1.1.1, h.2.2.1.1.1.2⟩
theorem bad_len {a : AskV} (h : a.bad = false) : a.bytes.length ≤ 32768 := by
  simp only [AskV.bad, Bool.or_eq_false_iff, decide_eq_false_iff_not] at h
  omega
theorem badR_len {a : RepV} (h : a.bad = false) : a.bytes.length ≤ 32768 := by
  simp only [RepV.bad, Bool.or_eq_false_iff, decide_eq_false_iff_not] at h
  omega
theorem pack_any (n : NoteV) (hs : n.sz) (K : AV → AHeap → Prop) (h0 : mayB n = false → ∀ σ, K (.tuple [.nilslice, .int .i64 1]) σ) (h1 : mayB n = true → ∀ σ d, hget σ d = some (n.bytes.map byteAV) → K (.tuple [.slice d 0 n.bytes.length none 1, .int .i64 0]) σ) : Tri Try.prog 26 [.agg n.cells] [] K := by
  refine Tri.of_s c26 TP_sound ?_
  cases hm : mayB n with
  | false =>
    have hK := h0 hm
    simp only [NoteV.cells, TP_app, Z26, base1, baseE, ↓reduceIte, Nat.reduceAdd, Nat.reduceSub, Nat.reduceMul, Nat.reduceEqDiff, Nat.reduceLeDiff, Nat.reduceLT, Int.reduceLT, Int.reduceLE, Int.reduceEq, Int.reduceNe, Int.reduceToNat, Int.reduceAdd, Int.reduceSub, reduceCtorEq, Nat.reduceBEq, Nat.reduceBNe, mayD_eq, hs, hm]
    exact hK _
  | true =>
    have hK := h1 hm
    obtain ⟨k1, k2, ka, kr⟩ := may_kind hm
    have hA := hs.ask
    have hR := hs.rep
    have hS := hs.span
    have la := bad_len ka
    have lr := badR_len kr
    simp only [NoteV.cells, TP_app, Z26, base1, baseE, ↓reduceIte, Nat.reduceAdd, Nat.reduceSub, Nat.reduceMul, Nat.reduceEqDiff, Nat.reduceLeDiff, Nat.reduceLT, Int.reduceLT, Int.reduceLE, Int.reduceEq, Int.reduceNe, Int.reduceToNat, Int.reduceAdd, Int.reduceSub, reduceCtorEq, Nat.reduceBEq, Nat.reduceBNe, mayD_eq, hs, hm]
    refine ⟨1, 2, [n.kind, n.from_, n.to, n.epoch, n.tick], some 5, [], false, none, rfl, rfl, by decide, by simp, by simp, .inl ⟨rfl, rfl, rfl⟩, fun σ1 D1 q1 f1 => ?_⟩
    obtain ⟨g0, g0'⟩ := f1 0 _ rfl (by decide) (by simp)
    obtain ⟨d1, rfl, hd1⟩ := pk_some q1 (by simp [u32])
    have e0 : [] ++ [n.kind, n.from_, n.to, n.epoch, n.tick].flatMap u32 = n.head := rfl
    rw [e0] at q1
    have l0 : n.head.length = 20 := rfl
    obtain ⟨l1, l2⟩ := pk_lt q1
    rcases kinds k1 k2 with hk | hk | hk | hk | hk | hk | hk | hk | hk | hk | hk | hk
    · rw [hk] at g0
      have hb : n.bytes = n.head ++ [n.ask.bytes].flatMap txt := by simp only [NoteV.bytes, NoteV.body, hk, if_true]
      simp only [TP_app, Z26, base1, baseE, ↓reduceIte, Nat.reduceAdd, Nat.reduceSub, Nat.reduceMul, Nat.reduceEqDiff, Nat.reduceLeDiff, Nat.reduceLT, Int.reduceLT, Int.reduceLE, Int.reduceEq, Int.reduceNe, Int.reduceToNat, Int.reduceAdd, Int.reduceSub, reduceCtorEq, Nat.reduceBEq, Nat.reduceBNe, g0, askPD_eq, hA, ka, packR_f, ofRws]
      obtain ⟨p1, r1⟩ := pk_push q1 [.str n.ask.bytes]
      refine ⟨1, σ1.length, [n.ask.bytes], some 1, _, _, some d1, rfl, push_new rfl, by omega, by simp; omega, ?_, by simp, p1, fun σ2 D2 q2 f2 => ?_⟩
      · rw [total1]; omega
      rw [← hb] at q2
      obtain ⟨d2, rfl, hd2⟩ := pk_some q2 (by rw [hb]; simp [txt, u32])
      obtain ⟨c1, c2, c3⟩ := pk_slice q2
      simp only [TP_app, Z26, base1, baseE, ↓reduceIte, Nat.reduceAdd, Nat.reduceSub, Nat.reduceMul, Nat.reduceEqDiff, Nat.reduceLeDiff, Nat.reduceLT, Int.reduceLT, Int.reduceLE, Int.reduceEq, Int.reduceNe, Int.reduceToNat, Int.reduceAdd, Int.reduceSub, reduceCtorEq, Nat.reduceBEq, Nat.reduceBNe, c1]
      exact hK _ _ c2
    · rw [hk] at g0
      have hb : n.bytes = n.head ++ [n.rep.bytes].flatMap txt := by simp [NoteV.bytes, NoteV.body, hk]
      simp only [TP_app, Z26, base1, baseE, ↓reduceIte, Nat.reduceAdd, Nat.reduceSub, Nat.reduceMul, Nat.reduceEqDiff, Nat.reduceLeDiff, Nat.reduceLT, Int.reduceLT, Int.reduceLE, Int.reduceEq, Int.reduceNe, Int.reduceToNat, Int.reduceAdd, Int.reduceSub, reduceCtorEq, Nat.reduceBEq, Nat.reduceBNe, g0, repPD_eq, hR, kr, packR_f, ofRws]
      obtain ⟨p1, r1⟩ := pk_push q1 [.str n.rep.bytes]
      refine ⟨1, σ1.length, [n.rep.bytes], some 1, _, _, some d1, rfl, push_new rfl, by omega, by simp; omega, ?_, by simp, p1, fun σ2 D2 q2 f2 => ?_⟩
      · rw [total1]; omega
      rw [← hb] at q2
      obtain ⟨d2, rfl, hd2⟩ := pk_some q2 (by rw [hb]; simp [txt, u32])
      obtain ⟨c1, c2, c3⟩ := pk_slice q2
      simp only [TP_app, Z26, base1, baseE, ↓reduceIte, Nat.reduceAdd, Nat.reduceSub, Nat.reduceMul, Nat.reduceEqDiff, Nat.reduceLeDiff, Nat.reduceLT, Int.reduceLT, Int.reduceLE, Int.reduceEq, Int.reduceNe, Int.reduceToNat, Int.reduceAdd, Int.reduceSub, reduceCtorEq, Nat.reduceBEq, Nat.reduceBNe, c1]
      exact hK _ _ c2
    · rw [hk] at g0
      have hb : n.bytes = n.head := by simp [NoteV.bytes, NoteV.body, hk]
      rw [← hb] at q1
      obtain ⟨c1, c2, c3⟩ := pk_slice q1
      simp only [TP_app, Z26, base1, baseE, ↓reduceIte, Nat.reduceAdd, Nat.reduceSub, Nat.reduceMul, Nat.reduceEqDiff, Nat.reduceLeDiff, Nat.reduceLT, Int.reduceLT, Int.reduceLE, Int.reduceEq, Int.reduceNe, Int.reduceToNat, Int.reduceAdd, Int.reduceSub, reduceCtorEq, Nat.reduceBEq, Nat.reduceBNe, g0, c1]
      exact hK _ _ c2
    · rw [hk] at g0
      have hb : n.bytes = n.head ++ chartBy n := by simp [NoteV.bytes, NoteV.body, hk]
      simp only [TP_app, Z26, base1, baseE, ↓reduceIte, Nat.reduceAdd, Nat.reduceSub, Nat.reduceMul, Nat.reduceEqDiff, Nat.reduceLeDiff, Nat.reduceLT, Int.reduceLT, Int.reduceLE, Int.reduceEq, Int.reduceNe, Int.reduceToNat, Int.reduceAdd, Int.reduceSub, reduceCtorEq, Nat.reduceBEq, Nat.reduceBNe, g0]
      refine ⟨1, _, _, d1, n, rfl, hs, by omega, q1, fun σ2 bad2 d2 q2 f2 => ?_⟩
      rw [show n.head ++ ([n.aep].flatMap u32 ++ [bytesSh n.sh].flatMap txt) = n.bytes by rw [hb]; rfl] at q2
      obtain ⟨c1, c2, c3⟩ := pk_slice q2
      simp only [TP_app, Z26, base1, baseE, ↓reduceIte, Nat.reduceAdd, Nat.reduceSub, Nat.reduceMul, Nat.reduceEqDiff, Nat.reduceLeDiff, Nat.reduceLT, Int.reduceLT, Int.reduceLE, Int.reduceEq, Int.reduceNe, Int.reduceToNat, Int.reduceAdd, Int.reduceSub, reduceCtorEq, Nat.reduceBEq, Nat.reduceBNe, c1]
      exact hK _ _ c2
    · rw [hk] at g0
      have hb : n.bytes = n.head := by simp [NoteV.bytes, NoteV.body, hk]
      rw [← hb] at q1
      obtain ⟨c1, c2, c3⟩ := pk_slice q1
      simp only [TP_app, Z26, base1, baseE, ↓reduceIte, Nat.reduceAdd, Nat.reduceSub, Nat.reduceMul, Nat.reduceEqDiff, Nat.reduceLeDiff, Nat.reduceLT, Int.reduceLT, Int.reduceLE, Int.reduceEq, Int.reduceNe, Int.reduceToNat, Int.reduceAdd, Int.reduceSub, reduceCtorEq, Nat.reduceBEq, Nat.reduceBNe, g0, c1]
      exact hK _ _ c2
    · rw [hk] at g0
      have hb : n.bytes = n.head ++ chartBy n := by simp [NoteV.bytes, NoteV.body, hk]
      simp only [TP_app, Z26, base1, baseE, ↓reduceIte, Nat.reduceAdd, Nat.reduceSub, Nat.reduceMul, Nat.reduceEqDiff, Nat.reduceLeDiff, Nat.reduceLT, Int.reduceLT, Int.reduceLE, Int.reduceEq, Int.reduceNe, Int.reduceToNat, Int.reduceAdd, Int.reduceSub, reduceCtorEq, Nat.reduceBEq, Nat.reduceBNe, g0]
      refine ⟨1, _, _, d1, n, rfl, hs, by omega, q1, fun σ2 bad2 d2 q2 f2 => ?_⟩
      rw [show n.head ++ ([n.aep].flatMap u32 ++ [bytesSh n.sh].flatMap txt) = n.bytes by rw [hb]; rfl] at q2
      obtain ⟨c1, c2, c3⟩ := pk_slice q2
      simp only [TP_app, Z26, base1, baseE, ↓reduceIte, Nat.reduceAdd, Nat.reduceSub, Nat.reduceMul, Nat.reduceEqDiff, Nat.reduceLeDiff, Nat.reduceLT, Int.reduceLT, Int.reduceLE, Int.reduceEq, Int.reduceNe, Int.reduceToNat, Int.reduceAdd, Int.reduceSub, reduceCtorEq, Nat.reduceBEq, Nat.reduceBNe, c1]
      exact hK _ _ c2
    · rw [hk] at g0
      have hb : n.bytes = n.head ++ rowsBy n := by simp [NoteV.bytes, NoteV.body, hk]
      simp only [TP_app, Z26, base1, baseE, ↓reduceIte, Nat.reduceAdd, Nat.reduceSub, Nat.reduceMul, Nat.reduceEqDiff, Nat.reduceLeDiff, Nat.reduceLT, Int.reduceLT, Int.reduceLE, Int.reduceEq, Int.reduceNe, Int.reduceToNat, Int.reduceAdd, Int.reduceSub, reduceCtorEq, Nat.reduceBEq, Nat.reduceBNe, g0]
      obtain ⟨p1, r1⟩ := pk_push q1 [.str n.sf, .str n.st]
      refine ⟨1, σ1.length, [n.sf, n.st], some 2, _, _, some d1, rfl, push_new rfl, by omega, by simp; omega, by omega, by simp, p1, fun σ2 D2 q2 f2 => ?_⟩
      obtain ⟨g2, _⟩ := f2 0 _ (push_old g0) (by decide) (by simp; exact fun e => g0' (by rw [e]))
      obtain ⟨d2, rfl, hd2⟩ := pk_some q2 (by simp [txt, u32])
      simp only [TP_app, Z26, base1, baseE, ↓reduceIte, Nat.reduceAdd, Nat.reduceSub, Nat.reduceMul, Nat.reduceEqDiff, Nat.reduceLeDiff, Nat.reduceLT, Int.reduceLT, Int.reduceLE, Int.reduceEq, Int.reduceNe, Int.reduceToNat, Int.reduceAdd, Int.reduceSub, reduceCtorEq, Nat.reduceBEq, Nat.reduceBNe, g2]
      refine ⟨1, _, _, d2, n, rfl, hs, ?_, q2, fun σ3 bad3 d3 q3 f3 => ?_⟩
      · simp only [total] at hS; simp only [List.length_append]; omega
      rw [show n.head ++ [n.sf, n.st].flatMap txt ++ [bytesRec n.l, bytesLa n.last].flatMap txt = n.bytes by rw [hb, List.append_assoc]; rfl] at q3
      obtain ⟨c1, c2, c3⟩ := pk_slice q3
      simp only [TP_app, Z26, base1, baseE, ↓reduceIte, Nat.reduceAdd, Nat.reduceSub, Nat.reduceMul, Nat.reduceEqDiff, Nat.reduceLeDiff, Nat.reduceLT, Int.reduceLT, Int.reduceLE, Int.reduceEq, Int.reduceNe, Int.reduceToNat, Int.reduceAdd, Int.reduceSub, reduceCtorEq, Nat.reduceBEq, Nat.reduceBNe, c1]
      exact hK _ _ c2
    · rw [hk] at g0
      have hb : n.bytes = n.head ++ rowsBy n := by simp [NoteV.bytes, NoteV.body, hk]
      simp only [TP_app, Z26, base1, baseE, ↓reduceIte, Nat.reduceAdd, Nat.reduceSub, Nat.reduceMul, Nat.reduceEqDiff, Nat.reduceLeDiff, Nat.reduceLT, Int.reduceLT, Int.reduceLE, Int.reduceEq, Int.reduceNe, Int.reduceToNat, Int.reduceAdd, Int.reduceSub, reduceCtorEq, Nat.reduceBEq, Nat.reduceBNe, g0]
      obtain ⟨p1, r1⟩ := pk_push q1 [.str n.sf, .str n.st]
      refine ⟨1, σ1.length, [n.sf, n.st], some 2, _, _, some d1, rfl, push_new rfl, by omega, by simp; omega, by omega, by simp, p1, fun σ2 D2 q2 f2 => ?_⟩
      obtain ⟨g2, _⟩ := f2 0 _ (push_old g0) (by decide) (by simp; exact fun e => g0' (by rw [e]))
      obtain ⟨d2, rfl, hd2⟩ := pk_some q2 (by simp [txt, u32])
      simp only [TP_app, Z26, base1, baseE, ↓reduceIte, Nat.reduceAdd, Nat.reduceSub, Nat.reduceMul, Nat.reduceEqDiff, Nat.reduceLeDiff, Nat.reduceLT, Int.reduceLT, Int.reduceLE, Int.reduceEq, Int.reduceNe, Int.reduceToNat, Int.reduceAdd, Int.reduceSub, reduceCtorEq, Nat.reduceBEq, Nat.reduceBNe, g2]
      refine ⟨1, _, _, d2, n, rfl, hs, ?_, q2, fun σ3 bad3 d3 q3 f3 => ?_⟩
      · simp only [total] at hS; simp only [List.length_append]; omega
      rw [show n.head ++ [n.sf, n.st].flatMap txt ++ [bytesRec n.l, bytesLa n.last].flatMap txt = n.bytes by rw [hb, List.append_assoc]; rfl] at q3
      obtain ⟨c1, c2, c3⟩ := pk_slice q3
      simp only [TP_app, Z26, base1, baseE, ↓reduceIte, Nat.reduceAdd, Nat.reduceSub, Nat.reduceMul, Nat.reduceEqDiff, Nat.reduceLeDiff, Nat.reduceLT, Int.reduceLT, Int.reduceLE, Int.reduceEq, Int.reduceNe, Int.reduceToNat, Int.reduceAdd, Int.reduceSub, reduceCtorEq, Nat.reduceBEq, Nat.reduceBNe, c1]
      exact hK _ _ c2
    · rw [hk] at g0
      have hb : n.bytes = n.head ++ rowsBy n := by simp [NoteV.bytes, NoteV.body, hk]
      simp only [TP_app, Z26, base1, baseE, ↓reduceIte, Nat.reduceAdd, Nat.reduceSub, Nat.reduceMul, Nat.reduceEqDiff, Nat.reduceLeDiff, Nat.reduceLT, Int.reduceLT, Int.reduceLE, Int.reduceEq, Int.reduceNe, Int.reduceToNat, Int.reduceAdd, Int.reduceSub, reduceCtorEq, Nat.reduceBEq, Nat.reduceBNe, g0]
      obtain ⟨p1, r1⟩ := pk_push q1 [.str n.sf, .str n.st]
      refine ⟨1, σ1.length, [n.sf, n.st], some 2, _, _, some d1, rfl, push_new rfl, by omega, by simp; omega, by omega, by simp, p1, fun σ2 D2 q2 f2 => ?_⟩
      obtain ⟨g2, _⟩ := f2 0 _ (push_old g0) (by decide) (by simp; exact fun e => g0' (by rw [e]))
      obtain ⟨d2, rfl, hd2⟩ := pk_some q2 (by simp [txt, u32])
      simp only [TP_app, Z26, base1, baseE, ↓reduceIte, Nat.reduceAdd, Nat.reduceSub, Nat.reduceMul, Nat.reduceEqDiff, Nat.reduceLeDiff, Nat.reduceLT, Int.reduceLT, Int.reduceLE, Int.reduceEq, Int.reduceNe, Int.reduceToNat, Int.reduceAdd, Int.reduceSub, reduceCtorEq, Nat.reduceBEq, Nat.reduceBNe, g2]
      refine ⟨1, _, _, d2, n, rfl, hs, ?_, q2, fun σ3 bad3 d3 q3 f3 => ?_⟩
      · simp only [total] at hS; simp only [List.length_append]; omega
      rw [show n.head ++ [n.sf, n.st].flatMap txt ++ [bytesRec n.l, bytesLa n.last].flatMap txt = n.bytes by rw [hb, List.append_assoc]; rfl] at q3
      obtain ⟨c1, c2, c3⟩ := pk_slice q3
      simp only [TP_app, Z26, base1, baseE, ↓reduceIte, Nat.reduceAdd, Nat.reduceSub, Nat.reduceMul, Nat.reduceEqDiff, Nat.reduceLeDiff, Nat.reduceLT, Int.reduceLT, Int.reduceLE, Int.reduceEq, Int.reduceNe, Int.reduceToNat, Int.reduceAdd, Int.reduceSub, reduceCtorEq, Nat.reduceBEq, Nat.reduceBNe, c1]
      exact hK _ _ c2
    · rw [hk] at g0
      have hb : n.bytes = n.head ++ rowsBy n := by simp [NoteV.bytes, NoteV.body, hk]
      simp only [TP_app, Z26, base1, baseE, ↓reduceIte, Nat.reduceAdd, Nat.reduceSub, Nat.reduceMul, Nat.reduceEqDiff, Nat.reduceLeDiff, Nat.reduceLT, Int.reduceLT, Int.reduceLE, Int.reduceEq, Int.reduceNe, Int.reduceToNat, Int.reduceAdd, Int.reduceSub, reduceCtorEq, Nat.reduceBEq, Nat.reduceBNe, g0]
      obtain ⟨p1, r1⟩ := pk_push q1 [.str n.sf, .str n.st]
      refine ⟨1, σ1.length, [n.sf, n.st], some 2, _, _, some d1, rfl, push_new rfl, by omega, by simp; omega, by omega, by simp, p1, fun σ2 D2 q2 f2 => ?_⟩
      obtain ⟨g2, _⟩ := f2 0 _ (push_old g0) (by decide) (by simp; exact fun e => g0' (by rw [e]))
      obtain ⟨d2, rfl, hd2⟩ := pk_some q2 (by simp [txt, u32])
      simp only [TP_app, Z26, base1, baseE, ↓reduceIte, Nat.reduceAdd, Nat.reduceSub, Nat.reduceMul, Nat.reduceEqDiff, Nat.reduceLeDiff, Nat.reduceLT, Int.reduceLT, Int.reduceLE, Int.reduceEq, Int.reduceNe, Int.reduceToNat, Int.reduceAdd, Int.reduceSub, reduceCtorEq, Nat.reduceBEq, Nat.reduceBNe, g2]
      refine ⟨1, _, _, d2, n, rfl, hs, ?_, q2, fun σ3 bad3 d3 q3 f3 => ?_⟩
      · simp only [total] at hS; simp only [List.length_append]; omega
      rw [show n.head ++ [n.sf, n.st].flatMap txt ++ [bytesRec n.l, bytesLa n.last].flatMap txt = n.bytes by rw [hb, List.append_assoc]; rfl] at q3
      obtain ⟨c1, c2, c3⟩ := pk_slice q3
      simp only [TP_app, Z26, base1, baseE, ↓reduceIte, Nat.reduceAdd, Nat.reduceSub, Nat.reduceMul, Nat.reduceEqDiff, Nat.reduceLeDiff, Nat.reduceLT, Int.reduceLT, Int.reduceLE, Int.reduceEq, Int.reduceNe, Int.reduceToNat, Int.reduceAdd, Int.reduceSub, reduceCtorEq, Nat.reduceBEq, Nat.reduceBNe, c1]
      exact hK _ _ c2
    · rw [hk] at g0
      have hb : n.bytes = n.head ++ rowsBy n := by simp [NoteV.bytes, NoteV.body, hk]
      simp only [TP_app, Z26, base1, baseE, ↓reduceIte, Nat.reduceAdd, Nat.reduceSub, Nat.reduceMul, Nat.reduceEqDiff, Nat.reduceLeDiff, Nat.reduceLT, Int.reduceLT, Int.reduceLE, Int.reduceEq, Int.reduceNe, Int.reduceToNat, Int.reduceAdd, Int.reduceSub, reduceCtorEq, Nat.reduceBEq, Nat.reduceBNe, g0]
      obtain ⟨p1, r1⟩ := pk_push q1 [.str n.sf, .str n.st]
      refine ⟨1, σ1.length, [n.sf, n.st], some 2, _, _, some d1, rfl, push_new rfl, by omega, by simp; omega, by omega, by simp, p1, fun σ2 D2 q2 f2 => ?_⟩
      obtain ⟨g2, _⟩ := f2 0 _ (push_old g0) (by decide) (by simp; exact fun e => g0' (by rw [e]))
      obtain ⟨d2, rfl, hd2⟩ := pk_some q2 (by simp [txt, u32])
      simp only [TP_app, Z26, base1, baseE, ↓reduceIte, Nat.reduceAdd, Nat.reduceSub, Nat.reduceMul, Nat.reduceEqDiff, Nat.reduceLeDiff, Nat.reduceLT, Int.reduceLT, Int.reduceLE, Int.reduceEq, Int.reduceNe, Int.reduceToNat, Int.reduceAdd, Int.reduceSub, reduceCtorEq, Nat.reduceBEq, Nat.reduceBNe, g2]
      refine ⟨1, _, _, d2, n, rfl, hs, ?_, q2, fun σ3 bad3 d3 q3 f3 => ?_⟩
      · simp only [total] at hS; simp only [List.length_append]; omega
      rw [show n.head ++ [n.sf, n.st].flatMap txt ++ [bytesRec n.l, bytesLa n.last].flatMap txt = n.bytes by rw [hb, List.append_assoc]; rfl] at q3
      obtain ⟨c1, c2, c3⟩ := pk_slice q3
      simp only [TP_app, Z26, base1, baseE, ↓reduceIte, Nat.reduceAdd, Nat.reduceSub, Nat.reduceMul, Nat.reduceEqDiff, Nat.reduceLeDiff, Nat.reduceLT, Int.reduceLT, Int.reduceLE, Int.reduceEq, Int.reduceNe, Int.reduceToNat, Int.reduceAdd, Int.reduceSub, reduceCtorEq, Nat.reduceBEq, Nat.reduceBNe, c1]
      exact hK _ _ c2
    · rw [hk] at g0
      have hb : n.bytes = n.head ++ rowsBy n := by simp [NoteV.bytes, NoteV.body, hk]
      simp only [TP_app, Z26, base1, baseE, ↓reduceIte, Nat.reduceAdd, Nat.reduceSub, Nat.reduceMul, Nat.reduceEqDiff, Nat.reduceLeDiff, Nat.reduceLT, Int.reduceLT, Int.reduceLE, Int.reduceEq, Int.reduceNe, Int.reduceToNat, Int.reduceAdd, Int.reduceSub, reduceCtorEq, Nat.reduceBEq, Nat.reduceBNe, g0]
      obtain ⟨p1, r1⟩ := pk_push q1 [.str n.sf, .str n.st]
      refine ⟨1, σ1.length, [n.sf, n.st], some 2, _, _, some d1, rfl, push_new rfl, by omega, by simp; omega, by omega, by simp, p1, fun σ2 D2 q2 f2 => ?_⟩
      obtain ⟨g2, _⟩ := f2 0 _ (push_old g0) (by decide) (by simp; exact fun e => g0' (by rw [e]))
      obtain ⟨d2, rfl, hd2⟩ := pk_some q2 (by simp [txt, u32])
      simp only [TP_app, Z26, base1, baseE, ↓reduceIte, Nat.reduceAdd, Nat.reduceSub, Nat.reduceMul, Nat.reduceEqDiff, Nat.reduceLeDiff, Nat.reduceLT, Int.reduceLT, Int.reduceLE, Int.reduceEq, Int.reduceNe, Int.reduceToNat, Int.reduceAdd, Int.reduceSub, reduceCtorEq, Nat.reduceBEq, Nat.reduceBNe, g2]
      refine ⟨1, _, _, d2, n, rfl, hs, ?_, q2, fun σ3 bad3 d3 q3 f3 => ?_⟩
      · simp only [total] at hS; simp only [List.length_append]; omega
      rw [show n.head ++ [n.sf, n.st].flatMap txt ++ [bytesRec n.l, bytesLa n.last].flatMap txt = n.bytes by rw [hb, List.append_assoc]; rfl] at q3
      obtain ⟨c1, c2, c3⟩ := pk_slice q3
      simp only [TP_app, Z26, base1, baseE, ↓reduceIte, Nat.reduceAdd, Nat.reduceSub, Nat.reduceMul, Nat.reduceEqDiff, Nat.reduceLeDiff, Nat.reduceLT, Int.reduceLT, Int.reduceLE, Int.reduceEq, Int.reduceNe, Int.reduceToNat, Int.reduceAdd, Int.reduceSub, reduceCtorEq, Nat.reduceBEq, Nat.reduceBNe, c1]
      exact hK _ _ c2
theorem pack_ok (n : NoteV) (hs : n.sz) : Tri Try.prog 26 [.agg n.cells] [] fun r _ => r.pure = true ∧ r = packN n := by
  refine Tri.frozen (Q := fun r σ => Frz σ r (packN n)) (pack_any n hs _ (fun hm σ => ?_) (fun hm σ d hd => ?_)) (fun r σ hr => ⟨_, hr, packN_pure n, rfl⟩)
  · simp only [packN, hm]; exact .pure rfl
  · simp only [packN, hm, if_true]
    refine .tuple rfl (fun i x y hx hy => ?_)
    match i with
    | 0 => simp at hx hy; subst hx; subst hy; exact bytes_frz hd rfl
    | 1 => simp at hx hy; subst hx; subst hy; exact .pure rfl
    | n + 2 => simp at hx
def packD (args : List AV) (σ : AHeap) (K : AV → AHeap → Prop) : Prop := ∃ n : NoteV, args = [.agg n.cells] ∧ n.sz ∧ K (packN n) σ
theorem packD_ok (args : List AV) (σ : AHeap) (K : AV → AHeap → Prop) (h : packD args σ K) : Tri Try.prog 26 args σ K := by
  obtain ⟨n, rfl, hs, h⟩ := h
  exact (Tri.pureD (by simp only [pureL, note_pure, Bool.and_self]) (pack_ok n hs) σ).mono fun r σ' hr => by rw [hr.1, hr.2]; exact h
end Go.Proofs.Ytndlgmciplckjab.note
