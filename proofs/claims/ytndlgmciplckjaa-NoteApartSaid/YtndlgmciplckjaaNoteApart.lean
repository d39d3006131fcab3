/- The law gazetteerlaw16.NoteApart returns true for every input: notes of unlike rows have unlike bytes. No condition. -/
import Derived.Test.YtndlgmciplckjaaNRd
set_option linter.unusedVariables false
set_option linter.unusedSimpArgs false
namespace Go.Proofs.Ytndlgmciplckjaa.noteApart
open Go.ChangeShapes Go.WideShapes Go.ChangeAt Go.RowKit Go.Gz Go.Proofs.Ytndlgmciplckjaa.note
section
variable {C : PCall} {n0 : Nat} {R : MExit → Env → AHeap → Prop} {k : Cont} {e : Env} {σ : AHeap}
def r5_0 : List MOper := [⟨(some 2), .box (.t 0), none⟩,
  ⟨(some 3), .box (.t 1), none⟩,
  ⟨(some 4), .move (.c (.bool false)), none⟩]
def b5_0 : SCode := .region r5_0
theorem x5_0 : sC C n0 b5_0 (unw C n0 R k) e σ = sOps C r5_0 (unw C n0 R k .normal) e σ := _root_.id rfl
def r5_1 : List MOper := [⟨(some 11), .call 9 [], none⟩,
  ⟨(some 12), .un .not (.t 11), none⟩]
def b5_1 : SCode := .region r5_1
theorem x5_1 : sC C n0 b5_1 (unw C n0 R k) e σ = sOps C r5_1 (unw C n0 R k .normal) e σ := _root_.id rfl
def r5_2 : List MOper := [⟨(some 4), .move (.c (.bool false)), none⟩]
def b5_2 : SCode := .region r5_2
theorem x5_2 : sC C n0 b5_2 (unw C n0 R k) e σ = sOps C r5_2 (unw C n0 R k .normal) e σ := _root_.id rfl
def b5_3 : SCode := .seq b5_2 .ret
theorem x5_3 : sC C n0 b5_3 (unw C n0 R k) e σ = sC C n0 b5_2 (unw C n0 R (.seq .ret k)) e σ := _root_.id rfl
def b5_4 : SCode := .cond (.t 12) b5_3 .skip
theorem x5_4 : sC C n0 b5_4 (unw C n0 R k) e σ = condK C n0 R (Opd.ev e (.t 12)) b5_3 .skip k e σ := sC_cond
def b5_5 : SCode := .seq b5_1 b5_4
theorem x5_5 : sC C n0 b5_5 (unw C n0 R k) e σ = sC C n0 b5_1 (unw C n0 R (.seq b5_4 k)) e σ := _root_.id rfl
def r5_6 : List MOper := [⟨(some 13), .loadN 27 (.t 2), none⟩,
  ⟨(some 14), .call 10 [(.t 13)], none⟩,
  ⟨(some 15), .un .not (.t 14), none⟩,
  ⟨(some 16), .move (.t 15), none⟩,
  ⟨(some 17), .loadN 27 (.t 3), (some (16, false))⟩,
  ⟨(some 18), .call 10 [(.t 17)], (some (16, false))⟩,
  ⟨(some 19), .un .not (.t 18), (some (16, false))⟩,
  ⟨(some 20), .pick (.t 16) (.c (.bool true)) (.t 19), none⟩]
def b5_6 : SCode := .region r5_6
theorem x5_6 : sC C n0 b5_6 (unw C n0 R k) e σ = sOps C r5_6 (unw C n0 R k .normal) e σ := _root_.id rfl
def r5_7 : List MOper := [⟨(some 4), .move (.c (.bool true)), none⟩]
def b5_7 : SCode := .region r5_7
theorem x5_7 : sC C n0 b5_7 (unw C n0 R k) e σ = sOps C r5_7 (unw C n0 R k .normal) e σ := _root_.id rfl
def b5_8 : SCode := .seq b5_7 .ret
theorem x5_8 : sC C n0 b5_8 (unw C n0 R k) e σ = sC C n0 b5_7 (unw C n0 R (.seq .ret k)) e σ := _root_.id rfl
def b5_9 : SCode := .cond (.t 20) b5_8 .skip
theorem x5_9 : sC C n0 b5_9 (unw C n0 R k) e σ = condK C n0 R (Opd.ev e (.t 20)) b5_8 .skip k e σ := sC_cond
def b5_10 : SCode := .seq b5_6 b5_9
theorem x5_10 : sC C n0 b5_10 (unw C n0 R k) e σ = sC C n0 b5_6 (unw C n0 R (.seq b5_9 k)) e σ := _root_.id rfl
def t5_11 : LTree := (.quiet ⟨(some 21), .loadN 27 (.t 2), none⟩ 0
  (.quiet ⟨(some 23), .loadN 27 (.t 3), none⟩ 2
  (.loud ⟨(some 22), .call 14 [(.t 21)], none⟩ [2]
  (.loud ⟨(some 24), .call 14 [(.t 23)], none⟩ []
  (.loud ⟨(some 5), .alloc [.int .i64 0, .int .i64 0, .int .i64 0, .int .i64 0, .int .i64 0, .int .i64 0, .int .i64 0, .int .i64 0, .str [], .str [], .str [], .str [], .int .i64 0, .int .i64 0, .int .i64 0, .int .i64 0, .bool false, .str [], .nilslice, .str [], .bool false, .str [], .str [], .nilslice, .nilslice, .int .i64 0, .nilslice], none⟩ [0, 2]
  (.loud ⟨(some 6), .alloc [.int .i64 0, .int .i64 0, .int .i64 0, .int .i64 0, .int .i64 0, .int .i64 0, .int .i64 0, .int .i64 0, .str [], .str [], .str [], .str [], .int .i64 0, .int .i64 0, .int .i64 0, .int .i64 0, .bool false, .str [], .nilslice, .str [], .bool false, .str [], .str [], .nilslice, .nilslice, .int .i64 0, .nilslice], none⟩ [0, 2]
  (.loud ⟨none, .store 27 (.t 5) (.t 22), none⟩ []
  (.loud ⟨none, .store 27 (.t 6) (.t 24), none⟩ []
  .leaf .stop) .stop) .stop) (.loud ⟨(some 6), .alloc [.int .i64 0, .int .i64 0, .int .i64 0, .int .i64 0, .int .i64 0, .int .i64 0, .int .i64 0, .int .i64 0, .str [], .str [], .str [], .str [], .int .i64 0, .int .i64 0, .int .i64 0, .int .i64 0, .bool false, .str [], .nilslice, .str [], .bool false, .str [], .str [], .nilslice, .nilslice, .int .i64 0, .nilslice], none⟩ [0, 2]
  (.loud ⟨(some 5), .alloc [.int .i64 0, .int .i64 0, .int .i64 0, .int .i64 0, .int .i64 0, .int .i64 0, .int .i64 0, .int .i64 0, .str [], .str [], .str [], .str [], .int .i64 0, .int .i64 0, .int .i64 0, .int .i64 0, .bool false, .str [], .nilslice, .str [], .bool false, .str [], .str [], .nilslice, .nilslice, .int .i64 0, .nilslice], none⟩ [0, 2]
  (.loud ⟨none, .store 27 (.t 5) (.t 22), none⟩ []
  (.loud ⟨none, .store 27 (.t 6) (.t 24), none⟩ []
  .leaf .stop) .stop) .stop) .stop)) (.loud ⟨(some 5), .alloc [.int .i64 0, .int .i64 0, .int .i64 0, .int .i64 0, .int .i64 0, .int .i64 0, .int .i64 0, .int .i64 0, .str [], .str [], .str [], .str [], .int .i64 0, .int .i64 0, .int .i64 0, .int .i64 0, .bool false, .str [], .nilslice, .str [], .bool false, .str [], .str [], .nilslice, .nilslice, .int .i64 0, .nilslice], none⟩ [0, 2]
  (.loud ⟨(some 24), .call 14 [(.t 23)], none⟩ []
  (.loud ⟨(some 6), .alloc [.int .i64 0, .int .i64 0, .int .i64 0, .int .i64 0, .int .i64 0, .int .i64 0, .int .i64 0, .int .i64 0, .str [], .str [], .str [], .str [], .int .i64 0, .int .i64 0, .int .i64 0, .int .i64 0, .bool false, .str [], .nilslice, .str [], .bool false, .str [], .str [], .nilslice, .nilslice, .int .i64 0, .nilslice], none⟩ [0, 2]
  (.loud ⟨none, .store 27 (.t 5) (.t 22), none⟩ []
  (.loud ⟨none, .store 27 (.t 6) (.t 24), none⟩ []
  .leaf .stop) .stop) .stop) (.loud ⟨(some 6), .alloc [.int .i64 0, .int .i64 0, .int .i64 0, .int .i64 0, .int .i64 0, .int .i64 0, .int .i64 0, .int .i64 0, .str [], .str [], .str [], .str [], .int .i64 0, .int .i64 0, .int .i64 0, .int .i64 0, .bool false, .str [], .nilslice, .str [], .bool false, .str [], .str [], .nilslice, .nilslice, .int .i64 0, .nilslice], none⟩ [0, 2]
  (.loud ⟨(some 24), .call 14 [(.t 23)], none⟩ []
  (.loud ⟨none, .store 27 (.t 5) (.t 22), none⟩ []
  (.loud ⟨none, .store 27 (.t 6) (.t 24), none⟩ []
  .leaf .stop) .stop) .stop) .stop)) (.loud ⟨(some 6), .alloc [.int .i64 0, .int .i64 0, .int .i64 0, .int .i64 0, .int .i64 0, .int .i64 0, .int .i64 0, .int .i64 0, .str [], .str [], .str [], .str [], .int .i64 0, .int .i64 0, .int .i64 0, .int .i64 0, .bool false, .str [], .nilslice, .str [], .bool false, .str [], .str [], .nilslice, .nilslice, .int .i64 0, .nilslice], none⟩ [0, 2]
  (.loud ⟨(some 24), .call 14 [(.t 23)], none⟩ []
  (.loud ⟨(some 5), .alloc [.int .i64 0, .int .i64 0, .int .i64 0, .int .i64 0, .int .i64 0, .int .i64 0, .int .i64 0, .int .i64 0, .str [], .str [], .str [], .str [], .int .i64 0, .int .i64 0, .int .i64 0, .int .i64 0, .bool false, .str [], .nilslice, .str [], .bool false, .str [], .str [], .nilslice, .nilslice, .int .i64 0, .nilslice], none⟩ [0, 2]
  (.loud ⟨none, .store 27 (.t 5) (.t 22), none⟩ []
  (.loud ⟨none, .store 27 (.t 6) (.t 24), none⟩ []
  .leaf .stop) .stop) .stop) (.loud ⟨(some 5), .alloc [.int .i64 0, .int .i64 0, .int .i64 0, .int .i64 0, .int .i64 0, .int .i64 0, .int .i64 0, .int .i64 0, .str [], .str [], .str [], .str [], .int .i64 0, .int .i64 0, .int .i64 0, .int .i64 0, .bool false, .str [], .nilslice, .str [], .bool false, .str [], .str [], .nilslice, .nilslice, .int .i64 0, .nilslice], none⟩ [0, 2]
  (.loud ⟨(some 24), .call 14 [(.t 23)], none⟩ []
  (.loud ⟨none, .store 27 (.t 5) (.t 22), none⟩ []
  (.loud ⟨none, .store 27 (.t 6) (.t 24), none⟩ []
  .leaf .stop) .stop) .stop) .stop)) .stop))) (.loud ⟨(some 5), .alloc [.int .i64 0, .int .i64 0, .int .i64 0, .int .i64 0, .int .i64 0, .int .i64 0, .int .i64 0, .int .i64 0, .str [], .str [], .str [], .str [], .int .i64 0, .int .i64 0, .int .i64 0, .int .i64 0, .bool false, .str [], .nilslice, .str [], .bool false, .str [], .str [], .nilslice, .nilslice, .int .i64 0, .nilslice], none⟩ [0, 2]
  (.loud ⟨(some 22), .call 14 [(.t 21)], none⟩ [2]
  (.loud ⟨(some 24), .call 14 [(.t 23)], none⟩ []
  (.loud ⟨(some 6), .alloc [.int .i64 0, .int .i64 0, .int .i64 0, .int .i64 0, .int .i64 0, .int .i64 0, .int .i64 0, .int .i64 0, .str [], .str [], .str [], .str [], .int .i64 0, .int .i64 0, .int .i64 0, .int .i64 0, .bool false, .str [], .nilslice, .str [], .bool false, .str [], .str [], .nilslice, .nilslice, .int .i64 0, .nilslice], none⟩ [0, 2]
  (.loud ⟨none, .store 27 (.t 5) (.t 22), none⟩ []
  (.loud ⟨none, .store 27 (.t 6) (.t 24), none⟩ []
  .leaf .stop) .stop) .stop) (.loud ⟨(some 6), .alloc [.int .i64 0, .int .i64 0, .int .i64 0, .int .i64 0, .int .i64 0, .int .i64 0, .int .i64 0, .int .i64 0, .str [], .str [], .str [], .str [], .int .i64 0, .int .i64 0, .int .i64 0, .int .i64 0, .bool false, .str [], .nilslice, .str [], .bool false, .str [], .str [], .nilslice, .nilslice, .int .i64 0, .nilslice], none⟩ [0, 2]
  (.loud ⟨(some 24), .call 14 [(.t 23)], none⟩ []
  (.loud ⟨none, .store 27 (.t 5) (.t 22), none⟩ []
  (.loud ⟨none, .store 27 (.t 6) (.t 24), none⟩ []
  .leaf .stop) .stop) .stop) .stop)) (.loud ⟨(some 6), .alloc [.int .i64 0, .int .i64 0, .int .i64 0, .int .i64 0, .int .i64 0, .int .i64 0, .int .i64 0, .int .i64 0, .str [], .str [], .str [], .str [], .int .i64 0, .int .i64 0, .int .i64 0, .int .i64 0, .bool false, .str [], .nilslice, .str [], .bool false, .str [], .str [], .nilslice, .nilslice, .int .i64 0, .nilslice], none⟩ [0, 2]
  (.loud ⟨(some 22), .call 14 [(.t 21)], none⟩ [2]
  (.loud ⟨(some 24), .call 14 [(.t 23)], none⟩ []
  (.loud ⟨none, .store 27 (.t 5) (.t 22), none⟩ []
  (.loud ⟨none, .store 27 (.t 6) (.t 24), none⟩ []
  .leaf .stop) .stop) .stop) .stop) .stop)) (.loud ⟨(some 6), .alloc [.int .i64 0, .int .i64 0, .int .i64 0, .int .i64 0, .int .i64 0, .int .i64 0, .int .i64 0, .int .i64 0, .str [], .str [], .str [], .str [], .int .i64 0, .int .i64 0, .int .i64 0, .int .i64 0, .bool false, .str [], .nilslice, .str [], .bool false, .str [], .str [], .nilslice, .nilslice, .int .i64 0, .nilslice], none⟩ [0, 2]
  (.loud ⟨(some 22), .call 14 [(.t 21)], none⟩ [2]
  (.loud ⟨(some 24), .call 14 [(.t 23)], none⟩ []
  (.loud ⟨(some 5), .alloc [.int .i64 0, .int .i64 0, .int .i64 0, .int .i64 0, .int .i64 0, .int .i64 0, .int .i64 0, .int .i64 0, .str [], .str [], .str [], .str [], .int .i64 0, .int .i64 0, .int .i64 0, .int .i64 0, .bool false, .str [], .nilslice, .str [], .bool false, .str [], .str [], .nilslice, .nilslice, .int .i64 0, .nilslice], none⟩ [0, 2]
  (.loud ⟨none, .store 27 (.t 5) (.t 22), none⟩ []
  (.loud ⟨none, .store 27 (.t 6) (.t 24), none⟩ []
  .leaf .stop) .stop) .stop) (.loud ⟨(some 5), .alloc [.int .i64 0, .int .i64 0, .int .i64 0, .int .i64 0, .int .i64 0, .int .i64 0, .int .i64 0, .int .i64 0, .str [], .str [], .str [], .str [], .int .i64 0, .int .i64 0, .int .i64 0, .int .i64 0, .bool false, .str [], .nilslice, .str [], .bool false, .str [], .str [], .nilslice, .nilslice, .int .i64 0, .nilslice], none⟩ [0, 2]
  (.loud ⟨(some 24), .call 14 [(.t 23)], none⟩ []
  (.loud ⟨none, .store 27 (.t 5) (.t 22), none⟩ []
  (.loud ⟨none, .store 27 (.t 6) (.t 24), none⟩ []
  .leaf .stop) .stop) .stop) .stop)) (.loud ⟨(some 5), .alloc [.int .i64 0, .int .i64 0, .int .i64 0, .int .i64 0, .int .i64 0, .int .i64 0, .int .i64 0, .int .i64 0, .str [], .str [], .str [], .str [], .int .i64 0, .int .i64 0, .int .i64 0, .int .i64 0, .bool false, .str [], .nilslice, .str [], .bool false, .str [], .str [], .nilslice, .nilslice, .int .i64 0, .nilslice], none⟩ [0, 2]
  (.loud ⟨(some 22), .call 14 [(.t 21)], none⟩ [2]
  (.loud ⟨(some 24), .call 14 [(.t 23)], none⟩ []
  (.loud ⟨none, .store 27 (.t 5) (.t 22), none⟩ []
  (.loud ⟨none, .store 27 (.t 6) (.t 24), none⟩ []
  .leaf .stop) .stop) .stop) .stop) .stop)) .stop)))))
def b5_11 : SCode := .draw t5_11
theorem x5_11 : sC C n0 b5_11 (unw C n0 R k) e σ = sTree C (unw C n0 R k .normal) t5_11 [] e σ := _root_.id rfl
def r5_12 : List MOper := [⟨(some 26), .loadN 27 (.t 5), none⟩,
  ⟨(some 27), .call 12 [(.t 26)], none⟩,
  ⟨(some 25), .move (.t 27), none⟩,
  ⟨(some 28), .extract (.t 25) 0, none⟩,
  ⟨(some 29), .extract (.t 25) 1, none⟩,
  ⟨(some 7), .move (.t 28), none⟩,
  ⟨(some 8), .move (.t 29), none⟩]
def b5_12 : SCode := .region r5_12
theorem x5_12 : sC C n0 b5_12 (unw C n0 R k) e σ = sOps C r5_12 (unw C n0 R k .normal) e σ := _root_.id rfl
def r5_13 : List MOper := [⟨(some 31), .loadN 27 (.t 6), none⟩,
  ⟨(some 32), .call 12 [(.t 31)], none⟩,
  ⟨(some 30), .move (.t 32), none⟩,
  ⟨(some 33), .extract (.t 30) 0, none⟩,
  ⟨(some 34), .extract (.t 30) 1, none⟩,
  ⟨(some 9), .move (.t 33), none⟩,
  ⟨(some 10), .move (.t 34), none⟩]
def b5_13 : SCode := .region r5_13
theorem x5_13 : sC C n0 b5_13 (unw C n0 R k) e σ = sOps C r5_13 (unw C n0 R k .normal) e σ := _root_.id rfl
def t5_14 : LTree := (.quiet ⟨(some 35), .move (.t 8), none⟩ 0
  (.quiet ⟨(some 36), .bin .neq .num (.t 35) (.c (.int .i64 0)), none⟩ 1
  (.quiet ⟨(some 37), .move (.t 36), none⟩ 2
  (.quiet ⟨(some 38), .move (.t 10), (some (37, false))⟩ 3
  (.quiet ⟨(some 39), .bin .neq .num (.t 38) (.c (.int .i64 0)), (some (37, false))⟩ 4
  (.quiet ⟨(some 40), .pick (.t 37) (.c (.bool true)) (.t 39), none⟩ 5
  (.quiet ⟨(some 41), .move (.t 40), none⟩ 6
  (.quiet ⟨(some 42), .move (.t 7), (some (41, false))⟩ 7
  (.quiet ⟨(some 43), .ofBytes (.t 42), (some (41, false))⟩ 8
  (.quiet ⟨(some 44), .move (.t 9), (some (41, false))⟩ 9
  (.quiet ⟨(some 45), .ofBytes (.t 44), (some (41, false))⟩ 10
  (.quiet ⟨(some 46), .bin .eql .num (.t 43) (.t 45), (some (41, false))⟩ 11
  (.quiet ⟨(some 47), .loadN 27 (.t 5), (some (41, false))⟩ 12
  (.quiet ⟨(some 48), .loadN 27 (.t 6), (some (41, false))⟩ 13
  (.loud ⟨(some 49), .call 16 [(.t 47), (.t 48)], (some (41, false))⟩ [8, 10]
  (.quiet ⟨(some 50), .bin .eql .bool (.t 46) (.t 49), (some (41, false))⟩ 15
  (.quiet ⟨(some 51), .pick (.t 41) (.c (.bool true)) (.t 50), none⟩ 16
  (.quiet ⟨(some 4), .move (.t 51), none⟩ 17
  .leaf))) .stop)))))))))))))))
def b5_14 : SCode := .draw t5_14
theorem x5_14 : sC C n0 b5_14 (unw C n0 R k) e σ = sTree C (unw C n0 R k .normal) t5_14 [] e σ := _root_.id rfl
def b5_15 : SCode := .seq b5_14 .ret
theorem x5_15 : sC C n0 b5_15 (unw C n0 R k) e σ = sC C n0 b5_14 (unw C n0 R (.seq .ret k)) e σ := _root_.id rfl
def b5_16 : SCode := .seq b5_13 b5_15
theorem x5_16 : sC C n0 b5_16 (unw C n0 R k) e σ = sC C n0 b5_13 (unw C n0 R (.seq b5_15 k)) e σ := _root_.id rfl
def b5_17 : SCode := .seq b5_12 b5_16
theorem x5_17 : sC C n0 b5_17 (unw C n0 R k) e σ = sC C n0 b5_12 (unw C n0 R (.seq b5_16 k)) e σ := _root_.id rfl
def b5_18 : SCode := .seq b5_11 b5_17
theorem x5_18 : sC C n0 b5_18 (unw C n0 R k) e σ = sC C n0 b5_11 (unw C n0 R (.seq b5_17 k)) e σ := _root_.id rfl
def b5_19 : SCode := .seq b5_10 b5_18
theorem x5_19 : sC C n0 b5_19 (unw C n0 R k) e σ = sC C n0 b5_10 (unw C n0 R (.seq b5_18 k)) e σ := _root_.id rfl
def b5_20 : SCode := .seq b5_5 b5_19
theorem x5_20 : sC C n0 b5_20 (unw C n0 R k) e σ = sC C n0 b5_5 (unw C n0 R (.seq b5_19 k)) e σ := _root_.id rfl
def b5_21 : SCode := .seq b5_0 b5_20
theorem x5_21 : sC C n0 b5_21 (unw C n0 R k) e σ = sC C n0 b5_0 (unw C n0 R (.seq b5_20 k)) e σ := _root_.id rfl
def s5 : SFunc := ⟨52, [.t 4], b5_21⟩
theorem c5 : sFn Try.prog 5 = some s5 := by kernel_rfl
theorem y5 {args : List AV} {Q : AV → AHeap → Prop} : sF C s5 args σ Q = (args.length ≤ 52 ∧ sC C σ.length b5_21 (unw C σ.length (RetQ [.t 4] Q) .fin) (argEnv args) σ) := _root_.id rfl

end
set_option maxHeartbeats 4000000
set_option maxRecDepth 10000
theorem awakeRun : bF (cFn Try.prog) 100 50 9 [] [] isYes = true := by kernel_rfl
theorem awakeOk (σ : AHeap) : Tri Try.prog 9 [] σ fun r σ' => r = .bool true ∧ σ' = σ :=
  Tri.frame (f := 9) (Q := fun r => r = .bool true) (by intro x hx; cases hx) ((Tri.run 100 50 isYes awakeRun).mono fun r σ' h => by
    have h1 : r = .bool true := isYes_ok h
    subst h1; exact ⟨rfl, rfl⟩) σ
def awakeD (args : List AV) (σ : AHeap) (K : AV → AHeap → Prop) : Prop := args = [] ∧ K (.bool true) σ
theorem awakeD_ok (args : List AV) (σ : AHeap) (K : AV → AHeap → Prop) (h : awakeD args σ K) : Tri Try.prog 9 args σ K := by
  obtain ⟨rfl, h⟩ := h
  exact (awakeOk σ).mono fun r σ' hr => by rw [hr.1, hr.2]; exact h
theorem awakeD_eq {args : List AV} {σ : AHeap} {K : AV → AHeap → Prop} : awakeD args σ K = (args = [] ∧ K (.bool true) σ) := _root_.id rfl
def T5 : PCall := rowQ 9 awakeD (rowQ 10 smallD (rowQ 12 packD (rowQ 14 madeD (rowQ 16 sameD noCall))))
theorem T5_app {f : FuncId} {args : List AV} {σ : AHeap} {K : AV → AHeap → Prop} : T5 f args σ K = rowQ 9 awakeD (rowQ 10 smallD (rowQ 12 packD (rowQ 14 madeD (rowQ 16 sameD noCall)))) f args σ K := _root_.id rfl
theorem T5_sound : Sound Try.prog T5 := rowQ_sound awakeD_ok (rowQ_sound smallD_ok (rowQ_sound packD_ok (rowQ_sound madeD_ok (rowQ_sound sameD_ok (noCall_sound _)))))
theorem yes_true {σ : AHeap} : Yes (.bool true) σ := rfl
theorem rest5 (A B : NoteV) (sA : A.sz) (sB : B.sz) (cA : A.cmp) (cB : B.cmp) (i j : Nat) (e : Env) (σ : AHeap) (e5 : e 5 = .ptr i 0) (e6 : e 6 = .ptr j 0) (g5 : hget σ i = some A.cells) (g6 : hget σ j = some B.cells) :
    sC T5 0 b5_17 (unw T5 0 (RetQ [.t 4] Yes) .fin) e σ := by
  cases hA : mayB A with
  | false =>
    cases hB : mayB B with
    | false =>
      simp only [T5_app, y5, x5_0, r5_0, x5_1, r5_1, x5_2, r5_2, x5_3, x5_4, x5_5, x5_6, r5_6, x5_7, r5_7, x5_8, x5_9, x5_10, x5_11, t5_11, x5_12, r5_12, x5_13, r5_13, x5_14, t5_14, x5_15, x5_16, x5_17, x5_18, x5_19, x5_20, x5_21, base, evOp, isRead, fixOp, ldCell, ldCells, fAddr, mayGrow, fillParts, lenSl, topOf, if_true, if_false, ite_true, ite_false, ↓reduceIte, Nat.reduceAdd, Nat.reduceSub, Nat.reduceMul, Nat.reduceEqDiff, Nat.reduceLeDiff, Nat.reduceLT, Int.reduceLT, Int.reduceLE, Int.reduceEq, Int.reduceNe, Int.reduceToNat, Int.reduceAdd, Int.reduceSub, reduceCtorEq, eq_self, ne_eq, beq_self_eq_true, Nat.reduceBEq, Nat.reduceBNe, implies_true, forall_const, lenOf_imm, e5, e6, g5, g6, sub_note, packD_eq, packN, hA, hB, ofRws]
      exact ⟨sA, sB, yes_true⟩
    | true =>
      simp only [T5_app, y5, x5_0, r5_0, x5_1, r5_1, x5_2, r5_2, x5_3, x5_4, x5_5, x5_6, r5_6, x5_7, r5_7, x5_8, x5_9, x5_10, x5_11, t5_11, x5_12, r5_12, x5_13, r5_13, x5_14, t5_14, x5_15, x5_16, x5_17, x5_18, x5_19, x5_20, x5_21, base, evOp, isRead, fixOp, ldCell, ldCells, fAddr, mayGrow, fillParts, lenSl, topOf, if_true, if_false, ite_true, ite_false, ↓reduceIte, Nat.reduceAdd, Nat.reduceSub, Nat.reduceMul, Nat.reduceEqDiff, Nat.reduceLeDiff, Nat.reduceLT, Int.reduceLT, Int.reduceLE, Int.reduceEq, Int.reduceNe, Int.reduceToNat, Int.reduceAdd, Int.reduceSub, reduceCtorEq, eq_self, ne_eq, beq_self_eq_true, Nat.reduceBEq, Nat.reduceBNe, implies_true, forall_const, lenOf_imm, e5, e6, g5, g6, sub_note, packD_eq, packN, hA, hB, ofRws]
      exact ⟨sA, sB, yes_true⟩
  | true =>
    cases hB : mayB B with
    | false =>
      simp only [T5_app, y5, x5_0, r5_0, x5_1, r5_1, x5_2, r5_2, x5_3, x5_4, x5_5, x5_6, r5_6, x5_7, r5_7, x5_8, x5_9, x5_10, x5_11, t5_11, x5_12, r5_12, x5_13, r5_13, x5_14, t5_14, x5_15, x5_16, x5_17, x5_18, x5_19, x5_20, x5_21, base, evOp, isRead, fixOp, ldCell, ldCells, fAddr, mayGrow, fillParts, lenSl, topOf, if_true, if_false, ite_true, ite_false, ↓reduceIte, Nat.reduceAdd, Nat.reduceSub, Nat.reduceMul, Nat.reduceEqDiff, Nat.reduceLeDiff, Nat.reduceLT, Int.reduceLT, Int.reduceLE, Int.reduceEq, Int.reduceNe, Int.reduceToNat, Int.reduceAdd, Int.reduceSub, reduceCtorEq, eq_self, ne_eq, beq_self_eq_true, Nat.reduceBEq, Nat.reduceBNe, implies_true, forall_const, lenOf_imm, e5, e6, g5, g6, sub_note, packD_eq, packN, hA, hB, ofRws]
      exact ⟨sA, sB, yes_true⟩
    | true =>
      simp only [T5_app, y5, x5_0, r5_0, x5_1, r5_1, x5_2, r5_2, x5_3, x5_4, x5_5, x5_6, r5_6, x5_7, r5_7, x5_8, x5_9, x5_10, x5_11, t5_11, x5_12, r5_12, x5_13, r5_13, x5_14, t5_14, x5_15, x5_16, x5_17, x5_18, x5_19, x5_20, x5_21, base, evOp, isRead, fixOp, ldCell, ldCells, fAddr, mayGrow, fillParts, lenSl, topOf, if_true, if_false, ite_true, ite_false, ↓reduceIte, Nat.reduceAdd, Nat.reduceSub, Nat.reduceMul, Nat.reduceEqDiff, Nat.reduceLeDiff, Nat.reduceLT, Int.reduceLT, Int.reduceLE, Int.reduceEq, Int.reduceNe, Int.reduceToNat, Int.reduceAdd, Int.reduceSub, reduceCtorEq, eq_self, ne_eq, beq_self_eq_true, Nat.reduceBEq, Nat.reduceBNe, implies_true, forall_const, lenOf_imm, e5, e6, g5, g6, sub_note, packD_eq, packN, hA, hB, ofRws]
      refine ⟨sA, sB, ?_⟩
      refine ⟨A, B, rfl, cA, cB, fun t ht => ?_⟩
      have hd : decide (A.bytes = B.bytes) = t := by
        rw [Bool.eq_iff_iff, decide_eq_true_eq, ht]
        exact ⟨fun h => bytes_inj hA hB sA sB h, fun h => by rw [h]⟩
      simp only [T5_app, y5, x5_0, r5_0, x5_1, r5_1, x5_2, r5_2, x5_3, x5_4, x5_5, x5_6, r5_6, x5_7, r5_7, x5_8, x5_9, x5_10, x5_11, t5_11, x5_12, r5_12, x5_13, r5_13, x5_14, t5_14, x5_15, x5_16, x5_17, x5_18, x5_19, x5_20, x5_21, base, evOp, isRead, fixOp, ldCell, ldCells, fAddr, mayGrow, fillParts, lenSl, topOf, if_true, if_false, ite_true, ite_false, ↓reduceIte, Nat.reduceAdd, Nat.reduceSub, Nat.reduceMul, Nat.reduceEqDiff, Nat.reduceLeDiff, Nat.reduceLT, Int.reduceLT, Int.reduceLE, Int.reduceEq, Int.reduceNe, Int.reduceToNat, Int.reduceAdd, Int.reduceSub, reduceCtorEq, eq_self, ne_eq, beq_self_eq_true, Nat.reduceBEq, Nat.reduceBNe, implies_true, forall_const, lenOf_imm, e5, e6, g5, g6, sub_note, hd, ofRws]
      cases t <;> exact yes_true
theorem law (a b : RowV) (ha : a.okS) (hb : b.okS) : sF T5 s5 [.agg a.cells, .agg b.cells] [] Yes := by
  simp only [T5_app, awakeD_eq, y5, x5_0, r5_0, x5_1, r5_1, x5_2, r5_2, x5_3, x5_4, x5_5, x5_6, r5_6, x5_7, r5_7, x5_8, x5_9, x5_10, x5_11, t5_11, x5_12, r5_12, x5_13, r5_13, x5_14, t5_14, x5_15, x5_16, x5_18, x5_19, x5_20, x5_21, base, evOp, isRead, fixOp, ldCell, ldCells, fAddr, mayGrow, fillParts, lenSl, topOf, if_true, if_false, ite_true, ite_false, ↓reduceIte, Nat.reduceAdd, Nat.reduceSub, Nat.reduceMul, Nat.reduceEqDiff, Nat.reduceLeDiff, Nat.reduceLT, Int.reduceLT, Int.reduceLE, Int.reduceEq, Int.reduceNe, Int.reduceToNat, Int.reduceAdd, Int.reduceSub, reduceCtorEq, eq_self, ne_eq, beq_self_eq_true, Nat.reduceBEq, Nat.reduceBNe, implies_true, forall_const, sub_row, nc_len, nc_cell]
  refine ⟨a, rfl, ha, fun p hp => ?_⟩
  cases p with
  | false =>
    simp only [T5_app, awakeD_eq, y5, x5_0, r5_0, x5_1, r5_1, x5_2, r5_2, x5_3, x5_4, x5_5, x5_6, r5_6, x5_7, r5_7, x5_8, x5_9, x5_10, x5_11, t5_11, x5_12, r5_12, x5_13, r5_13, x5_14, t5_14, x5_15, x5_16, x5_18, x5_19, x5_20, x5_21, base, evOp, isRead, fixOp, ldCell, ldCells, fAddr, mayGrow, fillParts, lenSl, topOf, if_true, if_false, ite_true, ite_false, ↓reduceIte, Nat.reduceAdd, Nat.reduceSub, Nat.reduceMul, Nat.reduceEqDiff, Nat.reduceLeDiff, Nat.reduceLT, Int.reduceLT, Int.reduceLE, Int.reduceEq, Int.reduceNe, Int.reduceToNat, Int.reduceAdd, Int.reduceSub, reduceCtorEq, eq_self, ne_eq, beq_self_eq_true, Nat.reduceBEq, Nat.reduceBNe, implies_true, forall_const, sub_row]
    exact yes_true
  | true =>
    simp only [T5_app, awakeD_eq, y5, x5_0, r5_0, x5_1, r5_1, x5_2, r5_2, x5_3, x5_4, x5_5, x5_6, r5_6, x5_7, r5_7, x5_8, x5_9, x5_10, x5_11, t5_11, x5_12, r5_12, x5_13, r5_13, x5_14, t5_14, x5_15, x5_16, x5_18, x5_19, x5_20, x5_21, base, evOp, isRead, fixOp, ldCell, ldCells, fAddr, mayGrow, fillParts, lenSl, topOf, if_true, if_false, ite_true, ite_false, ↓reduceIte, Nat.reduceAdd, Nat.reduceSub, Nat.reduceMul, Nat.reduceEqDiff, Nat.reduceLeDiff, Nat.reduceLT, Int.reduceLT, Int.reduceLE, Int.reduceEq, Int.reduceNe, Int.reduceToNat, Int.reduceAdd, Int.reduceSub, reduceCtorEq, eq_self, ne_eq, beq_self_eq_true, Nat.reduceBEq, Nat.reduceBNe, implies_true, forall_const, sub_row]
    refine ⟨b, rfl, hb, fun q hq => ?_⟩
    cases q with
    | false =>
      simp only [T5_app, awakeD_eq, y5, x5_0, r5_0, x5_1, r5_1, x5_2, r5_2, x5_3, x5_4, x5_5, x5_6, r5_6, x5_7, r5_7, x5_8, x5_9, x5_10, x5_11, t5_11, x5_12, r5_12, x5_13, r5_13, x5_14, t5_14, x5_15, x5_16, x5_18, x5_19, x5_20, x5_21, base, evOp, isRead, fixOp, ldCell, ldCells, fAddr, mayGrow, fillParts, lenSl, topOf, if_true, if_false, ite_true, ite_false, ↓reduceIte, Nat.reduceAdd, Nat.reduceSub, Nat.reduceMul, Nat.reduceEqDiff, Nat.reduceLeDiff, Nat.reduceLT, Int.reduceLT, Int.reduceLE, Int.reduceEq, Int.reduceNe, Int.reduceToNat, Int.reduceAdd, Int.reduceSub, reduceCtorEq, eq_self, ne_eq, beq_self_eq_true, Nat.reduceBEq, Nat.reduceBNe, implies_true, forall_const, sub_row]
      exact yes_true
    | true =>
      have pa := hp rfl
      have pb := hq rfl
      have la : a.last.length ≤ 1000000 := by have := pa.lal; omega
      have sa : a.sh.length ≤ 1000000 := by have := pa.shl; omega
      have lb : b.last.length ≤ 1000000 := by have := pb.lal; omega
      have sb : b.sh.length ≤ 1000000 := by have := pb.shl; omega
      simp only [T5_app, awakeD_eq, y5, x5_0, r5_0, x5_1, r5_1, x5_2, r5_2, x5_3, x5_4, x5_5, x5_6, r5_6, x5_7, r5_7, x5_8, x5_9, x5_10, x5_11, t5_11, x5_12, r5_12, x5_13, r5_13, x5_14, t5_14, x5_15, x5_16, x5_18, x5_19, x5_20, x5_21, base, evOp, isRead, fixOp, ldCell, ldCells, fAddr, mayGrow, fillParts, lenSl, topOf, if_true, if_false, ite_true, ite_false, ↓reduceIte, Nat.reduceAdd, Nat.reduceSub, Nat.reduceMul, Nat.reduceEqDiff, Nat.reduceLeDiff, Nat.reduceLT, Int.reduceLT, Int.reduceLE, Int.reduceEq, Int.reduceNe, Int.reduceToNat, Int.reduceAdd, Int.reduceSub, reduceCtorEq, eq_self, ne_eq, beq_self_eq_true, Nat.reduceBEq, Nat.reduceBNe, implies_true, forall_const, sub_row, nc_len, nc_cell, madeD_eq, la, sa, lb, sb, put_note, true_and]
      repeat' (with_reducible apply And.intro)
      all_goals first | (refine rest5 _ _ (made_sz pa) (made_sz pb) (made_cmp pa) (made_cmp pb) 2 3 _ _ ?_ ?_ ?_ ?_ <;> rfl) | (refine rest5 _ _ (made_sz pa) (made_sz pb) (made_cmp pa) (made_cmp pb) 3 2 _ _ ?_ ?_ ?_ ?_ <;> rfl)
abbrev Inp := RowV × (RowV × Unit)
def avs (p : Inp) : List AV := [.agg p.1.cells, .agg p.2.1.cells]
def oks (p : Inp) : Prop := p.1.okS ∧ (p.2.1.okS ∧ True)
theorem args : Args Try.prog Try.f5.params.toList avs oks := by
  have hp : Try.f5.params.toList = [36, 36] := by kernel_rfl
  rw [hp]
  have hu : Try.prog.underlying 36 = some (.struct (Try.prog.fieldsOf 36)) := by kernel_rfl
  exact .cons (arg_agg rdRow (.inl ⟨_, hu⟩)) (.cons (arg_agg rdRow (.inl ⟨_, hu⟩)) .nil)
theorem comes (y : Inp) (hy : oks y) : Tri Try.prog 5 (avs y) [] Yes := by
  obtain ⟨a, b, u⟩ := y
  obtain ⟨ha, hb, _⟩ := hy
  exact Tri.of_s c5 T5_sound (law a b ha hb)
theorem own : ownKnob Try.prog.godebug = none := by kernel_rfl
theorem laidOut : laidOutB Try.prog = true := by kernel_rfl
theorem lifted (os : Os) (started : os.Started) (H : Type) (enc : TypeId × Value → H) :
    ReturnsInHanded {} Try.checked os 5 .any (Rows.noteApartSpec.pre6 enc Try.prog Try.f5 Rows.noteApartRow.domain false) (Rows.noteApartSpec.post enc Try.prog Try.f5 false true false false) := by
  refine returnsInHanded_of_change_sized (C := Try.checked) own started (by kernel_rfl) Try.func5
    (ChangeSpec.witness6 (enc := enc) (C := Try.checked) false ⟨#[], #[.agg #[.int .i64 0, .int .i64 0, .int .i64 0, .int .i64 0, .int .i64 0, .int .i64 0, .int .i64 0, .int .i64 0, .string ⟨#[]⟩, .string ⟨#[]⟩, .string ⟨#[]⟩, .string ⟨#[]⟩, .int .i64 0, .int .i64 0, .int .i64 0, .int .i64 0, .bool false, .string ⟨#[]⟩, .slice none 0 0, .string ⟨#[]⟩, .bool false, .string ⟨#[]⟩, .string ⟨#[]⟩, .slice none 0 0, .slice none 0 0, .int .i64 0, .slice none 0 0], .agg #[.int .i64 0, .int .i64 0, .int .i64 0, .int .i64 0, .int .i64 0, .int .i64 0, .int .i64 0, .int .i64 0, .string ⟨#[]⟩, .string ⟨#[]⟩, .string ⟨#[]⟩, .string ⟨#[]⟩, .int .i64 0, .int .i64 0, .int .i64 0, .int .i64 0, .bool false, .string ⟨#[]⟩, .slice none 0 0, .string ⟨#[]⟩, .bool false, .string ⟨#[]⟩, .string ⟨#[]⟩, .slice none 0 0, .slice none 0 0, .int .i64 0, .slice none 0 0]], []⟩ 8 (by kernel_rfl) (by kernel_rfl) (by kernel_rfl) (by kernel_rfl)) ?_
  intro W base args0 ds gs before hval hW _ hz _
  have hp : Try.f5.params.toList = [36, 36] := by kernel_rfl
  refine calls_post (avs := avs) (oks := oks) laidOut ?_ (by kernel_rfl) (tb := 4) (by kernel_rfl) rfl ?_ args comes hval hW hz
  · rw [hp]; intro t ht
    have h3 : ([36, 36].all fun t => Try.prog.readableRec t && Nat.blt t Try.prog.types.size) = true := by kernel_rfl
    have := List.all_eq_true.1 h3 t ht
    rw [Bool.and_eq_true, Nat.blt_eq] at this
    exact this
  · intro ds h
    rw [hp] at h
    match ds, h with
    | [_, _], _ => rfl
end Go.Proofs.Ytndlgmciplckjaa.noteApart
namespace Go.Proofs.Ytndlgmciplckjaa
open Go.ChangeShapes Go.WideShapes Go.ChangeAt Go.RowKit
theorem noteApart_holds : Rows.NoteApartSaid :=
  OpenClaim.holds_of_wide 5 Try.f5 rfl rfl rfl rfl rfl rfl rfl ⟨rfl, rfl, rfl, rfl, rfl⟩ rfl rfl rfl rfl rfl (by kernel_rfl) Try.func5 (by kernel_rfl)
    (of_decide_eq_true (by kernel_rfl)) (by unfold Func.isWrapper; first | (rw [if_pos (by decide +kernel)]; kernel_rfl) | (rw [if_neg (by decide +kernel)]; exact ⟨rfl, rfl⟩))
    (fun os started H enc _ => noteApart.lifted os started H enc)
end Go.Proofs.Ytndlgmciplckjaa
