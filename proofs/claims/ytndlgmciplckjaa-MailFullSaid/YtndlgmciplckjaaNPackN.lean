/- The bytes that Pack makes of a note. No condition. -/
import Derived.Test.YtndlgmciplckjaaNMay4
set_option linter.unusedVariables false
set_option linter.unusedSimpArgs false
namespace Go.Proofs.Ytndlgmciplckjaa.note
open Go.ChangeShapes Go.WideShapes Go.ChangeAt Go.RowKit Go.Gz
section
variable {C : PCall} {n0 : Nat} {R : MExit → Env → AHeap → Prop} {k : Cont} {e : Env} {σ : AHeap}
abbrev r12_0 : List MOper := [⟨(some 1), .box (.t 0), none⟩,
  ⟨(some 2), .move (.c (.nilslice)), none⟩,
  ⟨(some 3), .move (.c (.int .i64 0)), none⟩]
def b12_0 : SCode := .region r12_0
abbrev r12_1 : List MOper := [⟨(some 9), .loadN 27 (.t 1), none⟩,
  ⟨(some 10), .call 13 [(.t 9)], none⟩,
  ⟨(some 11), .un .not (.t 10), none⟩]
def b12_1 : SCode := .region r12_1
abbrev r12_2 : List MOper := [⟨(some 2), .move (.c (.nilslice)), none⟩,
  ⟨(some 3), .move (.c (.int .i64 1)), none⟩]
def b12_2 : SCode := .region r12_2
def b12_3 : SCode := .seq b12_2 .ret
def b12_4 : SCode := .cond (.t 11) b12_3 .skip
def b12_5 : SCode := .seq b12_1 b12_4
abbrev r12_6 : List MOper := [⟨(some 4), .alloc [.nilslice, .bool false], none⟩]
def b12_6 : SCode := .region r12_6
abbrev r12_7 : List MOper := [⟨(some 12), .fieldAddr 0 (.t 1), none⟩,
  ⟨(some 13), .load1 (.t 12), none⟩,
  ⟨(some 14), .fieldAddr 1 (.t 1), none⟩,
  ⟨(some 15), .load1 (.t 14), none⟩,
  ⟨(some 16), .fieldAddr 2 (.t 1), none⟩,
  ⟨(some 17), .load1 (.t 16), none⟩,
  ⟨(some 18), .fieldAddr 3 (.t 1), none⟩,
  ⟨(some 19), .load1 (.t 18), none⟩,
  ⟨(some 20), .fieldAddr 4 (.t 1), none⟩,
  ⟨(some 21), .load1 (.t 20), none⟩,
  ⟨(some 22), .buildSlice [.int .i64 0] 1 5 [(0, 1, (.t 13)), (1, 1, (.t 15)), (2, 1, (.t 17)), (3, 1, (.t 19)), (4, 1, (.t 21))], none⟩,
  ⟨(some 23), .call 29 [(.t 4), (.t 22)], none⟩]
def b12_7 : SCode := .region r12_7
abbrev r12_8 : List MOper := [⟨(some 24), .fieldAddr 0 (.t 1), none⟩,
  ⟨(some 25), .load1 (.t 24), none⟩]
def b12_8 : SCode := .region r12_8
abbrev r12_9 : List MOper := [⟨(some 27), .bin .eql .num (.t 25) (.c (.int .i64 1)), none⟩,
  ⟨(some 26), .move (.t 27), none⟩]
def b12_9 : SCode := .region r12_9
abbrev r12_10 : List MOper := [⟨(some 29), .fieldAddr 5 (.t 1), none⟩,
  ⟨(some 30), .loadN 8 (.t 29), none⟩,
  ⟨(some 31), .call 30 [(.t 30)], none⟩,
  ⟨(some 28), .move (.t 31), none⟩,
  ⟨(some 32), .extract (.t 28) 0, none⟩,
  ⟨(some 33), .extract (.t 28) 1, none⟩,
  ⟨(some 5), .move (.t 32), none⟩,
  ⟨(some 6), .move (.t 33), none⟩]
def b12_10 : SCode := .region r12_10
abbrev r12_11 : List MOper := [⟨(some 34), .move (.t 5), none⟩,
  ⟨(some 35), .ofBytes (.t 34), none⟩,
  ⟨(some 36), .buildSlice [.str []] 1 1 [(0, 1, (.t 35))], none⟩,
  ⟨(some 37), .call 31 [(.t 4), (.t 36)], none⟩]
def b12_11 : SCode := .region r12_11
def b12_12 : SCode := .seq b12_10 b12_11
abbrev r12_13 : List MOper := [⟨(some 39), .bin .eql .num (.t 25) (.c (.int .i64 2)), none⟩,
  ⟨(some 38), .move (.t 39), none⟩]
def b12_13 : SCode := .region r12_13
abbrev r12_14 : List MOper := [⟨(some 41), .fieldAddr 13 (.t 1), none⟩,
  ⟨(some 42), .loadN 8 (.t 41), none⟩,
  ⟨(some 43), .call 32 [(.t 42)], none⟩,
  ⟨(some 40), .move (.t 43), none⟩,
  ⟨(some 44), .extract (.t 40) 0, none⟩,
  ⟨(some 45), .extract (.t 40) 1, none⟩,
  ⟨(some 7), .move (.t 44), none⟩,
  ⟨(some 8), .move (.t 45), none⟩]
def b12_14 : SCode := .region r12_14
abbrev r12_15 : List MOper := [⟨(some 46), .move (.t 7), none⟩,
  ⟨(some 47), .ofBytes (.t 46), none⟩,
  ⟨(some 48), .buildSlice [.str []] 1 1 [(0, 1, (.t 47))], none⟩,
  ⟨(some 49), .call 31 [(.t 4), (.t 48)], none⟩]
def b12_15 : SCode := .region r12_15
def b12_16 : SCode := .seq b12_14 b12_15
abbrev r12_17 : List MOper := [⟨(some 51), .bin .eql .num (.t 25) (.c (.int .i64 4)), none⟩,
  ⟨(some 50), .move (.t 51), none⟩]
def b12_17 : SCode := .region r12_17
abbrev r12_18 : List MOper := [⟨(some 52), .bin .eql .num (.t 25) (.c (.int .i64 6)), none⟩,
  ⟨(some 50), .move (.t 52), none⟩]
def b12_18 : SCode := .region r12_18
def b12_19 : SCode := .cond (.t 50) .skip b12_18
def b12_20 : SCode := .seq b12_17 b12_19
abbrev r12_21 : List MOper := [⟨(some 53), .fieldAddr 25 (.t 1), none⟩,
  ⟨(some 54), .loadN 2 (.t 53), none⟩,
  ⟨(some 55), .call 33 [(.t 4), (.t 54)], none⟩]
def b12_21 : SCode := .region r12_21
abbrev r12_22 : List MOper := [⟨(some 57), .bin .eql .num (.t 25) (.c (.int .i64 7)), none⟩,
  ⟨(some 56), .move (.t 57), none⟩]
def b12_22 : SCode := .region r12_22
abbrev r12_23 : List MOper := [⟨(some 58), .bin .eql .num (.t 25) (.c (.int .i64 11)), none⟩,
  ⟨(some 56), .move (.t 58), none⟩]
def b12_23 : SCode := .region r12_23
abbrev r12_24 : List MOper := [⟨(some 59), .bin .eql .num (.t 25) (.c (.int .i64 10)), none⟩,
  ⟨(some 56), .move (.t 59), none⟩]
def b12_24 : SCode := .region r12_24
abbrev r12_25 : List MOper := [⟨(some 60), .bin .eql .num (.t 25) (.c (.int .i64 12)), none⟩,
  ⟨(some 56), .move (.t 60), none⟩]
def b12_25 : SCode := .region r12_25
abbrev r12_26 : List MOper := [⟨(some 61), .bin .eql .num (.t 25) (.c (.int .i64 8)), none⟩,
  ⟨(some 56), .move (.t 61), none⟩]
def b12_26 : SCode := .region r12_26
abbrev r12_27 : List MOper := [⟨(some 62), .bin .eql .num (.t 25) (.c (.int .i64 9)), none⟩,
  ⟨(some 56), .move (.t 62), none⟩]
def b12_27 : SCode := .region r12_27
def b12_28 : SCode := .cond (.t 56) .skip b12_27
def b12_29 : SCode := .seq b12_26 b12_28
def b12_30 : SCode := .cond (.t 56) .skip b12_29
def b12_31 : SCode := .seq b12_25 b12_30
def b12_32 : SCode := .cond (.t 56) .skip b12_31
def b12_33 : SCode := .seq b12_24 b12_32
def b12_34 : SCode := .cond (.t 56) .skip b12_33
def b12_35 : SCode := .seq b12_23 b12_34
def b12_36 : SCode := .cond (.t 56) .skip b12_35
def b12_37 : SCode := .seq b12_22 b12_36
abbrev r12_38 : List MOper := [⟨(some 63), .fieldAddr 21 (.t 1), none⟩,
  ⟨(some 64), .fieldAddr 0 (.t 63), none⟩,
  ⟨(some 65), .load1 (.t 64), none⟩,
  ⟨(some 66), .fieldAddr 21 (.t 1), none⟩,
  ⟨(some 67), .fieldAddr 1 (.t 66), none⟩,
  ⟨(some 68), .load1 (.t 67), none⟩,
  ⟨(some 69), .buildSlice [.str []] 1 2 [(0, 1, (.t 65)), (1, 1, (.t 68))], none⟩,
  ⟨(some 70), .call 31 [(.t 4), (.t 69)], none⟩]
def b12_38 : SCode := .region r12_38
abbrev r12_39 : List MOper := [⟨(some 71), .fieldAddr 23 (.t 1), none⟩,
  ⟨(some 72), .load1 (.t 71), none⟩,
  ⟨(some 73), .fieldAddr 24 (.t 1), none⟩,
  ⟨(some 74), .load1 (.t 73), none⟩,
  ⟨(some 75), .call 34 [(.t 4), (.t 72), (.t 74)], none⟩]
def b12_39 : SCode := .region r12_39
def b12_40 : SCode := .seq b12_38 b12_39
def b12_41 : SCode := .cond (.t 56) b12_40 .skip
def b12_42 : SCode := .seq b12_37 b12_41
def b12_43 : SCode := .cond (.t 50) b12_21 b12_42
def b12_44 : SCode := .seq b12_20 b12_43
def b12_45 : SCode := .cond (.t 38) b12_16 b12_44
def b12_46 : SCode := .seq b12_13 b12_45
def b12_47 : SCode := .cond (.t 26) b12_12 b12_46
def b12_48 : SCode := .seq b12_9 b12_47
def b12_49 : SCode := .block 0 b12_48
def b12_50 : SCode := .seq b12_8 b12_49
abbrev r12_51 : List MOper := [⟨(some 76), .fieldAddr 0 (.t 4), none⟩,
  ⟨(some 77), .load1 (.t 76), none⟩,
  ⟨(some 2), .move (.t 77), none⟩,
  ⟨(some 3), .move (.c (.int .i64 0)), none⟩]
def b12_51 : SCode := .region r12_51
def b12_52 : SCode := .seq b12_51 .ret
def b12_53 : SCode := .seq b12_50 b12_52
def b12_54 : SCode := .seq b12_7 b12_53
def b12_55 : SCode := .seq b12_6 b12_54
def b12_56 : SCode := .seq b12_5 b12_55
def b12_57 : SCode := .seq b12_0 b12_56
def s12 : SFunc := ⟨78, [.t 2, .t 3], b12_57⟩
theorem c12 : sFn Try.prog 12 = some s12 := by kernel_rfl
theorem Z12 : XR b12_0 r12_0 ∧ XR b12_1 r12_1 ∧ XR b12_2 r12_2 ∧ XS b12_3 b12_2 .ret ∧ XC b12_4 (.t 11) b12_3 .skip ∧ XS b12_5 b12_1 b12_4 ∧ XR b12_6 r12_6 ∧ XR b12_7 r12_7 ∧ XR b12_8 r12_8 ∧ XR b12_9 r12_9 ∧ XR b12_10 r12_10 ∧ XR b12_11 r12_11 ∧ XS b12_12 b12_10 b12_11 ∧ XR b12_13 r12_13 ∧ XR b12_14 r12_14 ∧ XR b12_15 r12_15 ∧ XS b12_16 b12_14 b12_15 ∧ XR b12_17 r12_17 ∧ XR b12_18 r12_18 ∧ XC b12_19 (.t 50) .skip b12_18 ∧ XS b12_20 b12_17 b12_19 ∧ XR b12_21 r12_21 ∧ XR b12_22 r12_22 ∧ XR b12_23 r12_23 ∧ XR b12_24 r12_24 ∧ XR b12_25 r12_25 ∧ XR b12_26 r12_26 ∧ XR b12_27 r12_27 ∧ XC b12_28 (.t 56) .skip b12_27 ∧ XS b12_29 b12_26 b12_28 ∧ XC b12_30 (.t 56) .skip b12_29 ∧ XS b12_31 b12_25 b12_30 ∧ XC b12_32 (.t 56) .skip b12_31 ∧ XS b12_33 b12_24 b12_32 ∧ XC b12_34 (.t 56) .skip b12_33 ∧ XS b12_35 b12_23 b12_34 ∧ XC b12_36 (.t 56) .skip b12_35 ∧ XS b12_37 b12_22 b12_36 ∧ XR b12_38 r12_38 ∧ XR b12_39 r12_39 ∧ XS b12_40 b12_38 b12_39 ∧ XC b12_41 (.t 56) b12_40 .skip ∧ XS b12_42 b12_37 b12_41 ∧ XC b12_43 (.t 50) b12_21 b12_42 ∧ XS b12_44 b12_20 b12_43 ∧ XC b12_45 (.t 38) b12_16 b12_44 ∧ XS b12_46 b12_13 b12_45 ∧ XC b12_47 (.t 26) b12_12 b12_46 ∧ XS b12_48 b12_9 b12_47 ∧ XB b12_49 0 b12_48 ∧ XS b12_50 b12_8 b12_49 ∧ XR b12_51 r12_51 ∧ XS b12_52 b12_51 .ret ∧ XS b12_53 b12_50 b12_52 ∧ XS b12_54 b12_7 b12_53 ∧ XS b12_55 b12_6 b12_54 ∧ XS b12_56 b12_5 b12_55 ∧ XS b12_57 b12_0 b12_56 ∧ XY s12 78 b12_57 [.t 2, .t 3] := ⟨rfl, rfl, rfl, rfl, sC_cond, rfl, rfl, rfl, rfl, rfl, rfl, rfl, rfl, rfl, rfl, rfl, rfl, rfl, rfl, sC_cond, rfl, rfl, rfl, rfl, rfl, rfl, rfl, rfl, sC_cond, rfl, sC_cond, rfl, sC_cond, rfl, sC_cond, rfl, sC_cond, rfl, rfl, rfl, rfl, sC_cond, rfl, sC_cond, rfl, sC_cond, rfl, sC_cond, rfl, rfl, rfl, rfl, rfl, rfl, rfl, rfl, rfl, rfl, rfl⟩
abbrev r33_0 : List MOper := [⟨(some 3), .box (.t 1), none⟩]
def b33_0 : SCode := .region r33_0
abbrev r33_1 : List MOper := [⟨(some 4), .move (.t 0), none⟩,
  ⟨(some 5), .fieldAddr 0 (.t 3), none⟩,
  ⟨(some 6), .load1 (.t 5), none⟩,
  ⟨(some 7), .buildSlice [.int .i64 0] 1 1 [(0, 1, (.t 6))], none⟩,
  ⟨(some 8), .call 29 [(.t 4), (.t 7)], none⟩]
def b33_1 : SCode := .region r33_1
abbrev r33_2 : List MOper := [⟨(some 9), .move (.t 0), none⟩,
  ⟨(some 10), .fieldAddr 1 (.t 3), none⟩,
  ⟨(some 11), .load1 (.t 10), none⟩,
  ⟨(some 12), .call 67 [(.t 11), (.c (.func 68 []))], none⟩,
  ⟨(some 13), .ofBytes (.t 12), none⟩,
  ⟨(some 14), .buildSlice [.str []] 1 1 [(0, 1, (.t 13))], none⟩,
  ⟨(some 15), .call 31 [(.t 9), (.t 14)], none⟩]
def b33_2 : SCode := .region r33_2
def b33_3 : SCode := .seq b33_1 b33_2
def b33_4 : SCode := .seq b33_0 b33_3
def s33 : SFunc := ⟨16, [], b33_4⟩
theorem c33 : sFn Try.prog 33 = some s33 := by kernel_rfl
theorem Z33 : XR b33_0 r33_0 ∧ XR b33_1 r33_1 ∧ XR b33_2 r33_2 ∧ XS b33_3 b33_1 b33_2 ∧ XS b33_4 b33_0 b33_3 ∧ XY s33 16 b33_4 [] := ⟨rfl, rfl, rfl, rfl, rfl, rfl⟩
abbrev t34_0 : LTree := (.quiet ⟨(some 6), .move (.t 0), none⟩ 0
  (.quiet ⟨(some 7), .move (.t 1), none⟩ 1
  (.quiet ⟨(some 10), .move (.t 2), none⟩ 4
  (.loud ⟨(some 8), .call 69 [(.t 7), (.c (.func 70 []))], none⟩ []
  (.quiet ⟨(some 9), .ofBytes (.t 8), none⟩ 3
  (.loud ⟨(some 11), .call 71 [(.t 10), (.c (.func 72 []))], none⟩ [3]
  (.quiet ⟨(some 12), .ofBytes (.t 11), none⟩ 6
  (.loud ⟨(some 13), .buildSlice [.str []] 1 2 [(0, 1, (.t 9)), (1, 1, (.t 12))], none⟩ []
  (.loud ⟨(some 14), .call 31 [(.t 6), (.t 13)], none⟩ []
  .leaf .stop) .stop)) .stop)) .stop))))
def b34_0 : SCode := .draw t34_0
def s34 : SFunc := ⟨15, [], b34_0⟩
theorem c34 : sFn Try.prog 34 = some s34 := by kernel_rfl
theorem Z34 : XT b34_0 t34_0 ∧ XY s34 15 b34_0 [] := ⟨rfl, rfl⟩

end
set_option maxHeartbeats 4000000
set_option maxRecDepth 10000

def mayD (args : List AV) (σ : AHeap) (K : AV → AHeap → Prop) : Prop := ∃ n : NoteV, args = [.agg n.cells] ∧ n.sz ∧ K (.bool (mayB n)) σ
theorem mayD_eq {n : NoteV} {σ : AHeap} {K : AV → AHeap → Prop} : mayD [.agg [.int .i64 n.kind, .int .i64 n.from_, .int .i64 n.to, .int .i64 n.epoch, .int .i64 n.tick, .int .i64 n.ask.do_, .int .i64 n.ask.client, .int .i64 n.ask.seq, .str n.ask.text, .str n.ask.val, .str n.ask.from_, .str n.ask.to, .int .i64 n.ask.limit, .int .i64 n.rep.client, .int .i64 n.rep.seq, .int .i64 n.rep.err, .bool n.rep.found, .str n.rep.val, .imm (recs n.rep.l) false false, .str n.rep.next, .bool n.rep.more, .str n.sf, .str n.st, .imm (n.l.map recC) false false, .imm (n.last.map LaV.cells) false false, .int .i64 n.aep, .imm (n.sh.map ShV.cells) false false]] σ K = (n.sz ∧ K (.bool (mayB n)) σ) := by
  apply propext
  refine ⟨fun ⟨m, h1, h2, h3⟩ => ?_, fun h => ⟨n, rfl, h.1, h.2⟩⟩
  have : n = m := note_inj (List.cons.inj h1).1
  subst this
  exact ⟨h2, h3⟩
theorem mayD_ok (args : List AV) (σ : AHeap) (K : AV → AHeap → Prop) (h : mayD args σ K) : Tri Try.prog 13 args σ K := by
  obtain ⟨n, rfl, hs, h⟩ := h
  exact (Tri.pureD (by simp only [pureL, note_pure, Bool.and_self]) (may_ok n hs) σ).mono fun r σ' hr => by rw [hr.1, hr.2]; exact h
def listRecD (args : List AV) (σ : AHeap) (K : AV → AHeap → Prop) : Prop := ∃ l : List (List UInt8 × List UInt8), args = [.imm (l.map recC) false false, .func 70 []] ∧ (∀ x ∈ l, (txt2 x).length ≤ 900000000) ∧ (l.flatMap fun x => txt (txt2 x)).length ≤ 900000000 ∧ l.length ≤ 1048576 ∧ K (.imm (rws (bytesRec l)) false false) σ
theorem listRecD_ok (args : List AV) (σ : AHeap) (K : AV → AHeap → Prop) (h : listRecD args σ K) : Tri Try.prog 69 args σ K := by
  obtain ⟨l, rfl, h1, h2, h3, h⟩ := h
  exact (Tri.pureD (by simp only [pureL, AV.pure, rowsRec_pure, Bool.and_self]) (listRec_ok l false false h1 h2 h3) σ).mono fun r σ' hr => by rw [hr.1, hr.2]; exact h
def listLaD (args : List AV) (σ : AHeap) (K : AV → AHeap → Prop) : Prop := ∃ l : List LaV, args = [.imm (l.map LaV.cells) false false, .func 72 []] ∧ (∀ x ∈ l, x.rep.bytes.length ≤ 900000000) ∧ (l.flatMap fun x => txt x.bytes).length ≤ 900000000 ∧ l.length ≤ 1048576 ∧ K (.imm (rws (bytesLa l)) false false) σ
theorem listLaD_ok (args : List AV) (σ : AHeap) (K : AV → AHeap → Prop) (h : listLaD args σ K) : Tri Try.prog 71 args σ K := by
  obtain ⟨l, rfl, h1, h2, h3, h⟩ := h
  exact (Tri.pureD (by simp only [pureL, AV.pure, rowsLa_pure, Bool.and_self]) (listLa_ok l false false h1 h2 h3) σ).mono fun r σ' hr => by rw [hr.1, hr.2]; exact h
def listShD (args : List AV) (σ : AHeap) (K : AV → AHeap → Prop) : Prop := ∃ l : List ShV, args = [.imm (l.map ShV.cells) false false, .func 68 []] ∧ (∀ x ∈ l, x.bytes.length ≤ 900000000) ∧ (l.flatMap fun x => txt x.bytes).length ≤ 900000000 ∧ l.length ≤ 1048576 ∧ K (.imm (rws (bytesSh l)) false false) σ
theorem listShD_ok (args : List AV) (σ : AHeap) (K : AV → AHeap → Prop) (h : listShD args σ K) : Tri Try.prog 67 args σ K := by
  obtain ⟨l, rfl, h1, h2, h3, h⟩ := h
  exact (Tri.pureD (by simp only [pureL, AV.pure, rowsSh_pure, Bool.and_self]) (listSh_ok l false false h1 h2 h3) σ).mono fun r σ' hr => by rw [hr.1, hr.2]; exact h
theorem pk_D {σ : AHeap} {id : Nat} {bs : List UInt8} {bad : Bool} {D : Option Nat} (h : Pk σ id bs bad D) : id < σ.length ∧ ∀ d, D = some d → d < σ.length := by
  obtain ⟨P, hP⟩ := pk_get h
  refine ⟨hget_lt hP, fun d hd => ?_⟩
  subst hd
  exact (pk_lt h).2
theorem total2 (a b : List UInt8) : total [a, b] = (4 + a.length) + (4 + b.length) := by simp only [total, List.flatMap_cons, List.flatMap_nil, List.append_nil, List.length_append, txt, u32_len]
theorem total1 (a : List UInt8) : total [a] = 4 + a.length := by simp only [total, List.flatMap_cons, List.flatMap_nil, List.append_nil, List.length_append, txt, u32_len]
theorem len_rec (l : List (List UInt8 × List UInt8)) : (bytesRec l).length = 4 + (l.flatMap fun x => txt (txt2 x)).length := by simp only [bytesRec, List.length_append, u32_len]
theorem len_la (l : List LaV) : (bytesLa l).length = 4 + (l.flatMap fun x => txt x.bytes).length := by simp only [bytesLa, List.length_append, u32_len]
theorem len_sh (l : List ShV) : (bytesSh l).length = 4 + (l.flatMap fun x => txt x.bytes).length := by simp only [bytesSh, List.length_append, u32_len]
/-! Rows, Chart. -/
def B1 : PCall := rowQ 69 listRecD (rowQ 71 listLaD (rowQ 67 listShD (rowQ 29 numD (rowQ 31 textD noCall))))
theorem B1_app {f : FuncId} {args : List AV} {σ : AHeap} {K : AV → AHeap → Prop} : B1 f args σ K = rowQ 69 listRecD (rowQ 71 listLaD (rowQ 67 listShD (rowQ 29 numD (rowQ 31 textD noCall)))) f args σ K := _root_.id rfl
theorem B1_sound : Sound Try.prog B1 := rowQ_sound listRecD_ok (rowQ_sound listLaD_ok (rowQ_sound listShD_ok (rowQ_sound numD_ok (rowQ_sound textD_ok (noCall_sound _)))))
def rowsD (args : List AV) (σ : AHeap) (K : AV → AHeap → Prop) : Prop := ∃ (id : Nat) (bs : List UInt8) (bad : Bool) (d : Nat) (n : NoteV), args = [.ptr id 0, .imm (n.l.map recC) false false, .imm (n.last.map LaV.cells) false false] ∧ n.sz ∧ bs.length ≤ 200000000 ∧ Pk σ id bs bad (some d) ∧
  ∀ σ' bad' d', Pk σ' id (bs ++ [bytesRec n.l, bytesLa n.last].flatMap txt) bad' (some d') → Fr σ σ' id (some d) (some d') → K (.tuple []) σ'
theorem rowsD_ok (args : List AV) (σ : AHeap) (K : AV → AHeap → Prop) (h : rowsD args σ K) : Tri Try.prog 34 args σ K := by
  obtain ⟨id, bs, bad, d, n, rfl, hs, hl, hp, h⟩ := h
  refine Tri.of_s c34 B1_sound ?_
  have q1 := hs.recs
  have q2 := hs.las
  have q3 := hs.l
  have q4 := hs.last
  simp only [B1_app, Z34, base1, baseE, ↓reduceIte, Nat.reduceAdd, Nat.reduceSub, Nat.reduceMul, Nat.reduceEqDiff, Nat.reduceLeDiff, Nat.reduceLT, Int.reduceLT, Int.reduceLE, Int.reduceEq, Int.reduceNe, Int.reduceToNat, Int.reduceAdd, Int.reduceSub, reduceCtorEq, Nat.reduceBEq, Nat.reduceBNe]
  refine ⟨n.l, rfl, hs.recz, by omega, by omega, ?_⟩
  simp only [B1_app, Z34, base1, baseE, ↓reduceIte, Nat.reduceAdd, Nat.reduceSub, Nat.reduceMul, Nat.reduceEqDiff, Nat.reduceLeDiff, Nat.reduceLT, Int.reduceLT, Int.reduceLE, Int.reduceEq, Int.reduceNe, Int.reduceToNat, Int.reduceAdd, Int.reduceSub, reduceCtorEq, Nat.reduceBEq, Nat.reduceBNe, ofRws]
  refine ⟨n.last, rfl, hs.la, by omega, by omega, ?_⟩
  simp only [B1_app, Z34, base1, baseE, ↓reduceIte, Nat.reduceAdd, Nat.reduceSub, Nat.reduceMul, Nat.reduceEqDiff, Nat.reduceLeDiff, Nat.reduceLT, Int.reduceLT, Int.reduceLE, Int.reduceEq, Int.reduceNe, Int.reduceToNat, Int.reduceAdd, Int.reduceSub, reduceCtorEq, Nat.reduceBEq, Nat.reduceBNe, ofRws]
  obtain ⟨p1, r1⟩ := pk_push hp [.str (bytesRec n.l), .str (bytesLa n.last)]
  obtain ⟨l1, l2⟩ := pk_lt hp
  refine ⟨id, σ.length, [bytesRec n.l, bytesLa n.last], some 2, _, _, some d, rfl, push_new rfl, by omega, by simp; omega, ?_, by simp, p1, fun σ1 D1 k1 f1 => ?_⟩
  · rw [total2, len_rec, len_la]; omega
  obtain ⟨d1, rfl, hd1⟩ := pk_some k1 (by simp [txt, u32])
  simp only [B1_app, Z34, base1, baseE, ↓reduceIte, Nat.reduceAdd, Nat.reduceSub, Nat.reduceMul, Nat.reduceEqDiff, Nat.reduceLeDiff, Nat.reduceLT, Int.reduceLT, Int.reduceLE, Int.reduceEq, Int.reduceNe, Int.reduceToNat, Int.reduceAdd, Int.reduceSub, reduceCtorEq, Nat.reduceBEq, Nat.reduceBNe]
  exact h σ1 _ d1 k1 (r1.trans f1)
def chartD (args : List AV) (σ : AHeap) (K : AV → AHeap → Prop) : Prop := ∃ (id : Nat) (bs : List UInt8) (bad : Bool) (d : Nat) (n : NoteV), args = [.ptr id 0, .agg [.int .i64 n.aep, .imm (n.sh.map ShV.cells) false false]] ∧ n.sz ∧ bs.length ≤ 200000000 ∧ Pk σ id bs bad (some d) ∧
  ∀ σ' bad' d', Pk σ' id (bs ++ ([n.aep].flatMap u32 ++ [bytesSh n.sh].flatMap txt)) bad' (some d') → Fr σ σ' id (some d) (some d') → K (.tuple []) σ'
theorem chartD_ok (args : List AV) (σ : AHeap) (K : AV → AHeap → Prop) (h : chartD args σ K) : Tri Try.prog 33 args σ K := by
  obtain ⟨id, bs, bad, d, n, rfl, hs, hl, hp, h⟩ := h
  refine Tri.of_s c33 B1_sound ?_
  have q1 := hs.shsum
  have q3 := hs.sh
  obtain ⟨l1, l2⟩ := pk_lt hp
  have pn : ∀ c : List AV, hget (hpush σ c) σ.length = some c := fun c => push_new rfl
  simp only [B1_app, Z33, base1, baseE, ↓reduceIte, Nat.reduceAdd, Nat.reduceSub, Nat.reduceMul, Nat.reduceEqDiff, Nat.reduceLeDiff, Nat.reduceLT, Int.reduceLT, Int.reduceLE, Int.reduceEq, Int.reduceNe, Int.reduceToNat, Int.reduceAdd, Int.reduceSub, reduceCtorEq, Nat.reduceBEq, Nat.reduceBNe, pn]
  obtain ⟨p0, r0⟩ := pk_push hp [.int .i64 n.aep, .imm (n.sh.map ShV.cells) false false]
  generalize hσ1 : hpush σ [.int .i64 n.aep, .imm (n.sh.map ShV.cells) false false] = σ1 at p0 r0
  have hA : hget σ1 σ.length = some [.int .i64 n.aep, .imm (n.sh.map ShV.cells) false false] := by rw [← hσ1]; exact pn _
  have hL : σ1.length = σ.length + 1 := by rw [← hσ1]; exact push_len
  obtain ⟨p1, r1⟩ := pk_push p0 [.int .i64 n.aep]
  refine ⟨id, σ1.length, [n.aep], some 1, _, _, some d, rfl, push_new rfl, by omega, by simp; omega, by simp; omega, p1, fun σ2 D2 k2 f2 => ?_⟩
  obtain ⟨d2, rfl, hd2⟩ := pk_some k2 (by simp [u32])
  obtain ⟨hA2, nd2⟩ := f2 σ.length _ (push_old hA) (by omega) (by simp; omega)
  simp only [B1_app, Z33, base1, baseE, ↓reduceIte, Nat.reduceAdd, Nat.reduceSub, Nat.reduceMul, Nat.reduceEqDiff, Nat.reduceLeDiff, Nat.reduceLT, Int.reduceLT, Int.reduceLE, Int.reduceEq, Int.reduceNe, Int.reduceToNat, Int.reduceAdd, Int.reduceSub, reduceCtorEq, Nat.reduceBEq, Nat.reduceBNe, hA2]
  refine ⟨n.sh, rfl, hs.shs, by omega, by omega, ?_⟩
  simp only [B1_app, Z33, base1, baseE, ↓reduceIte, Nat.reduceAdd, Nat.reduceSub, Nat.reduceMul, Nat.reduceEqDiff, Nat.reduceLeDiff, Nat.reduceLT, Int.reduceLT, Int.reduceLE, Int.reduceEq, Int.reduceNe, Int.reduceToNat, Int.reduceAdd, Int.reduceSub, reduceCtorEq, Nat.reduceBEq, Nat.reduceBNe, ofRws]
  obtain ⟨p3, r3⟩ := pk_push k2 [.str (bytesSh n.sh)]
  obtain ⟨l3, l4⟩ := pk_lt k2
  refine ⟨id, σ2.length, [bytesSh n.sh], some 1, _, _, some d2, rfl, push_new rfl, by omega, by simp; omega, ?_, by simp, p3, fun σ3 D3 k3 f3 => ?_⟩
  · rw [total1, len_sh]; simp only [List.length_append, List.flatMap_cons, List.flatMap_nil, List.append_nil, u32_len]; omega
  obtain ⟨d3, rfl, hd3⟩ := pk_some k3 (by simp [u32])
  simp only [B1_app, Z33, base1, baseE, ↓reduceIte, Nat.reduceAdd, Nat.reduceSub, Nat.reduceMul, Nat.reduceEqDiff, Nat.reduceLeDiff, Nat.reduceLT, Int.reduceLT, Int.reduceLE, Int.reduceEq, Int.reduceNe, Int.reduceToNat, Int.reduceAdd, Int.reduceSub, reduceCtorEq, Nat.reduceBEq, Nat.reduceBNe]
  exact h σ3 _ d3 (by rw [← List.append_assoc]; exact k3) (r0.trans (r1.trans (f2.trans (r3.trans f3))))
/-! Pack. -/
def NoteV.head (n : NoteV) : List UInt8 := [n.kind, n.from_, n.to, n.epoch, n.tick].flatMap u32
def rowsBy (n : NoteV) : List UInt8 := [n.sf, n.st].flatMap txt ++ [bytesRec n.l, bytesLa n.last].flatMap txt
def chartBy (n : NoteV) : List UInt8 := [n.aep].flatMap u32 ++ [bytesSh n.sh].flatMap txt
def NoteV.body (n : NoteV) : List UInt8 :=
  if n.kind = 1 then [n.ask.bytes].flatMap txt else if n.kind = 2 then [n.rep.bytes].flatMap txt else if n.kind = 4 ∨ n.kind = 6 then chartBy n else if n.kind = 3 ∨ n.kind = 5 then [] else rowsBy n
def NoteV.bytes (n : NoteV) : List UInt8 := n.head ++ n.body
def packN (n : NoteV) : AV := if mayB n = true then .tuple [.imm (rws n.bytes) false false, .int .i64 0] else .tuple [.nilslice, .int .i64 1]
theorem packN_pure (n : NoteV) : (packN n).pure = true := by
  unfold packN
  split
  · simp only [AV.pure, pureL, rws_pure, Bool.and_self]
  · rfl
def TP : PCall := rowQ 13 mayD (rowQ 30 askPD (rowQ 32 repPD (rowQ 33 chartD (rowQ 34 rowsD (rowQ 29 numD (rowQ 31 textD noCall))))))
theorem TP_app {f : FuncId} {args : List AV} {σ : AHeap} {K : AV → AHeap → Prop} : TP f args σ K = rowQ 13 mayD (rowQ 30 askPD (rowQ 32 repPD (rowQ 33 chartD (rowQ 34 rowsD (rowQ 29 numD (rowQ 31 textD noCall)))))) f args σ K := _root_.id rfl
theorem TP_sound : Sound Try.prog TP := rowQ_sound mayD_ok (rowQ_sound askPD_ok (rowQ_sound repPD_ok (rowQ_sound chartD_ok (rowQ_sound rowsD_ok (rowQ_sound numD_ok (rowQ_sound textD_ok (noCall_sound _)))))))
theorem kinds {k : Int} (h1 : decide (k < 1) = false) (h2 : decide (12 < k) = false) : k = 1 ∨ k = 2 ∨ k = 3 ∨ k = 4 ∨ k = 5 ∨ k = 6 ∨ k = 7 ∨ k = 8 ∨ k = 9 ∨ k = 10 ∨ k = 11 ∨ k = 12 := by
  have h1 := of_decide_eq_false h1
  have h2 := of_decide_eq_false h2
  omega
theorem may_kind {n : NoteV} (h : mayB n = true) : decide (n.kind < 1) = false ∧ decide (12 < n.kind) = false ∧ n.ask.bad = false ∧ n.rep.bad = false := by
  simp only [mayB, headB, asksB, Bool.and_eq_true, Bool.not_eq_true'] at h
  exact ⟨h.1.1, h.1.2.1, h.2.2.1.1.1.1, h.2.2.1.1.1.2⟩
theorem bad_len {a : AskV} (h : a.bad = false) : a.bytes.length ≤ 32768 := by
  simp only [AskV.bad, Bool.or_eq_false_iff, decide_eq_false_iff_not] at h
  omega
theorem badR_len {a : RepV} (h : a.bad = false) : a.bytes.length ≤ 32768 := by
  simp only [RepV.bad, Bool.or_eq_false_iff, decide_eq_false_iff_not] at h
  omega
theorem pack_any (n : NoteV) (hs : n.sz) (K : AV → AHeap → Prop) (h0 : mayB n = false → ∀ σ, K (.tuple [.nilslice, .int .i64 1]) σ) (h1 : mayB n = true → ∀ σ d, hget σ d = some (n.bytes.map byteAV) → K (.tuple [.slice d 0 n.bytes.length none 1, .int .i64 0]) σ) : Tri Try.prog 12 [.agg n.cells] [] K := by
  refine Tri.of_s c12 TP_sound ?_
  cases hm : mayB n with
  | false =>
    have hK := h0 hm
    simp only [NoteV.cells, TP_app, Z12, base1, baseE, ↓reduceIte, Nat.reduceAdd, Nat.reduceSub, Nat.reduceMul, Nat.reduceEqDiff, Nat.reduceLeDiff, Nat.reduceLT, Int.reduceLT, Int.reduceLE, Int.reduceEq, Int.reduceNe, Int.reduceToNat, Int.reduceAdd, Int.reduceSub, reduceCtorEq, Nat.reduceBEq, Nat.reduceBNe, mayD_eq, hs, hm]
    exact hK _
  | true =>
    have hK := h1 hm
    obtain ⟨k1, k2, ka, kr⟩ := may_kind hm
    have hA := hs.ask
    have hR := hs.rep
    have hS := hs.span
    have la := bad_len ka
    have lr := badR_len kr
    simp only [NoteV.cells, TP_app, Z12, base1, baseE, ↓reduceIte, Nat.reduceAdd, Nat.reduceSub, Nat.reduceMul, Nat.reduceEqDiff, Nat.reduceLeDiff, Nat.reduceLT, Int.reduceLT, Int.reduceLE, Int.reduceEq, Int.reduceNe, Int.reduceToNat, Int.reduceAdd, Int.reduceSub, reduceCtorEq, Nat.reduceBEq, Nat.reduceBNe, mayD_eq, hs, hm]
    refine ⟨1, 2, [n.kind, n.from_, n.to, n.epoch, n.tick], some 5, [], false, none, rfl, rfl, by decide, by simp, by simp, .inl ⟨rfl, rfl, rfl⟩, fun σ1 D1 q1 f1 => ?_⟩
    obtain ⟨g0, g0'⟩ := f1 0 _ rfl (by decide) (by simp)
    obtain ⟨d1, rfl, hd1⟩ := pk_some q1 (by simp [u32])
    have e0 : [] ++ [n.kind, n.from_, n.to, n.epoch, n.tick].flatMap u32 = n.head := rfl
    rw [e0] at q1
    have l0 : n.head.length = 20 := rfl
    obtain ⟨l1, l2⟩ := pk_lt q1
    rcases kinds k1 k2 with hk | hk | hk | hk | hk | hk | hk | hk | hk | hk | hk | hk
    · rw [hk] at g0
      have hb : n.bytes = n.head ++ [n.ask.bytes].flatMap txt := by simp only [NoteV.bytes, NoteV.body, hk, if_true]
      simp only [TP_app, Z12, base1, baseE, ↓reduceIte, Nat.reduceAdd, Nat.reduceSub, Nat.reduceMul, Nat.reduceEqDiff, Nat.reduceLeDiff, Nat.reduceLT, Int.reduceLT, Int.reduceLE, Int.reduceEq, Int.reduceNe, Int.reduceToNat, Int.reduceAdd, Int.reduceSub, reduceCtorEq, Nat.reduceBEq, Nat.reduceBNe, g0, askPD_eq, hA, ka, packR_f, ofRws]
      obtain ⟨p1, r1⟩ := pk_push q1 [.str n.ask.bytes]
      refine ⟨1, σ1.length, [n.ask.bytes], some 1, _, _, some d1, rfl, push_new rfl, by omega, by simp; omega, ?_, by simp, p1, fun σ2 D2 q2 f2 => ?_⟩
      · rw [total1]; omega
      rw [← hb] at q2
      obtain ⟨d2, rfl, hd2⟩ := pk_some q2 (by rw [hb]; simp [txt, u32])
      obtain ⟨c1, c2, c3⟩ := pk_slice q2
      simp only [TP_app, Z12, base1, baseE, ↓reduceIte, Nat.reduceAdd, Nat.reduceSub, Nat.reduceMul, Nat.reduceEqDiff, Nat.reduceLeDiff, Nat.reduceLT, Int.reduceLT, Int.reduceLE, Int.reduceEq, Int.reduceNe, Int.reduceToNat, Int.reduceAdd, Int.reduceSub, reduceCtorEq, Nat.reduceBEq, Nat.reduceBNe, c1]
      exact hK _ _ c2
    · rw [hk] at g0
      have hb : n.bytes = n.head ++ [n.rep.bytes].flatMap txt := by simp [NoteV.bytes, NoteV.body, hk]
      simp only [TP_app, Z12, base1, baseE, ↓reduceIte, Nat.reduceAdd, Nat.reduceSub, Nat.reduceMul, Nat.reduceEqDiff, Nat.reduceLeDiff, Nat.reduceLT, Int.reduceLT, Int.reduceLE, Int.reduceEq, Int.reduceNe, Int.reduceToNat, Int.reduceAdd, Int.reduceSub, reduceCtorEq, Nat.reduceBEq, Nat.reduceBNe, g0, repPD_eq, hR, kr, packR_f, ofRws]
      obtain ⟨p1, r1⟩ := pk_push q1 [.str n.rep.bytes]
      refine ⟨1, σ1.length, [n.rep.bytes], some 1, _, _, some d1, rfl, push_new rfl, by omega, by simp; omega, ?_, by simp, p1, fun σ2 D2 q2 f2 => ?_⟩
      · rw [total1]; omega
      rw [← hb] at q2
      obtain ⟨d2, rfl, hd2⟩ := pk_some q2 (by rw [hb]; simp [txt, u32])
      obtain ⟨c1, c2, c3⟩ := pk_slice q2
      simp only [TP_app, Z12, base1, baseE, ↓reduceIte, Nat.reduceAdd, Nat.reduceSub, Nat.reduceMul, Nat.reduceEqDiff, Nat.reduceLeDiff, Nat.reduceLT, Int.reduceLT, Int.reduceLE, Int.reduceEq, Int.reduceNe, Int.reduceToNat, Int.reduceAdd, Int.reduceSub, reduceCtorEq, Nat.reduceBEq, Nat.reduceBNe, c1]
      exact hK _ _ c2
    · rw [hk] at g0
      have hb : n.bytes = n.head := by simp [NoteV.bytes, NoteV.body, hk]
      rw [← hb] at q1
      obtain ⟨c1, c2, c3⟩ := pk_slice q1
      simp only [TP_app, Z12, base1, baseE, ↓reduceIte, Nat.reduceAdd, Nat.reduceSub, Nat.reduceMul, Nat.reduceEqDiff, Nat.reduceLeDiff, Nat.reduceLT, Int.reduceLT, Int.reduceLE, Int.reduceEq, Int.reduceNe, Int.reduceToNat, Int.reduceAdd, Int.reduceSub, reduceCtorEq, Nat.reduceBEq, Nat.reduceBNe, g0, c1]
      exact hK _ _ c2
    · rw [hk] at g0
      have hb : n.bytes = n.head ++ chartBy n := by simp [NoteV.bytes, NoteV.body, hk]
      simp only [TP_app, Z12, base1, baseE, ↓reduceIte, Nat.reduceAdd, Nat.reduceSub, Nat.reduceMul, Nat.reduceEqDiff, Nat.reduceLeDiff, Nat.reduceLT, Int.reduceLT, Int.reduceLE, Int.reduceEq, Int.reduceNe, Int.reduceToNat, Int.reduceAdd, Int.reduceSub, reduceCtorEq, Nat.reduceBEq, Nat.reduceBNe, g0]
      refine ⟨1, _, _, d1, n, rfl, hs, by omega, q1, fun σ2 bad2 d2 q2 f2 => ?_⟩
      rw [show n.head ++ ([n.aep].flatMap u32 ++ [bytesSh n.sh].flatMap txt) = n.bytes by rw [hb]; rfl] at q2
      obtain ⟨c1, c2, c3⟩ := pk_slice q2
      simp only [TP_app, Z12, base1, baseE, ↓reduceIte, Nat.reduceAdd, Nat.reduceSub, Nat.reduceMul, Nat.reduceEqDiff, Nat.reduceLeDiff, Nat.reduceLT, Int.reduceLT, Int.reduceLE, Int.reduceEq, Int.reduceNe, Int.reduceToNat, Int.reduceAdd, Int.reduceSub, reduceCtorEq, Nat.reduceBEq, Nat.reduceBNe, c1]
      exact hK _ _ c2
    · rw [hk] at g0
      have hb : n.bytes = n.head := by simp [NoteV.bytes, NoteV.body, hk]
      rw [← hb] at q1
      obtain ⟨c1, c2, c3⟩ := pk_slice q1
      simp only [TP_app, Z12, base1, baseE, ↓reduceIte, Nat.reduceAdd, Nat.reduceSub, Nat.reduceMul, Nat.reduceEqDiff, Nat.reduceLeDiff, Nat.reduceLT, Int.reduceLT, Int.reduceLE, Int.reduceEq, Int.reduceNe, Int.reduceToNat, Int.reduceAdd, Int.reduceSub, reduceCtorEq, Nat.reduceBEq, Nat.reduceBNe, g0, c1]
      exact hK _ _ c2
    · rw [hk] at g0
      have hb : n.bytes = n.head ++ chartBy n := by simp [NoteV.bytes, NoteV.body, hk]
      simp only [TP_app, Z12, base1, baseE, ↓reduceIte, Nat.reduceAdd, Nat.reduceSub, Nat.reduceMul, Nat.reduceEqDiff, Nat.reduceLeDiff, Nat.reduceLT, Int.reduceLT, Int.reduceLE, Int.reduceEq, Int.reduceNe, Int.reduceToNat, Int.reduceAdd, Int.reduceSub, reduceCtorEq, Nat.reduceBEq, Nat.reduceBNe, g0]
      refine ⟨1, _, _, d1, n, rfl, hs, by omega, q1, fun σ2 bad2 d2 q2 f2 => ?_⟩
      rw [show n.head ++ ([n.aep].flatMap u32 ++ [bytesSh n.sh].flatMap txt) = n.bytes by rw [hb]; rfl] at q2
      obtain ⟨c1, c2, c3⟩ := pk_slice q2
      simp only [TP_app, Z12, base1, baseE, ↓reduceIte, Nat.reduceAdd, Nat.reduceSub, Nat.reduceMul, Nat.reduceEqDiff, Nat.reduceLeDiff, Nat.reduceLT, Int.reduceLT, Int.reduceLE, Int.reduceEq, Int.reduceNe, Int.reduceToNat, Int.reduceAdd, Int.reduceSub, reduceCtorEq, Nat.reduceBEq, Nat.reduceBNe, c1]
      exact hK _ _ c2
    · rw [hk] at g0
      have hb : n.bytes = n.head ++ rowsBy n := by simp [NoteV.bytes, NoteV.body, hk]
      simp only [TP_app, Z12, base1, baseE, ↓reduceIte, Nat.reduceAdd, Nat.reduceSub, Nat.reduceMul, Nat.reduceEqDiff, Nat.reduceLeDiff, Nat.reduceLT, Int.reduceLT, Int.reduceLE, Int.reduceEq, Int.reduceNe, Int.reduceToNat, Int.reduceAdd, Int.reduceSub, reduceCtorEq, Nat.reduceBEq, Nat.reduceBNe, g0]
      obtain ⟨p1, r1⟩ := pk_push q1 [.str n.sf, .str n.st]
      refine ⟨1, σ1.length, [n.sf, n.st], some 2, _, _, some d1, rfl, push_new rfl, by omega, by simp; omega, by omega, by simp, p1, fun σ2 D2 q2 f2 => ?_⟩
      obtain ⟨g2, _⟩ := f2 0 _ (push_old g0) (by decide) (by simp; exact fun e => g0' (by rw [e]))
      obtain ⟨d2, rfl, hd2⟩ := pk_some q2 (by simp [txt, u32])
      simp only [TP_app, Z12, base1, baseE, ↓reduceIte, Nat.reduceAdd, Nat.reduceSub, Nat.reduceMul, Nat.reduceEqDiff, Nat.reduceLeDiff, Nat.reduceLT, Int.reduceLT, Int.reduceLE, Int.reduceEq, Int.reduceNe, Int.reduceToNat, Int.reduceAdd, Int.reduceSub, reduceCtorEq, Nat.reduceBEq, Nat.reduceBNe, g2]
      refine ⟨1, _, _, d2, n, rfl, hs, ?_, q2, fun σ3 bad3 d3 q3 f3 => ?_⟩
      · simp only [total] at hS; simp only [List.length_append]; omega
      rw [show n.head ++ [n.sf, n.st].flatMap txt ++ [bytesRec n.l, bytesLa n.last].flatMap txt = n.bytes by rw [hb, List.append_assoc]; rfl] at q3
      obtain ⟨c1, c2, c3⟩ := pk_slice q3
      simp only [TP_app, Z12, base1, baseE, ↓reduceIte, Nat.reduceAdd, Nat.reduceSub, Nat.reduceMul, Nat.reduceEqDiff, Nat.reduceLeDiff, Nat.reduceLT, Int.reduceLT, Int.reduceLE, Int.reduceEq, Int.reduceNe, Int.reduceToNat, Int.reduceAdd, Int.reduceSub, reduceCtorEq, Nat.reduceBEq, Nat.reduceBNe, c1]
      exact hK _ _ c2
    · rw [hk] at g0
      have hb : n.bytes = n.head ++ rowsBy n := by simp [NoteV.bytes, NoteV.body, hk]
      simp only [TP_app, Z12, base1, baseE, ↓reduceIte, Nat.reduceAdd, Nat.reduceSub, Nat.reduceMul, Nat.reduceEqDiff, Nat.reduceLeDiff, Nat.reduceLT, Int.reduceLT, Int.reduceLE, Int.reduceEq, Int.reduceNe, Int.reduceToNat, Int.reduceAdd, Int.reduceSub, reduceCtorEq, Nat.reduceBEq, Nat.reduceBNe, g0]
      obtain ⟨p1, r1⟩ := pk_push q1 [.str n.sf, .str n.st]
      refine ⟨1, σ1.length, [n.sf, n.st], some 2, _, _, some d1, rfl, push_new rfl, by omega, by simp; omega, by omega, by simp, p1, fun σ2 D2 q2 f2 => ?_⟩
      obtain ⟨g2, _⟩ := f2 0 _ (push_old g0) (by decide) (by simp; exact fun e => g0' (by rw [e]))
      obtain ⟨d2, rfl, hd2⟩ := pk_some q2 (by simp [txt, u32])
      simp only [TP_app, Z12, base1, baseE, ↓reduceIte, Nat.reduceAdd, Nat.reduceSub, Nat.reduceMul, Nat.reduceEqDiff, Nat.reduceLeDiff, Nat.reduceLT, Int.reduceLT, Int.reduceLE, Int.reduceEq, Int.reduceNe, Int.reduceToNat, Int.reduceAdd, Int.reduceSub, reduceCtorEq, Nat.reduceBEq, Nat.reduceBNe, g2]
      refine ⟨1, _, _, d2, n, rfl, hs, ?_, q2, fun σ3 bad3 d3 q3 f3 => ?_⟩
      · simp only [total] at hS; simp only [List.length_append]; omega
      rw [show n.head ++ [n.sf, n.st].flatMap txt ++ [bytesRec n.l, bytesLa n.last].flatMap txt = n.bytes by rw [hb, List.append_assoc]; rfl] at q3
      obtain ⟨c1, c2, c3⟩ := pk_slice q3
      simp only [TP_app, Z12, base1, baseE, ↓reduceIte, Nat.reduceAdd, Nat.reduceSub, Nat.reduceMul, Nat.reduceEqDiff, Nat.reduceLeDiff, Nat.reduceLT, Int.reduceLT, Int.reduceLE, Int.reduceEq, Int.reduceNe, Int.reduceToNat, Int.reduceAdd, Int.reduceSub, reduceCtorEq, Nat.reduceBEq, Nat.reduceBNe, c1]
      exact hK _ _ c2
    · rw [hk] at g0
      have hb : n.bytes = n.head ++ rowsBy n := by simp [NoteV.bytes, NoteV.body, hk]
      simp only [TP_app, Z12, base1, baseE, ↓reduceIte, Nat.reduceAdd, Nat.reduceSub, Nat.reduceMul, Nat.reduceEqDiff, Nat.reduceLeDiff, Nat.reduceLT, Int.reduceLT, Int.reduceLE, Int.reduceEq, Int.reduceNe, Int.reduceToNat, Int.reduceAdd, Int.reduceSub, reduceCtorEq, Nat.reduceBEq, Nat.reduceBNe, g0]
      obtain ⟨p1, r1⟩ := pk_push q1 [.str n.sf, .str n.st]
      refine ⟨1, σ1.length, [n.sf, n.st], some 2, _, _, some d1, rfl, push_new rfl, by omega, by simp; omega, by omega, by simp, p1, fun σ2 D2 q2 f2 => ?_⟩
      obtain ⟨g2, _⟩ := f2 0 _ (push_old g0) (by decide) (by simp; exact fun e => g0' (by rw [e]))
      obtain ⟨d2, rfl, hd2⟩ := pk_some q2 (by simp [txt, u32])
      simp only [TP_app, Z12, base1, baseE, ↓reduceIte, Nat.reduceAdd, Nat.reduceSub, Nat.reduceMul, Nat.reduceEqDiff, Nat.reduceLeDiff, Nat.reduceLT, Int.reduceLT, Int.reduceLE, Int.reduceEq, Int.reduceNe, Int.reduceToNat, Int.reduceAdd, Int.reduceSub, reduceCtorEq, Nat.reduceBEq, Nat.reduceBNe, g2]
      refine ⟨1, _, _, d2, n, rfl, hs, ?_, q2, fun σ3 bad3 d3 q3 f3 => ?_⟩
      · simp only [total] at hS; simp only [List.length_append]; omega
      rw [show n.head ++ [n.sf, n.st].flatMap txt ++ [bytesRec n.l, bytesLa n.last].flatMap txt = n.bytes by rw [hb, List.append_assoc]; rfl] at q3
      obtain ⟨c1, c2, c3⟩ := pk_slice q3
      simp only [TP_app, Z12, base1, baseE, ↓reduceIte, Nat.reduceAdd, Nat.reduceSub, Nat.reduceMul, Nat.reduceEqDiff, Nat.reduceLeDiff, Nat.reduceLT, Int.reduceLT, Int.reduceLE, Int.reduceEq, Int.reduceNe, Int.reduceToNat, Int.reduceAdd, Int.reduceSub, reduceCtorEq, Nat.reduceBEq, Nat.reduceBNe, c1]
      exact hK _ _ c2
    · rw [hk] at g0
      have hb : n.bytes = n.head ++ rowsBy n := by simp [NoteV.bytes, NoteV.body, hk]
      simp only [TP_app, Z12, base1, baseE, ↓reduceIte, Nat.reduceAdd, Nat.reduceSub, Nat.reduceMul, Nat.reduceEqDiff, Nat.reduceLeDiff, Nat.reduceLT, Int.reduceLT, Int.reduceLE, Int.reduceEq, Int.reduceNe, Int.reduceToNat, Int.reduceAdd, Int.reduceSub, reduceCtorEq, Nat.reduceBEq, Nat.reduceBNe, g0]
      obtain ⟨p1, r1⟩ := pk_push q1 [.str n.sf, .str n.st]
      refine ⟨1, σ1.length, [n.sf, n.st], some 2, _, _, some d1, rfl, push_new rfl, by omega, by simp; omega, by omega, by simp, p1, fun σ2 D2 q2 f2 => ?_⟩
      obtain ⟨g2, _⟩ := f2 0 _ (push_old g0) (by decide) (by simp; exact fun e => g0' (by rw [e]))
      obtain ⟨d2, rfl, hd2⟩ := pk_some q2 (by simp [txt, u32])
      simp only [TP_app, Z12, base1, baseE, ↓reduceIte, Nat.reduceAdd, Nat.reduceSub, Nat.reduceMul, Nat.reduceEqDiff, Nat.reduceLeDiff, Nat.reduceLT, Int.reduceLT, Int.reduceLE, Int.reduceEq, Int.reduceNe, Int.reduceToNat, Int.reduceAdd, Int.reduceSub, reduceCtorEq, Nat.reduceBEq, Nat.reduceBNe, g2]
      refine ⟨1, _, _, d2, n, rfl, hs, ?_, q2, fun σ3 bad3 d3 q3 f3 => ?_⟩
      · simp only [total] at hS; simp only [List.length_append]; omega
      rw [show n.head ++ [n.sf, n.st].flatMap txt ++ [bytesRec n.l, bytesLa n.last].flatMap txt = n.bytes by rw [hb, List.append_assoc]; rfl] at q3
      obtain ⟨c1, c2, c3⟩ := pk_slice q3
      simp only [TP_app, Z12, base1, baseE, ↓reduceIte, Nat.reduceAdd, Nat.reduceSub, Nat.reduceMul, Nat.reduceEqDiff, Nat.reduceLeDiff, Nat.reduceLT, Int.reduceLT, Int.reduceLE, Int.reduceEq, Int.reduceNe, Int.reduceToNat, Int.reduceAdd, Int.reduceSub, reduceCtorEq, Nat.reduceBEq, Nat.reduceBNe, c1]
      exact hK _ _ c2
    · rw [hk] at g0
      have hb : n.bytes = n.head ++ rowsBy n := by simp [NoteV.bytes, NoteV.body, hk]
      simp only [TP_app, Z12, base1, baseE, ↓reduceIte, Nat.reduceAdd, Nat.reduceSub, Nat.reduceMul, Nat.reduceEqDiff, Nat.reduceLeDiff, Nat.reduceLT, Int.reduceLT, Int.reduceLE, Int.reduceEq, Int.reduceNe, Int.reduceToNat, Int.reduceAdd, Int.reduceSub, reduceCtorEq, Nat.reduceBEq, Nat.reduceBNe, g0]
      obtain ⟨p1, r1⟩ := pk_push q1 [.str n.sf, .str n.st]
      refine ⟨1, σ1.length, [n.sf, n.st], some 2, _, _, some d1, rfl, push_new rfl, by omega, by simp; omega, by omega, by simp, p1, fun σ2 D2 q2 f2 => ?_⟩
      obtain ⟨g2, _⟩ := f2 0 _ (push_old g0) (by decide) (by simp; exact fun e => g0' (by rw [e]))
      obtain ⟨d2, rfl, hd2⟩ := pk_some q2 (by simp [txt, u32])
      simp only [TP_app, Z12, base1, baseE, ↓reduceIte, Nat.reduceAdd, Nat.reduceSub, Nat.reduceMul, Nat.reduceEqDiff, Nat.reduceLeDiff, Nat.reduceLT, Int.reduceLT, Int.reduceLE, Int.reduceEq, Int.reduceNe, Int.reduceToNat, Int.reduceAdd, Int.reduceSub, reduceCtorEq, Nat.reduceBEq, Nat.reduceBNe, g2]
      refine ⟨1, _, _, d2, n, rfl, hs, ?_, q2, fun σ3 bad3 d3 q3 f3 => ?_⟩
      · simp only [total] at hS; simp only [List.length_append]; omega
      rw [show n.head ++ [n.sf, n.st].flatMap txt ++ [bytesRec n.l, bytesLa n.last].flatMap txt = n.bytes by rw [hb, List.append_assoc]; rfl] at q3
      obtain ⟨c1, c2, c3⟩ := pk_slice q3
      simp only [TP_app, Z12, base1, baseE, ↓reduceIte, Nat.reduceAdd, Nat.reduceSub, Nat.reduceMul, Nat.reduceEqDiff, Nat.reduceLeDiff, Nat.reduceLT, Int.reduceLT, Int.reduceLE, Int.reduceEq, Int.reduceNe, Int.reduceToNat, Int.reduceAdd, Int.reduceSub, reduceCtorEq, Nat.reduceBEq, Nat.reduceBNe, c1]
      exact hK _ _ c2
    · rw [hk] at g0
      have hb : n.bytes = n.head ++ rowsBy n := by simp [NoteV.bytes, NoteV.body, hk]
      simp only [TP_app, Z12, base1, baseE, ↓reduceIte, Nat.reduceAdd, Nat.reduceSub, Nat.reduceMul, Nat.reduceEqDiff, Nat.reduceLeDiff, Nat.reduceLT, Int.reduceLT, Int.reduceLE, Int.reduceEq, Int.reduceNe, Int.reduceToNat, Int.reduceAdd, Int.reduceSub, reduceCtorEq, Nat.reduceBEq, Nat.reduceBNe, g0]
      obtain ⟨p1, r1⟩ := pk_push q1 [.str n.sf, .str n.st]
      refine ⟨1, σ1.length, [n.sf, n.st], some 2, _, _, some d1, rfl, push_new rfl, by omega, by simp; omega, by omega, by simp, p1, fun σ2 D2 q2 f2 => ?_⟩
      obtain ⟨g2, _⟩ := f2 0 _ (push_old g0) (by decide) (by simp; exact fun e => g0' (by rw [e]))
      obtain ⟨d2, rfl, hd2⟩ := pk_some q2 (by simp [txt, u32])
      simp only [TP_app, Z12, base1, baseE, ↓reduceIte, Nat.reduceAdd, Nat.reduceSub, Nat.reduceMul, Nat.reduceEqDiff, Nat.reduceLeDiff, Nat.reduceLT, Int.reduceLT, Int.reduceLE, Int.reduceEq, Int.reduceNe, Int.reduceToNat, Int.reduceAdd, Int.reduceSub, reduceCtorEq, Nat.reduceBEq, Nat.reduceBNe, g2]
      refine ⟨1, _, _, d2, n, rfl, hs, ?_, q2, fun σ3 bad3 d3 q3 f3 => ?_⟩
      · simp only [total] at hS; simp only [List.length_append]; omega
      rw [show n.head ++ [n.sf, n.st].flatMap txt ++ [bytesRec n.l, bytesLa n.last].flatMap txt = n.bytes by rw [hb, List.append_assoc]; rfl] at q3
      obtain ⟨c1, c2, c3⟩ := pk_slice q3
      simp only [TP_app, Z12, base1, baseE, ↓reduceIte, Nat.reduceAdd, Nat.reduceSub, Nat.reduceMul, Nat.reduceEqDiff, Nat.reduceLeDiff, Nat.reduceLT, Int.reduceLT, Int.reduceLE, Int.reduceEq, Int.reduceNe, Int.reduceToNat, Int.reduceAdd, Int.reduceSub, reduceCtorEq, Nat.reduceBEq, Nat.reduceBNe, c1]
      exact hK _ _ c2
theorem pack_ok (n : NoteV) (hs : n.sz) : Tri Try.prog 12 [.agg n.cells] [] fun r _ => r.pure = true ∧ r = packN n := by
  refine Tri.frozen (Q := fun r σ => Frz σ r (packN n)) (pack_any n hs _ (fun hm σ => ?_) (fun hm σ d hd => ?_)) (fun r σ hr => ⟨_, hr, packN_pure n, rfl⟩)
  · simp only [packN, hm]; exact .pure rfl
  · simp only [packN, hm, if_true]
    refine .tuple rfl (fun i x y hx hy => ?_)
    match i with
    | 0 => simp at hx hy; subst hx; subst hy; exact bytes_frz hd rfl
    | 1 => simp at hx hy; subst hx; subst hy; exact .pure rfl
    | n + 2 => simp at hx
def packD (args : List AV) (σ : AHeap) (K : AV → AHeap → Prop) : Prop := ∃ n : NoteV, args = [.agg n.cells] ∧ n.sz ∧ K (packN n) σ
theorem packD_ok (args : List AV) (σ : AHeap) (K : AV → AHeap → Prop) (h : packD args σ K) : Tri Try.prog 12 args σ K := by
  obtain ⟨n, rfl, hs, h⟩ := h
  exact (Tri.pureD (by simp only [pureL, note_pure, Bool.and_self]) (pack_ok n hs) σ).mono fun r σ' hr => by rw [hr.1, hr.2]; exact h
end Go.Proofs.Ytndlgmciplckjaa.note
