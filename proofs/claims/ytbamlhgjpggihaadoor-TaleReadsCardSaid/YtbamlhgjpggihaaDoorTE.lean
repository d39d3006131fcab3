/- awake: yes. Rows of Read and Text. -/
import Derived.Test.YtbamlhgjpggihaaDoorTD
import Derived.Test.YtbamlhgjpggihaaDoorTC
import Derived.Test.YtbamlhgjpggihaaDoorK22
import Derived.Test.YtbamlhgjpggihaaDoorRows
import Derived.Test.YtbamlhgjpggihaaDoorShelf
import Derived.ProofKit
import Derived.LaidMore
import Derived.OpenShut
import Derived.Stop.Joined
import Derived.Stop.LaidErr
import Derived.HandedShaped
set_option linter.unusedVariables false
set_option linter.unusedSimpArgs false
namespace Go.Proofs.YtbamlhgjpggihaaDoor.tale
open Go.RowKit Go.Gz Go.Gz.H
abbrev r6_0 : List MOper := [⟨(some 0), .move (.c (.bool false)), none⟩]
def b6_0 : SCode := .region r6_0
abbrev r6_1 : List MOper := [⟨(some 4), .build [.int .i64 0, .int .i64 0, .int .i64 0, .str [], .str [], .str []] [(0, 1, (.c (.int .i64 4))), (1, 1, (.c (.int .i64 2)))], none⟩,
  ⟨(some 5), .buildSlice [.int .i64 0, .int .i64 0, .int .i64 0, .str [], .str [], .str []] 6 1 [(0, 6, (.t 4))], none⟩,
  ⟨(some 1), .move (.t 5), none⟩]
def b6_1 : SCode := .region r6_1
abbrev r6_2 : List MOper := [⟨(some 7), .call 11 [(.c (.str [116, 105, 99, 107, 32, 50, 32, 48, 32, 46, 32, 46, 32, 46, 10]))], none⟩,
  ⟨(some 6), .move (.t 7), none⟩,
  ⟨(some 8), .extract (.t 6) 0, none⟩,
  ⟨(some 9), .extract (.t 6) 1, none⟩,
  ⟨(some 2), .move (.t 8), none⟩,
  ⟨(some 3), .move (.t 9), none⟩]
def b6_2 : SCode := .region r6_2
abbrev t6_3 : LTree := (.quiet ⟨(some 10), .move (.t 1), none⟩ 0
  (.loud ⟨(some 11), .call 9 [(.t 10)], none⟩ []
  (.quiet ⟨(some 12), .bin .eql .num (.t 11) (.c (.str [116, 105, 99, 107, 32, 50, 32, 48, 32, 46, 32, 46, 32, 46, 10])), none⟩ 2
  (.quiet ⟨(some 13), .move (.t 12), none⟩ 3
  (.quiet ⟨(some 14), .move (.t 3), (some (13, true))⟩ 4
  (.quiet ⟨(some 15), .bin .eql .num (.t 14) (.c (.int .i64 0)), (some (13, true))⟩ 5
  (.quiet ⟨(some 16), .pick (.t 13) (.t 15) (.c (.bool false)), none⟩ 6
  (.quiet ⟨(some 17), .move (.t 16), none⟩ 7
  (.quiet ⟨(some 18), .move (.t 2), (some (17, true))⟩ 8
  (.quiet ⟨(some 19), .lenSl (.t 18), (some (17, true))⟩ 9
  (.quiet ⟨(some 20), .bin .eql .num (.t 19) (.c (.int .i64 1)), (some (17, true))⟩ 10
  (.quiet ⟨(some 21), .pick (.t 17) (.t 20) (.c (.bool false)), none⟩ 11
  (.quiet ⟨(some 22), .move (.t 21), none⟩ 12
  (.quiet ⟨(some 23), .move (.t 2), (some (22, true))⟩ 13
  (.quiet ⟨(some 24), .indexAddr 6 (.t 23) (.c (.int .i64 0)), (some (22, true))⟩ 14
  (.quiet ⟨(some 25), .loadN 6 (.t 24), (some (22, true))⟩ 15
  (.quiet ⟨(some 26), .move (.t 1), (some (22, true))⟩ 16
  (.quiet ⟨(some 27), .indexAddr 6 (.t 26) (.c (.int .i64 0)), (some (22, true))⟩ 17
  (.quiet ⟨(some 28), .loadN 6 (.t 27), (some (22, true))⟩ 18
  (.quiet ⟨(some 29), .bin .eql (.flat [.i, .i, .i, .s, .s, .s]) (.t 25) (.t 28), (some (22, true))⟩ 19
  (.quiet ⟨(some 30), .pick (.t 22) (.t 29) (.c (.bool false)), none⟩ 20
  (.quiet ⟨(some 0), .move (.t 30), none⟩ 21
  .leaf)))))))))))))))))))) .stop))
def b6_3 : SCode := .draw t6_3
def b6_4 : SCode := .seq b6_3 .ret
def b6_5 : SCode := .seq b6_2 b6_4
def b6_6 : SCode := .seq b6_1 b6_5
def b6_7 : SCode := .seq b6_0 b6_6
def s6 : SFunc := ⟨31, [.t 0], b6_7⟩
theorem c6 : sFn Tryd.prog 6 = some s6 := by kernel_rfl
theorem Z6 : XR b6_0 r6_0 ∧ XR b6_1 r6_1 ∧ XR b6_2 r6_2 ∧ XT b6_3 t6_3 ∧ XS b6_4 b6_3 .ret ∧ XS b6_5 b6_2 b6_4 ∧ XS b6_6 b6_1 b6_5 ∧ XS b6_7 b6_0 b6_6 ∧ XY s6 31 b6_7 [.t 0] := ⟨rfl, rfl, rfl, rfl, rfl, rfl, rfl, rfl, rfl⟩

set_option maxHeartbeats 4000000
set_option maxRecDepth 10000
theorem rowsE_flat (l : List Ev) : flatLL (rowsE l) := by
  intro r hr x hx
  obtain ⟨e, _, rfl⟩ := List.mem_map.1 hr
  simp only [Ev.cells, List.mem_cons, List.not_mem_nil, or_false] at hx
  rcases hx with rfl | rfl | rfl | rfl | rfl | rfl <;> rfl
theorem rowsE_six (l : List Ev) : ∀ r ∈ rowsE l, r.length = 6 := by
  intro r hr
  obtain ⟨e, _, rfl⟩ := List.mem_map.1 hr
  rfl
def textD (args : List AV) (σ : AHeap) (K : AV → AHeap → Prop) : Prop := ∃ (l : List Ev) (v : AV), args = [v] ∧ wv σ [] v (.imm (rowsE l) false false) ∧ l.length ≤ 20000 ∧ (∀ e ∈ l, EvOk e) ∧ K (.str (textS l)) σ
theorem textD_ok (args : List AV) (σ : AHeap) (K : AV → AHeap → Prop) (h : textD args σ K) : Tri Tryd.prog 9 args σ K := by
  obtain ⟨l, v, rfl, hv, h1, h2, h⟩ := h
  refine (Tri.view (args1 := [.imm (rowsE l) false false]) ?_ ((text_ok l h1 h2).mono fun r σ' hr => (⟨by rw [hr.2]; rfl, hr.2⟩ : r.flatD = true ∧ r = .str (textS l)))).mono fun r σ' hr => by rw [hr.1, hr.2]; exact h
  simp only [wvs, and_true]; exact hv
theorem wv_imm {σ : AHeap} (l : List Ev) : wv σ [] (.imm (rowsE l) false false) (.imm (rowsE l) false false) := by
  unfold wv; exact ⟨rfl, rfl, rfl, rowsE_flat l⟩
def ev1 : Ev := ⟨4, 2, 0, [], [], []⟩
theorem text1 : textS [ev1] = [116, 105, 99, 107, 32, 50, 32, 48, 32, 46, 32, 46, 32, 46, 10] := by
  have h1 : wordS 4 = [116, 105, 99, 107] := rfl
  have h2 : Lib.itoa 2 = [50] := by
    have := Lib.itoa_nonneg 2
    rw [Lib.decDigits_one (by decide)] at this
    exact this
  have h3 : Lib.itoa 0 = [48] := by
    have := Lib.itoa_nonneg 0
    rw [Lib.decDigits_one (by decide)] at this
    exact this
  have hl : hasL ev1 := by unfold hasL ev1; simp [h1]
  show lineS ev1 ++ [] = _
  rw [line_yes hl]
  unfold bodyS partsS ev1
  simp only [h1, h2, h3, join6, bytesS, hexOf]
  rfl
theorem ev1_ok : EvOk ev1 := ⟨by decide, by decide, by decide, by decide, by decide⟩
theorem read1 : readR [116, 105, 99, 107, 32, 50, 32, 48, 32, 46, 32, 46, 32, 46, 10] = .tuple [.imm (rowsE [ev1]) false false, .int .i64 0] := by
  have hl : hasL ev1 := by
    unfold hasL ev1
    have h1 : wordS 4 = [116, 105, 99, 107] := rfl
    simp [h1]
  have h := read_text [ev1] (textS [ev1]).length (by intro e he; simp at he; subst he; exact ⟨by decide, by decide⟩) (Nat.le_refl _)
  simp only [text1] at h
  unfold readR
  rw [h]
  simp [hl]
def U6 : PCall := rowQ 9 textD (rowQ 11 readD noCall)
theorem U6_app {f : FuncId} {args : List AV} {σ : AHeap} {K : AV → AHeap → Prop} : U6 f args σ K = rowQ 9 textD (rowQ 11 readD noCall) f args σ K := _root_.id rfl
theorem U6_sound : Sound Tryd.prog U6 := rowQ_sound textD_ok (rowQ_sound readD_ok (noCall_sound _))
theorem awake_ok : Tri Tryd.prog 6 [] [] fun r _ => r.pure = true ∧ r = .bool true := by
  refine Tri.of_s c6 U6_sound ?_
  simp only [U6_app, Z6, base1, baseX, baseY, ↓reduceIte, Nat.reduceAdd, Nat.reduceSub, Nat.reduceMul, Nat.reduceEqDiff, Nat.reduceLeDiff, Nat.reduceLT, Int.reduceLT, Int.reduceLE, Int.reduceEq, Int.reduceNe, Int.reduceToNat, Int.reduceAdd, Int.reduceSub, reduceCtorEq, Nat.reduceBEq, Nat.reduceBNe]
  refine ⟨_, rfl, by decide, ?_⟩
  rw [read1]
  simp only [U6_app, Z6, base1, baseX, baseY, ↓reduceIte, Nat.reduceAdd, Nat.reduceSub, Nat.reduceMul, Nat.reduceEqDiff, Nat.reduceLeDiff, Nat.reduceLT, Int.reduceLT, Int.reduceLE, Int.reduceEq, Int.reduceNe, Int.reduceToNat, Int.reduceAdd, Int.reduceSub, reduceCtorEq, Nat.reduceBEq, Nat.reduceBNe]
  refine ⟨[ev1], _, rfl, ?_, by simp, by intro e he; simp at he; subst he; exact ev1_ok, ?_⟩
  · unfold wv
    exact ⟨by simp, ⟨_, rfl, rfl⟩, rfl, rowsE_six [ev1], by simp, by simp, rowsE_flat [ev1]⟩
  rw [text1]
  simp only [U6_app, Z6, base1, baseX, baseY, ↓reduceIte, Nat.reduceAdd, Nat.reduceSub, Nat.reduceMul, Nat.reduceEqDiff, Nat.reduceLeDiff, Nat.reduceLT, Int.reduceLT, Int.reduceLE, Int.reduceEq, Int.reduceNe, Int.reduceToNat, Int.reduceAdd, Int.reduceSub, reduceCtorEq, Nat.reduceBEq, Nat.reduceBNe, lenOf_imm, rowsE, ev1, Ev.cells, List.map_cons, List.map_nil, List.length_cons, List.length_nil, decide_true, Bool.and_self]
  first | exact rfl | exact ⟨rfl, rfl⟩
def awakeD (args : List AV) (σ : AHeap) (K : AV → AHeap → Prop) : Prop := args = [] ∧ K (.bool true) σ
theorem awakeD_ok (args : List AV) (σ : AHeap) (K : AV → AHeap → Prop) (h : awakeD args σ K) : Tri Tryd.prog 6 args σ K := by
  obtain ⟨rfl, h⟩ := h
  exact (Tri.pureD rfl awake_ok σ).mono fun r σ' hr => by rw [hr.1, hr.2]; exact h
end Go.Proofs.YtbamlhgjpggihaaDoor.tale

/- The law of TaleReads, walked: yes, whatever the text. -/
set_option linter.unusedVariables false
set_option linter.unusedSimpArgs false
namespace Go.Proofs.YtbamlhgjpggihaaDoor.tale
open Go.RowKit Go.Gz Go.Gz.H
abbrev r4_0 : List MOper := [⟨(some 2), .move (.c (.bool false)), none⟩]
def b4_0 : SCode := .region r4_0
abbrev r4_1 : List MOper := [⟨(some 5), .call 6 [], none⟩,
  ⟨(some 6), .un .not (.t 5), none⟩]
def b4_1 : SCode := .region r4_1
abbrev r4_2 : List MOper := [⟨(some 2), .move (.c (.bool false)), none⟩]
def b4_2 : SCode := .region r4_2
def b4_3 : SCode := .seq b4_2 .ret
def b4_4 : SCode := .cond (.t 6) b4_3 .skip
def b4_5 : SCode := .seq b4_1 b4_4
abbrev r4_6 : List MOper := [⟨(some 7), .move (.t 0), none⟩,
  ⟨(some 8), .lenStr (.t 7), none⟩,
  ⟨(some 9), .bin .gtr .num (.t 8) (.c (.int .i64 10000)), none⟩]
def b4_6 : SCode := .region r4_6
abbrev r4_7 : List MOper := [⟨(some 2), .move (.c (.bool true)), none⟩]
def b4_7 : SCode := .region r4_7
def b4_8 : SCode := .seq b4_7 .ret
def b4_9 : SCode := .cond (.t 9) b4_8 .skip
def b4_10 : SCode := .seq b4_6 b4_9
abbrev r4_11 : List MOper := [⟨(some 11), .move (.t 0), none⟩,
  ⟨(some 12), .call 11 [(.t 11)], none⟩,
  ⟨(some 10), .move (.t 12), none⟩,
  ⟨(some 13), .extract (.t 10) 0, none⟩,
  ⟨(some 14), .extract (.t 10) 1, none⟩,
  ⟨(some 3), .move (.t 13), none⟩,
  ⟨(some 4), .move (.t 14), none⟩]
def b4_11 : SCode := .region r4_11
abbrev r4_12 : List MOper := [⟨(some 15), .move (.t 4), none⟩,
  ⟨(some 16), .bin .neq .num (.t 15) (.c (.int .i64 0)), none⟩]
def b4_12 : SCode := .region r4_12
abbrev r4_13 : List MOper := [⟨(some 17), .move (.t 4), none⟩,
  ⟨(some 18), .bin .eql .num (.t 17) (.c (.int .i64 5)), none⟩,
  ⟨(some 19), .move (.t 18), none⟩,
  ⟨(some 20), .move (.t 3), (some (19, true))⟩,
  ⟨(some 21), .lenSl (.t 20), (some (19, true))⟩,
  ⟨(some 22), .bin .eql .num (.t 21) (.c (.int .i64 0)), (some (19, true))⟩,
  ⟨(some 23), .pick (.t 19) (.t 22) (.c (.bool false)), none⟩,
  ⟨(some 2), .move (.t 23), none⟩]
def b4_13 : SCode := .region r4_13
def b4_14 : SCode := .seq b4_13 .ret
def b4_15 : SCode := .cond (.t 16) b4_14 .skip
def b4_16 : SCode := .seq b4_12 b4_15
abbrev r4_17 : List MOper := [⟨(some 24), .move (.t 3), none⟩,
  ⟨(some 25), .call 9 [(.t 24)], none⟩,
  ⟨(some 26), .move (.t 0), none⟩,
  ⟨(some 27), .bin .eql .num (.t 25) (.t 26), none⟩,
  ⟨(some 2), .move (.t 27), none⟩]
def b4_17 : SCode := .region r4_17
def b4_18 : SCode := .seq b4_17 .ret
def b4_19 : SCode := .seq b4_16 b4_18
def b4_20 : SCode := .seq b4_11 b4_19
def b4_21 : SCode := .seq b4_10 b4_20
def b4_22 : SCode := .seq b4_5 b4_21
def b4_23 : SCode := .seq b4_0 b4_22
def s4 : SFunc := ⟨28, [.t 2], b4_23⟩
theorem c4 : sFn Tryd.prog 4 = some s4 := by kernel_rfl
theorem Z4 : XR b4_0 r4_0 ∧ XR b4_1 r4_1 ∧ XR b4_2 r4_2 ∧ XS b4_3 b4_2 .ret ∧ XC b4_4 (.t 6) b4_3 .skip ∧ XS b4_5 b4_1 b4_4 ∧ XR b4_6 r4_6 ∧ XR b4_7 r4_7 ∧ XS b4_8 b4_7 .ret ∧ XC b4_9 (.t 9) b4_8 .skip ∧ XS b4_10 b4_6 b4_9 ∧ XR b4_11 r4_11 ∧ XR b4_12 r4_12 ∧ XR b4_13 r4_13 ∧ XS b4_14 b4_13 .ret ∧ XC b4_15 (.t 16) b4_14 .skip ∧ XS b4_16 b4_12 b4_15 ∧ XR b4_17 r4_17 ∧ XS b4_18 b4_17 .ret ∧ XS b4_19 b4_16 b4_18 ∧ XS b4_20 b4_11 b4_19 ∧ XS b4_21 b4_10 b4_20 ∧ XS b4_22 b4_5 b4_21 ∧ XS b4_23 b4_0 b4_22 ∧ XY s4 28 b4_23 [.t 2] := ⟨rfl, rfl, rfl, rfl, sC_cond, rfl, rfl, rfl, rfl, sC_cond, rfl, rfl, rfl, rfl, rfl, sC_cond, rfl, rfl, rfl, rfl, rfl, rfl, rfl, rfl, rfl⟩

set_option maxHeartbeats 4000000
set_option maxRecDepth 10000
def U4 : PCall := rowQ 6 awakeD (rowQ 9 textD (rowQ 11 readD noCall))
theorem U4_app {f : FuncId} {args : List AV} {σ : AHeap} {K : AV → AHeap → Prop} : U4 f args σ K = rowQ 6 awakeD (rowQ 9 textD (rowQ 11 readD noCall)) f args σ K := _root_.id rfl
theorem U4_sound : Sound Tryd.prog U4 := rowQ_sound awakeD_ok (rowQ_sound textD_ok (rowQ_sound readD_ok (noCall_sound _)))
theorem reads_ok (s : List UInt8) : Tri Tryd.prog 4 [.str s] [] Yes := by
  refine Tri.of_s c4 U4_sound ?_
  simp only [U4_app, Z4, base1, baseX, baseY, ↓reduceIte, Nat.reduceAdd, Nat.reduceSub, Nat.reduceMul, Nat.reduceEqDiff, Nat.reduceLeDiff, Nat.reduceLT, Int.reduceLT, Int.reduceLE, Int.reduceEq, Int.reduceNe, Int.reduceToNat, Int.reduceAdd, Int.reduceSub, reduceCtorEq, Nat.reduceBEq, Nat.reduceBNe]
  refine ⟨rfl, ?_⟩
  by_cases h : (10000 : Int) < (s.length : Int)
  · simp only [U4_app, Z4, base1, baseX, baseY, ↓reduceIte, Nat.reduceAdd, Nat.reduceSub, Nat.reduceMul, Nat.reduceEqDiff, Nat.reduceLeDiff, Nat.reduceLT, Int.reduceLT, Int.reduceLE, Int.reduceEq, Int.reduceNe, Int.reduceToNat, Int.reduceAdd, Int.reduceSub, reduceCtorEq, Nat.reduceBEq, Nat.reduceBNe, Bool.not_true, h]
    exact rfl
  · simp only [U4_app, Z4, base1, baseX, baseY, ↓reduceIte, Nat.reduceAdd, Nat.reduceSub, Nat.reduceMul, Nat.reduceEqDiff, Nat.reduceLeDiff, Nat.reduceLT, Int.reduceLT, Int.reduceLE, Int.reduceEq, Int.reduceNe, Int.reduceToNat, Int.reduceAdd, Int.reduceSub, reduceCtorEq, Nat.reduceBEq, Nat.reduceBNe, Bool.not_true, h]
    refine ⟨s, rfl, by omega, ?_⟩
    unfold readR
    cases hr : readN s.length s with
    | none =>
      simp only [U4_app, Z4, base1, baseX, baseY, ↓reduceIte, Nat.reduceAdd, Nat.reduceSub, Nat.reduceMul, Nat.reduceEqDiff, Nat.reduceLeDiff, Nat.reduceLT, Int.reduceLT, Int.reduceLE, Int.reduceEq, Int.reduceNe, Int.reduceToNat, Int.reduceAdd, Int.reduceSub, reduceCtorEq, Nat.reduceBEq, Nat.reduceBNe, lenOf_nilS]
      exact rfl
    | some l =>
      obtain ⟨h1, h2, h3⟩ := read_okE hr (by omega)
      simp only [U4_app, Z4, base1, baseX, baseY, ↓reduceIte, Nat.reduceAdd, Nat.reduceSub, Nat.reduceMul, Nat.reduceEqDiff, Nat.reduceLeDiff, Nat.reduceLT, Int.reduceLT, Int.reduceLE, Int.reduceEq, Int.reduceNe, Int.reduceToNat, Int.reduceAdd, Int.reduceSub, reduceCtorEq, Nat.reduceBEq, Nat.reduceBNe, ne_eq, not_true, decide_false]
      refine ⟨l, _, rfl, wv_imm l, h2, h3, ?_⟩
      rw [h1]
      simp only [U4_app, Z4, base1, baseX, baseY, ↓reduceIte, Nat.reduceAdd, Nat.reduceSub, Nat.reduceMul, Nat.reduceEqDiff, Nat.reduceLeDiff, Nat.reduceLT, Int.reduceLT, Int.reduceLE, Int.reduceEq, Int.reduceNe, Int.reduceToNat, Int.reduceAdd, Int.reduceSub, reduceCtorEq, Nat.reduceBEq, Nat.reduceBNe, decide_true]
      exact rfl
end Go.Proofs.YtbamlhgjpggihaaDoor.tale

/- From the rows' condition to what the package variables hold; a state that meets it; the wrap that hands on shape and condition. No condition. -/
set_option linter.unusedVariables false
set_option linter.unusedSimpArgs false
namespace Go.Proofs.YtbamlhgjpggihaaDoor.tale
open Go.ChangeShapes Go.WideShapes Go.ChangeAt Go.RowKit Go.Gz

theorem own : ownKnob Tryd.prog.godebug = none := by kernel_rfl
theorem laidOut : laidOutB Tryd.prog = true := by kernel_rfl
theorem gPow : Tryd.prog.globalNamed "internal/strconv.uint64pow10" = some 1 := by kernel_rfl
theorem tPow : (Tryd.prog.globals[1]?).map (·.type) = some 88 := by kernel_rfl
theorem gErr : Tryd.prog.globalNamed "strconv.ErrSyntax" = some 2 := by kernel_rfl
theorem tErr : (Tryd.prog.globals[2]?).map (·.type) = some 48 := by kernel_rfl
theorem star : "*" ++ "errors.errorString" = "*errors.errorString" := by decide
theorem row116 (u : TypeId) (h : Tryd.prog.typeName? 3 u = some "*errors.errorString") : u = 116 :=
  typeName_ptr_named (nm := "errors.errorString") (by rw [star]; kernel_rfl) (by kernel_rfl) (by decide) u (by rw [star]; exact h)

abbrev laidL : List (String × DataW Unit) := Rows.taleReadsRow.laid

theorem laid_plain {W : World} (h : laidMetH Tryd.prog laidL W) : laidMet Tryd.prog laidL W := by
  rw [MakeChecks.laidMetH_plain _ _ _ (by kernel_rfl)] at h
  exact h

/-- What the row's condition says of the variables that the library reads. -/
theorem laid_of {W : World} (h : laidMetH Tryd.prog laidL W) (hsh : W.ShapedOpen Tryd.prog) : Laid W := by
  have h0 := laid_plain h
  refine ⟨Tryd.laysM145.s1_3 W hsh, ?_, ?_⟩
  · have h3 : laidMet Tryd.prog (("internal/strconv.uint64pow10", Lib.tabData .u64 ((List.range 20).map fun i => ((10 ^ i : Nat) : Int))) :: laidL.drop 3) W := h0.tail.tail
    exact Lib.tabIs_of_head gPow tPow Tryd.underlying88 Tryd.underlying79 (by kernel_rfl) (by kernel_rfl) h3
  · have h6 : laidMet Tryd.prog (("strconv.ErrSyntax", .iface "*errors.errorString" (.ptr (.agg [.lit (.string [105, 110, 118, 97, 108, 105, 100, 32, 115, 121, 110, 116, 97, 120])]))) :: laidL.drop 6) W := h0.tail.tail.tail.tail.tail
    obtain ⟨a, s, hv, _⟩ := laid_sentinel h6 gErr tErr Tryd.underlying48 row116 Tryd.underlying116 Tryd.underlying118 rfl rfl Tryd.underlying9 (by kernel_rfl) (by kernel_rfl)
    exact ⟨_, _, hv⟩

/-- A state that meets the condition: the door's own, and Go's own table where the row says. -/
noncomputable def wit (os : Os) : World :=
  let w0 := World.doorLaid Tryd.prog 72 os
  { w0 with heap := w0.heap.modify 6 fun
      | .cells _ t fr => .cells ((Go.Pinned.utf8FirstZ.map fun (n : Nat) => Value.int .u8 ((n : Nat) : Int)).toArray) t fr
      | o => o }

theorem wit_met (os : Os) (args : Array Value) : laidMetH Tryd.prog laidL ((wit os).forCall (fun _ _ => 0) ⟨#[], args, []⟩).memory :=
  laidMetH_of_parts3 (fuel := 8) (laidMet_of_run' 8 (by kernel_rfl) (by kernel_rfl)) (by kernel_rfl) (by kernel_rfl)

theorem wit_shaped (os : Os) (args : Array Value) : ((wit os).forCall (fun _ _ => 0) ⟨#[], args, []⟩).Shaped Tryd.prog :=
  World.shaped_of_RefB (by kernel_rfl) (by kernel_rfl)

section
variable {H : Type} {enc : TypeId × Value → H}
/-- The wrap that hands on the world's shape, and a condition on the world. -/
theorem returns_shaped_and {a : Assume} {C : Checked} {os : Os} {f : FuncId} {fn : Func} {s : ChangeSpec} {conds : List PathCond} {apart fresh handsOn again : Bool} {X : World → Array Value → Prop}
    (hX : ∀ (w w' : World) (args : Array Value), w.heap = w'.heap → X w args → X w' args)
    (own : ownKnob C.prog.godebug = none) (started : os.Started) (noInit : C.prog.inits.idxOf? f = none) (hfn : C.prog.funcs[f]? = some fn)
    (witness : ∃ (w : World) (tape : Tape) (i : Input), w.os = os ∧ (w.forCall tape i).Shaped C.prog ∧ i.vars = [] ∧ Input.okWide C.prog (w.forCall tape i) .any w.heap.size f i ∧
      ((s.pre enc C.prog fn conds apart (w.forCall tape i).memory i.args ∧ X (w.forCall tape i).memory i.args) ∧ sizedMet enc C.prog fn (OpenSpec.ofChange s) apart (w.forCall tape i).memory i.args) ∧ a.holds C.prog (lone (Frame.enter C.prog f i.args .normal) [] (w.forCall tape i)))
    (contract : ∀ (W : World) (base : Nat) (args : Array Value) (ds gs : List (DataW H)) (before : List MemPlace),
      (∀ (j : Nat) t v, fn.params[j]? = some t → args[j]? = some v → Value.okWide C.prog W .any base t v) →
      DataW.Whole enc C.prog fn.params.toList s.vars apart W args.toList ds gs before →
      (DataW.weightsEach C.prog (fn.params.toList ++ s.plain.varTypes C.prog) (ds ++ gs)).all (· ≤ reachBytes) = true → X W args → W.ShapedOpen C.prog →
      Calls C.prog f args W fun e W' => ∃ v, e = .returned v ∧ s.post enc C.prog fn apart fresh handsOn again W args v W') :
    ReturnsInHanded a C os f .any (fun w args => (s.pre enc C.prog fn conds apart w args ∧ X w args) ∧ sizedMet enc C.prog fn (OpenSpec.ofChange s) apart w args) (s.post enc C.prog fn apart fresh handsOn again) := by
  refine returnsInHanded_of_calls own started noInit witness ?_
  intro w tape i _ hsh _ hok hpre _
  obtain ⟨_, _, _, fn', hfn', _, _, _, _, hval⟩ := hok
  obtain rfl : fn' = fn := Option.some.inj (hfn'.symm.trans hfn)
  obtain ⟨⟨⟨ds, gs, before, hw, _⟩, hx⟩, hz⟩ := hpre
  have hw' := DataW.Whole.of_heap (w' := w.forCall tape i) (by rfl) hw
  refine (contract (w.forCall tape i) w.heap.size i.args ds gs before hval hw' (hz.weights hw) (hX _ _ _ (by rfl) hx) hsh).mono fun e W' ⟨v, he, hp⟩ => ?_
  subst he
  exact ChangeSpec.post_blind hp
end
end Go.Proofs.YtbamlhgjpggihaaDoor.tale
