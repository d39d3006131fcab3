/- The network's first call answers yes. No condition. -/
import Derived.Test.YtndlgmciplckjaaMSend
set_option linter.unusedVariables false
set_option linter.unusedSimpArgs false
namespace Go.Proofs.Ytndlgmciplckjaa.note
open Go.ChangeShapes Go.WideShapes Go.ChangeAt Go.RowKit Go.Gz
abbrev r18_0 : List MOper := [⟨(some 0), .move (.c (.bool false)), none⟩]
def b18_0 : SCode := .region r18_0
abbrev r18_1 : List MOper := [⟨(some 6), .call 19 [], none⟩,
  ⟨(some 1), .move (.t 6), none⟩]
def b18_1 : SCode := .region r18_1
abbrev r18_2 : List MOper := [⟨(some 7), .move (.t 1), none⟩,
  ⟨(some 8), .bin .eql .nilp (.t 7) (.c (.nilptr)), none⟩]
def b18_2 : SCode := .region r18_2
abbrev r18_3 : List MOper := [⟨(some 0), .move (.c (.bool false)), none⟩]
def b18_3 : SCode := .region r18_3
def b18_4 : SCode := .seq b18_3 .ret
def b18_5 : SCode := .cond (.t 8) b18_4 .skip
def b18_6 : SCode := .seq b18_2 b18_5
abbrev r18_7 : List MOper := [⟨(some 9), .move (.t 1), none⟩,
  ⟨(some 10), .build [.int .i64 0, .int .i64 0, .int .i64 0, .int .i64 0, .int .i64 0, .int .i64 0, .int .i64 0, .int .i64 0, .str [], .str [], .str [], .str [], .int .i64 0, .int .i64 0, .int .i64 0, .int .i64 0, .bool false, .str [], .nilslice, .str [], .bool false, .str [], .str [], .nilslice, .nilslice, .int .i64 0, .nilslice] [(0, 1, (.c (.int .i64 3))), (1, 1, (.c (.int .i64 100))), (2, 1, (.c (.int .i64 0)))], none⟩,
  ⟨(some 11), .build [.int .i64 0, .int .i64 0, .int .i64 0, .int .i64 0, .int .i64 0, .int .i64 0, .int .i64 0, .int .i64 0, .str [], .str [], .str [], .str [], .int .i64 0, .int .i64 0, .int .i64 0, .int .i64 0, .bool false, .str [], .nilslice, .str [], .bool false, .str [], .str [], .nilslice, .nilslice, .int .i64 0, .nilslice] [(0, 1, (.c (.int .i64 99)))], none⟩,
  ⟨(some 12), .buildSlice [.int .i64 0, .int .i64 0, .int .i64 0, .int .i64 0, .int .i64 0, .int .i64 0, .int .i64 0, .int .i64 0, .str [], .str [], .str [], .str [], .int .i64 0, .int .i64 0, .int .i64 0, .int .i64 0, .bool false, .str [], .nilslice, .str [], .bool false, .str [], .str [], .nilslice, .nilslice, .int .i64 0, .nilslice] 27 2 [(0, 27, (.t 10)), (27, 27, (.t 11))], none⟩,
  ⟨(some 13), .call 20 [(.t 9), (.t 12)], none⟩,
  ⟨(some 2), .move (.t 13), none⟩]
def b18_7 : SCode := .region r18_7
abbrev r18_8 : List MOper := [⟨(some 14), .move (.t 1), none⟩,
  ⟨(some 15), .call 21 [(.t 14), (.c (.int .i64 0))], none⟩,
  ⟨(some 3), .move (.t 15), none⟩]
def b18_8 : SCode := .region r18_8
abbrev r18_9 : List MOper := [⟨(some 17), .move (.t 1), none⟩,
  ⟨(some 18), .call 23 [(.t 17), (.c (.int .i64 0))], none⟩,
  ⟨(some 16), .move (.t 18), none⟩,
  ⟨(some 19), .extract (.t 16) 0, none⟩,
  ⟨(some 20), .extract (.t 16) 1, none⟩,
  ⟨(some 4), .alloc [.int .i64 0, .int .i64 0, .int .i64 0, .int .i64 0, .int .i64 0, .int .i64 0, .int .i64 0, .int .i64 0, .str [], .str [], .str [], .str [], .int .i64 0, .int .i64 0, .int .i64 0, .int .i64 0, .bool false, .str [], .nilslice, .str [], .bool false, .str [], .str [], .nilslice, .nilslice, .int .i64 0, .nilslice], none⟩,
  ⟨none, .store 27 (.t 4) (.t 19), none⟩,
  ⟨(some 5), .move (.t 20), none⟩]
def b18_9 : SCode := .region r18_9
abbrev r18_10 : List MOper := [⟨(some 21), .move (.t 2), none⟩,
  ⟨(some 22), .bin .eql .num (.t 21) (.c (.int .i64 1)), none⟩,
  ⟨(some 23), .move (.t 22), none⟩,
  ⟨(some 24), .move (.t 3), (some (23, true))⟩,
  ⟨(some 25), .pick (.t 23) (.t 24) (.c (.bool false)), none⟩,
  ⟨(some 26), .move (.t 25), none⟩,
  ⟨(some 27), .move (.t 5), (some (26, true))⟩,
  ⟨(some 28), .pick (.t 26) (.t 27) (.c (.bool false)), none⟩,
  ⟨(some 29), .move (.t 28), none⟩,
  ⟨(some 30), .fieldAddr 0 (.t 4), (some (29, true))⟩,
  ⟨(some 31), .load1 (.t 30), (some (29, true))⟩,
  ⟨(some 32), .bin .eql .num (.t 31) (.c (.int .i64 3)), (some (29, true))⟩,
  ⟨(some 33), .pick (.t 29) (.t 32) (.c (.bool false)), none⟩,
  ⟨(some 34), .move (.t 33), none⟩,
  ⟨(some 35), .move (.t 1), (some (34, true))⟩,
  ⟨(some 36), .call 22 [(.t 35)], (some (34, true))⟩,
  ⟨(some 37), .bin .eql .num (.t 36) (.c (.int .i64 1)), (some (34, true))⟩,
  ⟨(some 38), .pick (.t 34) (.t 37) (.c (.bool false)), none⟩,
  ⟨(some 0), .move (.t 38), none⟩]
def b18_10 : SCode := .region r18_10
def b18_11 : SCode := .seq b18_10 .ret
def b18_12 : SCode := .seq b18_9 b18_11
def b18_13 : SCode := .seq b18_8 b18_12
def b18_14 : SCode := .seq b18_7 b18_13
def b18_15 : SCode := .seq b18_6 b18_14
def b18_16 : SCode := .seq b18_1 b18_15
def b18_17 : SCode := .seq b18_0 b18_16
def s18 : SFunc := ⟨39, [.t 0], b18_17⟩
theorem c18 : sFn Try.prog 18 = some s18 := by kernel_rfl
theorem Z18 : XR b18_0 r18_0 ∧ XR b18_1 r18_1 ∧ XR b18_2 r18_2 ∧ XR b18_3 r18_3 ∧ XS b18_4 b18_3 .ret ∧ XC b18_5 (.t 8) b18_4 .skip ∧ XS b18_6 b18_2 b18_5 ∧ XR b18_7 r18_7 ∧ XR b18_8 r18_8 ∧ XR b18_9 r18_9 ∧ XR b18_10 r18_10 ∧ XS b18_11 b18_10 .ret ∧ XS b18_12 b18_9 b18_11 ∧ XS b18_13 b18_8 b18_12 ∧ XS b18_14 b18_7 b18_13 ∧ XS b18_15 b18_6 b18_14 ∧ XS b18_16 b18_1 b18_15 ∧ XS b18_17 b18_0 b18_16 ∧ XY s18 39 b18_17 [.t 0] := ⟨rfl, rfl, rfl, rfl, rfl, sC_cond, rfl, rfl, rfl, rfl, rfl, rfl, rfl, rfl, rfl, rfl, rfl, rfl, rfl⟩

set_option maxHeartbeats 4000000
set_option maxRecDepth 10000
def U5 : PCall := rowQ 19 mnewD (rowQ 20 msendD (rowQ 21 mcopyD (rowQ 22 mlenD (rowQ 23 mtakeD noCall))))
theorem U5_app {f : FuncId} {args : List AV} {σ : AHeap} {K : AV → AHeap → Prop} : U5 f args σ K = rowQ 19 mnewD (rowQ 20 msendD (rowQ 21 mcopyD (rowQ 22 mlenD (rowQ 23 mtakeD noCall)))) f args σ K := _root_.id rfl
theorem U5_sound : Sound Try.prog U5 := rowQ_sound mnewD_ok (rowQ_sound msendD_ok (rowQ_sound mcopyD_ok (rowQ_sound mlenD_ok (rowQ_sound mtakeD_ok (noCall_sound _)))))
abbrev aN1 : NoteV := bare 3 100 0 0 0
abbrev aN2 : NoteV := bare 99 0 0 0 0
theorem bare_sz (k f t e i : Int) : (bare k f t e i).sz := ⟨by show total AskV.zero.texts ≤ _; decide, by show RepV.zero.bytes.length ≤ _; decide, by show total [([] : List UInt8), []] ≤ _; decide, by simp [bare], by simp [bare], by simp [bare], by simp [bare], by simp [bare], by simp [bare], by simp [bare], by simp [bare], by simp [bare]⟩
theorem aN1_may : mayB aN1 = true := by decide +kernel
theorem aN2_may : mayB aN2 = false := by decide +kernel
theorem aSend : sendS [] [aN1, aN2] = (1, [aN1.bytes]) := by
  simp only [sendS, List.foldl_cons, List.foldl_nil, send1, aN1_may, aN2_may]
  rfl
theorem aN1_len : aN1.bytes.length ≤ 4000000 := by decide +kernel
theorem mawake_ok (σ : AHeap) (K : AV → AHeap → Prop) (h : ∀ σ', K (.bool true) σ') : Tri Try.prog 18 [] σ K := by
  refine Tri.of_s c18 U5_sound ?_
  simp only [U5_app, Z18, base1, baseE, ↓reduceIte, Nat.reduceAdd, Nat.reduceSub, Nat.reduceMul, Nat.reduceEqDiff, Nat.reduceLeDiff, Nat.reduceLT, Int.reduceLT, Int.reduceLE, Int.reduceEq, Int.reduceNe, Int.reduceToNat, Int.reduceAdd, Int.reduceSub, reduceCtorEq, Nat.reduceBEq, Nat.reduceBNe]
  refine ⟨rfl, ?_⟩
  have ml0 := ml_new (σ := σ)
  generalize hpush (hpush σ [.int .i64 512, .nilslice]) [.ptr σ.length 0] = σ1 at ml0 ⊢
  have lM := hget_lt ml0.m
  have lS : σ.length < σ1.length := by rcases ml0.sp with ⟨_, _, hh⟩ | ⟨_, _, _, _, hh, _⟩ <;> exact hget_lt hh
  have push : ∀ c : List AV, FrS σ1 (hpush σ1 c) σ.length none none := fun c j y hj _ h2 => ⟨push_old hj, h2⟩
  have mlp : ∀ c : List AV, Ml (hpush σ1 c) (σ.length + 1) σ.length [] none := fun c => ml0.next (sp_frame ml0.sp fun j y hj _ => push_old hj) (push c) (by simp)
  simp only [U5_app, Z18, base1, baseE, ↓reduceIte, Nat.reduceAdd, Nat.reduceSub, Nat.reduceMul, Nat.reduceEqDiff, Nat.reduceLeDiff, Nat.reduceLT, Int.reduceLT, Int.reduceLE, Int.reduceEq, Int.reduceNe, Int.reduceToNat, Int.reduceAdd, Int.reduceSub, reduceCtorEq, Nat.reduceBEq, Nat.reduceBNe]
  refine ⟨σ.length + 1, σ.length, σ1.length, some 2, [aN1, aN2], [bareC 3 100 0 0 0, bareC 99 0 0 0 0], [], [], none, rfl, push_new rfl, by omega, by simp, rfl, fun i cs n hc hn => ?_, fun n hn => ?_, by simp, mlp _, fun σ2 D2 m2 f2 => ?_⟩
  · match i with
    | 0 => simp at hc hn; subst hc; subst hn; rfl
    | 1 => simp at hc hn; subst hc; subst hn; rfl
    | k + 2 => simp at hc
  · simp at hn
    rcases hn with rfl | rfl <;> exact bare_sz _ _ _ _ _
  rw [aSend] at m2 ⊢
  have p1 : place 0 ([aN1.bytes] : List (List UInt8)).length = ((0 : Nat) : Int) := rfl
  simp only [U5_app, Z18, base1, baseE, ↓reduceIte, Nat.reduceAdd, Nat.reduceSub, Nat.reduceMul, Nat.reduceEqDiff, Nat.reduceLeDiff, Nat.reduceLT, Int.reduceLT, Int.reduceLE, Int.reduceEq, Int.reduceNe, Int.reduceToNat, Int.reduceAdd, Int.reduceSub, reduceCtorEq, Nat.reduceBEq, Nat.reduceBNe]
  refine ⟨σ.length + 1, σ.length, 0, [aN1.bytes], D2, rfl, by decide, m2, fun hn => ?_, fun k x hk hx hl σ3 D3 m3 f3 => ?_⟩
  · rw [p1] at hn; simp at hn
  rw [p1] at hk
  have hk0 : k = 0 := by omega
  subst hk0
  have hx0 : x = aN1.bytes := by simpa using hx.symm
  subst hx0
  have p2 : place 0 ([aN1.bytes] ++ [aN1.bytes] : List (List UInt8)).length = ((0 : Nat) : Int) := rfl
  simp only [U5_app, Z18, base1, baseE, ↓reduceIte, Nat.reduceAdd, Nat.reduceSub, Nat.reduceMul, Nat.reduceEqDiff, Nat.reduceLeDiff, Nat.reduceLT, Int.reduceLT, Int.reduceLE, Int.reduceEq, Int.reduceNe, Int.reduceToNat, Int.reduceAdd, Int.reduceSub, reduceCtorEq, Nat.reduceBEq, Nat.reduceBNe]
  refine ⟨σ.length + 1, σ.length, 0, [aN1.bytes] ++ [aN1.bytes], D3, rfl, by decide, m3, fun y hy => ?_, fun hn => ?_, fun k y hk hy σ4 D4 m4 f4 => ?_⟩
  · simp at hy; subst hy; exact aN1_len
  · rw [p2] at hn; simp at hn
  rw [p2] at hk
  have hk0 : k = 0 := by omega
  subst hk0
  have hy0 : y = aN1.bytes := by simpa using hy.symm
  subst hy0
  rw [note_good aN1_may (bare_sz _ _ _ _ _)]
  have l4 := hget_lt m4.m
  have lS4 : σ.length < σ4.length := by rcases m4.sp with ⟨_, _, hh⟩ | ⟨_, _, _, _, hh, _⟩ <;> exact hget_lt hh
  have al4 : ∀ c d : List AV, FrS σ4 (hset (hpush σ4 c) σ4.length d) σ.length D4 D4 := fun c d j z hj _ h2 => ⟨al_frame hj, h2⟩
  have ml4 : ∀ c d : List AV, Ml (hset (hpush σ4 c) σ4.length d) (σ.length + 1) σ.length (([aN1.bytes] ++ [aN1.bytes]).eraseIdx 0) D4 := fun c d => m4.next (sp_frame m4.sp fun j z hj _ => al_frame hj) (al4 c d) m4.few
  have pn : ∀ c : List AV, hget (hpush σ4 c) σ4.length = some c := fun c => push_new rfl
  have sn : ∀ c d : List AV, hget (hset (hpush σ4 c) σ4.length d) σ4.length = some d := fun c d => set_same (pn c)
  have pz : put (bareC 0 0 0 0 0) 0 (aN1, (0 : Int)).1.cells = some aN1.cells := put_all rfl
  have c0 : aN1.cells[0]? = some (.int .i64 3) := rfl
  have ncl : (aN1, (0 : Int)).1.cells.length = 27 := rfl
  have ncc : ((aN1, (0 : Int)).1.cells.all fun x => x.isCell) = true := rfl
  simp only [U5_app, Z18, base1, baseE, ↓reduceIte, Nat.reduceAdd, Nat.reduceSub, Nat.reduceMul, Nat.reduceEqDiff, Nat.reduceLeDiff, Nat.reduceLT, Int.reduceLT, Int.reduceLE, Int.reduceEq, Int.reduceNe, Int.reduceToNat, Int.reduceAdd, Int.reduceSub, reduceCtorEq, Nat.reduceBEq, Nat.reduceBNe, pn, sn, pz, c0, ncl, ncc]
  refine ⟨σ.length + 1, σ.length, _, D4, rfl, ml4 _ _, ?_⟩
  simp only [U5_app, Z18, base1, baseE, ↓reduceIte, Nat.reduceAdd, Nat.reduceSub, Nat.reduceMul, Nat.reduceEqDiff, Nat.reduceLeDiff, Nat.reduceLT, Int.reduceLT, Int.reduceLE, Int.reduceEq, Int.reduceNe, Int.reduceToNat, Int.reduceAdd, Int.reduceSub, reduceCtorEq, Nat.reduceBEq, Nat.reduceBNe]
  exact h _
def mawakeD (args : List AV) (σ : AHeap) (K : AV → AHeap → Prop) : Prop := args = [] ∧ ∀ σ', K (.bool true) σ'
theorem mawakeD_ok (args : List AV) (σ : AHeap) (K : AV → AHeap → Prop) (h : mawakeD args σ K) : Tri Try.prog 18 args σ K := by
  obtain ⟨rfl, h⟩ := h
  exact mawake_ok σ K h
end Go.Proofs.Ytndlgmciplckjaa.note
