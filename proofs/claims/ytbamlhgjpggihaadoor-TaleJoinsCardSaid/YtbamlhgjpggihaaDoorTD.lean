/- line, of the reference: what it answers. Condition: texts of no more than a hundred million bytes. -/
import Derived.Test.YtbamlhgjpggihaaDoorTC
set_option linter.unusedVariables false
set_option linter.unusedSimpArgs false
namespace Go.Proofs.YtbamlhgjpggihaaDoor.tale
open Go.RowKit Go.Gz Go.Gz.H
abbrev r8_0 : List MOper := [⟨(some 1), .box (.t 0), none⟩,
  ⟨(some 2), .move (.c (.str [])), none⟩]
def b8_0 : SCode := .region r8_0
abbrev r8_1 : List MOper := [⟨(some 4), .buildSlice [.str []] 1 14 [(0, 1, (.c (.str []))), (1, 1, (.c (.str [100, 101, 108, 105, 118, 101, 114]))), (2, 1, (.c (.str [108, 111, 115, 101]))), (3, 1, (.c (.str [99, 111, 112, 121]))), (4, 1, (.c (.str [116, 105, 99, 107]))), (5, 1, (.c (.str [99, 114, 97, 115, 104]))), (6, 1, (.c (.str [115, 116, 97, 114, 116]))), (7, 1, (.c (.str [112, 117, 116]))), (8, 1, (.c (.str [100, 101, 108, 101, 116, 101]))), (9, 1, (.c (.str [103, 101, 116]))), (10, 1, (.c (.str [112, 97, 103, 101]))), (11, 1, (.c (.str [115, 112, 108, 105, 116]))), (12, 1, (.c (.str [109, 101, 114, 103, 101]))), (13, 1, (.c (.str [109, 111, 118, 101])))], none⟩,
  ⟨(some 3), .move (.t 4), none⟩]
def b8_1 : SCode := .region r8_1
abbrev r8_2 : List MOper := [⟨(some 5), .fieldAddr 0 (.t 1), none⟩,
  ⟨(some 6), .load1 (.t 5), none⟩,
  ⟨(some 7), .bin .lss .num (.t 6) (.c (.int .i64 1)), none⟩,
  ⟨(some 8), .move (.t 7), none⟩,
  ⟨(some 9), .fieldAddr 0 (.t 1), (some (8, false))⟩,
  ⟨(some 10), .load1 (.t 9), (some (8, false))⟩,
  ⟨(some 11), .bin .gtr .num (.t 10) (.c (.int .i64 13)), (some (8, false))⟩,
  ⟨(some 12), .pick (.t 8) (.c (.bool true)) (.t 11), none⟩,
  ⟨(some 13), .move (.t 12), none⟩,
  ⟨(some 14), .fieldAddr 1 (.t 1), (some (13, false))⟩,
  ⟨(some 15), .load1 (.t 14), (some (13, false))⟩,
  ⟨(some 16), .bin .lss .num (.t 15) (.c (.int .i64 0)), (some (13, false))⟩,
  ⟨(some 17), .pick (.t 13) (.c (.bool true)) (.t 16), none⟩,
  ⟨(some 18), .move (.t 17), none⟩,
  ⟨(some 19), .fieldAddr 2 (.t 1), (some (18, false))⟩,
  ⟨(some 20), .load1 (.t 19), (some (18, false))⟩,
  ⟨(some 21), .bin .lss .num (.t 20) (.c (.int .i64 0)), (some (18, false))⟩,
  ⟨(some 22), .pick (.t 18) (.c (.bool true)) (.t 21), none⟩]
def b8_2 : SCode := .region r8_2
abbrev r8_3 : List MOper := [⟨(some 2), .move (.c (.str [])), none⟩]
def b8_3 : SCode := .region r8_3
def b8_4 : SCode := .seq b8_3 .ret
def b8_5 : SCode := .cond (.t 22) b8_4 .skip
def b8_6 : SCode := .seq b8_2 b8_5
abbrev t8_7 : LTree := (.quiet ⟨(some 23), .move (.t 3), none⟩ 0
  (.quiet ⟨(some 24), .fieldAddr 0 (.t 1), none⟩ 1
  (.quiet ⟨(some 25), .load1 (.t 24), none⟩ 2
  (.quiet ⟨(some 26), .indexAddr 1 (.t 23) (.t 25), none⟩ 3
  (.quiet ⟨(some 27), .load1 (.t 26), none⟩ 4
  (.quiet ⟨(some 28), .bin .add .num (.t 27) (.c (.str [32])), none⟩ 5
  (.quiet ⟨(some 29), .fieldAddr 1 (.t 1), none⟩ 6
  (.quiet ⟨(some 30), .load1 (.t 29), none⟩ 7
  (.quiet ⟨(some 34), .fieldAddr 2 (.t 1), none⟩ 11
  (.quiet ⟨(some 35), .load1 (.t 34), none⟩ 12
  (.quiet ⟨(some 39), .fieldAddr 3 (.t 1), none⟩ 16
  (.quiet ⟨(some 40), .load1 (.t 39), none⟩ 17
  (.quiet ⟨(some 44), .fieldAddr 4 (.t 1), none⟩ 21
  (.quiet ⟨(some 45), .load1 (.t 44), none⟩ 22
  (.quiet ⟨(some 49), .fieldAddr 5 (.t 1), none⟩ 26
  (.quiet ⟨(some 50), .load1 (.t 49), none⟩ 27
  (.loud ⟨(some 31), .call 13 [(.t 30)], none⟩ [2, 4, 12, 17, 22, 27]
  (.quiet ⟨(some 32), .bin .add .num (.t 28) (.t 31), none⟩ 9
  (.quiet ⟨(some 33), .bin .add .num (.t 32) (.c (.str [32])), none⟩ 10
  (.loud ⟨(some 36), .call 13 [(.t 35)], none⟩ [2, 4, 17, 22, 27]
  (.quiet ⟨(some 37), .bin .add .num (.t 33) (.t 36), none⟩ 14
  (.quiet ⟨(some 38), .bin .add .num (.t 37) (.c (.str [32])), none⟩ 15
  (.loud ⟨(some 41), .call 14 [(.t 40)], none⟩ [2, 4, 22, 27]
  (.quiet ⟨(some 42), .bin .add .num (.t 38) (.t 41), none⟩ 19
  (.quiet ⟨(some 43), .bin .add .num (.t 42) (.c (.str [32])), none⟩ 20
  (.loud ⟨(some 46), .call 14 [(.t 45)], none⟩ [2, 4, 27]
  (.quiet ⟨(some 47), .bin .add .num (.t 43) (.t 46), none⟩ 24
  (.quiet ⟨(some 48), .bin .add .num (.t 47) (.c (.str [32])), none⟩ 25
  (.loud ⟨(some 51), .call 14 [(.t 50)], none⟩ [2, 4]
  (.quiet ⟨(some 52), .bin .add .num (.t 48) (.t 51), none⟩ 29
  (.quiet ⟨(some 53), .bin .add .num (.t 52) (.c (.str [10])), none⟩ 30
  (.quiet ⟨(some 2), .move (.t 53), none⟩ 31
  .leaf))) .stop))) .stop))) .stop))) .stop))) .stop)))))))))))))))))
def b8_7 : SCode := .draw t8_7
def b8_8 : SCode := .seq b8_7 .ret
def b8_9 : SCode := .seq b8_6 b8_8
def b8_10 : SCode := .seq b8_1 b8_9
def b8_11 : SCode := .seq b8_0 b8_10
def s8 : SFunc := ⟨54, [.t 2], b8_11⟩
theorem c8 : sFn Tryd.prog 8 = some s8 := by kernel_rfl
theorem Z8 : XR b8_0 r8_0 ∧ XR b8_1 r8_1 ∧ XR b8_2 r8_2 ∧ XR b8_3 r8_3 ∧ XS b8_4 b8_3 .ret ∧ XC b8_5 (.t 22) b8_4 .skip ∧ XS b8_6 b8_2 b8_5 ∧ XT b8_7 t8_7 ∧ XS b8_8 b8_7 .ret ∧ XS b8_9 b8_6 b8_8 ∧ XS b8_10 b8_1 b8_9 ∧ XS b8_11 b8_0 b8_10 ∧ XY s8 54 b8_11 [.t 2] := ⟨rfl, rfl, rfl, rfl, rfl, sC_cond, rfl, rfl, rfl, rfl, rfl, rfl, rfl⟩

set_option maxHeartbeats 4000000
set_option maxRecDepth 10000
theorem wordS_nil (n : Int) : wordS n = [] ↔ ¬ (1 ≤ n ∧ n ≤ 13) := by
  unfold wordS
  split
  · rename_i h
    have : n = 1 ∨ n = 2 ∨ n = 3 ∨ n = 4 ∨ n = 5 ∨ n = 6 ∨ n = 7 ∨ n = 8 ∨ n = 9 ∨ n = 10 ∨ n = 11 ∨ n = 12 ∨ n = 13 := by omega
    rcases this with rfl | rfl | rfl | rfl | rfl | rfl | rfl | rfl | rfl | rfl | rfl | rfl | rfl <;> decide
  · rename_i h; simp [h]
def U8 : PCall := rowQ 13 decD (rowQ 14 hexD noCall)
theorem U8_app {f : FuncId} {args : List AV} {σ : AHeap} {K : AV → AHeap → Prop} : U8 f args σ K = rowQ 13 decD (rowQ 14 hexD noCall) f args σ K := _root_.id rfl
theorem U8_sound : Sound Tryd.prog U8 := rowQ_sound decD_ok (rowQ_sound hexD_ok (noCall_sound _))
abbrev wordsL : List (List UInt8) := [] :: wordL
theorem wl_at {k : Nat} (h0 : 1 ≤ k) (h : k ≤ 13) : ((wordsL.map AV.str)[k]? : Option AV) = some (.str (wordS (k : Int))) := by
  have : k = 1 ∨ k = 2 ∨ k = 3 ∨ k = 4 ∨ k = 5 ∨ k = 6 ∨ k = 7 ∨ k = 8 ∨ k = 9 ∨ k = 10 ∨ k = 11 ∨ k = 12 ∨ k = 13 := by omega
  rcases this with rfl | rfl | rfl | rfl | rfl | rfl | rfl | rfl | rfl | rfl | rfl | rfl | rfl <;> rfl
theorem line_ok (x : Ev) (hx : EvOk x) : Tri Tryd.prog 8 [.agg x.cells] [] fun r _ => r.pure = true ∧ r = .str (lineS x) := by
  refine Tri.of_s c8 U8_sound ?_
  have hjl := join_len hx
  have hlen := hx.len
  have hw0 := wordS_nil x.act
  have hi1 := Lib.itoa_length_le x.who hx.w0 hx.w1
  have hi2 := Lib.itoa_length_le x.n hx.n0 hx.n1
  have hwl := wordS_len x.act
  have r1 := hx.w1
  have r2 := hx.n1
  obtain ⟨act, who, n, text, val, into⟩ := x
  simp only at hlen hw0 hi1 hi2 hwl r1 r2
  have no : wordS act = [] ∨ who < 0 ∨ n < 0 → lineS ⟨act, who, n, text, val, into⟩ = [] := fun h => by unfold lineS; simp only; rw [if_pos h]
  simp only [U8_app, Z8, base1, baseX, baseY, ↓reduceIte, Nat.reduceAdd, Nat.reduceSub, Nat.reduceMul, Nat.reduceEqDiff, Nat.reduceLeDiff, Nat.reduceLT, Int.reduceLT, Int.reduceLE, Int.reduceEq, Int.reduceNe, Int.reduceToNat, Int.reduceAdd, Int.reduceSub, reduceCtorEq, Nat.reduceBEq, Nat.reduceBNe, Ev.cells, List.map_cons, List.map_nil]
  by_cases c1 : act < 1
  · rw [no (.inl (hw0.2 (by omega)))]
    simp only [U8_app, Z8, base1, baseX, baseY, ↓reduceIte, Nat.reduceAdd, Nat.reduceSub, Nat.reduceMul, Nat.reduceEqDiff, Nat.reduceLeDiff, Nat.reduceLT, Int.reduceLT, Int.reduceLE, Int.reduceEq, Int.reduceNe, Int.reduceToNat, Int.reduceAdd, Int.reduceSub, reduceCtorEq, Nat.reduceBEq, Nat.reduceBNe, c1]
    first | exact rfl | exact ⟨rfl, rfl⟩
  · by_cases c2 : 13 < act
    · rw [no (.inl (hw0.2 (by omega)))]
      simp only [U8_app, Z8, base1, baseX, baseY, ↓reduceIte, Nat.reduceAdd, Nat.reduceSub, Nat.reduceMul, Nat.reduceEqDiff, Nat.reduceLeDiff, Nat.reduceLT, Int.reduceLT, Int.reduceLE, Int.reduceEq, Int.reduceNe, Int.reduceToNat, Int.reduceAdd, Int.reduceSub, reduceCtorEq, Nat.reduceBEq, Nat.reduceBNe, c1, c2]
      first | exact rfl | exact ⟨rfl, rfl⟩
    · by_cases c3 : who < 0
      · rw [no (.inr (.inl c3))]
        simp only [U8_app, Z8, base1, baseX, baseY, ↓reduceIte, Nat.reduceAdd, Nat.reduceSub, Nat.reduceMul, Nat.reduceEqDiff, Nat.reduceLeDiff, Nat.reduceLT, Int.reduceLT, Int.reduceLE, Int.reduceEq, Int.reduceNe, Int.reduceToNat, Int.reduceAdd, Int.reduceSub, reduceCtorEq, Nat.reduceBEq, Nat.reduceBNe, c1, c2, c3]
        first | exact rfl | exact ⟨rfl, rfl⟩
      · by_cases c4 : n < 0
        · rw [no (.inr (.inr c4))]
          simp only [U8_app, Z8, base1, baseX, baseY, ↓reduceIte, Nat.reduceAdd, Nat.reduceSub, Nat.reduceMul, Nat.reduceEqDiff, Nat.reduceLeDiff, Nat.reduceLT, Int.reduceLT, Int.reduceLE, Int.reduceEq, Int.reduceNe, Int.reduceToNat, Int.reduceAdd, Int.reduceSub, reduceCtorEq, Nat.reduceBEq, Nat.reduceBNe, c1, c2, c3, c4]
          first | exact rfl | exact ⟨rfl, rfl⟩
        · obtain ⟨k, rfl⟩ : ∃ k : Nat, act = (k : Int) := ⟨act.toNat, by omega⟩
          obtain ⟨p, rfl⟩ : ∃ p : Nat, who = (p : Int) := ⟨who.toNat, by omega⟩
          obtain ⟨q, rfl⟩ : ∃ q : Nat, n = (q : Int) := ⟨n.toNat, by omega⟩
          have k0 : (0 : Int) ≤ (k : Int) := by omega
          have k1 : k < 14 := by omega
          have hat := wl_at (k := k) (by omega) (by omega)
          simp only [wordsL, wordL, List.map_cons, List.map_nil, idx_cons, idx_nil] at hat
          rw [Lib.itoa_nonneg] at hi1 hi2
          have hline : lineS ⟨(k : Int), (p : Int), (q : Int), text, val, into⟩ = Lib.join [wordS k, Lib.decDigits p, Lib.decDigits q, bytesS text, bytesS val, bytesS into] [32] ++ [10] := by
            unfold lineS partsS
            simp only [Lib.itoa_nonneg]
            rw [if_neg (by rintro (h | h | h)
                           · exact absurd h (fun h => (hw0.1 h) (by omega))
                           · omega
                           · omega)]
          rw [hline, join6]
          have hmax : maxInt = 9223372036854775807 := rfl
          have m0 : (wordS (k : Int)).length + 1 ≤ maxInt := by simp only [bytesS_len, hmax]; omega
          have m1 : (wordS (k : Int)).length + 1 + (Lib.decDigits p).length ≤ maxInt := by simp only [bytesS_len, hmax]; omega
          have m2 : (wordS (k : Int)).length + 1 + (Lib.decDigits p).length + 1 ≤ maxInt := by simp only [bytesS_len, hmax]; omega
          have m3 : (wordS (k : Int)).length + 1 + (Lib.decDigits p).length + 1 + (Lib.decDigits q).length ≤ maxInt := by simp only [bytesS_len, hmax]; omega
          have m4 : (wordS (k : Int)).length + 1 + (Lib.decDigits p).length + 1 + (Lib.decDigits q).length + 1 ≤ maxInt := by simp only [bytesS_len, hmax]; omega
          have m5 : (wordS (k : Int)).length + 1 + (Lib.decDigits p).length + 1 + (Lib.decDigits q).length + 1 + (bytesS text).length ≤ maxInt := by simp only [bytesS_len, hmax]; omega
          have m6 : (wordS (k : Int)).length + 1 + (Lib.decDigits p).length + 1 + (Lib.decDigits q).length + 1 + (bytesS text).length + 1 ≤ maxInt := by simp only [bytesS_len, hmax]; omega
          have m7 : (wordS (k : Int)).length + 1 + (Lib.decDigits p).length + 1 + (Lib.decDigits q).length + 1 + (bytesS text).length + 1 + (bytesS val).length ≤ maxInt := by simp only [bytesS_len, hmax]; omega
          have m8 : (wordS (k : Int)).length + 1 + (Lib.decDigits p).length + 1 + (Lib.decDigits q).length + 1 + (bytesS text).length + 1 + (bytesS val).length + 1 ≤ maxInt := by simp only [bytesS_len, hmax]; omega
          have m9 : (wordS (k : Int)).length + 1 + (Lib.decDigits p).length + 1 + (Lib.decDigits q).length + 1 + (bytesS text).length + 1 + (bytesS val).length + 1 + (bytesS into).length ≤ maxInt := by simp only [bytesS_len, hmax]; omega
          have m10 : (wordS (k : Int)).length + 1 + (Lib.decDigits p).length + 1 + (Lib.decDigits q).length + 1 + (bytesS text).length + 1 + (bytesS val).length + 1 + (bytesS into).length + 1 ≤ maxInt := by simp only [bytesS_len, hmax]; omega
          simp only [U8_app, Z8, base1, baseX, baseY, ↓reduceIte, Nat.reduceAdd, Nat.reduceSub, Nat.reduceMul, Nat.reduceEqDiff, Nat.reduceLeDiff, Nat.reduceLT, Int.reduceLT, Int.reduceLE, Int.reduceEq, Int.reduceNe, Int.reduceToNat, Int.reduceAdd, Int.reduceSub, reduceCtorEq, Nat.reduceBEq, Nat.reduceBNe, c1, c2, c3, c4, k0, k1, Int.toNat_natCast, Nat.zero_add, Nat.mul_one, hat, m0, m1, m2, m3, m4, m5, m6, m7, m8, m9, m10]
          refine ⟨p, rfl, by omega, ?_⟩
          simp only [U8_app, Z8, base1, baseX, baseY, ↓reduceIte, Nat.reduceAdd, Nat.reduceSub, Nat.reduceMul, Nat.reduceEqDiff, Nat.reduceLeDiff, Nat.reduceLT, Int.reduceLT, Int.reduceLE, Int.reduceEq, Int.reduceNe, Int.reduceToNat, Int.reduceAdd, Int.reduceSub, reduceCtorEq, Nat.reduceBEq, Nat.reduceBNe, k0, k1, Int.toNat_natCast, Nat.zero_add, Nat.mul_one, hat, m0, m1, m2, m3, m4, m5, m6, m7, m8, m9, m10]
          refine ⟨q, rfl, by omega, ?_⟩
          simp only [U8_app, Z8, base1, baseX, baseY, ↓reduceIte, Nat.reduceAdd, Nat.reduceSub, Nat.reduceMul, Nat.reduceEqDiff, Nat.reduceLeDiff, Nat.reduceLT, Int.reduceLT, Int.reduceLE, Int.reduceEq, Int.reduceNe, Int.reduceToNat, Int.reduceAdd, Int.reduceSub, reduceCtorEq, Nat.reduceBEq, Nat.reduceBNe, k0, k1, Int.toNat_natCast, Nat.zero_add, Nat.mul_one, hat, m0, m1, m2, m3, m4, m5, m6, m7, m8, m9, m10]
          refine ⟨text, rfl, by omega, ?_⟩
          simp only [U8_app, Z8, base1, baseX, baseY, ↓reduceIte, Nat.reduceAdd, Nat.reduceSub, Nat.reduceMul, Nat.reduceEqDiff, Nat.reduceLeDiff, Nat.reduceLT, Int.reduceLT, Int.reduceLE, Int.reduceEq, Int.reduceNe, Int.reduceToNat, Int.reduceAdd, Int.reduceSub, reduceCtorEq, Nat.reduceBEq, Nat.reduceBNe, k0, k1, Int.toNat_natCast, Nat.zero_add, Nat.mul_one, hat, m0, m1, m2, m3, m4, m5, m6, m7, m8, m9, m10]
          refine ⟨val, rfl, by omega, ?_⟩
          simp only [U8_app, Z8, base1, baseX, baseY, ↓reduceIte, Nat.reduceAdd, Nat.reduceSub, Nat.reduceMul, Nat.reduceEqDiff, Nat.reduceLeDiff, Nat.reduceLT, Int.reduceLT, Int.reduceLE, Int.reduceEq, Int.reduceNe, Int.reduceToNat, Int.reduceAdd, Int.reduceSub, reduceCtorEq, Nat.reduceBEq, Nat.reduceBNe, k0, k1, Int.toNat_natCast, Nat.zero_add, Nat.mul_one, hat, m0, m1, m2, m3, m4, m5, m6, m7, m8, m9, m10]
          refine ⟨into, rfl, by omega, ?_⟩
          simp only [U8_app, Z8, base1, baseX, baseY, ↓reduceIte, Nat.reduceAdd, Nat.reduceSub, Nat.reduceMul, Nat.reduceEqDiff, Nat.reduceLeDiff, Nat.reduceLT, Int.reduceLT, Int.reduceLE, Int.reduceEq, Int.reduceNe, Int.reduceToNat, Int.reduceAdd, Int.reduceSub, reduceCtorEq, Nat.reduceBEq, Nat.reduceBNe, k0, k1, Int.toNat_natCast, Nat.zero_add, Nat.mul_one, hat, m0, m1, m2, m3, m4, m5, m6, m7, m8, m9, m10]
          refine ⟨rfl, ?_⟩
          simp
end Go.Proofs.YtbamlhgjpggihaaDoor.tale

/- Texts of events, and back: the plain law. No program in sight. -/
set_option linter.unusedVariables false
set_option linter.unusedSimpArgs false
namespace Go.Proofs.YtbamlhgjpggihaaDoor.tale
open Go.Gz Go.Gz.H
/-! Words. -/
theorem do_word {n : Int} (h0 : 1 ≤ n) (h1 : n ≤ 13) : doS (wordS n) = n := by
  have : n = 1 ∨ n = 2 ∨ n = 3 ∨ n = 4 ∨ n = 5 ∨ n = 6 ∨ n = 7 ∨ n = 8 ∨ n = 9 ∨ n = 10 ∨ n = 11 ∨ n = 12 ∨ n = 13 := by omega
  rcases this with rfl | rfl | rfl | rfl | rfl | rfl | rfl | rfl | rfl | rfl | rfl | rfl | rfl <;> decide
theorem findW_some {s : List UInt8} : ∀ {ws : List (List UInt8)} {k : Int}, findW ws s k = 0 ∨ ∃ i : Nat, ws[i]? = some s ∧ findW ws s k = k + i
  | [], k => .inl rfl
  | w :: ws, k => by
    unfold findW
    split
    · rename_i h; subst h; exact .inr ⟨0, rfl, by simp⟩
    · rcases findW_some (s := s) (ws := ws) (k := k + 1) with h | ⟨i, h1, h2⟩
      · exact .inl h
      · exact .inr ⟨i + 1, by simpa using h1, by rw [h2]; push_cast; omega⟩
theorem word_do {s : List UInt8} (h : 0 < doS s) : 1 ≤ doS s ∧ doS s ≤ 13 ∧ wordS (doS s) = s := by
  rcases findW_some (s := s) (ws := wordL) (k := 1) with h1 | ⟨i, h1, h2⟩
  · unfold doS at h; omega
  · have hlt : i < 13 := idx_lt h1
    have hd : doS s = ((i + 1 : Nat) : Int) := by unfold doS; rw [h2]; push_cast; omega
    refine ⟨by omega, by omega, ?_⟩
    rw [hd]
    have h3 := wl_at (k := i + 1) (by omega) (by omega)
    simp only [wordsL, List.map_cons, List.getElem?_cons_succ, List.getElem?_map, h1, Option.map_some, Option.some.injEq, AV.str.injEq] at h3
    exact h3.symm
/-! Numbers. -/
theorem dec_digit (n : Nat) : ∀ b ∈ Lib.decDigits n, 48 ≤ b.toNat ∧ b.toNat ≤ 57 := by
  induction n using Nat.strongRecOn with
  | ind n ih =>
    have key : ∀ k, k < 10 → 48 ≤ (UInt8.ofNat (48 + k)).toNat ∧ (UInt8.ofNat (48 + k)).toNat ≤ 57 := by
      intro k hk
      have : k = 0 ∨ k = 1 ∨ k = 2 ∨ k = 3 ∨ k = 4 ∨ k = 5 ∨ k = 6 ∨ k = 7 ∨ k = 8 ∨ k = 9 := by omega
      rcases this with rfl | rfl | rfl | rfl | rfl | rfl | rfl | rfl | rfl | rfl <;> decide
    by_cases h : n < 10
    · rw [Lib.decDigits_one h]
      intro b hb
      rw [List.mem_singleton] at hb; subst hb
      exact key n h
    · rw [dec_step n (by omega)]
      intro b hb
      rcases List.mem_append.1 hb with hb | hb
      · exact ih (n / 10) (by omega) b hb
      · simp only [List.mem_singleton] at hb; subst hb
        exact key _ (by omega)
theorem dec_ne (n : Nat) : Lib.decDigits n ≠ [] := by
  by_cases h : n < 10
  · rw [Lib.decDigits_one h]; simp
  · rw [dec_step n (by omega)]; simp
theorem dec_len : ∀ (k n : Nat), 1 ≤ k → n < 10 ^ k → (Lib.decDigits n).length ≤ k
  | 0, n, h, _ => by omega
  | k + 1, n, _, hn => by
    by_cases h : n < 10
    · rw [Lib.decDigits_one h]; simp
    · rw [dec_step n (by omega)]
      have hk : 1 ≤ k := by
        cases k with
        | zero => simp at hn; omega
        | succ k => omega
      have := dec_len k (n / 10) hk (by rw [Nat.div_lt_iff_lt_mul (by omega)]; rwa [Nat.pow_succ] at hn)
      simp; omega
theorem decFrom_app : ∀ (l : List UInt8) (a : Nat) (r : List UInt8), Lib.decFrom a (l ++ r) = (Lib.decFrom a l).bind fun m => Lib.decFrom m r
  | [], a, r => rfl
  | b :: l, a, r => by
    simp only [List.cons_append, Lib.decFrom]
    cases Lib.digitVal b with
    | none => rfl
    | some d => exact decFrom_app l _ r
theorem digit_val (k : Nat) (h : k < 10) : Lib.digitVal (UInt8.ofNat (48 + k)) = some k := by
  have : k = 0 ∨ k = 1 ∨ k = 2 ∨ k = 3 ∨ k = 4 ∨ k = 5 ∨ k = 6 ∨ k = 7 ∨ k = 8 ∨ k = 9 := by omega
  rcases this with rfl | rfl | rfl | rfl | rfl | rfl | rfl | rfl | rfl | rfl <;> rfl
theorem dec_from (n : Nat) : Lib.decFrom 0 (Lib.decDigits n) = some n := by
  induction n using Nat.strongRecOn with
  | ind n ih =>
    by_cases h : n < 10
    · rw [Lib.decDigits_one h]
      simp only [Lib.decFrom, digit_val n h, Nat.zero_mul, Nat.zero_add]
    · rw [dec_step n (by omega), decFrom_app, ih (n / 10) (by omega)]
      simp only [Option.bind_some, Lib.decFrom, digit_val (n % 10) (by omega)]
      congr 1; omega
theorem atoi_dec (n : Nat) : Lib.atoi (Lib.decDigits n) = some (n : Int) := by
  have h1 := dec_from n
  have h2 := dec_digit n
  have h3 := dec_ne n
  generalize Lib.decDigits n = l at h1 h2 h3
  cases l with
  | nil => exact absurd rfl h3
  | cons b r =>
    have hb := h2 b (by simp)
    have e1 : (b == 45) = false := by
      rw [beq_eq_false_iff_ne]; intro h; subst h; have h' := hb.1; simp at h'
    have e2 : (b == 43) = false := by
      rw [beq_eq_false_iff_ne]; intro h; subst h; have h' := hb.1; simp at h'
    simp only [Lib.atoi, e1, e2, Bool.false_eq_true, if_false, Lib.decNat, List.isEmpty_cons, h1, Option.map_some]
theorem num_dec {n : Int} (h0 : 0 ≤ n) (h1 : n < 100000000000000000) : numS (Lib.itoa n) = (n, true) := by
  obtain ⟨k, rfl⟩ : ∃ k : Nat, n = (k : Int) := ⟨n.toNat, by omega⟩
  rw [Lib.itoa_nonneg]
  have hl := dec_len 17 k (by omega) (by omega)
  unfold numS
  rw [if_pos (by omega)]
  simp only [atoi_dec, Lib.itoa_nonneg, h0, decide_true, Bool.true_and]
theorem num_back {s : List UInt8} (h : (numS s).2 = true) : Lib.itoa (numS s).1 = s ∧ 0 ≤ (numS s).1 ∧ (numS s).1 < 1000000000000000000 := by
  unfold numS at h ⊢
  split
  · rename_i hl
    rw [if_pos hl] at h
    cases ha : Lib.atoi s with
    | none => rw [ha] at h; simp at h
    | some n =>
      rw [ha] at h
      simp only [Bool.and_eq_true, decide_eq_true_eq] at h
      have := Lib.atoi_bound ha hl
      exact ⟨h.2, h.1, this.2⟩
  · rename_i hl
    rw [if_neg hl] at h; simp at h
/-! Bytes. -/
theorem ix_hd (p : Nat) (h : p < 16) : ix (hd p) = (p : Int) := by
  have : ∀ p : Fin 16, ix (hd p.val) = (p.val : Int) := by decide +kernel
  exact this ⟨p, h⟩
theorem hd_ix (c : UInt8) (h : 0 ≤ ix c) : hd (ix c).toNat = c := by
  have : ∀ n : Fin 256, 0 ≤ ix (UInt8.ofNat n.val) → hd (ix (UInt8.ofNat n.val)).toNat = UInt8.ofNat n.val := by decide +kernel
  have h' := this ⟨c.toNat, c.toNat_lt⟩
  simp only [UInt8.ofNat_toNat] at h'
  exact h' h
theorem unhex_hex : ∀ t : List UInt8, unhex (hexOf t) = some t
  | [] => rfl
  | b :: t => by
    have h1 : b.toNat / 16 < 16 := by have := b.toNat_lt; omega
    have h2 : b.toNat % 16 < 16 := by omega
    simp only [hexOf, unhex, ix_hd _ h1, ix_hd _ h2]
    rw [if_neg (by rintro (h | h) <;> omega), unhex_hex t]
    simp only [Option.map_some, Int.toNat_natCast]
    have : 16 * (b.toNat / 16) + b.toNat % 16 = b.toNat := by omega
    rw [this]; simp
theorem hex_unhex : ∀ {r b : List UInt8}, unhex r = some b → hexOf b = r
  | [], b, h => by simp [unhex] at h; subst h; rfl
  | [_], b, h => by simp [unhex] at h
  | x :: y :: r, b, h => by
    unfold unhex at h
    split at h
    · cases h
    · rename_i hn
      cases hr : unhex r with
      | none => rw [hr] at h; simp at h
      | some t =>
        rw [hr] at h
        simp only [Option.map_some, Option.some.injEq] at h
        subst h
        obtain ⟨_, b1⟩ := ix_lt x
        obtain ⟨_, b2⟩ := ix_lt y
        obtain ⟨p, hp⟩ : ∃ p : Nat, ix x = (p : Int) := ⟨(ix x).toNat, by omega⟩
        obtain ⟨q, hq⟩ : ∃ q : Nat, ix y = (q : Int) := ⟨(ix y).toNat, by omega⟩
        have hx := hd_ix x (by omega)
        have hy := hd_ix y (by omega)
        rw [hp, Int.toNat_natCast] at hx
        rw [hq, Int.toNat_natCast] at hy
        have e1 : (UInt8.ofNat (16 * p + q)).toNat = 16 * p + q := by
          rw [UInt8.toNat_ofNat']; omega
        have e2 : (16 * p + q) / 16 = p := by omega
        have e3 : (16 * p + q) % 16 = q := by omega
        simp only [hexOf, hp, hq, Int.toNat_natCast, e1, e2, e3, hx, hy, hex_unhex hr]
theorem un_bytes (t : List UInt8) : unS (bytesS t) = (t, true) := by
  unfold unS bytesS
  simp only
  rw [if_neg (by rintro (h | h); · rw [hexOf_len] at h; omega
                 · exact h rfl), unhex_hex]
theorem bytes_un {s : List UInt8} (h : (unS s).2 = true) : bytesS (unS s).1 = s := by
  cases s with
  | nil => simp [unS] at h
  | cons c r =>
    simp only [unS] at h ⊢
    split
    · rename_i hc; rw [if_pos hc] at h; cases h
    · rename_i hc
      rw [if_neg hc] at h
      cases hr : unhex r with
      | none => rw [hr] at h; cases h
      | some b =>
        simp only [bytesS, hex_unhex hr]
        have : c = 46 := by
          by_cases h46 : c = 46
          · exact h46
          · exact absurd (.inr h46) hc
        rw [this]
/-! Cutting. -/
theorem splitO_sep {c : UInt8} : ∀ {a : List UInt8} (r : List UInt8), c ∉ a → splitO c (a ++ c :: r) = a :: splitO c r
  | [], r, _ => by simp [splitO]
  | b :: a, r, h => by
    have hb : ¬ b = c := fun e => h (by simp [e])
    have := splitO_sep (c := c) (a := a) r (fun h' => h (by simp [h']))
    simp only [List.cons_append, splitO, hb, if_false, this]
theorem splitO_one {c : UInt8} : ∀ {a : List UInt8}, c ∉ a → splitO c a = [a]
  | [], _ => rfl
  | b :: a, h => by
    have hb : ¬ b = c := fun e => h (by simp [e])
    have := splitO_one (c := c) (a := a) (fun h' => h (by simp [h']))
    simp only [splitO, hb, if_false, this]
theorem join_cons (x y : List UInt8) (l : List (List UInt8)) (c : UInt8) : Lib.join (x :: y :: l) [c] = x ++ c :: Lib.join (y :: l) [c] := by
  cases l <;> simp [Lib.join, List.intercalate, List.intersperse]
theorem splitO_join (c : UInt8) : ∀ s : List UInt8, Lib.join (splitO c s) [c] = s
  | [] => by simp [splitO, Lib.join, List.intercalate, List.intersperse]
  | b :: r => by
    have ih := splitO_join c r
    have hne := splitO_ne c r
    unfold splitO
    cases hs : splitO c r with
    | nil => exact absurd hs hne
    | cons h t =>
      rw [hs] at ih
      split
      · rename_i hb; subst hb
        rw [join_cons, ih]; rfl
      · simp only
        cases t with
        | nil => simp [Lib.join, List.intercalate, List.intersperse] at ih ⊢; exact ih
        | cons h2 t2 => rw [join_cons] at ih ⊢; rw [← ih]; rfl
theorem cutO_sep {c : UInt8} : ∀ {a : List UInt8} (r : List UInt8), c ∉ a → cutO c (a ++ c :: r) = (a, r, true)
  | [], r, _ => by simp [cutO]
  | b :: a, r, h => by
    have hb : ¬ b = c := fun e => h (by simp [e])
    have := cutO_sep (c := c) (a := a) r (fun h' => h (by simp [h']))
    simp only [List.cons_append, cutO, hb, if_false, this]
theorem cutO_back {c : UInt8} : ∀ {s : List UInt8}, (cutO c s).2.2 = true → s = (cutO c s).1 ++ c :: (cutO c s).2.1
  | [], h => by simp [cutO] at h
  | b :: r, h => by
    unfold cutO at h ⊢
    split
    · rename_i hb; subst hb; simp
    · rename_i hb
      rw [if_neg hb] at h
      have := cutO_back (c := c) (s := r) h
      simp only [List.cons_append]
      rw [← this]
/-! Lines. -/
def hasL (e : Ev) : Prop := ¬ (wordS e.act = [] ∨ e.who < 0 ∨ e.n < 0)
instance (e : Ev) : Decidable (hasL e) := by unfold hasL; infer_instance
def bodyS (e : Ev) : List UInt8 := Lib.join (partsS e) [32]
theorem line_yes {e : Ev} (h : hasL e) : lineS e = bodyS e ++ [10] := by unfold lineS; rw [if_neg h]; rfl
theorem line_no {e : Ev} (h : ¬ hasL e) : lineS e = [] := by unfold lineS; rw [if_pos (Decidable.not_not.1 h)]
theorem hd_no (p : Nat) : hd p ≠ 32 ∧ hd p ≠ 10 := by
  by_cases h : p < 16
  · have : ∀ p : Fin 16, hd p.val ≠ 32 ∧ hd p.val ≠ 10 := by decide +kernel
    exact this ⟨p, h⟩
  · have : hd p = 0 := by
      unfold hd
      rw [List.getD_eq_getElem?_getD, List.getElem?_eq_none (by simp only [hexL, List.length_cons, List.length_nil]; omega)]; rfl
    rw [this]; decide
theorem hexOf_no : ∀ (t : List UInt8), ∀ b ∈ hexOf t, b ≠ 32 ∧ b ≠ 10
  | [], b, h => by simp [hexOf] at h
  | x :: t, b, h => by
    simp only [hexOf, List.mem_cons] at h
    rcases h with rfl | rfl | h
    · exact hd_no _
    · exact hd_no _
    · exact hexOf_no t b h
theorem bytesS_no (t : List UInt8) : ∀ b ∈ bytesS t, b ≠ 32 ∧ b ≠ 10 := by
  intro b hb
  rcases List.mem_cons.1 hb with rfl | hb
  · decide
  · exact hexOf_no t b hb
theorem itoa_no {n : Int} (h : 0 ≤ n) : ∀ b ∈ Lib.itoa n, b ≠ 32 ∧ b ≠ 10 := by
  obtain ⟨k, rfl⟩ : ∃ k : Nat, n = (k : Int) := ⟨n.toNat, by omega⟩
  rw [Lib.itoa_nonneg]
  intro b hb
  have := dec_digit k b hb
  constructor <;> (intro e; subst e; have h1 := this.1; simp at h1)
theorem wordS_no (n : Int) : ∀ b ∈ wordS n, b ≠ 32 ∧ b ≠ 10 := by
  unfold wordS
  split
  · rename_i h
    have : n = 1 ∨ n = 2 ∨ n = 3 ∨ n = 4 ∨ n = 5 ∨ n = 6 ∨ n = 7 ∨ n = 8 ∨ n = 9 ∨ n = 10 ∨ n = 11 ∨ n = 12 ∨ n = 13 := by omega
    rcases this with rfl | rfl | rfl | rfl | rfl | rfl | rfl | rfl | rfl | rfl | rfl | rfl | rfl <;> decide
  · intro b hb; simp at hb
theorem body_no {e : Ev} (h : hasL e) : (10 : UInt8) ∉ bodyS e := by
  have h1 : 0 ≤ e.who := by unfold hasL at h; omega
  have h2 : 0 ≤ e.n := by unfold hasL at h; omega
  unfold bodyS partsS
  rw [join6]
  intro hm
  simp only [List.mem_append, List.mem_cons] at hm
  rcases hm with hm | hm | hm | hm | hm | hm | hm | hm | hm | hm | hm
  · exact (wordS_no _ _ hm).2 rfl
  · cases hm
  · exact (itoa_no h1 _ hm).2 rfl
  · cases hm
  · exact (itoa_no h2 _ hm).2 rfl
  · cases hm
  · exact (bytesS_no _ _ hm).2 rfl
  · cases hm
  · exact (bytesS_no _ _ hm).2 rfl
  · cases hm
  · exact (bytesS_no _ _ hm).2 rfl
theorem pieces_body {e : Ev} (h : hasL e) : pieces (bodyS e) [32] = partsS e := by
  have h1 : 0 ≤ e.who := by unfold hasL at h; omega
  have h2 : 0 ≤ e.n := by unfold hasL at h; omega
  rw [pieces_one]
  unfold bodyS partsS
  rw [join6, splitO_sep _ fun hm => (wordS_no _ _ hm).1 rfl, splitO_sep _ fun hm => (itoa_no h1 _ hm).1 rfl, splitO_sep _ fun hm => (itoa_no h2 _ hm).1 rfl,
    splitO_sep _ fun hm => (bytesS_no _ _ hm).1 rfl, splitO_sep _ fun hm => (bytesS_no _ _ hm).1 rfl, splitO_one fun hm => (bytesS_no _ _ hm).1 rfl]
/-- A number that a script can have. -/
def EvLow (e : Ev) : Prop := e.who < 100000000000000000 ∧ e.n < 100000000000000000
theorem evL_body {e : Ev} (h : hasL e) (hl : EvLow e) : evL (partsS e) = (e, true) := by
  have h1 : 0 ≤ e.who := by unfold hasL at h; omega
  have h2 : 0 ≤ e.n := by unfold hasL at h; omega
  have h3 : 1 ≤ e.act ∧ e.act ≤ 13 := by
    have : ¬ wordS e.act = [] := fun h' => h (.inl h')
    rw [wordS_nil] at this
    exact Decidable.not_not.1 this
  unfold partsS evL
  simp only [do_word h3.1 h3.2, num_dec h1 hl.1, num_dec h2 hl.2, un_bytes, Bool.and_true, decide_eq_true_eq, Prod.mk.injEq, true_and]
  omega
theorem read_line {e : Ev} (h : hasL e) (hl : EvLow e) (k : Nat) (r : List UInt8) : readN (k + 1) (lineS e ++ r) = (readN k r).map (e :: ·) := by
  rw [line_yes h]
  have e1 : bodyS e ++ [10] ++ r = bodyS e ++ 10 :: r := by simp
  rw [e1]
  have hc := cutO_sep (a := bodyS e) r (body_no h)
  cases hb : bodyS e ++ 10 :: r with
  | nil => simp at hb
  | cons b t =>
    rw [hb] at hc
    simp only [readN, hc, pieces_body h, evL_body h hl, Bool.and_self, if_true]
theorem read_text : ∀ (l : List Ev) (k : Nat), (∀ e ∈ l, EvLow e) → (textS l).length ≤ k → readN k (textS l) = some (l.filter fun e => decide (hasL e))
  | [], k, _, _ => by cases k <;> simp [textS, readN]
  | e :: l, k, hl, hk => by
    have ht : textS (e :: l) = lineS e ++ textS l := by simp [textS]
    rw [ht] at hk ⊢
    by_cases h : hasL e
    · have hpos : 0 < (lineS e).length := by rw [line_yes h]; simp
      rw [List.length_append] at hk
      obtain ⟨k', rfl⟩ : ∃ k', k = k' + 1 := ⟨k - 1, by omega⟩
      rw [read_line h (hl e (by simp)), read_text l k' (fun x hx => hl x (by simp [hx])) (by omega)]
      simp [h]
    · rw [line_no h, List.nil_append]
      rw [line_no h, List.nil_append] at hk
      rw [read_text l k (fun x hx => hl x (by simp [hx])) hk]
      simp [h]
theorem list6 {L : List (List UInt8)} (h : (evL L).2 = true) : ∃ a b c d e f, L = [a, b, c, d, e, f] := by
  unfold evL at h
  split at h
  · exact ⟨_, _, _, _, _, _, rfl⟩
  · cases h
theorem evL_back {s : List UInt8} (h : (evL (pieces s [32])).2 = true) : bodyS (evL (pieces s [32])).1 = s ∧ hasL (evL (pieces s [32])).1 ∧ (evL (pieces s [32])).1.who < 1000000000000000000 ∧ (evL (pieces s [32])).1.n < 1000000000000000000 := by
  obtain ⟨a, b, c, d, e, f, hL⟩ := list6 h
  have hj := splitO_join 32 s
  rw [← pieces_one, hL] at hj
  rw [hL] at h ⊢
  simp only [evL, Bool.and_eq_true, decide_eq_true_eq] at h ⊢
  obtain ⟨⟨⟨⟨⟨h0, h1⟩, h2⟩, h3⟩, h4⟩, h5⟩ := h
  obtain ⟨d1, d2, d3⟩ := word_do h0
  obtain ⟨n1, n2, n3⟩ := num_back h1
  obtain ⟨m1, m2, m3⟩ := num_back h2
  refine ⟨?_, ?_, n3, m3⟩
  · unfold bodyS partsS
    simp only [d3, n1, m1, bytes_un h3, bytes_un h4, bytes_un h5]
    exact hj
  · rintro (h | h | h)
    · exact (wordS_nil _).1 h ⟨d1, d2⟩
    · simp only at h; omega
    · simp only at h; omega
theorem text_read : ∀ (k : Nat) (s : List UInt8) (l : List Ev), readN k s = some l → textS l = s ∧ ∀ e ∈ l, hasL e ∧ e.who < 1000000000000000000 ∧ e.n < 1000000000000000000
  | k, [], l, h => by
    have : l = [] := by cases k <;> simp [readN] at h <;> exact h
    subst this; exact ⟨rfl, by simp⟩
  | 0, b :: s, l, h => by simp [readN] at h
  | k + 1, b :: s, l, h => by
    simp only [readN] at h
    split at h
    · rename_i hc
      simp only [Bool.and_eq_true] at hc
      obtain ⟨c1, c2⟩ := hc
      cases hr : readN k (cutO 10 (b :: s)).2.1 with
      | none => rw [hr] at h; simp at h
      | some l' =>
        rw [hr] at h
        simp only [Option.map_some, Option.some.injEq] at h
        obtain ⟨t1, t2⟩ := text_read k _ _ hr
        obtain ⟨e1, e2, e3, e4⟩ := evL_back c2
        have hb := cutO_back c1
        subst h
        refine ⟨?_, fun e he => ?_⟩
        · show lineS _ ++ textS l' = _
          rw [line_yes e2, e1, t1]
          conv => rhs; rw [hb]
          simp
        · rcases List.mem_cons.1 he with rfl | he
          · exact ⟨e2, e3, e4⟩
          · exact t2 e he
    · cases h
end Go.Proofs.YtbamlhgjpggihaaDoor.tale

/- Texts of events: sizes, and what is cut. The plain law. -/
set_option linter.unusedVariables false
set_option linter.unusedSimpArgs false
namespace Go.Proofs.YtbamlhgjpggihaaDoor.tale
open Go.Gz Go.Gz.H
theorem line_min {e : Ev} (h : hasL e) : 2 * (e.text.length + e.val.length + e.into.length) + 1 ≤ (lineS e).length := by
  rw [line_yes h]
  unfold bodyS partsS
  simp only [join6, List.length_append, List.length_cons, bytesS_len, List.length_nil]
  omega
theorem text_min : ∀ {l : List Ev}, (∀ e ∈ l, hasL e) → l.length ≤ (textS l).length ∧ ∀ e ∈ l, 2 * (e.text.length + e.val.length + e.into.length) ≤ (textS l).length
  | [], _ => by simp
  | e :: l, h => by
    obtain ⟨h1, h2⟩ := text_min (l := l) fun x hx => h x (by simp [hx])
    have h3 := line_min (h e (by simp))
    have ht : textS (e :: l) = lineS e ++ textS l := by simp [textS]
    rw [ht, List.length_append]
    refine ⟨by simp only [List.length_cons]; omega, fun x hx => ?_⟩
    rcases List.mem_cons.1 hx with rfl | hx
    · omega
    · have := h2 x hx; omega
/-- Events that are read of a short text can be told as a text again. -/
theorem read_okE {k : Nat} {s : List UInt8} {l : List Ev} (h : readN k s = some l) (hs : s.length ≤ 20000) : textS l = s ∧ l.length ≤ 20000 ∧ ∀ e ∈ l, EvOk e := by
  obtain ⟨h1, h2⟩ := text_read k s l h
  obtain ⟨h3, h4⟩ := text_min fun e he => (h2 e he).1
  rw [h1] at h3 h4
  refine ⟨h1, by omega, fun e he => ?_⟩
  obtain ⟨g1, g2, g3⟩ := h2 e he
  have g4 := h4 e he
  unfold hasL at g1
  exact ⟨by omega, by omega, by omega, by omega, by omega⟩
def Whole (s : List UInt8) (k : Nat) : Prop := k = 0 ∨ s[k - 1]? = some 10
theorem text_end : ∀ l : List Ev, textS l = [] ∨ (textS l)[(textS l).length - 1]? = some 10
  | [] => .inl rfl
  | e :: l => by
    have ht : textS (e :: l) = lineS e ++ textS l := by simp [textS]
    rw [ht]
    rcases text_end l with h | h
    · rw [h, List.append_nil]
      by_cases he : hasL e
      · right
        rw [line_yes he]; simp
      · left; exact line_no he
    · right
      have hpos : 0 < (textS l).length := by
        have := idx_lt h; omega
      rw [List.getElem?_append_right (by rw [List.length_append]; omega), List.length_append]
      have : (lineS e).length + (textS l).length - 1 - (lineS e).length = (textS l).length - 1 := by omega
      rw [this]; exact h
theorem pre_lines : ∀ (l : List Ev) (k : Nat), k ≤ (textS l).length → Whole (textS l) k → ∃ j, (textS l).take k = textS (l.take j)
  | [], k, hk, _ => ⟨0, by simp [textS]⟩
  | e :: l, k, hk, hw => by
    have ht : textS (e :: l) = lineS e ++ textS l := by simp [textS]
    rw [ht] at hk hw ⊢
    have ht2 : ∀ j, textS ((e :: l).take (j + 1)) = lineS e ++ textS (l.take j) := fun j => by simp [textS]
    by_cases he : hasL e
    · have hlen : (lineS e).length = (bodyS e).length + 1 := by rw [line_yes he]; simp
      rw [List.length_append] at hk
      by_cases hk0 : k = 0
      · exact ⟨0, by subst hk0; simp [textS]⟩
      · rcases hw with h | hw
        · exact absurd h hk0
        · by_cases hkb : k ≤ (bodyS e).length
          · rw [List.getElem?_append_left (by omega), line_yes he, List.getElem?_append_left (by omega)] at hw
            exact absurd (List.mem_of_getElem? hw) (body_no he)
          · obtain ⟨k', rfl⟩ : ∃ k', k = (lineS e).length + k' := ⟨k - (lineS e).length, by omega⟩
            have hw' : Whole (textS l) k' := by
              by_cases h0 : k' = 0
              · exact .inl h0
              · right
                rw [List.getElem?_append_right (by omega)] at hw
                have : (lineS e).length + k' - 1 - (lineS e).length = k' - 1 := by omega
                rwa [this] at hw
            obtain ⟨j, hj⟩ := pre_lines l k' (by omega) hw'
            refine ⟨j + 1, ?_⟩
            rw [ht2, ← hj, List.take_append, List.take_of_length_le (by omega)]
            congr 2; omega
    · rw [line_no he, List.nil_append] at hk hw ⊢
      obtain ⟨j, hj⟩ := pre_lines l k hk hw
      exact ⟨j + 1, by rw [ht2, line_no he, List.nil_append]; exact hj⟩
theorem read_pre {l : List Ev} (hl : ∀ e ∈ l, EvLow e) {k : Nat} (hk : k ≤ (textS l).length) : (∃ m, readN ((textS l).take k).length ((textS l).take k) = some m) ↔ Whole (textS l) k := by
  constructor
  · rintro ⟨m, h⟩
    obtain ⟨h1, _⟩ := text_read _ _ _ h
    rcases text_end m with h2 | h2
    · rw [h1] at h2
      left
      have := congrArg List.length h2
      simp only [List.length_take, List.length_nil] at this
      omega
    · rw [h1] at h2
      have hlen : ((textS l).take k).length = k := by rw [List.length_take]; omega
      rw [hlen] at h2
      by_cases h0 : k = 0
      · exact .inl h0
      · right
        rw [List.getElem?_take, if_pos (by omega)] at h2
        exact h2
  · intro h
    obtain ⟨j, hj⟩ := pre_lines l k hk h
    rw [hj]
    exact ⟨_, read_text (l.take j) _ (fun e he => hl e (List.mem_of_mem_take he)) (Nat.le_refl _)⟩
theorem text_append (a b : List Ev) : textS (a ++ b) = textS a ++ textS b := by simp [textS]
end Go.Proofs.YtbamlhgjpggihaaDoor.tale
