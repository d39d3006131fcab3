/- The builder's functions: what they answer. Condition: no more than so many bytes. -/
import Derived.Test.YtbamlhgjpggihaaDoorTB
set_option linter.unusedVariables false
set_option linter.unusedSimpArgs false
namespace Go.Proofs.YtbamlhgjpggihaaDoor.tale
open Go.RowKit Go.Gz Go.Gz.H
abbrev r16_0 : List MOper := [⟨(some 4), .move (.c (.int .i64 0)), none⟩,
  ⟨(some 5), .move (.c (.nilif)), none⟩]
def b16_0 : SCode := .region r16_0
abbrev r16_1 : List MOper := [⟨(some 6), .move (.t 0), none⟩,
  ⟨(some 7), .call 24 [(.t 6)], none⟩]
def b16_1 : SCode := .region r16_1
abbrev r16_2 : List MOper := [⟨(some 8), .move (.t 0), none⟩,
  ⟨(some 9), .move (.t 0), none⟩,
  ⟨(some 10), .nilCheck (.t 9), none⟩,
  ⟨(some 11), .fieldAddr 1 (.t 10), none⟩,
  ⟨(some 12), .load1 (.t 11), none⟩,
  ⟨(some 13), .move (.t 1), none⟩,
  ⟨(some 14), .ext (.bapp 5) [(.t 12), (.t 13)], none⟩,
  ⟨(some 15), .nilCheck (.t 8), none⟩,
  ⟨(some 16), .fieldAddr 1 (.t 15), none⟩,
  ⟨none, .store 1 (.t 16) (.t 14), none⟩]
def b16_2 : SCode := .region r16_2
abbrev r16_3 : List MOper := [⟨(some 17), .move (.t 1), none⟩,
  ⟨(some 18), .lenStr (.t 17), none⟩,
  ⟨(some 4), .move (.t 18), none⟩,
  ⟨(some 5), .move (.c (.nilif)), none⟩]
def b16_3 : SCode := .region r16_3
def b16_4 : SCode := .seq b16_3 .ret
def b16_5 : SCode := .seq b16_2 b16_4
def b16_6 : SCode := .seq b16_1 b16_5
def b16_7 : SCode := .seq b16_0 b16_6
def s16 : SFunc := ⟨19, [.t 4, .t 5], b16_7⟩
theorem c16 : sFn Tryd.prog 16 = some s16 := by kernel_rfl
theorem Z16 : XR b16_0 r16_0 ∧ XR b16_1 r16_1 ∧ XR b16_2 r16_2 ∧ XR b16_3 r16_3 ∧ XS b16_4 b16_3 .ret ∧ XS b16_5 b16_2 b16_4 ∧ XS b16_6 b16_1 b16_5 ∧ XS b16_7 b16_0 b16_6 ∧ XY s16 19 b16_7 [.t 4, .t 5] := ⟨rfl, rfl, rfl, rfl, rfl, rfl, rfl, rfl, rfl⟩
abbrev r20_0 : List MOper := [⟨(some 2), .move (.c (.str [])), none⟩]
def b20_0 : SCode := .region r20_0
abbrev t20_1 : LTree := (.quiet ⟨(some 3), .move (.t 0), none⟩ 0
  (.quiet ⟨(some 4), .nilCheck (.t 3), none⟩ 1
  (.quiet ⟨(some 5), .fieldAddr 1 (.t 4), none⟩ 2
  (.quiet ⟨(some 6), .load1 (.t 5), none⟩ 3
  (.quiet ⟨(some 8), .move (.t 0), none⟩ 5
  (.quiet ⟨(some 9), .nilCheck (.t 8), none⟩ 6
  (.quiet ⟨(some 10), .fieldAddr 1 (.t 9), none⟩ 7
  (.quiet ⟨(some 11), .load1 (.t 10), none⟩ 8
  (.quiet ⟨(some 12), .lenSl (.t 11), none⟩ 9
  (.loud ⟨(some 7), .ext .sliceData [(.t 6)], none⟩ [8]
  (.loud ⟨(some 13), .ext (.uString 5) [(.t 7), (.t 12)], none⟩ []
  (.quiet ⟨(some 2), .move (.t 13), none⟩ 11
  .leaf) .stop) .stop))))))))))
def b20_1 : SCode := .draw t20_1
def b20_2 : SCode := .seq b20_1 .ret
def b20_3 : SCode := .seq b20_0 b20_2
def s20 : SFunc := ⟨14, [.t 2], b20_3⟩
theorem c20 : sFn Tryd.prog 20 = some s20 := by kernel_rfl
theorem Z20 : XR b20_0 r20_0 ∧ XT b20_1 t20_1 ∧ XS b20_2 b20_1 .ret ∧ XS b20_3 b20_0 b20_2 ∧ XY s20 14 b20_3 [.t 2] := ⟨rfl, rfl, rfl, rfl, rfl⟩
abbrev r24_0 : List MOper := [⟨(some 2), .move (.t 0), none⟩,
  ⟨(some 3), .nilCheck (.t 2), none⟩,
  ⟨(some 4), .fieldAddr 0 (.t 3), none⟩,
  ⟨(some 5), .load1 (.t 4), none⟩,
  ⟨(some 6), .bin .eql .nilp (.t 5) (.c (.nilptr)), none⟩]
def b24_0 : SCode := .region r24_0
abbrev r24_1 : List MOper := [⟨(some 7), .move (.t 0), none⟩,
  ⟨(some 8), .move (.t 0), none⟩,
  ⟨(some 9), .ext (.cast 46 2) [(.t 8)], none⟩,
  ⟨(some 10), .ext .noEsc [(.t 9)], none⟩,
  ⟨(some 11), .ext (.cast 46 2) [(.t 10)], none⟩,
  ⟨(some 12), .nilCheck (.t 7), none⟩,
  ⟨(some 13), .fieldAddr 0 (.t 12), none⟩,
  ⟨none, .store 1 (.t 13) (.t 11), none⟩]
def b24_1 : SCode := .region r24_1
abbrev r24_2 : List MOper := [⟨(some 14), .move (.t 0), none⟩,
  ⟨(some 15), .nilCheck (.t 14), none⟩,
  ⟨(some 16), .fieldAddr 0 (.t 15), none⟩,
  ⟨(some 17), .load1 (.t 16), none⟩,
  ⟨(some 18), .move (.t 0), none⟩,
  ⟨(some 19), .bin .neq .nilp (.t 17) (.t 18), none⟩]
def b24_2 : SCode := .region r24_2
abbrev r24_3 : List MOper := [⟨none, .capOf (.c (.bool false)), none⟩]
def b24_3 : SCode := .region r24_3
def b24_4 : SCode := .cond (.t 19) b24_3 .skip
def b24_5 : SCode := .seq b24_2 b24_4
def b24_6 : SCode := .cond (.t 6) b24_1 b24_5
def b24_7 : SCode := .seq b24_0 b24_6
def s24 : SFunc := ⟨20, [], b24_7⟩
theorem c24 : sFn Tryd.prog 24 = some s24 := by kernel_rfl
theorem Z24 : XR b24_0 r24_0 ∧ XR b24_1 r24_1 ∧ XR b24_2 r24_2 ∧ XR b24_3 r24_3 ∧ XC b24_4 (.t 19) b24_3 .skip ∧ XS b24_5 b24_2 b24_4 ∧ XC b24_6 (.t 6) b24_1 b24_5 ∧ XS b24_7 b24_0 b24_6 ∧ XY s24 20 b24_7 [] := ⟨rfl, rfl, rfl, rfl, sC_cond, rfl, sC_cond, rfl, rfl⟩

set_option maxHeartbeats 4000000
set_option maxRecDepth 10000
/-- A builder that holds such bytes. -/
def BAt (σ : AHeap) (id : Nat) (bs : List UInt8) : Prop := ∃ p v, hget σ id = some [p, v] ∧ (p = .nilptr ∨ p = .bptr id 46) ∧ ((v = .nilslice ∧ bs = []) ∨ ∃ d, v = .brow d bs.length 5 ∧ (d ≠ id ∧ bs ≠ []) ∧ hget σ d = some (bs.map byteAV))
theorem bat_frame {σ τ : AHeap} {id : Nat} {bs : List UInt8} (h : BAt σ id bs) (hf : ∀ j c, hget σ j = some c → hget τ j = some c) : BAt τ id bs := by
  obtain ⟨p, v, h1, h2, h3⟩ := h
  refine ⟨p, v, hf _ _ h1, h2, ?_⟩
  rcases h3 with h3 | ⟨d, h4, h5, h6⟩
  · exact .inl h3
  · exact .inr ⟨d, h4, h5, hf _ _ h6⟩
/-! copyCheck. -/
def ccD (args : List AV) (σ : AHeap) (K : AV → AHeap → Prop) : Prop := ∃ id p v, args = [.bptr id 46] ∧ hget σ id = some [p, v] ∧ ((p = .nilptr ∧ K (.tuple []) (hset σ id [.bptr id 46, v])) ∨ (p = .bptr id 46 ∧ K (.tuple []) σ))
theorem ccD_ok (args : List AV) (σ : AHeap) (K : AV → AHeap → Prop) (h : ccD args σ K) : Tri Tryd.prog 24 args σ K := by
  obtain ⟨id, p, v, rfl, hg, h⟩ := h
  refine Tri.of_s c24 (noCall_sound _) ?_
  rcases h with ⟨rfl, h⟩ | ⟨rfl, h⟩
  · simp only [Z24, base1, baseX, baseY, ↓reduceIte, Nat.reduceAdd, Nat.reduceSub, Nat.reduceMul, Nat.reduceEqDiff, Nat.reduceLeDiff, Nat.reduceLT, Int.reduceLT, Int.reduceLE, Int.reduceEq, Int.reduceNe, Int.reduceToNat, Int.reduceAdd, Int.reduceSub, reduceCtorEq, Nat.reduceBEq, Nat.reduceBNe, hg]
    exact h
  · simp only [Z24, base1, baseX, baseY, ↓reduceIte, Nat.reduceAdd, Nat.reduceSub, Nat.reduceMul, Nat.reduceEqDiff, Nat.reduceLeDiff, Nat.reduceLT, Int.reduceLT, Int.reduceLE, Int.reduceEq, Int.reduceNe, Int.reduceToNat, Int.reduceAdd, Int.reduceSub, reduceCtorEq, Nat.reduceBEq, Nat.reduceBNe, hg]
    exact h
/-! WriteString. -/
def wsD (args : List AV) (σ : AHeap) (K : AV → AHeap → Prop) : Prop := ∃ id s bs, args = [.bptr id 46, .str s] ∧ BAt σ id bs ∧ bs.length + s.length ≤ 1000000000 ∧ ∀ σ', BAt σ' id (bs ++ s) → K (.tuple [.int .i64 (s.length : Int), .nilif]) σ'
def U16 : PCall := rowQ 24 ccD noCall
theorem U16_app {f : FuncId} {args : List AV} {σ : AHeap} {K : AV → AHeap → Prop} : U16 f args σ K = rowQ 24 ccD noCall f args σ K := _root_.id rfl
theorem U16_sound : Sound Tryd.prog U16 := rowQ_sound ccD_ok (noCall_sound _)
theorem ws_tail {σ1 : AHeap} {id : Nat} {v : AV} {s bs : List UInt8} {K : AV → AHeap → Prop} (hg : hget σ1 id = some [.bptr id 46, v]) (hv : (v = .nilslice ∧ bs = []) ∨ ∃ d, v = .brow d bs.length 5 ∧ (d ≠ id ∧ bs ≠ []) ∧ hget σ1 d = some (bs.map byteAV))
    (hl : bs.length + s.length ≤ 1000000000) (hK : ∀ σ', BAt σ' id (bs ++ s) → K (.tuple [.int .i64 (s.length : Int), .nilif]) σ') :
    ∃ w τ, evExt σ1 (.bapp 5) [v, .str s] = some (w, τ) ∧ w.cells? = some [w] ∧ w.isCell = true ∧ hget τ id = some [.bptr id 46, v] ∧ BAt (hset τ id [.bptr id 46, w]) id (bs ++ s) := by
  have hid := hget_lt hg
  rcases hv with ⟨rfl, rfl⟩ | ⟨d, rfl, ⟨hd, hne⟩, hgd⟩
  · by_cases hs : s = []
    · subst hs
      refine ⟨.nilslice, σ1, by simp [evExt], rfl, rfl, hg, _, _, set_same hg, .inr rfl, .inl ⟨rfl, rfl⟩⟩
    · have hmg : mayGrow s.length 1 = true := by simp only [mayGrow, decide_eq_true_eq]; simp at hl; omega
      refine ⟨.brow σ1.length s.length 5, hpush σ1 (s.map byteAV), by simp [evExt, hs, hmg], rfl, rfl, push_old hg, _, _, set_same (push_old hg), .inr rfl, .inr ⟨σ1.length, by simp, ⟨by omega, by simpa using hs⟩, ?_⟩⟩
      rw [set_other (by omega)]
      exact push_new rfl
  · have hmg : mayGrow (bs.length + s.length) 1 = true := by simp only [mayGrow, decide_eq_true_eq]; omega
    have hsub : sub (bs.map byteAV) 0 bs.length = some (bs.map byteAV) := sub_all (by simp)
    have hdl := hget_lt hgd
    refine ⟨.brow σ1.length (bs.length + s.length) 5, hpush (hkill σ1 d) (bs.map byteAV ++ s.map byteAV), by simp [evExt, hmg, hgd, hsub], rfl, rfl, ?_, _, _, set_same (?_ : hget (hpush (hkill σ1 d) (bs.map byteAV ++ s.map byteAV)) id = some [.bptr id 46, .brow d bs.length 5]), .inr rfl, .inr ⟨σ1.length, by simp, ⟨by omega, by simp [hne]⟩, ?_⟩⟩
    · exact push_old (by rw [kill_other hd]; exact hg)
    · exact push_old (by rw [kill_other hd]; exact hg)
    · rw [set_other (by omega), List.map_append]
      exact push_new (by simp [kill_len])
theorem wsD_ok (args : List AV) (σ : AHeap) (K : AV → AHeap → Prop) (h : wsD args σ K) : Tri Tryd.prog 16 args σ K := by
  obtain ⟨id, s, bs, rfl, ⟨p, v, hg, hp, hv⟩, hl, hK⟩ := h
  refine Tri.of_s c16 U16_sound ?_
  simp only [U16_app, Z16, base1, baseX, baseY, ↓reduceIte, Nat.reduceAdd, Nat.reduceSub, Nat.reduceMul, Nat.reduceEqDiff, Nat.reduceLeDiff, Nat.reduceLT, Int.reduceLT, Int.reduceLE, Int.reduceEq, Int.reduceNe, Int.reduceToNat, Int.reduceAdd, Int.reduceSub, reduceCtorEq, Nat.reduceBEq, Nat.reduceBNe]
  have fin : ∀ σ1 (e : Env), hget σ1 id = some [.bptr id 46, v] → ((v = .nilslice ∧ bs = []) ∨ ∃ d, v = .brow d bs.length 5 ∧ (d ≠ id ∧ bs ≠ []) ∧ hget σ1 d = some (bs.map byteAV)) → e 0 = .bptr id 46 → e 1 = .str s →
      sC U16 σ.length b16_5 (unw U16 σ.length (RetQ [.t 4, .t 5] K) .fin) e σ1 := by
    intro σ1 e hg1 hv1 e0 e1
    obtain ⟨w, τ, a1, a2, a3, a4, a5⟩ := ws_tail hg1 hv1 hl hK
    simp only [U16_app, Z16, base1, baseX, baseY, ↓reduceIte, Nat.reduceAdd, Nat.reduceSub, Nat.reduceMul, Nat.reduceEqDiff, Nat.reduceLeDiff, Nat.reduceLT, Int.reduceLT, Int.reduceLE, Int.reduceEq, Int.reduceNe, Int.reduceToNat, Int.reduceAdd, Int.reduceSub, reduceCtorEq, Nat.reduceBEq, Nat.reduceBNe, e0, e1, hg1, a1, a2, a3, a4]
    exact hK _ a5
  refine ⟨id, p, v, rfl, hg, ?_⟩
  rcases hp with rfl | rfl
  · refine .inl ⟨rfl, ?_⟩
    simp only [nxt_app, sOps_nil, unw_seq_normal]
    refine fin _ _ (set_same hg) ?_ rfl rfl
    rcases hv with h | ⟨d, h1, h2, h3⟩
    · exact .inl h
    · exact .inr ⟨d, h1, h2, by rw [set_other (by have := h2.1; omega)]; exact h3⟩
  · refine .inr ⟨rfl, ?_⟩
    simp only [nxt_app, sOps_nil, unw_seq_normal]
    exact fin _ _ hg hv rfl rfl
theorem lenOf_brow {d n : Nat} {t : TypeId} : lenOf (.brow d n t) = some n := _root_.id rfl
/-! String. -/
def strD (args : List AV) (σ : AHeap) (K : AV → AHeap → Prop) : Prop := ∃ id bs, args = [.bptr id 46] ∧ BAt σ id bs ∧ bs.length ≤ 1000000000 ∧ ∀ σ', K (.str bs) σ'
theorem strD_ok (args : List AV) (σ : AHeap) (K : AV → AHeap → Prop) (h : strD args σ K) : Tri Tryd.prog 20 args σ K := by
  obtain ⟨id, bs, rfl, ⟨p, v, hg, hp, hv⟩, hl, hK⟩ := h
  refine Tri.of_s c20 (noCall_sound _) ?_
  rcases hv with ⟨rfl, rfl⟩ | ⟨d, rfl, ⟨hd, hne⟩, hgd⟩
  · simp only [Z20, base1, baseX, baseY, ↓reduceIte, Nat.reduceAdd, Nat.reduceSub, Nat.reduceMul, Nat.reduceEqDiff, Nat.reduceLeDiff, Nat.reduceLT, Int.reduceLT, Int.reduceLE, Int.reduceEq, Int.reduceNe, Int.reduceToNat, Int.reduceAdd, Int.reduceSub, reduceCtorEq, Nat.reduceBEq, Nat.reduceBNe, lenOf_nilS, hg]
    exact hK _
  · have hsub : sub (bs.map byteAV) 0 bs.length = some (bs.map byteAV) := sub_all (by simp)
    have h1 : 0 < bs.length := by cases bs with | nil => exact absurd rfl hne | cons => simp
    have h2 : (0 : Int) < (bs.length : Int) := by omega
    have hmg : 2 * bs.length ≤ 281474976709888 := by omega
    simp only [Z20, base1, baseX, baseY, ↓reduceIte, Nat.reduceAdd, Nat.reduceSub, Nat.reduceMul, Nat.reduceEqDiff, Nat.reduceLeDiff, Nat.reduceLT, Int.reduceLT, Int.reduceLE, Int.reduceEq, Int.reduceNe, Int.reduceToNat, Int.reduceAdd, Int.reduceSub, reduceCtorEq, Nat.reduceBEq, Nat.reduceBNe, lenOf_brow, hg, h1, h2, Int.toNat_natCast, hmg, hgd, hsub, bytes_ofR]
    exact hK _
end Go.Proofs.YtbamlhgjpggihaaDoor.tale

/- Text: what it answers. Condition: no more than twenty thousand events, each of no more than twelve thousand bytes. -/
set_option linter.unusedVariables false
set_option linter.unusedSimpArgs false
namespace Go.Proofs.YtbamlhgjpggihaaDoor.tale
open Go.RowKit Go.Gz Go.Gz.H
abbrev r9_0 : List MOper := [⟨(some 2), .move (.c (.str [])), none⟩]
def b9_0 : SCode := .region r9_0
abbrev r9_1 : List MOper := [⟨(some 3), .ext (.allocT 46 [.nilptr, .nilslice]) [], none⟩]
def b9_1 : SCode := .region r9_1
abbrev r9_2 : List MOper := [⟨(some 7), .move (.t 0), none⟩,
  ⟨(some 8), .lenSl (.t 7), none⟩,
  ⟨(some 9), .move (.c (.int .i64 0)), none⟩]
def b9_2 : SCode := .region r9_2
abbrev r9_3 : List MOper := [⟨(some 10), .bin .lss .num (.t 9) (.t 8), none⟩]
def b9_3 : SCode := .region r9_3
def b9_4 : SCode := .cond (.t 10) .skip (.exit 0)
abbrev r9_5 : List MOper := [⟨(some 11), .indexAddr 6 (.t 7) (.t 9), none⟩,
  ⟨(some 12), .loadN 6 (.t 11), none⟩,
  ⟨(some 5), .alloc [.int .i64 0, .int .i64 0, .int .i64 0, .str [], .str [], .str []], none⟩,
  ⟨none, .store 6 (.t 5) (.t 12), none⟩]
def b9_5 : SCode := .region r9_5
abbrev r9_6 : List MOper := [⟨(some 13), .fieldAddr 0 (.t 5), none⟩,
  ⟨(some 14), .load1 (.t 13), none⟩,
  ⟨(some 15), .call 15 [(.t 14)], none⟩,
  ⟨(some 6), .move (.t 15), none⟩]
def b9_6 : SCode := .region r9_6
abbrev r9_7 : List MOper := [⟨(some 16), .move (.t 6), none⟩,
  ⟨(some 17), .bin .eql .num (.t 16) (.c (.str [])), none⟩,
  ⟨(some 18), .move (.t 17), none⟩,
  ⟨(some 19), .fieldAddr 1 (.t 5), (some (18, false))⟩,
  ⟨(some 20), .load1 (.t 19), (some (18, false))⟩,
  ⟨(some 21), .bin .lss .num (.t 20) (.c (.int .i64 0)), (some (18, false))⟩,
  ⟨(some 22), .pick (.t 18) (.c (.bool true)) (.t 21), none⟩,
  ⟨(some 23), .move (.t 22), none⟩,
  ⟨(some 24), .fieldAddr 2 (.t 5), (some (23, false))⟩,
  ⟨(some 25), .load1 (.t 24), (some (23, false))⟩,
  ⟨(some 26), .bin .lss .num (.t 25) (.c (.int .i64 0)), (some (23, false))⟩,
  ⟨(some 27), .pick (.t 23) (.c (.bool true)) (.t 26), none⟩]
def b9_7 : SCode := .region r9_7
def b9_8 : SCode := .cond (.t 27) (.exit 1) .skip
def b9_9 : SCode := .seq b9_7 b9_8
abbrev t9_10 : LTree := (.quiet ⟨(some 28), .move (.t 6), none⟩ 0
  (.quiet ⟨(some 29), .fieldAddr 1 (.t 5), none⟩ 1
  (.quiet ⟨(some 30), .load1 (.t 29), none⟩ 2
  (.quiet ⟨(some 32), .fieldAddr 2 (.t 5), none⟩ 4
  (.quiet ⟨(some 33), .load1 (.t 32), none⟩ 5
  (.quiet ⟨(some 35), .fieldAddr 3 (.t 5), none⟩ 7
  (.quiet ⟨(some 36), .load1 (.t 35), none⟩ 8
  (.quiet ⟨(some 38), .fieldAddr 4 (.t 5), none⟩ 10
  (.quiet ⟨(some 39), .load1 (.t 38), none⟩ 11
  (.quiet ⟨(some 41), .fieldAddr 5 (.t 5), none⟩ 13
  (.quiet ⟨(some 42), .load1 (.t 41), none⟩ 14
  (.loud ⟨(some 31), .call 18 [(.t 30)], none⟩ [5, 8, 11, 14]
  (.loud ⟨(some 34), .call 18 [(.t 33)], none⟩ [8, 11, 14]
  (.loud ⟨(some 37), .call 19 [(.t 36)], none⟩ [11, 14]
  (.loud ⟨(some 40), .call 19 [(.t 39)], none⟩ [14]
  (.loud ⟨(some 43), .call 19 [(.t 42)], none⟩ []
  (.loud ⟨(some 44), .buildSlice [.str []] 1 6 [(0, 1, (.t 28)), (1, 1, (.t 31)), (2, 1, (.t 34)), (3, 1, (.t 37)), (4, 1, (.t 40)), (5, 1, (.t 43))], none⟩ []
  (.loud ⟨(some 45), .call 17 [(.t 44), (.c (.str [32]))], none⟩ []
  (.quiet ⟨(some 46), .bin .add .num (.t 45) (.c (.str [10])), none⟩ 18
  (.loud ⟨(some 47), .call 16 [(.t 3), (.t 46)], none⟩ []
  .leaf .stop)) .stop) .stop) .stop) .stop) .stop) .stop) .stop))))))))))))
def b9_10 : SCode := .draw t9_10
def b9_11 : SCode := .seq b9_9 b9_10
def b9_12 : SCode := .seq b9_6 b9_11
def b9_13 : SCode := .seq b9_5 b9_12
def b9_14 : SCode := .block 1 b9_13
abbrev r9_15 : List MOper := [⟨(some 48), .bin .add .num (.t 9) (.c (.int .i64 1)), none⟩,
  ⟨(some 9), .move (.t 48), none⟩]
def b9_15 : SCode := .region r9_15
def b9_16 : SCode := .seq b9_14 b9_15
def b9_17 : SCode := .seq b9_4 b9_16
def b9_18 : SCode := .seq b9_3 b9_17
def b9_19 : SCode := .loop b9_18
def b9_20 : SCode := .block 0 b9_19
def b9_21 : SCode := .seq b9_2 b9_20
abbrev r9_22 : List MOper := [⟨(some 49), .call 20 [(.t 3)], none⟩,
  ⟨(some 2), .move (.t 49), none⟩]
def b9_22 : SCode := .region r9_22
def b9_23 : SCode := .seq b9_22 .ret
def b9_24 : SCode := .seq b9_21 b9_23
def b9_25 : SCode := .seq b9_1 b9_24
def b9_26 : SCode := .seq b9_0 b9_25
def s9 : SFunc := ⟨50, [.t 2], b9_26⟩
theorem c9 : sFn Tryd.prog 9 = some s9 := by kernel_rfl
theorem Z9 : XR b9_0 r9_0 ∧ XR b9_1 r9_1 ∧ XR b9_2 r9_2 ∧ XR b9_3 r9_3 ∧ XC b9_4 (.t 10) .skip (.exit 0) ∧ XR b9_5 r9_5 ∧ XR b9_6 r9_6 ∧ XR b9_7 r9_7 ∧ XC b9_8 (.t 27) (.exit 1) .skip ∧ XS b9_9 b9_7 b9_8 ∧ XT b9_10 t9_10 ∧ XS b9_11 b9_9 b9_10 ∧ XS b9_12 b9_6 b9_11 ∧ XS b9_13 b9_5 b9_12 ∧ XB b9_14 1 b9_13 ∧ XR b9_15 r9_15 ∧ XS b9_16 b9_14 b9_15 ∧ XS b9_17 b9_4 b9_16 ∧ XS b9_18 b9_3 b9_17 ∧ XB b9_20 0 b9_19 ∧ XS b9_21 b9_2 b9_20 ∧ XR b9_22 r9_22 ∧ XS b9_23 b9_22 .ret ∧ XS b9_24 b9_21 b9_23 ∧ XS b9_25 b9_1 b9_24 ∧ XS b9_26 b9_0 b9_25 ∧ XY s9 50 b9_26 [.t 2] := ⟨rfl, rfl, rfl, rfl, sC_cond, rfl, rfl, rfl, sC_cond, rfl, rfl, rfl, rfl, rfl, rfl, rfl, rfl, rfl, rfl, rfl, rfl, rfl, rfl, rfl, rfl, rfl, rfl⟩

set_option maxHeartbeats 4000000
set_option maxRecDepth 10000
structure EvOk (e : Ev) : Prop where
  w0 : -9223372036854775808 ≤ e.who
  w1 : e.who ≤ 9223372036854775807
  n0 : -9223372036854775808 ≤ e.n
  n1 : e.n ≤ 9223372036854775807
  len : e.text.length + e.val.length + e.into.length ≤ 12000
def partsS (e : Ev) : List (List UInt8) := [wordS e.act, Lib.itoa e.who, Lib.itoa e.n, bytesS e.text, bytesS e.val, bytesS e.into]
def lineS (e : Ev) : List UInt8 := if wordS e.act = [] ∨ e.who < 0 ∨ e.n < 0 then [] else Lib.join (partsS e) [32] ++ [10]
def textS (l : List Ev) : List UInt8 := l.flatMap lineS
theorem wordS_len (n : Int) : (wordS n).length ≤ 7 := by
  unfold wordS
  split
  · rename_i h
    have : n = 1 ∨ n = 2 ∨ n = 3 ∨ n = 4 ∨ n = 5 ∨ n = 6 ∨ n = 7 ∨ n = 8 ∨ n = 9 ∨ n = 10 ∨ n = 11 ∨ n = 12 ∨ n = 13 := by omega
    rcases this with rfl | rfl | rfl | rfl | rfl | rfl | rfl | rfl | rfl | rfl | rfl | rfl | rfl <;> decide
  · simp
theorem join6 (a b c d e f : List UInt8) : Lib.join [a, b, c, d, e, f] [32] = a ++ 32 :: (b ++ 32 :: (c ++ 32 :: (d ++ 32 :: (e ++ 32 :: f)))) := by
  simp [Lib.join, List.intercalate, List.intersperse]
theorem bytesS_len (s : List UInt8) : (bytesS s).length = 1 + 2 * s.length := by simp [bytesS, hexOf_len]; omega
theorem join_len {e : Ev} (h : EvOk e) : (Lib.join (partsS e) [32]).length ≤ 24100 := by
  have h1 := wordS_len e.act
  have h2 := Lib.itoa_length_le e.who h.w0 h.w1
  have h3 := Lib.itoa_length_le e.n h.n0 h.n1
  have h4 := h.len
  simp only [partsS, join6, List.length_append, List.length_cons, bytesS_len]
  omega
theorem lineS_len {e : Ev} (h : EvOk e) : (lineS e).length ≤ 24101 := by
  have := join_len h
  unfold lineS
  split
  · simp
  · simp; omega
theorem textS_len : ∀ {l : List Ev}, (∀ e ∈ l, EvOk e) → (textS l).length ≤ 24101 * l.length
  | [], _ => by simp [textS]
  | e :: l, h => by
    have h1 := lineS_len (h e (by simp))
    have h2 := textS_len (l := l) fun x hx => h x (by simp [hx])
    simp only [textS, List.flatMap_cons, List.length_append, List.length_cons] at h2 ⊢
    omega
def joinD (args : List AV) (σ : AHeap) (K : AV → AHeap → Prop) : Prop := ∃ id a b c d e f, args = [.slice id 0 6 (some 6) 1, .str [32]] ∧ hget σ id = some [.str a, .str b, .str c, .str d, .str e, .str f] ∧ (Lib.join [a, b, c, d, e, f] [32]).length ≤ 1000000 ∧ K (.str (Lib.join [a, b, c, d, e, f] [32])) σ
theorem joinD_ok (args : List AV) (σ : AHeap) (K : AV → AHeap → Prop) (h : joinD args σ K) : Tri Tryd.prog 17 args σ K := by
  obtain ⟨id, a, b, c, d, e, f, rfl, h1, h3, h⟩ := h
  exact (lib_join (xs := [a, b, c, d, e, f]) h1 (by simp) (by simp) (by omega)).mono fun x σ' hr => by rw [hr.1, hr.2]; exact h
def U9 : PCall := rowQ 15 wordD (rowQ 18 itoaD (rowQ 19 bytesD (rowQ 17 joinD (rowQ 16 wsD (rowQ 20 strD noCall)))))
theorem U9_app {f : FuncId} {args : List AV} {σ : AHeap} {K : AV → AHeap → Prop} : U9 f args σ K = rowQ 15 wordD (rowQ 18 itoaD (rowQ 19 bytesD (rowQ 17 joinD (rowQ 16 wsD (rowQ 20 strD noCall))))) f args σ K := _root_.id rfl
theorem U9_sound : Sound Tryd.prog U9 := rowQ_sound wordD_ok (rowQ_sound itoaD_ok (rowQ_sound bytesD_ok (rowQ_sound joinD_ok (rowQ_sound wsD_ok (rowQ_sound strD_ok (noCall_sound _))))))
def txI (l : List Ev) (m : Nat) (e : Env) (σ : AHeap) : Prop := ∃ i : Nat, i ≤ l.length ∧ m = l.length - i ∧ e 3 = .bptr 0 46 ∧ e 7 = .imm (rowsE l) false false ∧ e 8 = .int .i64 (l.length : Int) ∧ e 9 = .int .i64 (i : Int) ∧ BAt σ 0 (textS (l.take i))
abbrev TxR (l : List Ev) : MExit → Env → AHeap → Prop := RetQ [.t 2] fun x _ => x.pure = true ∧ x = .str (textS l)
theorem tx_step (l : List Ev) (hl : l.length ≤ 20000) (hok : ∀ e ∈ l, EvOk e) (m : Nat) (e : Env) (σ : AHeap) (h : txI l m e σ) : sC U9 0 b9_18 (unw U9 0 (loopR U9 0 (TxR l) (.block 0 (.seq b9_23 .fin)) (txI l) m) .fin) e σ := by
  obtain ⟨i, hi, hm, e3, e7, e8, e9, hb⟩ := h
  have hbl : (textS (l.take i)).length ≤ 482020000 := by
    have := textS_len (l := l.take i) fun x hx => hok x (List.mem_of_mem_take hx)
    have h2 : (l.take i).length ≤ 20000 := by simp; omega
    have : 24101 * (l.take i).length ≤ 24101 * 20000 := Nat.mul_le_mul_left _ h2
    omega
  by_cases hlt : (i : Int) < (l.length : Int)
  · have k1 : i < l.length := by omega
    have k0 : (0 : Int) ≤ (i : Int) := by omega
    have hwr : IntKind.wrap .i64 ((i : Int) + 1) = ((i + 1 : Nat) : Int) := by rw [Gz.wrap64 (by omega)]; omega
    obtain ⟨x, hx⟩ : ∃ x, l[i]? = some x := ⟨_, List.getElem?_eq_getElem k1⟩
    have hxok := hok x (List.mem_of_getElem? hx)
    have htk : textS (l.take (i + 1)) = textS (l.take i) ++ lineS x := by
      rw [List.take_add_one, hx]; simp [textS]
    have hrow : (rowsE l)[i]? = some x.cells := by rw [rowsE, List.getElem?_map, hx]; rfl
    have hjl := join_len hxok
    obtain ⟨act, who, n, text, val, into⟩ := x
    simp only [Ev.cells] at hrow
    have g1 : hget (hpush σ [.int .i64 0, .int .i64 0, .int .i64 0, .str [], .str [], .str []]) σ.length = some [.int .i64 0, .int .i64 0, .int .i64 0, .str [], .str [], .str []] := push_new rfl
    have g2 : hget (hset (hpush σ [.int .i64 0, .int .i64 0, .int .i64 0, .str [], .str [], .str []]) σ.length [.int .i64 act, .int .i64 who, .int .i64 n, .str text, .str val, .str into]) σ.length = some [.int .i64 act, .int .i64 who, .int .i64 n, .str text, .str val, .str into] := set_same g1
    have hb1 : BAt (hset (hpush σ [.int .i64 0, .int .i64 0, .int .i64 0, .str [], .str [], .str []]) σ.length [.int .i64 act, .int .i64 who, .int .i64 n, .str text, .str val, .str into]) 0 (textS (l.take i)) := bat_frame hb fun j c hj => al_frame hj
    simp only [U9_app, Z9, base1, baseX, baseY, ↓reduceIte, Nat.reduceAdd, Nat.reduceSub, Nat.reduceMul, Nat.reduceEqDiff, Nat.reduceLeDiff, Nat.reduceLT, Int.reduceLT, Int.reduceLE, Int.reduceEq, Int.reduceNe, Int.reduceToNat, Int.reduceAdd, Int.reduceSub, reduceCtorEq, Nat.reduceBEq, Nat.reduceBNe, lenOf_imm, loopR_exit, loopR_ret, e3, e7, e8, e9, hlt, List.length_map, k0, k1, Int.toNat_natCast, hrow, g1, g2]
    refine ⟨act, rfl, ?_⟩
    have skip : wordS act = [] ∨ who < 0 ∨ n < 0 → textS (l.take (i + 1)) = textS (l.take i) := fun h => by
      rw [htk]; unfold lineS; simp only; rw [if_pos h]; simp
    by_cases c1 : wordS act = []
    · simp only [U9_app, Z9, base1, baseX, baseY, ↓reduceIte, Nat.reduceAdd, Nat.reduceSub, Nat.reduceMul, Nat.reduceEqDiff, Nat.reduceLeDiff, Nat.reduceLT, Int.reduceLT, Int.reduceLE, Int.reduceEq, Int.reduceNe, Int.reduceToNat, Int.reduceAdd, Int.reduceSub, reduceCtorEq, Nat.reduceBEq, Nat.reduceBNe, loopR_exit, loopR_ret, e3, e7, e8, e9, g1, g2, c1, hwr]
      rw [loopR_normal]
      exact ⟨l.length - (i + 1), _, _, by omega, .refl _ _ _, i + 1, k1, rfl, e3, e7, e8, rfl, by rw [skip (.inl c1)]; exact hb1⟩
    · by_cases c2 : who < 0
      · simp only [U9_app, Z9, base1, baseX, baseY, ↓reduceIte, Nat.reduceAdd, Nat.reduceSub, Nat.reduceMul, Nat.reduceEqDiff, Nat.reduceLeDiff, Nat.reduceLT, Int.reduceLT, Int.reduceLE, Int.reduceEq, Int.reduceNe, Int.reduceToNat, Int.reduceAdd, Int.reduceSub, reduceCtorEq, Nat.reduceBEq, Nat.reduceBNe, loopR_exit, loopR_ret, e3, e7, e8, e9, g1, g2, c1, c2, hwr]
        rw [loopR_normal]
        exact ⟨l.length - (i + 1), _, _, by omega, .refl _ _ _, i + 1, k1, rfl, e3, e7, e8, rfl, by rw [skip (.inr (.inl c2))]; exact hb1⟩
      · by_cases c3 : n < 0
        · simp only [U9_app, Z9, base1, baseX, baseY, ↓reduceIte, Nat.reduceAdd, Nat.reduceSub, Nat.reduceMul, Nat.reduceEqDiff, Nat.reduceLeDiff, Nat.reduceLT, Int.reduceLT, Int.reduceLE, Int.reduceEq, Int.reduceNe, Int.reduceToNat, Int.reduceAdd, Int.reduceSub, reduceCtorEq, Nat.reduceBEq, Nat.reduceBNe, loopR_exit, loopR_ret, e3, e7, e8, e9, g1, g2, c1, c2, c3, hwr]
          rw [loopR_normal]
          exact ⟨l.length - (i + 1), _, _, by omega, .refl _ _ _, i + 1, k1, rfl, e3, e7, e8, rfl, by rw [skip (.inr (.inr c3))]; exact hb1⟩
        · have hln := hxok.len
          simp only at hln
          simp only [U9_app, Z9, base1, baseX, baseY, ↓reduceIte, Nat.reduceAdd, Nat.reduceSub, Nat.reduceMul, Nat.reduceEqDiff, Nat.reduceLeDiff, Nat.reduceLT, Int.reduceLT, Int.reduceLE, Int.reduceEq, Int.reduceNe, Int.reduceToNat, Int.reduceAdd, Int.reduceSub, reduceCtorEq, Nat.reduceBEq, Nat.reduceBNe, loopR_exit, loopR_ret, e3, e7, e8, e9, g1, g2, c1, c2, c3]
          refine ⟨who, rfl, hxok.w0, hxok.w1, ?_⟩
          simp only [U9_app, Z9, base1, baseX, baseY, ↓reduceIte, Nat.reduceAdd, Nat.reduceSub, Nat.reduceMul, Nat.reduceEqDiff, Nat.reduceLeDiff, Nat.reduceLT, Int.reduceLT, Int.reduceLE, Int.reduceEq, Int.reduceNe, Int.reduceToNat, Int.reduceAdd, Int.reduceSub, reduceCtorEq, Nat.reduceBEq, Nat.reduceBNe, loopR_exit, loopR_ret, e3, e7, e8, e9, g1, g2, c1, c2, c3]
          refine ⟨n, rfl, hxok.n0, hxok.n1, ?_⟩
          simp only [U9_app, Z9, base1, baseX, baseY, ↓reduceIte, Nat.reduceAdd, Nat.reduceSub, Nat.reduceMul, Nat.reduceEqDiff, Nat.reduceLeDiff, Nat.reduceLT, Int.reduceLT, Int.reduceLE, Int.reduceEq, Int.reduceNe, Int.reduceToNat, Int.reduceAdd, Int.reduceSub, reduceCtorEq, Nat.reduceBEq, Nat.reduceBNe, loopR_exit, loopR_ret, e3, e7, e8, e9, g1, g2, c1, c2, c3]
          refine ⟨text, rfl, by omega, ?_⟩
          simp only [U9_app, Z9, base1, baseX, baseY, ↓reduceIte, Nat.reduceAdd, Nat.reduceSub, Nat.reduceMul, Nat.reduceEqDiff, Nat.reduceLeDiff, Nat.reduceLT, Int.reduceLT, Int.reduceLE, Int.reduceEq, Int.reduceNe, Int.reduceToNat, Int.reduceAdd, Int.reduceSub, reduceCtorEq, Nat.reduceBEq, Nat.reduceBNe, loopR_exit, loopR_ret, e3, e7, e8, e9, g1, g2, c1, c2, c3]
          refine ⟨val, rfl, by omega, ?_⟩
          simp only [U9_app, Z9, base1, baseX, baseY, ↓reduceIte, Nat.reduceAdd, Nat.reduceSub, Nat.reduceMul, Nat.reduceEqDiff, Nat.reduceLeDiff, Nat.reduceLT, Int.reduceLT, Int.reduceLE, Int.reduceEq, Int.reduceNe, Int.reduceToNat, Int.reduceAdd, Int.reduceSub, reduceCtorEq, Nat.reduceBEq, Nat.reduceBNe, loopR_exit, loopR_ret, e3, e7, e8, e9, g1, g2, c1, c2, c3]
          refine ⟨into, rfl, by omega, ?_⟩
          simp only [U9_app, Z9, base1, baseX, baseY, ↓reduceIte, Nat.reduceAdd, Nat.reduceSub, Nat.reduceMul, Nat.reduceEqDiff, Nat.reduceLeDiff, Nat.reduceLT, Int.reduceLT, Int.reduceLE, Int.reduceEq, Int.reduceNe, Int.reduceToNat, Int.reduceAdd, Int.reduceSub, reduceCtorEq, Nat.reduceBEq, Nat.reduceBNe, loopR_exit, loopR_ret, e3, e7, e8, e9, g1, g2, c1, c2, c3]
          simp only [partsS] at hjl
          refine ⟨_, _, _, _, _, _, _, rfl, push_new rfl, Nat.le_trans hjl (by omega), ?_⟩
          have hmx : (Lib.join [wordS act, Lib.itoa who, Lib.itoa n, bytesS text, bytesS val, bytesS into] [32]).length + 1 ≤ maxInt := by unfold maxInt; omega
          simp only [U9_app, Z9, base1, baseX, baseY, ↓reduceIte, Nat.reduceAdd, Nat.reduceSub, Nat.reduceMul, Nat.reduceEqDiff, Nat.reduceLeDiff, Nat.reduceLT, Int.reduceLT, Int.reduceLE, Int.reduceEq, Int.reduceNe, Int.reduceToNat, Int.reduceAdd, Int.reduceSub, reduceCtorEq, Nat.reduceBEq, Nat.reduceBNe, loopR_exit, loopR_ret, e3, e7, e8, e9, g1, g2, c1, c2, c3, hmx, List.length_cons, List.length_nil, Nat.reduceAdd]
          refine ⟨0, _, _, rfl, bat_frame hb1 fun j c hj => push_old hj, by simp only [List.length_append, List.length_cons, List.length_nil]; omega, fun σ' hb' => ?_⟩
          simp only [U9_app, Z9, base1, baseX, baseY, ↓reduceIte, Nat.reduceAdd, Nat.reduceSub, Nat.reduceMul, Nat.reduceEqDiff, Nat.reduceLeDiff, Nat.reduceLT, Int.reduceLT, Int.reduceLE, Int.reduceEq, Int.reduceNe, Int.reduceToNat, Int.reduceAdd, Int.reduceSub, reduceCtorEq, Nat.reduceBEq, Nat.reduceBNe, loopR_exit, loopR_ret, e3, e7, e8, e9, g1, g2, c1, c2, c3, hwr]
          rw [loopR_normal]
          refine ⟨l.length - (i + 1), _, _, by omega, .refl _ _ _, i + 1, k1, rfl, e3, e7, e8, rfl, ?_⟩
          rw [htk]
          have : lineS ⟨act, who, n, text, val, into⟩ = Lib.join [wordS act, Lib.itoa who, Lib.itoa n, bytesS text, bytesS val, bytesS into] [32] ++ [10] := by
            unfold lineS; simp only; rw [if_neg (by rintro (h | h | h) <;> contradiction)]; rfl
          rw [this]; exact hb'
  · have hi' : i = l.length := by omega
    subst hi'
    rw [List.take_length] at hb hbl
    simp only [U9_app, Z9, base1, baseX, baseY, ↓reduceIte, Nat.reduceAdd, Nat.reduceSub, Nat.reduceMul, Nat.reduceEqDiff, Nat.reduceLeDiff, Nat.reduceLT, Int.reduceLT, Int.reduceLE, Int.reduceEq, Int.reduceNe, Int.reduceToNat, Int.reduceAdd, Int.reduceSub, reduceCtorEq, Nat.reduceBEq, Nat.reduceBNe, loopR_exit, loopR_ret, e3, e7, e8, e9, hlt]
    refine ⟨0, _, rfl, hb, by omega, fun σ' => ?_⟩
    simp only [U9_app, Z9, base1, baseX, baseY, ↓reduceIte, Nat.reduceAdd, Nat.reduceSub, Nat.reduceMul, Nat.reduceEqDiff, Nat.reduceLeDiff, Nat.reduceLT, Int.reduceLT, Int.reduceLE, Int.reduceEq, Int.reduceNe, Int.reduceToNat, Int.reduceAdd, Int.reduceSub, reduceCtorEq, Nat.reduceBEq, Nat.reduceBNe, loopR_exit, loopR_ret]
    first | exact rfl | exact ⟨rfl, rfl⟩
theorem text_ok (l : List Ev) (hl : l.length ≤ 20000) (hok : ∀ e ∈ l, EvOk e) : Tri Tryd.prog 9 [.imm (rowsE l) false false] [] fun x _ => x.pure = true ∧ x = .str (textS l) := by
  refine Tri.of_s c9 U9_sound ?_
  simp only [U9_app, Z9, base1, baseX, baseY, ↓reduceIte, Nat.reduceAdd, Nat.reduceSub, Nat.reduceMul, Nat.reduceEqDiff, Nat.reduceLeDiff, Nat.reduceLT, Int.reduceLT, Int.reduceLE, Int.reduceEq, Int.reduceNe, Int.reduceToNat, Int.reduceAdd, Int.reduceSub, reduceCtorEq, Nat.reduceBEq, Nat.reduceBNe, lenOf_imm, List.length_map]
  refine sC_inv (a := b9_18) (txI l) l.length _ _ (.refl _ _ _) ?_ (tx_step l hl hok)
  exact ⟨0, by omega, by omega, rfl, rfl, rfl, rfl, _, _, rfl, .inl rfl, .inl ⟨rfl, rfl⟩⟩
end Go.Proofs.YtbamlhgjpggihaaDoor.tale

/- Made, made, same, Small: what they answer. Condition: no more than a million events. -/
set_option linter.unusedVariables false
set_option linter.unusedSimpArgs false
namespace Go.Proofs.YtbamlhgjpggihaaDoor.tale
open Go.RowKit Go.Gz Go.Gz.H
abbrev r7_0 : List MOper := [⟨(some 4), .move (.c (.bool false)), none⟩]
def b7_0 : SCode := .region r7_0
abbrev r7_1 : List MOper := [⟨(some 5), .move (.c (.int .i64 0)), none⟩]
def b7_1 : SCode := .region r7_1
abbrev r7_2 : List MOper := [⟨(some 6), .move (.t 5), none⟩,
  ⟨(some 7), .move (.t 0), none⟩,
  ⟨(some 8), .lenSl (.t 7), none⟩,
  ⟨(some 9), .bin .lss .num (.t 6) (.t 8), none⟩]
def b7_2 : SCode := .region r7_2
def b7_3 : SCode := .cond (.t 9) .skip (.exit 0)
def b7_4 : SCode := .seq b7_2 b7_3
abbrev t7_5 : LTree := (.quiet ⟨(some 12), .move (.t 5), none⟩ 0
  (.quiet ⟨(some 13), .move (.t 1), none⟩ 1
  (.quiet ⟨(some 14), .bin .geq .num (.t 12) (.t 13), none⟩ 2
  (.quiet ⟨(some 15), .move (.t 14), none⟩ 3
  (.quiet ⟨(some 16), .move (.t 0), (some (15, false))⟩ 4
  (.quiet ⟨(some 17), .move (.t 5), (some (15, false))⟩ 5
  (.quiet ⟨(some 18), .indexAddr 6 (.t 16) (.t 17), (some (15, false))⟩ 6
  (.quiet ⟨(some 19), .fieldAddr 3 (.t 18), (some (15, false))⟩ 7
  (.quiet ⟨(some 20), .load1 (.t 19), (some (15, false))⟩ 8
  (.quiet ⟨(some 21), .lenStr (.t 20), (some (15, false))⟩ 9
  (.quiet ⟨(some 22), .move (.t 0), (some (15, false))⟩ 10
  (.quiet ⟨(some 23), .move (.t 5), (some (15, false))⟩ 11
  (.quiet ⟨(some 24), .indexAddr 6 (.t 22) (.t 23), (some (15, false))⟩ 12
  (.quiet ⟨(some 25), .fieldAddr 4 (.t 24), (some (15, false))⟩ 13
  (.quiet ⟨(some 26), .load1 (.t 25), (some (15, false))⟩ 14
  (.quiet ⟨(some 27), .lenStr (.t 26), (some (15, false))⟩ 15
  (.quiet ⟨(some 28), .bin .add .num (.t 21) (.t 27), (some (15, false))⟩ 16
  (.quiet ⟨(some 29), .move (.t 0), (some (15, false))⟩ 17
  (.quiet ⟨(some 30), .move (.t 5), (some (15, false))⟩ 18
  (.quiet ⟨(some 31), .indexAddr 6 (.t 29) (.t 30), (some (15, false))⟩ 19
  (.quiet ⟨(some 32), .fieldAddr 5 (.t 31), (some (15, false))⟩ 20
  (.quiet ⟨(some 33), .load1 (.t 32), (some (15, false))⟩ 21
  (.quiet ⟨(some 34), .lenStr (.t 33), (some (15, false))⟩ 22
  (.quiet ⟨(some 35), .bin .add .num (.t 28) (.t 34), (some (15, false))⟩ 23
  (.quiet ⟨(some 36), .bin .gtr .num (.t 35) (.c (.int .i64 2000)), (some (15, false))⟩ 24
  (.quiet ⟨(some 37), .pick (.t 15) (.c (.bool true)) (.t 36), none⟩ 25
  .leaf))))))))))))))))))))))))))
def b7_5 : SCode := .draw t7_5
abbrev r7_6 : List MOper := [⟨(some 4), .move (.c (.bool false)), none⟩]
def b7_6 : SCode := .region r7_6
def b7_7 : SCode := .seq b7_6 .ret
def b7_8 : SCode := .cond (.t 37) b7_7 .skip
def b7_9 : SCode := .seq b7_5 b7_8
def b7_10 : SCode := .block 1 b7_9
abbrev r7_11 : List MOper := [⟨(some 10), .move (.t 5), none⟩,
  ⟨(some 11), .bin .add .num (.t 10) (.c (.int .i64 1)), none⟩,
  ⟨(some 5), .move (.t 11), none⟩]
def b7_11 : SCode := .region r7_11
def b7_12 : SCode := .seq b7_10 b7_11
def b7_13 : SCode := .seq b7_4 b7_12
def b7_14 : SCode := .loop b7_13
def b7_15 : SCode := .block 0 b7_14
def b7_16 : SCode := .seq b7_1 b7_15
abbrev r7_17 : List MOper := [⟨(some 4), .move (.c (.bool true)), none⟩]
def b7_17 : SCode := .region r7_17
def b7_18 : SCode := .seq b7_17 .ret
def b7_19 : SCode := .seq b7_16 b7_18
def b7_20 : SCode := .seq b7_0 b7_19
def s7 : SFunc := ⟨38, [.t 4], b7_20⟩
theorem c7 : sFn Tryd.prog 7 = some s7 := by kernel_rfl
theorem Z7 : XR b7_0 r7_0 ∧ XR b7_1 r7_1 ∧ XR b7_2 r7_2 ∧ XC b7_3 (.t 9) .skip (.exit 0) ∧ XS b7_4 b7_2 b7_3 ∧ XT b7_5 t7_5 ∧ XR b7_6 r7_6 ∧ XS b7_7 b7_6 .ret ∧ XC b7_8 (.t 37) b7_7 .skip ∧ XS b7_9 b7_5 b7_8 ∧ XB b7_10 1 b7_9 ∧ XR b7_11 r7_11 ∧ XS b7_12 b7_10 b7_11 ∧ XS b7_13 b7_4 b7_12 ∧ XB b7_15 0 b7_14 ∧ XS b7_16 b7_1 b7_15 ∧ XR b7_17 r7_17 ∧ XS b7_18 b7_17 .ret ∧ XS b7_19 b7_16 b7_18 ∧ XS b7_20 b7_0 b7_19 ∧ XY s7 38 b7_20 [.t 4] := ⟨rfl, rfl, rfl, sC_cond, rfl, rfl, rfl, rfl, sC_cond, rfl, rfl, rfl, rfl, rfl, rfl, rfl, rfl, rfl, rfl, rfl, rfl⟩
abbrev r10_0 : List MOper := [⟨(some 2), .move (.c (.nilslice)), none⟩]
def b10_0 : SCode := .region r10_0
abbrev r10_1 : List MOper := [⟨(some 3), .move (.c (.nilslice)), none⟩]
def b10_1 : SCode := .region r10_1
abbrev r10_2 : List MOper := [⟨(some 4), .move (.c (.int .i64 0)), none⟩]
def b10_2 : SCode := .region r10_2
abbrev r10_3 : List MOper := [⟨(some 5), .move (.t 4), none⟩,
  ⟨(some 6), .move (.t 0), none⟩,
  ⟨(some 7), .lenSl (.t 6), none⟩,
  ⟨(some 8), .bin .lss .num (.t 5) (.t 7), none⟩]
def b10_3 : SCode := .region r10_3
def b10_4 : SCode := .cond (.t 8) .skip (.exit 0)
def b10_5 : SCode := .seq b10_3 b10_4
abbrev r10_6 : List MOper := [⟨(some 11), .move (.t 3), none⟩,
  ⟨(some 12), .move (.t 0), none⟩,
  ⟨(some 13), .move (.t 4), none⟩,
  ⟨(some 14), .indexAddr 6 (.t 12) (.t 13), none⟩,
  ⟨(some 15), .loadN 6 (.t 14), none⟩,
  ⟨(some 16), .call 21 [(.t 15)], none⟩,
  ⟨(some 17), .buildSlice [.int .i64 0, .int .i64 0, .int .i64 0, .str [], .str [], .str []] 6 1 [(0, 6, (.t 16))], none⟩,
  ⟨(some 18), .append 6 72 (.t 11) (.t 17), none⟩,
  ⟨(some 3), .move (.t 18), none⟩]
def b10_6 : SCode := .region r10_6
def b10_7 : SCode := .block 1 b10_6
abbrev r10_8 : List MOper := [⟨(some 9), .move (.t 4), none⟩,
  ⟨(some 10), .bin .add .num (.t 9) (.c (.int .i64 1)), none⟩,
  ⟨(some 4), .move (.t 10), none⟩]
def b10_8 : SCode := .region r10_8
def b10_9 : SCode := .seq b10_7 b10_8
def b10_10 : SCode := .seq b10_5 b10_9
def b10_11 : SCode := .loop b10_10
def b10_12 : SCode := .block 0 b10_11
def b10_13 : SCode := .seq b10_2 b10_12
abbrev r10_14 : List MOper := [⟨(some 19), .move (.t 3), none⟩,
  ⟨(some 2), .move (.t 19), none⟩]
def b10_14 : SCode := .region r10_14
def b10_15 : SCode := .seq b10_14 .ret
def b10_16 : SCode := .seq b10_13 b10_15
def b10_17 : SCode := .seq b10_1 b10_16
def b10_18 : SCode := .seq b10_0 b10_17
def s10 : SFunc := ⟨20, [.t 2], b10_18⟩
theorem c10 : sFn Tryd.prog 10 = some s10 := by kernel_rfl
theorem Z10 : XR b10_0 r10_0 ∧ XR b10_1 r10_1 ∧ XR b10_2 r10_2 ∧ XR b10_3 r10_3 ∧ XC b10_4 (.t 8) .skip (.exit 0) ∧ XS b10_5 b10_3 b10_4 ∧ XR b10_6 r10_6 ∧ XB b10_7 1 b10_6 ∧ XR b10_8 r10_8 ∧ XS b10_9 b10_7 b10_8 ∧ XS b10_10 b10_5 b10_9 ∧ XB b10_12 0 b10_11 ∧ XS b10_13 b10_2 b10_12 ∧ XR b10_14 r10_14 ∧ XS b10_15 b10_14 .ret ∧ XS b10_16 b10_13 b10_15 ∧ XS b10_17 b10_1 b10_16 ∧ XS b10_18 b10_0 b10_17 ∧ XY s10 20 b10_18 [.t 2] := ⟨rfl, rfl, rfl, rfl, sC_cond, rfl, rfl, rfl, rfl, rfl, rfl, rfl, rfl, rfl, rfl, rfl, rfl, rfl, rfl⟩
abbrev r12_0 : List MOper := [⟨(some 4), .move (.c (.bool false)), none⟩]
def b12_0 : SCode := .region r12_0
abbrev r12_1 : List MOper := [⟨(some 6), .move (.t 0), none⟩,
  ⟨(some 7), .lenSl (.t 6), none⟩,
  ⟨(some 8), .move (.t 1), none⟩,
  ⟨(some 9), .lenSl (.t 8), none⟩,
  ⟨(some 10), .bin .neq .num (.t 7) (.t 9), none⟩]
def b12_1 : SCode := .region r12_1
abbrev r12_2 : List MOper := [⟨(some 4), .move (.c (.bool false)), none⟩]
def b12_2 : SCode := .region r12_2
def b12_3 : SCode := .seq b12_2 .ret
def b12_4 : SCode := .cond (.t 10) b12_3 .skip
def b12_5 : SCode := .seq b12_1 b12_4
abbrev r12_6 : List MOper := [⟨(some 5), .move (.c (.int .i64 0)), none⟩]
def b12_6 : SCode := .region r12_6
abbrev r12_7 : List MOper := [⟨(some 11), .move (.t 5), none⟩,
  ⟨(some 12), .move (.t 0), none⟩,
  ⟨(some 13), .lenSl (.t 12), none⟩,
  ⟨(some 14), .bin .lss .num (.t 11) (.t 13), none⟩]
def b12_7 : SCode := .region r12_7
def b12_8 : SCode := .cond (.t 14) .skip (.exit 0)
def b12_9 : SCode := .seq b12_7 b12_8
abbrev t12_10 : LTree := (.quiet ⟨(some 17), .move (.t 0), none⟩ 0
  (.quiet ⟨(some 18), .move (.t 5), none⟩ 1
  (.quiet ⟨(some 19), .indexAddr 6 (.t 17) (.t 18), none⟩ 2
  (.quiet ⟨(some 20), .loadN 6 (.t 19), none⟩ 3
  (.quiet ⟨(some 21), .move (.t 1), none⟩ 4
  (.quiet ⟨(some 22), .move (.t 5), none⟩ 5
  (.quiet ⟨(some 23), .indexAddr 6 (.t 21) (.t 22), none⟩ 6
  (.quiet ⟨(some 24), .loadN 6 (.t 23), none⟩ 7
  (.loud ⟨(some 25), .call 21 [(.t 24)], none⟩ [3]
  (.quiet ⟨(some 26), .bin .neq (.flat [.i, .i, .i, .s, .s, .s]) (.t 20) (.t 25), none⟩ 9
  .leaf) .stop)))))))))
def b12_10 : SCode := .draw t12_10
abbrev r12_11 : List MOper := [⟨(some 4), .move (.c (.bool false)), none⟩]
def b12_11 : SCode := .region r12_11
def b12_12 : SCode := .seq b12_11 .ret
def b12_13 : SCode := .cond (.t 26) b12_12 .skip
def b12_14 : SCode := .seq b12_10 b12_13
def b12_15 : SCode := .block 1 b12_14
abbrev r12_16 : List MOper := [⟨(some 15), .move (.t 5), none⟩,
  ⟨(some 16), .bin .add .num (.t 15) (.c (.int .i64 1)), none⟩,
  ⟨(some 5), .move (.t 16), none⟩]
def b12_16 : SCode := .region r12_16
def b12_17 : SCode := .seq b12_15 b12_16
def b12_18 : SCode := .seq b12_9 b12_17
def b12_19 : SCode := .loop b12_18
def b12_20 : SCode := .block 0 b12_19
def b12_21 : SCode := .seq b12_6 b12_20
abbrev r12_22 : List MOper := [⟨(some 4), .move (.c (.bool true)), none⟩]
def b12_22 : SCode := .region r12_22
def b12_23 : SCode := .seq b12_22 .ret
def b12_24 : SCode := .seq b12_21 b12_23
def b12_25 : SCode := .seq b12_5 b12_24
def b12_26 : SCode := .seq b12_0 b12_25
def s12 : SFunc := ⟨27, [.t 4], b12_26⟩
theorem c12 : sFn Tryd.prog 12 = some s12 := by kernel_rfl
theorem Z12 : XR b12_0 r12_0 ∧ XR b12_1 r12_1 ∧ XR b12_2 r12_2 ∧ XS b12_3 b12_2 .ret ∧ XC b12_4 (.t 10) b12_3 .skip ∧ XS b12_5 b12_1 b12_4 ∧ XR b12_6 r12_6 ∧ XR b12_7 r12_7 ∧ XC b12_8 (.t 14) .skip (.exit 0) ∧ XS b12_9 b12_7 b12_8 ∧ XT b12_10 t12_10 ∧ XR b12_11 r12_11 ∧ XS b12_12 b12_11 .ret ∧ XC b12_13 (.t 26) b12_12 .skip ∧ XS b12_14 b12_10 b12_13 ∧ XB b12_15 1 b12_14 ∧ XR b12_16 r12_16 ∧ XS b12_17 b12_15 b12_16 ∧ XS b12_18 b12_9 b12_17 ∧ XB b12_20 0 b12_19 ∧ XS b12_21 b12_6 b12_20 ∧ XR b12_22 r12_22 ∧ XS b12_23 b12_22 .ret ∧ XS b12_24 b12_21 b12_23 ∧ XS b12_25 b12_5 b12_24 ∧ XS b12_26 b12_0 b12_25 ∧ XY s12 27 b12_26 [.t 4] := ⟨rfl, rfl, rfl, rfl, sC_cond, rfl, rfl, rfl, sC_cond, rfl, rfl, rfl, rfl, sC_cond, rfl, rfl, rfl, rfl, rfl, rfl, rfl, rfl, rfl, rfl, rfl, rfl, rfl⟩
abbrev r21_0 : List MOper := [⟨(some 1), .box (.t 0), none⟩,
  ⟨(some 2), .alloc [.int .i64 0, .int .i64 0, .int .i64 0, .str [], .str [], .str []], none⟩]
def b21_0 : SCode := .region r21_0
abbrev r21_1 : List MOper := [⟨(some 3), .fieldAddr 0 (.t 1), none⟩,
  ⟨(some 4), .load1 (.t 3), none⟩,
  ⟨(some 5), .fieldAddr 1 (.t 1), none⟩,
  ⟨(some 6), .load1 (.t 5), none⟩,
  ⟨(some 7), .fieldAddr 2 (.t 1), none⟩,
  ⟨(some 8), .load1 (.t 7), none⟩,
  ⟨(some 9), .fieldAddr 3 (.t 1), none⟩,
  ⟨(some 10), .load1 (.t 9), none⟩,
  ⟨(some 11), .fieldAddr 4 (.t 1), none⟩,
  ⟨(some 12), .load1 (.t 11), none⟩,
  ⟨(some 13), .fieldAddr 5 (.t 1), none⟩,
  ⟨(some 14), .load1 (.t 13), none⟩,
  ⟨(some 15), .build [.int .i64 0, .int .i64 0, .int .i64 0, .str [], .str [], .str []] [(0, 1, (.t 4)), (1, 1, (.t 6)), (2, 1, (.t 8)), (3, 1, (.t 10)), (4, 1, (.t 12)), (5, 1, (.t 14))], none⟩,
  ⟨none, .store 6 (.t 2) (.t 15), none⟩]
def b21_1 : SCode := .region r21_1
def b21_2 : SCode := .seq b21_1 .ret
def b21_3 : SCode := .seq b21_0 b21_2
def s21 : SFunc := ⟨16, [.cN 2 6], b21_3⟩
theorem c21 : sFn Tryd.prog 21 = some s21 := by kernel_rfl
theorem Z21 : XR b21_0 r21_0 ∧ XR b21_1 r21_1 ∧ XS b21_2 b21_1 .ret ∧ XS b21_3 b21_0 b21_2 ∧ XY s21 16 b21_3 [.cN 2 6] := ⟨rfl, rfl, rfl, rfl, rfl⟩

set_option maxHeartbeats 4000000
set_option maxRecDepth 10000
theorem mk_ok (x : Ev) : Tri Tryd.prog 21 [.agg x.cells] [] fun r _ => r.pure = true ∧ r = .agg x.cells := by
  refine Tri.of_s c21 (noCall_sound _) ?_
  obtain ⟨act, who, n, text, val, into⟩ := x
  simp only [Z21, base1, baseX, baseY, ↓reduceIte, Nat.reduceAdd, Nat.reduceSub, Nat.reduceMul, Nat.reduceEqDiff, Nat.reduceLeDiff, Nat.reduceLT, Int.reduceLT, Int.reduceLE, Int.reduceEq, Int.reduceNe, Int.reduceToNat, Int.reduceAdd, Int.reduceSub, reduceCtorEq, Nat.reduceBEq, Nat.reduceBNe, Ev.cells]
  first | exact rfl | exact ⟨rfl, rfl⟩
def mkD (args : List AV) (σ : AHeap) (K : AV → AHeap → Prop) : Prop := ∃ x : Ev, args = [.agg x.cells] ∧ K (.agg x.cells) σ
theorem mkD_ok (args : List AV) (σ : AHeap) (K : AV → AHeap → Prop) (h : mkD args σ K) : Tri Tryd.prog 21 args σ K := by
  obtain ⟨x, rfl, h⟩ := h
  exact (Tri.pureD rfl (mk_ok x) σ).mono fun r σ' hr => by rw [hr.1, hr.2]; exact h
def U10 : PCall := rowQ 21 mkD noCall
theorem U10_app {f : FuncId} {args : List AV} {σ : AHeap} {K : AV → AHeap → Prop} : U10 f args σ K = rowQ 21 mkD noCall f args σ K := _root_.id rfl
theorem U10_sound : Sound Tryd.prog U10 := rowQ_sound mkD_ok (noCall_sound _)
def mdI (l : List Ev) (m : Nat) (e : Env) (σ : AHeap) : Prop := ∃ i : Nat, i ≤ l.length ∧ m = l.length - i ∧ e 0 = .imm (rowsE l) false false ∧ e 4 = .int .i64 (i : Int) ∧ Grow σ (e 3) 6 (rowsE (l.take i))
theorem made_ok (l : List Ev) (hl : l.length ≤ 1000000) : Tri Tryd.prog 10 [.imm (rowsE l) false false] [] fun x _ => x.pure = true ∧ x = .imm (rowsE l) false false := by
  refine Tri.frozen (Q := fun r σ => Frz σ r (.imm (rowsE l) false false)) (Tri.of_s c10 U10_sound ?_) (fun r σ h => ⟨_, h, by simp only [AV.pure, rowsE_pure], rfl⟩)
  simp only [U10_app, Z10, base1, baseX, baseY, ↓reduceIte, Nat.reduceAdd, Nat.reduceSub, Nat.reduceMul, Nat.reduceEqDiff, Nat.reduceLeDiff, Nat.reduceLT, Int.reduceLT, Int.reduceLE, Int.reduceEq, Int.reduceNe, Int.reduceToNat, Int.reduceAdd, Int.reduceSub, reduceCtorEq, Nat.reduceBEq, Nat.reduceBNe]
  refine sC_inv (a := b10_10) (mdI l) l.length _ _ (.refl _ _ _) ?_ ?_
  · exact ⟨0, by omega, by omega, rfl, rfl, .inl ⟨rfl, rfl⟩⟩
  rintro m e σ ⟨i, hi, hm, e0, e4, hg⟩
  by_cases hlt : (i : Int) < (l.length : Int)
  · have k1 : i < l.length := by omega
    have k0 : (0 : Int) ≤ (i : Int) := by omega
    have hwr : IntKind.wrap .i64 ((i : Int) + 1) = ((i + 1 : Nat) : Int) := by rw [Gz.wrap64 (by omega)]; omega
    obtain ⟨x, hx⟩ : ∃ x, l[i]? = some x := ⟨_, List.getElem?_eq_getElem k1⟩
    have hrow : (rowsE l)[i]? = some x.cells := by rw [rowsE, List.getElem?_map, hx]; rfl
    generalize hv : e 3 = v at hg
    obtain ⟨w, τ, a1, a2, a3, a4, a5⟩ := grow_one (b := 72) (by decide) hg (by simp; omega) x.cells rfl rfl
    have htk : rowsE (l.take (i + 1)) = rowsE (l.take i) ++ [x.cells] := by rw [List.take_add_one, hx]; simp [rowsE]
    rw [← htk] at a5
    obtain ⟨act, who, n, text, val, into⟩ := x
    simp only [Ev.cells] at hrow a1
    simp only [U10_app, Z10, base1, baseX, baseY, ↓reduceIte, Nat.reduceAdd, Nat.reduceSub, Nat.reduceMul, Nat.reduceEqDiff, Nat.reduceLeDiff, Nat.reduceLT, Int.reduceLT, Int.reduceLE, Int.reduceEq, Int.reduceNe, Int.reduceToNat, Int.reduceAdd, Int.reduceSub, reduceCtorEq, Nat.reduceBEq, Nat.reduceBNe, lenOf_imm, loopR_exit, loopR_ret, e0, e4, hv, hlt, List.length_map, k0, k1, Int.toNat_natCast, hrow]
    refine ⟨⟨act, who, n, text, val, into⟩, rfl, ?_⟩
    simp only [U10_app, Z10, base1, baseX, baseY, ↓reduceIte, Nat.reduceAdd, Nat.reduceSub, Nat.reduceMul, Nat.reduceEqDiff, Nat.reduceLeDiff, Nat.reduceLT, Int.reduceLT, Int.reduceLE, Int.reduceEq, Int.reduceNe, Int.reduceToNat, Int.reduceAdd, Int.reduceSub, reduceCtorEq, Nat.reduceBEq, Nat.reduceBNe, Ev.cells, loopR_exit, loopR_ret, e0, e4, hv, a1, hwr]
    rw [loopR_normal]
    exact ⟨l.length - (i + 1), _, _, by omega, .refl _ _ _, i + 1, k1, rfl, e0, rfl, a5⟩
  · have hi' : i = l.length := by omega
    subst hi'
    rw [List.take_length] at hg
    simp only [U10_app, Z10, base1, baseX, baseY, ↓reduceIte, Nat.reduceAdd, Nat.reduceSub, Nat.reduceMul, Nat.reduceEqDiff, Nat.reduceLeDiff, Nat.reduceLT, Int.reduceLT, Int.reduceLE, Int.reduceEq, Int.reduceNe, Int.reduceToNat, Int.reduceAdd, Int.reduceSub, reduceCtorEq, Nat.reduceBEq, Nat.reduceBNe, lenOf_imm, loopR_exit, loopR_ret, e0, e4, hlt, List.length_map]
    exact grow_frz hg (rowsE_pure l)
/-! same. -/
def smI (l : List Ev) (m : Nat) (e : Env) (σ : AHeap) : Prop := ∃ i : Nat, i ≤ l.length ∧ m = l.length - i ∧ e 0 = .imm (rowsE l) false false ∧ e 1 = .imm (rowsE l) false false ∧ e 5 = .int .i64 (i : Int)
theorem same_ok (l : List Ev) (hl : l.length ≤ 1000000) : Tri Tryd.prog 12 [.imm (rowsE l) false false, .imm (rowsE l) false false] [] fun x _ => x.flatD = true ∧ x = .bool true := by
  refine Tri.of_s c12 U10_sound ?_
  simp only [U10_app, Z12, base1, baseX, baseY, ↓reduceIte, Nat.reduceAdd, Nat.reduceSub, Nat.reduceMul, Nat.reduceEqDiff, Nat.reduceLeDiff, Nat.reduceLT, Int.reduceLT, Int.reduceLE, Int.reduceEq, Int.reduceNe, Int.reduceToNat, Int.reduceAdd, Int.reduceSub, reduceCtorEq, Nat.reduceBEq, Nat.reduceBNe, lenOf_imm, List.length_map, ne_eq, not_true, decide_false]
  refine sC_inv (a := b12_18) (smI l) l.length _ _ (.refl _ _ _) ?_ ?_
  · exact ⟨0, by omega, by omega, rfl, rfl, rfl⟩
  rintro m e σ ⟨i, hi, hm, e0, e1, e5⟩
  by_cases hlt : (i : Int) < (l.length : Int)
  · have k1 : i < l.length := by omega
    have k0 : (0 : Int) ≤ (i : Int) := by omega
    have hwr : IntKind.wrap .i64 ((i : Int) + 1) = ((i + 1 : Nat) : Int) := by rw [Gz.wrap64 (by omega)]; omega
    obtain ⟨x, hx⟩ : ∃ x, l[i]? = some x := ⟨_, List.getElem?_eq_getElem k1⟩
    have hrow : (rowsE l)[i]? = some x.cells := by rw [rowsE, List.getElem?_map, hx]; rfl
    obtain ⟨act, who, n, text, val, into⟩ := x
    simp only [Ev.cells] at hrow
    simp only [U10_app, Z12, base1, baseX, baseY, ↓reduceIte, Nat.reduceAdd, Nat.reduceSub, Nat.reduceMul, Nat.reduceEqDiff, Nat.reduceLeDiff, Nat.reduceLT, Int.reduceLT, Int.reduceLE, Int.reduceEq, Int.reduceNe, Int.reduceToNat, Int.reduceAdd, Int.reduceSub, reduceCtorEq, Nat.reduceBEq, Nat.reduceBNe, lenOf_imm, loopR_exit, loopR_ret, e0, e1, e5, hlt, List.length_map, k0, k1, Int.toNat_natCast, hrow]
    refine ⟨⟨act, who, n, text, val, into⟩, rfl, ?_⟩
    simp only [U10_app, Z12, base1, baseX, baseY, ↓reduceIte, Nat.reduceAdd, Nat.reduceSub, Nat.reduceMul, Nat.reduceEqDiff, Nat.reduceLeDiff, Nat.reduceLT, Int.reduceLT, Int.reduceLE, Int.reduceEq, Int.reduceNe, Int.reduceToNat, Int.reduceAdd, Int.reduceSub, reduceCtorEq, Nat.reduceBEq, Nat.reduceBNe, Ev.cells, loopR_exit, loopR_ret, e0, e1, e5, decide_true, Bool.and_self, Bool.not_true, hwr]
    rw [loopR_normal]
    exact ⟨l.length - (i + 1), _, _, by omega, .refl _ _ _, i + 1, k1, rfl, e0, e1, rfl⟩
  · simp only [U10_app, Z12, base1, baseX, baseY, ↓reduceIte, Nat.reduceAdd, Nat.reduceSub, Nat.reduceMul, Nat.reduceEqDiff, Nat.reduceLeDiff, Nat.reduceLT, Int.reduceLT, Int.reduceLE, Int.reduceEq, Int.reduceNe, Int.reduceToNat, Int.reduceAdd, Int.reduceSub, reduceCtorEq, Nat.reduceBEq, Nat.reduceBNe, lenOf_imm, loopR_exit, loopR_ret, e0, e1, e5, hlt, List.length_map]
    first | exact rfl | exact ⟨rfl, rfl⟩
/-! Small. -/
def SmallE (l : List Ev) (most : Nat) : Prop := l.length ≤ most ∧ ∀ e ∈ l, e.text.length + e.val.length + e.into.length ≤ 2000
def szI (l : List Ev) (most : Nat) (m : Nat) (e : Env) (σ : AHeap) : Prop := ∃ i : Nat, i ≤ l.length ∧ m = l.length - i ∧ e 0 = .imm (rowsE l) false false ∧ e 1 = .int .i64 (most : Int) ∧ e 5 = .int .i64 (i : Int) ∧ SmallE (l.take i) most
theorem small_ok (l : List Ev) (most : Nat) (hl : l.length ≤ reachBytes) (hx : ∀ e ∈ l, e.text.length ≤ reachBytes ∧ e.val.length ≤ reachBytes ∧ e.into.length ≤ reachBytes) :
    Tri Tryd.prog 7 [.imm (rowsE l) false false, .int .i64 (most : Int)] [] fun x _ => x.pure = true ∧ ∃ b, x = .bool b ∧ (b = true → SmallE l most) := by
  refine Tri.of_s c7 (noCall_sound _) ?_
  have hreach : reachBytes ≤ 140737488355328 := by decide
  simp only [Z7, base1, baseX, baseY, ↓reduceIte, Nat.reduceAdd, Nat.reduceSub, Nat.reduceMul, Nat.reduceEqDiff, Nat.reduceLeDiff, Nat.reduceLT, Int.reduceLT, Int.reduceLE, Int.reduceEq, Int.reduceNe, Int.reduceToNat, Int.reduceAdd, Int.reduceSub, reduceCtorEq, Nat.reduceBEq, Nat.reduceBNe]
  refine sC_inv (a := b7_13) (szI l most) l.length _ _ (.refl _ _ _) ?_ ?_
  · exact ⟨0, by omega, by omega, rfl, rfl, rfl, by simp, by simp⟩
  rintro m e σ ⟨i, hi, hm, e0, e1, e5, hs⟩
  by_cases hlt : (i : Int) < (l.length : Int)
  · have k1 : i < l.length := by omega
    have k0 : (0 : Int) ≤ (i : Int) := by omega
    have hwr : IntKind.wrap .i64 ((i : Int) + 1) = ((i + 1 : Nat) : Int) := by rw [Gz.wrap64 (by omega)]; omega
    obtain ⟨x, hx'⟩ : ∃ x, l[i]? = some x := ⟨_, List.getElem?_eq_getElem k1⟩
    have hrow : (rowsE l)[i]? = some x.cells := by rw [rowsE, List.getElem?_map, hx']; rfl
    obtain ⟨b1, b2, b3⟩ := hx x (List.mem_of_getElem? hx')
    have htk : l.take (i + 1) = l.take i ++ [x] := by rw [List.take_add_one, hx']; rfl
    obtain ⟨act, who, n, text, val, into⟩ := x
    simp only [Ev.cells] at hrow
    simp only at b1 b2 b3
    have w1 : IntKind.wrap .i64 ((text.length : Int) + (val.length : Int)) = (text.length : Int) + (val.length : Int) := Gz.wrap64 (by omega)
    have w2 : IntKind.wrap .i64 ((text.length : Int) + (val.length : Int) + (into.length : Int)) = (text.length : Int) + (val.length : Int) + (into.length : Int) := Gz.wrap64 (by omega)
    by_cases c1 : (most : Int) ≤ (i : Int)
    · simp only [Z7, base1, baseX, baseY, ↓reduceIte, Nat.reduceAdd, Nat.reduceSub, Nat.reduceMul, Nat.reduceEqDiff, Nat.reduceLeDiff, Nat.reduceLT, Int.reduceLT, Int.reduceLE, Int.reduceEq, Int.reduceNe, Int.reduceToNat, Int.reduceAdd, Int.reduceSub, reduceCtorEq, Nat.reduceBEq, Nat.reduceBNe, lenOf_imm, loopR_exit, loopR_ret, e0, e1, e5, hlt, List.length_map, c1]
      exact ⟨rfl, _, rfl, fun h => by cases h⟩
    · by_cases c2 : (2000 : Int) < (text.length : Int) + (val.length : Int) + (into.length : Int)
      · simp only [Z7, base1, baseX, baseY, ↓reduceIte, Nat.reduceAdd, Nat.reduceSub, Nat.reduceMul, Nat.reduceEqDiff, Nat.reduceLeDiff, Nat.reduceLT, Int.reduceLT, Int.reduceLE, Int.reduceEq, Int.reduceNe, Int.reduceToNat, Int.reduceAdd, Int.reduceSub, reduceCtorEq, Nat.reduceBEq, Nat.reduceBNe, lenOf_imm, loopR_exit, loopR_ret, e0, e1, e5, hlt, List.length_map, c1, k0, k1, Int.toNat_natCast, hrow, w1, w2, c2]
        exact ⟨rfl, _, rfl, fun h => by cases h⟩
      · simp only [Z7, base1, baseX, baseY, ↓reduceIte, Nat.reduceAdd, Nat.reduceSub, Nat.reduceMul, Nat.reduceEqDiff, Nat.reduceLeDiff, Nat.reduceLT, Int.reduceLT, Int.reduceLE, Int.reduceEq, Int.reduceNe, Int.reduceToNat, Int.reduceAdd, Int.reduceSub, reduceCtorEq, Nat.reduceBEq, Nat.reduceBNe, lenOf_imm, loopR_exit, loopR_ret, e0, e1, e5, hlt, List.length_map, c1, k0, k1, Int.toNat_natCast, hrow, w1, w2, c2, hwr]
        rw [loopR_normal]
        refine ⟨l.length - (i + 1), _, _, by omega, .refl _ _ _, i + 1, k1, rfl, e0, e1, rfl, ?_, ?_⟩
        · rw [List.length_take]; omega
        · rw [htk]
          intro y hy
          rcases List.mem_append.1 hy with hy | hy
          · exact hs.2 y hy
          · simp at hy; subst hy; simp only; omega
  · have hi' : i = l.length := by omega
    subst hi'
    rw [List.take_length] at hs
    simp only [Z7, base1, baseX, baseY, ↓reduceIte, Nat.reduceAdd, Nat.reduceSub, Nat.reduceMul, Nat.reduceEqDiff, Nat.reduceLeDiff, Nat.reduceLT, Int.reduceLT, Int.reduceLE, Int.reduceEq, Int.reduceNe, Int.reduceToNat, Int.reduceAdd, Int.reduceSub, reduceCtorEq, Nat.reduceBEq, Nat.reduceBNe, lenOf_imm, loopR_exit, loopR_ret, e0, e1, e5, hlt, List.length_map]
    exact ⟨rfl, _, rfl, fun _ => hs⟩
end Go.Proofs.YtbamlhgjpggihaaDoor.tale
