/- The law gazetteerlaw20.MailFull returns true for every input: as many notes as there may be, and one more. No condition. -/
import Derived.Test.YtndlgmciplckjaaMAwake
set_option linter.unusedVariables false
set_option linter.unusedSimpArgs false
namespace Go.Proofs.Ytndlgmciplckjaa.mailFull
open Go.ChangeShapes Go.WideShapes Go.ChangeAt Go.RowKit Go.Gz Go.Proofs.Ytndlgmciplckjaa.note
abbrev r7_0 : List MOper := [⟨(some 2), .move (.c (.bool false)), none⟩]
def b7_0 : SCode := .region r7_0
abbrev r7_1 : List MOper := [⟨(some 8), .call 18 [], none⟩,
  ⟨(some 9), .un .not (.t 8), none⟩]
def b7_1 : SCode := .region r7_1
abbrev r7_2 : List MOper := [⟨(some 2), .move (.c (.bool false)), none⟩]
def b7_2 : SCode := .region r7_2
def b7_3 : SCode := .seq b7_2 .ret
def b7_4 : SCode := .cond (.t 9) b7_3 .skip
def b7_5 : SCode := .seq b7_1 b7_4
abbrev r7_6 : List MOper := [⟨(some 10), .call 19 [], none⟩,
  ⟨(some 3), .move (.t 10), none⟩]
def b7_6 : SCode := .region r7_6
abbrev r7_7 : List MOper := [⟨(some 11), .move (.t 3), none⟩,
  ⟨(some 12), .bin .eql .nilp (.t 11) (.c (.nilptr)), none⟩]
def b7_7 : SCode := .region r7_7
abbrev r7_8 : List MOper := [⟨(some 2), .move (.c (.bool false)), none⟩]
def b7_8 : SCode := .region r7_8
def b7_9 : SCode := .seq b7_8 .ret
def b7_10 : SCode := .cond (.t 12) b7_9 .skip
def b7_11 : SCode := .seq b7_7 b7_10
abbrev r7_12 : List MOper := [⟨(some 4), .move (.c (.nilslice)), none⟩]
def b7_12 : SCode := .region r7_12
abbrev r7_13 : List MOper := [⟨(some 5), .move (.c (.int .i64 0)), none⟩]
def b7_13 : SCode := .region r7_13
abbrev r7_14 : List MOper := [⟨(some 13), .move (.t 5), none⟩,
  ⟨(some 14), .move (.t 0), none⟩,
  ⟨(some 15), .convInt .i64 (.t 14), none⟩,
  ⟨(some 16), .bin .add .num (.c (.int .i64 512)) (.t 15), none⟩,
  ⟨(some 17), .bin .lss .num (.t 13) (.t 16), none⟩]
def b7_14 : SCode := .region r7_14
def b7_15 : SCode := .cond (.t 17) .skip (.exit 0)
def b7_16 : SCode := .seq b7_14 b7_15
abbrev r7_17 : List MOper := [⟨(some 20), .move (.t 4), none⟩,
  ⟨(some 21), .move (.t 5), none⟩,
  ⟨(some 22), .build [.int .i64 0, .int .i64 0, .int .i64 0, .int .i64 0, .int .i64 0, .int .i64 0, .int .i64 0, .int .i64 0, .str [], .str [], .str [], .str [], .int .i64 0, .int .i64 0, .int .i64 0, .int .i64 0, .bool false, .str [], .nilslice, .str [], .bool false, .str [], .str [], .nilslice, .nilslice, .int .i64 0, .nilslice] [(0, 1, (.c (.int .i64 5))), (1, 1, (.c (.int .i64 1))), (2, 1, (.c (.int .i64 0))), (4, 1, (.t 21))], none⟩,
  ⟨(some 23), .buildSlice [.int .i64 0, .int .i64 0, .int .i64 0, .int .i64 0, .int .i64 0, .int .i64 0, .int .i64 0, .int .i64 0, .str [], .str [], .str [], .str [], .int .i64 0, .int .i64 0, .int .i64 0, .int .i64 0, .bool false, .str [], .nilslice, .str [], .bool false, .str [], .str [], .nilslice, .nilslice, .int .i64 0, .nilslice] 27 1 [(0, 27, (.t 22))], none⟩,
  ⟨(some 24), .append 27 344 (.t 20) (.t 23), none⟩,
  ⟨(some 4), .move (.t 24), none⟩]
def b7_17 : SCode := .region r7_17
def b7_18 : SCode := .block 1 b7_17
abbrev r7_19 : List MOper := [⟨(some 18), .move (.t 5), none⟩,
  ⟨(some 19), .bin .add .num (.t 18) (.c (.int .i64 1)), none⟩,
  ⟨(some 5), .move (.t 19), none⟩]
def b7_19 : SCode := .region r7_19
def b7_20 : SCode := .seq b7_18 b7_19
def b7_21 : SCode := .seq b7_16 b7_20
def b7_22 : SCode := .loop b7_21
def b7_23 : SCode := .block 0 b7_22
def b7_24 : SCode := .seq b7_13 b7_23
abbrev r7_25 : List MOper := [⟨(some 25), .move (.t 3), none⟩,
  ⟨(some 26), .move (.t 4), none⟩,
  ⟨(some 27), .call 20 [(.t 25), (.t 26)], none⟩,
  ⟨(some 28), .bin .neq .num (.t 27) (.c (.int .i64 512)), none⟩,
  ⟨(some 29), .move (.t 28), none⟩,
  ⟨(some 30), .move (.t 3), (some (29, false))⟩,
  ⟨(some 31), .call 21 [(.t 30), (.c (.int .i64 3))], (some (29, false))⟩,
  ⟨(some 32), .pick (.t 29) (.c (.bool true)) (.t 31), none⟩,
  ⟨(some 33), .move (.t 32), none⟩,
  ⟨(some 34), .move (.t 3), (some (33, false))⟩,
  ⟨(some 35), .move (.t 4), (some (33, false))⟩,
  ⟨(some 36), .slice 27 (.t 35) none (some (.c (.int .i64 1))) none, (some (33, false))⟩,
  ⟨(some 37), .call 20 [(.t 34), (.t 36)], (some (33, false))⟩,
  ⟨(some 38), .bin .neq .num (.t 37) (.c (.int .i64 0)), (some (33, false))⟩,
  ⟨(some 39), .pick (.t 33) (.c (.bool true)) (.t 38), none⟩,
  ⟨(some 40), .move (.t 39), none⟩,
  ⟨(some 41), .move (.t 3), (some (40, false))⟩,
  ⟨(some 42), .call 22 [(.t 41)], (some (40, false))⟩,
  ⟨(some 43), .bin .neq .num (.t 42) (.c (.int .i64 512)), (some (40, false))⟩,
  ⟨(some 44), .pick (.t 40) (.c (.bool true)) (.t 43), none⟩]
def b7_25 : SCode := .region r7_25
abbrev r7_26 : List MOper := [⟨(some 2), .move (.c (.bool false)), none⟩]
def b7_26 : SCode := .region r7_26
def b7_27 : SCode := .seq b7_26 .ret
def b7_28 : SCode := .cond (.t 44) b7_27 .skip
def b7_29 : SCode := .seq b7_25 b7_28
abbrev r7_30 : List MOper := [⟨(some 46), .move (.t 3), none⟩,
  ⟨(some 47), .call 23 [(.t 46), (.c (.int .i64 517))], none⟩,
  ⟨(some 45), .move (.t 47), none⟩,
  ⟨(some 48), .extract (.t 45) 0, none⟩,
  ⟨(some 49), .extract (.t 45) 1, none⟩,
  ⟨(some 6), .alloc [.int .i64 0, .int .i64 0, .int .i64 0, .int .i64 0, .int .i64 0, .int .i64 0, .int .i64 0, .int .i64 0, .str [], .str [], .str [], .str [], .int .i64 0, .int .i64 0, .int .i64 0, .int .i64 0, .bool false, .str [], .nilslice, .str [], .bool false, .str [], .str [], .nilslice, .nilslice, .int .i64 0, .nilslice], none⟩,
  ⟨none, .store 27 (.t 6) (.t 48), none⟩,
  ⟨(some 7), .move (.t 49), none⟩]
def b7_30 : SCode := .region r7_30
abbrev r7_31 : List MOper := [⟨(some 50), .move (.t 7), none⟩,
  ⟨(some 51), .move (.t 50), none⟩,
  ⟨(some 52), .fieldAddr 4 (.t 6), (some (51, true))⟩,
  ⟨(some 53), .load1 (.t 52), (some (51, true))⟩,
  ⟨(some 54), .bin .eql .num (.t 53) (.c (.int .i64 5)), (some (51, true))⟩,
  ⟨(some 55), .pick (.t 51) (.t 54) (.c (.bool false)), none⟩,
  ⟨(some 56), .move (.t 55), none⟩,
  ⟨(some 57), .move (.t 3), (some (56, true))⟩,
  ⟨(some 58), .call 21 [(.t 57), (.c (.int .i64 0))], (some (56, true))⟩,
  ⟨(some 59), .pick (.t 56) (.t 58) (.c (.bool false)), none⟩,
  ⟨(some 60), .move (.t 59), none⟩,
  ⟨(some 61), .move (.t 3), (some (60, true))⟩,
  ⟨(some 62), .call 22 [(.t 61)], (some (60, true))⟩,
  ⟨(some 63), .bin .eql .num (.t 62) (.c (.int .i64 512)), (some (60, true))⟩,
  ⟨(some 64), .pick (.t 60) (.t 63) (.c (.bool false)), none⟩,
  ⟨(some 65), .move (.t 64), none⟩,
  ⟨(some 66), .move (.t 3), (some (65, true))⟩,
  ⟨(some 67), .call 21 [(.t 66), (.c (.int .i64 0))], (some (65, true))⟩,
  ⟨(some 68), .un .not (.t 67), (some (65, true))⟩,
  ⟨(some 69), .pick (.t 65) (.t 68) (.c (.bool false)), none⟩,
  ⟨(some 2), .move (.t 69), none⟩]
def b7_31 : SCode := .region r7_31
def b7_32 : SCode := .seq b7_31 .ret
def b7_33 : SCode := .seq b7_30 b7_32
def b7_34 : SCode := .seq b7_29 b7_33
def b7_35 : SCode := .seq b7_24 b7_34
def b7_36 : SCode := .seq b7_12 b7_35
def b7_37 : SCode := .seq b7_11 b7_36
def b7_38 : SCode := .seq b7_6 b7_37
def b7_39 : SCode := .seq b7_5 b7_38
def b7_40 : SCode := .seq b7_0 b7_39
def s7 : SFunc := ⟨70, [.t 2], b7_40⟩
theorem c7 : sFn Try.prog 7 = some s7 := by kernel_rfl
theorem x7_34 : XS b7_34 b7_29 b7_33 := rfl
theorem Z7 : XR b7_0 r7_0 ∧ XR b7_1 r7_1 ∧ XR b7_2 r7_2 ∧ XS b7_3 b7_2 .ret ∧ XC b7_4 (.t 9) b7_3 .skip ∧ XS b7_5 b7_1 b7_4 ∧ XR b7_6 r7_6 ∧ XR b7_7 r7_7 ∧ XR b7_8 r7_8 ∧ XS b7_9 b7_8 .ret ∧ XC b7_10 (.t 12) b7_9 .skip ∧ XS b7_11 b7_7 b7_10 ∧ XR b7_12 r7_12 ∧ XR b7_13 r7_13 ∧ XR b7_14 r7_14 ∧ XC b7_15 (.t 17) .skip (.exit 0) ∧ XS b7_16 b7_14 b7_15 ∧ XR b7_17 r7_17 ∧ XB b7_18 1 b7_17 ∧ XR b7_19 r7_19 ∧ XS b7_20 b7_18 b7_19 ∧ XS b7_21 b7_16 b7_20 ∧ XB b7_23 0 b7_22 ∧ XS b7_24 b7_13 b7_23 ∧ XR b7_25 r7_25 ∧ XR b7_26 r7_26 ∧ XS b7_27 b7_26 .ret ∧ XC b7_28 (.t 44) b7_27 .skip ∧ XS b7_29 b7_25 b7_28 ∧ XR b7_30 r7_30 ∧ XR b7_31 r7_31 ∧ XS b7_32 b7_31 .ret ∧ XS b7_33 b7_30 b7_32 ∧ XS b7_35 b7_24 b7_34 ∧ XS b7_36 b7_12 b7_35 ∧ XS b7_37 b7_11 b7_36 ∧ XS b7_38 b7_6 b7_37 ∧ XS b7_39 b7_5 b7_38 ∧ XS b7_40 b7_0 b7_39 ∧ XY s7 70 b7_40 [.t 2] := ⟨rfl, rfl, rfl, rfl, sC_cond, rfl, rfl, rfl, rfl, rfl, sC_cond, rfl, rfl, rfl, rfl, sC_cond, rfl, rfl, rfl, rfl, rfl, rfl, rfl, rfl, rfl, rfl, rfl, sC_cond, rfl, rfl, rfl, rfl, rfl, rfl, rfl, rfl, rfl, rfl, rfl, rfl⟩

set_option maxHeartbeats 4000000
set_option maxRecDepth 10000
def T7 : PCall := rowQ 18 mawakeD (rowQ 19 mnewD (rowQ 20 msendD (rowQ 21 mcopyD (rowQ 22 mlenD (rowQ 23 mtakeD noCall)))))
theorem T7_app {f : FuncId} {args : List AV} {σ : AHeap} {K : AV → AHeap → Prop} : T7 f args σ K = rowQ 18 mawakeD (rowQ 19 mnewD (rowQ 20 msendD (rowQ 21 mcopyD (rowQ 22 mlenD (rowQ 23 mtakeD noCall))))) f args σ K := _root_.id rfl
theorem T7_sound : Sound Try.prog T7 := rowQ_sound mawakeD_ok (rowQ_sound mnewD_ok (rowQ_sound msendD_ok (rowQ_sound mcopyD_ok (rowQ_sound mlenD_ok (rowQ_sound mtakeD_ok (noCall_sound _))))))
theorem yes_true {σ : AHeap} : Yes (.bool true) σ := rfl
def bt (j : Nat) : NoteV := bare 5 1 0 0 (j : Int)
abbrev btC (j : Nat) : List AV := bareC 5 1 0 0 (j : Int)
theorem bt_may {j : Nat} (h : j ≤ 1000) : mayB (bt j) = true := by
  have hn : numB (j : Int) = true := by simp only [numB, Bool.and_eq_true, decide_eq_true_eq]; omega
  have h1 : asksB (bt j) = true := by
    show (!AskV.zero.bad && !RepV.zero.bad && (decide ((5 : Int) = 1) || noAskB AskV.zero) && (decide ((5 : Int) = 2) || noRepB RepV.zero)) = true
    decide +kernel
  have h2 : headB (bt j) = true := by
    show (!decide ((5 : Int) < 1) && (!decide (12 < (5 : Int)) && (partyB 1 && (partyB 0 && (!decide ((1 : Int) = 0) && (numB 0 && numB (j : Int))))))) = true
    rw [hn]; decide +kernel
  have h3 : tickB (bt j) = true := by
    show (decide ((j : Int) = 0) || [5, 6].contains (5 : Int)) = true
    simp
  have h4 : spansB (bt j) = true := rfl
  have h5 : mapsB (bt j) = true := rfl
  simp only [mayB, h1, h2, h3, h4, h5, Bool.and_self]
theorem sent : ∀ {i : Nat}, i ≤ 1000 → sendS [] ((List.range i).map bt) = (min i 512, (List.range (min i 512)).map fun j => (bt j).bytes)
  | 0, _ => rfl
  | i + 1, h => by
    have ih := sent (i := i) (by omega)
    have e : (List.range (i + 1)).map bt = (List.range i).map bt ++ [bt i] := by rw [List.range_succ, List.map_append]; rfl
    have e2 : sendS [] ((List.range (i + 1)).map bt) = send1 (sendS [] ((List.range i).map bt)) (bt i) := by rw [e, sendS, List.foldl_append]; rfl
    rw [e2, ih]
    unfold send1
    by_cases hl : i < 512
    · rw [if_pos ⟨bt_may (by omega), by simp; omega⟩, show min i 512 = i by omega, show min (i + 1) 512 = i + 1 by omega, List.range_succ, List.map_append]; rfl
    · rw [if_neg (by simp; omega), show min i 512 = 512 by omega, show min (i + 1) 512 = 512 by omega]
theorem full_one : sendS ((List.range 512).map fun j => (bt j).bytes) [bt 0] = (0, (List.range 512).map fun j => (bt j).bytes) := by
  simp only [sendS, List.foldl_cons, List.foldl_nil, send1]
  rw [if_neg (by simp)]
def fuI (M S k : Nat) (m : Nat) (e : Env) (σ : AHeap) : Prop :=
  ∃ (i : Nat) (Lv : AV), i ≤ 512 + k ∧ m = 512 + k - i ∧ Ml σ M S [] none ∧ Grow σ Lv 27 ((List.range i).map btC) ∧ LvD Lv ≠ some M ∧ LvD Lv ≠ some S ∧ e 0 = .int .u8 (k : Int) ∧ e 3 = .ptr M 0 ∧ e 4 = Lv ∧ e 5 = .int .i64 (i : Int)
theorem fu_step (M S k : Nat) (hk : k ≤ 255) (Q : MExit → Env → AHeap → Prop) (hQ : ∀ e σ Lv, Ml σ M S [] none → Grow σ Lv 27 ((List.range (512 + k)).map btC) → LvD Lv ≠ some M → LvD Lv ≠ some S → e 3 = .ptr M 0 → e 4 = Lv → sC T7 0 b7_34 (unw T7 0 Q .fin) e σ) (m : Nat) (e : Env) (σ : AHeap) (h : fuI M S k m e σ) :
    sC T7 0 b7_21 (unw T7 0 (loopR T7 0 Q (.block 0 (.seq b7_34 .fin)) (fuI M S k) m) .fin) e σ := by
  obtain ⟨i, Lv, hi, hm, hml, hg, dM, dS, e0, e3, e4, e5⟩ := h
  have hc : IntKind.wrap .i64 (k : Int) = (k : Int) := Gz.wrap64 (by omega)
  have hs : IntKind.wrap .i64 (512 + (k : Int)) = ((512 + k : Nat) : Int) := by rw [Gz.wrap64 (by omega)]; omega
  rcases Nat.lt_or_ge i (512 + k) with hlt | hge
  · have hlt' : (i : Int) < ((512 + k : Nat) : Int) := by omega
    have hw : IntKind.wrap .i64 ((i : Int) + 1) = ((i + 1 : Nat) : Int) := by rw [Gz.wrap64 (by omega)]; omega
    obtain ⟨v, τ, a1, a2, a3, a4, a5⟩ := grow_one (b := 344) (by decide) hg (by simp; omega) (btC i) rfl rfl
    simp only [T7_app, Z7, base1, ↓reduceIte, Nat.reduceAdd, Nat.reduceSub, Nat.reduceMul, Nat.reduceEqDiff, Nat.reduceLeDiff, Nat.reduceLT, Int.reduceLT, Int.reduceLE, Int.reduceEq, Int.reduceNe, Int.reduceToNat, Int.reduceAdd, Int.reduceSub, reduceCtorEq, Nat.reduceBEq, Nat.reduceBNe, loopR_exit, loopR_ret, e0, e3, e4, e5, hc, hs, hlt', a1, a2, a3, hw]
    rw [loopR_normal]
    have slt : ∀ {j : Nat} {c : List AV}, hget σ j = some c → LvD Lv ≠ some j → hget τ j = some c := fun hj hn => (a4 _ _ hj hn).1
    have hS : ∃ c, hget σ S = some c := by rcases hml.sp with ⟨_, _, hh⟩ | ⟨_, _, _, _, hh, _⟩ <;> exact ⟨_, hh⟩
    obtain ⟨cS, hcS⟩ := hS
    have sp1 : Sp τ S [] none := sp_frame hml.sp fun j c hj hjd => by
      rcases hjd with rfl | hh
      · exact slt hj dS
      · cases hh
    have ml1 : Ml τ M S [] none := ⟨slt hml.m dM, hml.ms, by simp, sp1, by simp⟩
    refine ⟨512 + k - (i + 1), _, _, by omega, .refl _ _ _, i + 1, v, by omega, rfl, ml1, ?_, (a4 _ _ hml.m dM).2, (a4 _ _ hcS dS).2, e0, e3, rfl, rfl⟩
    rw [List.range_succ, List.map_append]; exact a5
  · have hlt' : ¬ (i : Int) < ((512 + k : Nat) : Int) := by omega
    have hie : i = 512 + k := by omega
    subst hie
    simp only [T7_app, Z7, base1, ↓reduceIte, Nat.reduceAdd, Nat.reduceSub, Nat.reduceMul, Nat.reduceEqDiff, Nat.reduceLeDiff, Nat.reduceLT, Int.reduceLT, Int.reduceLE, Int.reduceEq, Int.reduceNe, Int.reduceToNat, Int.reduceAdd, Int.reduceSub, reduceCtorEq, Nat.reduceBEq, Nat.reduceBNe, loopR_exit, loopR_ret, e0, e3, e4, e5, hc, hs, hlt']
    exact hQ _ _ Lv hml hg dM dS e3 e4
theorem bt_cells (j : Nat) : (btC j).map nz1 = (bt j).cells := rfl
theorem rest7 (M S k : Nat) (hk : k ≤ 255) (e : Env) (σ : AHeap) (Lv : AV) (hml : Ml σ M S [] none) (hg : Grow σ Lv 27 ((List.range (512 + k)).map btC)) (dM : LvD Lv ≠ some M) (dS : LvD Lv ≠ some S) (e3 : e 3 = .ptr M 0) (e4 : e 4 = Lv) :
    sC T7 0 b7_34 (unw T7 0 (RetQ [.t 2] Yes) .fin) e σ := by
  rcases hg with ⟨_, hn⟩ | ⟨d, rfl, hd, hl27, hcl⟩
  · have := congrArg List.length hn
    simp at this
  have hdS : d ≠ S := fun h => dS (by rw [h]; rfl)
  have hN : ((List.range (512 + k)).map btC).length = 512 + k := by simp
  rw [hN] at e4
  have hsent := sent (i := 512 + k) (by omega)
  rw [show min (512 + k) 512 = 512 by omega] at hsent
  have hs1 : evSlice 27 (.slice d 0 (512 + k) none 27) none (some (.int .i64 1)) none = some (.slice d 0 1 none 27) := by
    have b1 : bound? none (512 + k) (512 + k) = some (512 + k) := rfl
    have b2 : bound? (some (.int .i64 1)) (512 + k) (512 + k) = some 1 := by rw [bound_int, if_pos (by omega), if_pos (by omega)]; rfl
    have b3 : bound? none 0 1 = some 0 := rfl
    simp only [evSlice, topOf, b1, b2, b3]
    rw [if_pos ⟨by omega, by omega, trivial⟩]
    rfl
  have hflat : ((List.range (512 + k)).map btC).flatten = [btC 0].flatten ++ ((List.range (511 + k)).map fun j => btC (j + 1)).flatten := by
    rw [show 512 + k = (511 + k) + 1 by omega, List.range_succ_eq_map]
    simp [List.map_map, Function.comp_def]
  simp only [T7_app, Z7, x7_34, base1, ↓reduceIte, Nat.reduceAdd, Nat.reduceSub, Nat.reduceMul, Nat.reduceEqDiff, Nat.reduceLeDiff, Nat.reduceLT, Int.reduceLT, Int.reduceLE, Int.reduceEq, Int.reduceNe, Int.reduceToNat, Int.reduceAdd, Int.reduceSub, reduceCtorEq, Nat.reduceBEq, Nat.reduceBNe, e3, e4]
  refine ⟨M, S, d, none, (List.range (512 + k)).map bt, (List.range (512 + k)).map btC, [], [], none, by simp, by rw [List.append_nil]; exact hd, hdS, by simp, by simp, fun i cs n hc hn => ?_, fun n hn => ?_, by simp; omega, hml, fun σ1 D1 m1 f1 => ?_⟩
  · rw [List.getElem?_map] at hc hn
    cases hr : (List.range (512 + k))[i]? with
    | none => rw [hr] at hc; cases hc
    | some j => rw [hr] at hc hn; cases hc; cases hn; exact bt_cells j
  · obtain ⟨j, _, rfl⟩ := List.mem_map.1 hn
    exact bare_sz _ _ _ _ _
  rw [hsent] at m1 ⊢
  have hlen : ((List.range 512).map fun j => (bt j).bytes).length = 512 := by simp
  obtain ⟨gd1, gD1⟩ := f1 d _ hd hdS (by simp)
  simp only [T7_app, Z7, x7_34, base1, ↓reduceIte, Nat.reduceAdd, Nat.reduceSub, Nat.reduceMul, Nat.reduceEqDiff, Nat.reduceLeDiff, Nat.reduceLT, Int.reduceLT, Int.reduceLE, Int.reduceEq, Int.reduceNe, Int.reduceToNat, Int.reduceAdd, Int.reduceSub, reduceCtorEq, Nat.reduceBEq, Nat.reduceBNe, e3, e4]
  refine ⟨M, S, 3, _, D1, rfl, by decide, m1, fun _ => ?_, fun _ _ _ _ hlt => ?_⟩
  rotate_left
  · simp at hlt
  simp only [T7_app, Z7, x7_34, base1, ↓reduceIte, Nat.reduceAdd, Nat.reduceSub, Nat.reduceMul, Nat.reduceEqDiff, Nat.reduceLeDiff, Nat.reduceLT, Int.reduceLT, Int.reduceLE, Int.reduceEq, Int.reduceNe, Int.reduceToNat, Int.reduceAdd, Int.reduceSub, reduceCtorEq, Nat.reduceBEq, Nat.reduceBNe, e3, e4, hs1]
  refine ⟨M, S, d, none, [bt 0], [btC 0], _, _, D1, rfl, by rw [← hflat]; exact gd1, hdS, gD1, rfl, fun i cs n hc hn => ?_, fun n hn => ?_, by simp, m1, fun σ2 D2 m2 f2 => ?_⟩
  · match i with
    | 0 => simp at hc hn; subst hc; subst hn; exact bt_cells 0
    | i + 1 => simp at hc
  · simp at hn; subst hn; exact bare_sz _ _ _ _ _
  have m2 : Ml σ2 M S ((List.range 512).map fun j => (bt j).bytes) D2 := by
    have := m2
    rw [full_one] at this; exact this
  rw [full_one]
  simp only [T7_app, Z7, x7_34, base1, ↓reduceIte, Nat.reduceAdd, Nat.reduceSub, Nat.reduceMul, Nat.reduceEqDiff, Nat.reduceLeDiff, Nat.reduceLT, Int.reduceLT, Int.reduceLE, Int.reduceEq, Int.reduceNe, Int.reduceToNat, Int.reduceAdd, Int.reduceSub, reduceCtorEq, Nat.reduceBEq, Nat.reduceBNe, e3, e4]
  refine ⟨M, S, _, D2, rfl, m2, ?_⟩
  have hlen' : ((((List.range 512).map fun j => (bt j).bytes).length : Nat) : Int) = 512 := by rw [hlen]; rfl
  have hpl : place 517 ((List.range 512).map fun j => (bt j).bytes).length = ((5 : Nat) : Int) := by rw [hlen]; rfl
  simp only [T7_app, Z7, x7_34, base1, ↓reduceIte, Nat.reduceAdd, Nat.reduceSub, Nat.reduceMul, Nat.reduceEqDiff, Nat.reduceLeDiff, Nat.reduceLT, Int.reduceLT, Int.reduceLE, Int.reduceEq, Int.reduceNe, Int.reduceToNat, Int.reduceAdd, Int.reduceSub, reduceCtorEq, Nat.reduceBEq, Nat.reduceBNe, e3, e4, hlen']
  refine ⟨M, S, 517, _, D2, rfl, by decide, m2, fun x hx => ?_, fun hn => ?_, fun j x hj hx σ3 D3 m3 f3 => ?_⟩
  · obtain ⟨j, _, rfl⟩ := List.mem_map.1 hx
    have : (bt j).bytes.length = 20 := rfl
    omega
  · rw [hpl] at hn; simp at hn
  rw [hpl] at hj
  have hj5 : j = 5 := by omega
  subst hj5
  have hx5 : x = (bt 5).bytes := by simpa using hx.symm
  subst hx5
  rw [note_good (bt_may (by omega)) (bare_sz _ _ _ _ _)]
  have hl3 : (((List.range 512).map fun j => (bt j).bytes).eraseIdx 5).length = 511 := by rw [List.length_eraseIdx, hlen]; rfl
  generalize ((List.range 512).map fun j => (bt j).bytes).eraseIdx 5 = ss3 at m3 hl3
  have al3 : ∀ c d : List AV, FrS σ3 (hset (hpush σ3 c) σ3.length d) S D3 D3 := fun c d j z hj _ h2 => ⟨al_frame hj, h2⟩
  have ml3 : ∀ c d : List AV, Ml (hset (hpush σ3 c) σ3.length d) M S ss3 D3 := fun c d => m3.next (sp_frame m3.sp fun j z hj _ => al_frame hj) (al3 c d) m3.few
  have pn : ∀ c : List AV, hget (hpush σ3 c) σ3.length = some c := fun c => push_new rfl
  have sn : ∀ c d : List AV, hget (hset (hpush σ3 c) σ3.length d) σ3.length = some d := fun c d => set_same (pn c)
  have pz : put (bareC 0 0 0 0 0) 0 (bt 5, (0 : Int)).1.cells = some (bt 5).cells := put_all rfl
  have c4 : (bt 5).cells[4]? = some (.int .i64 5) := rfl
  have ncl : (bt 5, (0 : Int)).1.cells.length = 27 := rfl
  have ncc : ((bt 5, (0 : Int)).1.cells.all fun x => x.isCell) = true := rfl
  have p0 : place 0 ss3.length = ((0 : Nat) : Int) := by rw [hl3]; rfl
  simp only [T7_app, Z7, x7_34, base1, ↓reduceIte, Nat.reduceAdd, Nat.reduceSub, Nat.reduceMul, Nat.reduceEqDiff, Nat.reduceLeDiff, Nat.reduceLT, Int.reduceLT, Int.reduceLE, Int.reduceEq, Int.reduceNe, Int.reduceToNat, Int.reduceAdd, Int.reduceSub, reduceCtorEq, Nat.reduceBEq, Nat.reduceBNe, e3, e4, pn, sn, pz, c4, ncl, ncc]
  refine ⟨M, S, 0, ss3, D3, rfl, by decide, ml3 _ _, fun hn => ?_, fun j x hj hx hlt σ4 D4 m4 f4 => ?_⟩
  · rw [p0] at hn; simp at hn; omega
  have hl4 : (ss3 ++ [x]).length = 512 := by simp [hl3]
  generalize ss3 ++ [x] = ss4 at m4 hl4
  have hl4' : ((ss4.length : Nat) : Int) = 512 := by rw [hl4]; rfl
  simp only [T7_app, Z7, x7_34, base1, ↓reduceIte, Nat.reduceAdd, Nat.reduceSub, Nat.reduceMul, Nat.reduceEqDiff, Nat.reduceLeDiff, Nat.reduceLT, Int.reduceLT, Int.reduceLE, Int.reduceEq, Int.reduceNe, Int.reduceToNat, Int.reduceAdd, Int.reduceSub, reduceCtorEq, Nat.reduceBEq, Nat.reduceBNe, e3, e4]
  refine ⟨M, S, ss4, D4, rfl, m4, ?_⟩
  simp only [T7_app, Z7, x7_34, base1, ↓reduceIte, Nat.reduceAdd, Nat.reduceSub, Nat.reduceMul, Nat.reduceEqDiff, Nat.reduceLeDiff, Nat.reduceLT, Int.reduceLT, Int.reduceLE, Int.reduceEq, Int.reduceNe, Int.reduceToNat, Int.reduceAdd, Int.reduceSub, reduceCtorEq, Nat.reduceBEq, Nat.reduceBNe, e3, e4, hl4']
  refine ⟨M, S, 0, ss4, D4, rfl, by decide, m4, fun _ => ?_, fun _ _ _ _ hlt => ?_⟩
  · simp only [T7_app, Z7, x7_34, base1, ↓reduceIte, Nat.reduceAdd, Nat.reduceSub, Nat.reduceMul, Nat.reduceEqDiff, Nat.reduceLeDiff, Nat.reduceLT, Int.reduceLT, Int.reduceLE, Int.reduceEq, Int.reduceNe, Int.reduceToNat, Int.reduceAdd, Int.reduceSub, reduceCtorEq, Nat.reduceBEq, Nat.reduceBNe, e3, e4]
    exact yes_true
  · omega
theorem law (k : Nat) (hk : k ≤ 255) : sF T7 s7 [.int .u8 (k : Int)] [] Yes := by
  simp only [T7_app, Z7, x7_34, base1, ↓reduceIte, Nat.reduceAdd, Nat.reduceSub, Nat.reduceMul, Nat.reduceEqDiff, Nat.reduceLeDiff, Nat.reduceLT, Int.reduceLT, Int.reduceLE, Int.reduceEq, Int.reduceNe, Int.reduceToNat, Int.reduceAdd, Int.reduceSub, reduceCtorEq, Nat.reduceBEq, Nat.reduceBNe]
  refine ⟨rfl, fun σ => ?_⟩
  simp only [T7_app, Z7, x7_34, base1, ↓reduceIte, Nat.reduceAdd, Nat.reduceSub, Nat.reduceMul, Nat.reduceEqDiff, Nat.reduceLeDiff, Nat.reduceLT, Int.reduceLT, Int.reduceLE, Int.reduceEq, Int.reduceNe, Int.reduceToNat, Int.reduceAdd, Int.reduceSub, reduceCtorEq, Nat.reduceBEq, Nat.reduceBNe]
  refine ⟨rfl, ?_⟩
  have m0 := ml_new (σ := σ)
  generalize hpush (hpush σ [.int .i64 512, .nilslice]) [.ptr σ.length 0] = σ1 at m0 ⊢
  simp only [T7_app, Z7, x7_34, base1, ↓reduceIte, Nat.reduceAdd, Nat.reduceSub, Nat.reduceMul, Nat.reduceEqDiff, Nat.reduceLeDiff, Nat.reduceLT, Int.reduceLT, Int.reduceLE, Int.reduceEq, Int.reduceNe, Int.reduceToNat, Int.reduceAdd, Int.reduceSub, reduceCtorEq, Nat.reduceBEq, Nat.reduceBNe]
  exact sC_inv (a := b7_21) (fuI (σ.length + 1) σ.length k) (512 + k - 0) _ _ (.refl _ _ _) ⟨0, .nilslice, Nat.zero_le _, rfl, m0, .inl ⟨rfl, rfl⟩, by simp [LvD], by simp [LvD], rfl, rfl, rfl, rfl⟩ (fu_step (σ.length + 1) σ.length k hk _ fun e σ Lv h1 h2 h3 h4 h5 h6 => rest7 _ _ k hk e σ Lv h1 h2 h3 h4 h5 h6)
abbrev Inp := Int × Unit
def avs (p : Inp) : List AV := [.int .u8 p.1]
def oks (p : Inp) : Prop := (IntKind.min .u8 ≤ p.1 ∧ p.1 ≤ IntKind.max .u8) ∧ True
theorem args : Args Try.prog Try.f7.params.toList avs oks := by
  have hp : Try.f7.params.toList = [5] := by kernel_rfl
  rw [hp]
  exact .cons (arg_int (by kernel_rfl)) .nil
theorem comes (y : Inp) (hy : oks y) : Tri Try.prog 7 (avs y) [] Yes := by
  obtain ⟨a, u⟩ := y
  obtain ⟨⟨h1, h2⟩, _⟩ := hy
  have h1' : (0 : Int) ≤ a := h1
  have h2' : a ≤ (255 : Int) := h2
  obtain ⟨k, rfl⟩ := Int.eq_ofNat_of_zero_le h1'
  exact Tri.of_s c7 T7_sound (law k (by omega))
theorem own : ownKnob Try.prog.godebug = none := by kernel_rfl
theorem laidOut : laidOutB Try.prog = true := by kernel_rfl
theorem lifted (os : Os) (started : os.Started) (H : Type) (enc : TypeId × Value → H) :
    ReturnsInHanded {} Try.checked os 7 .any (Rows.mailFullSpec.pre6 enc Try.prog Try.f7 Rows.mailFullRow.domain false) (Rows.mailFullSpec.post enc Try.prog Try.f7 false true false false) := by
  refine returnsInHanded_of_change_sized (C := Try.checked) own started (by kernel_rfl) Try.func7
    (ChangeSpec.witness6 (enc := enc) (C := Try.checked) false ⟨#[], #[.int .u8 0], []⟩ 8 (by kernel_rfl) (by kernel_rfl) (by kernel_rfl) (by kernel_rfl)) ?_
  intro W base args0 ds gs before hval hW _ hz _
  have hp : Try.f7.params.toList = [5] := by kernel_rfl
  refine calls_post (avs := avs) (oks := oks) laidOut ?_ (by kernel_rfl) (tb := 4) (by kernel_rfl) rfl ?_ args comes hval hW hz
  · rw [hp]; intro t ht
    have h3 : ([5].all fun t => Try.prog.readableRec t && Nat.blt t Try.prog.types.size) = true := by kernel_rfl
    have := List.all_eq_true.1 h3 t ht
    rw [Bool.and_eq_true, Nat.blt_eq] at this
    exact this
  · intro ds h
    rw [hp] at h
    match ds, h with
    | [_], _ => rfl
end Go.Proofs.Ytndlgmciplckjaa.mailFull
namespace Go.Proofs.Ytndlgmciplckjaa
open Go.ChangeShapes Go.WideShapes Go.ChangeAt Go.RowKit
theorem mailFull_holds : Rows.MailFullSaid :=
  OpenClaim.holds_of_wide 7 Try.f7 rfl rfl rfl rfl rfl rfl rfl ⟨rfl, rfl, rfl, rfl, rfl⟩ rfl rfl rfl rfl rfl (by kernel_rfl) Try.func7 (by kernel_rfl)
    (of_decide_eq_true (by kernel_rfl)) (by unfold Func.isWrapper; first | (rw [if_pos (by decide +kernel)]; kernel_rfl) | (rw [if_neg (by decide +kernel)]; exact ⟨rfl, rfl⟩))
    (fun os started H enc _ => mailFull.lifted os started H enc)
end Go.Proofs.Ytndlgmciplckjaa
