/- The law gazetteerlaw9.ParcelApart returns true for every input: the bytes of an ask, of a reply, are the packed numbers and texts one behind the other, and these can be told apart. No condition. -/
import Derived.Test.YtmjnmnhpmbbmgaaParcelPack
set_option linter.unusedVariables false
set_option linter.unusedSimpArgs false
namespace Go.Proofs.Ytmjnmnhpmbbmgaa.parcelApart
open Go.ChangeShapes Go.WideShapes Go.ChangeAt Go.RowKit Go.Gz
section
variable {C : PCall} {n0 : Nat} {R : MExit → Env → AHeap → Prop} {k : Cont} {e : Env} {σ : AHeap}
def r8_0 : List MOper := [⟨(some 3), .box (.t 0), none⟩,
  ⟨(some 4), .box (.t 1), none⟩,
  ⟨(some 5), .box (.t 2), none⟩,
  ⟨(some 6), .move (.c (.bool false)), none⟩]
def b8_0 : SCode := .region r8_0
theorem x8_0 : sC C n0 b8_0 (unw C n0 R k) e σ = sOps C r8_0 (unw C n0 R k .normal) e σ := _root_.id rfl
def r8_1 : List MOper := [⟨(some 15), .call 22 [], none⟩,
  ⟨(some 16), .un .not (.t 15), none⟩]
def b8_1 : SCode := .region r8_1
theorem x8_1 : sC C n0 b8_1 (unw C n0 R k) e σ = sOps C r8_1 (unw C n0 R k .normal) e σ := _root_.id rfl
def r8_2 : List MOper := [⟨(some 6), .move (.c (.bool false)), none⟩]
def b8_2 : SCode := .region r8_2
theorem x8_2 : sC C n0 b8_2 (unw C n0 R k) e σ = sOps C r8_2 (unw C n0 R k .normal) e σ := _root_.id rfl
def b8_3 : SCode := .seq b8_2 .ret
theorem x8_3 : sC C n0 b8_3 (unw C n0 R k) e σ = sC C n0 b8_2 (unw C n0 R (.seq .ret k)) e σ := _root_.id rfl
def b8_4 : SCode := .cond (.t 16) b8_3 .skip
theorem x8_4 : sC C n0 b8_4 (unw C n0 R k) e σ = condK C n0 R (Opd.ev e (.t 16)) b8_3 .skip k e σ := sC_cond
def b8_5 : SCode := .seq b8_1 b8_4
theorem x8_5 : sC C n0 b8_5 (unw C n0 R k) e σ = sC C n0 b8_1 (unw C n0 R (.seq b8_4 k)) e σ := _root_.id rfl
def r8_6 : List MOper := [⟨(some 17), .loadN 8 (.t 3), none⟩,
  ⟨(some 18), .call 23 [(.t 17)], none⟩,
  ⟨(some 19), .un .not (.t 18), none⟩,
  ⟨(some 20), .move (.t 19), none⟩,
  ⟨(some 21), .loadN 8 (.t 4), (some (20, false))⟩,
  ⟨(some 22), .call 23 [(.t 21)], (some (20, false))⟩,
  ⟨(some 23), .un .not (.t 22), (some (20, false))⟩,
  ⟨(some 24), .pick (.t 20) (.c (.bool true)) (.t 23), none⟩,
  ⟨(some 25), .move (.t 24), none⟩,
  ⟨(some 26), .indexArrAddr 2 8 (.t 5) (.c (.int .i64 0)), (some (25, false))⟩,
  ⟨(some 27), .loadN 8 (.t 26), (some (25, false))⟩,
  ⟨(some 28), .call 24 [(.t 27)], (some (25, false))⟩,
  ⟨(some 29), .un .not (.t 28), (some (25, false))⟩,
  ⟨(some 30), .pick (.t 25) (.c (.bool true)) (.t 29), none⟩,
  ⟨(some 31), .move (.t 30), none⟩,
  ⟨(some 32), .indexArrAddr 2 8 (.t 5) (.c (.int .i64 1)), (some (31, false))⟩,
  ⟨(some 33), .loadN 8 (.t 32), (some (31, false))⟩,
  ⟨(some 34), .call 24 [(.t 33)], (some (31, false))⟩,
  ⟨(some 35), .un .not (.t 34), (some (31, false))⟩,
  ⟨(some 36), .pick (.t 31) (.c (.bool true)) (.t 35), none⟩]
def b8_6 : SCode := .region r8_6
theorem x8_6 : sC C n0 b8_6 (unw C n0 R k) e σ = sOps C r8_6 (unw C n0 R k .normal) e σ := _root_.id rfl
def r8_7 : List MOper := [⟨(some 6), .move (.c (.bool true)), none⟩]
def b8_7 : SCode := .region r8_7
theorem x8_7 : sC C n0 b8_7 (unw C n0 R k) e σ = sOps C r8_7 (unw C n0 R k .normal) e σ := _root_.id rfl
def b8_8 : SCode := .seq b8_7 .ret
theorem x8_8 : sC C n0 b8_8 (unw C n0 R k) e σ = sC C n0 b8_7 (unw C n0 R (.seq .ret k)) e σ := _root_.id rfl
def b8_9 : SCode := .cond (.t 36) b8_8 .skip
theorem x8_9 : sC C n0 b8_9 (unw C n0 R k) e σ = condK C n0 R (Opd.ev e (.t 36)) b8_8 .skip k e σ := sC_cond
def b8_10 : SCode := .seq b8_6 b8_9
theorem x8_10 : sC C n0 b8_10 (unw C n0 R k) e σ = sC C n0 b8_6 (unw C n0 R (.seq b8_9 k)) e σ := _root_.id rfl
def r8_11 : List MOper := [⟨(some 38), .loadN 8 (.t 3), none⟩,
  ⟨(some 39), .call 25 [(.t 38)], none⟩,
  ⟨(some 37), .move (.t 39), none⟩,
  ⟨(some 40), .extract (.t 37) 0, none⟩,
  ⟨(some 41), .extract (.t 37) 1, none⟩,
  ⟨(some 7), .move (.t 40), none⟩,
  ⟨(some 8), .move (.t 41), none⟩]
def b8_11 : SCode := .region r8_11
theorem x8_11 : sC C n0 b8_11 (unw C n0 R k) e σ = sOps C r8_11 (unw C n0 R k .normal) e σ := _root_.id rfl
def r8_12 : List MOper := [⟨(some 43), .loadN 8 (.t 4), none⟩,
  ⟨(some 44), .call 25 [(.t 43)], none⟩,
  ⟨(some 42), .move (.t 44), none⟩,
  ⟨(some 45), .extract (.t 42) 0, none⟩,
  ⟨(some 46), .extract (.t 42) 1, none⟩,
  ⟨(some 9), .move (.t 45), none⟩,
  ⟨(some 10), .move (.t 46), none⟩]
def b8_12 : SCode := .region r8_12
theorem x8_12 : sC C n0 b8_12 (unw C n0 R k) e σ = sOps C r8_12 (unw C n0 R k .normal) e σ := _root_.id rfl
def r8_13 : List MOper := [⟨(some 48), .indexArrAddr 2 8 (.t 5) (.c (.int .i64 0)), none⟩,
  ⟨(some 49), .loadN 8 (.t 48), none⟩,
  ⟨(some 50), .call 26 [(.t 49)], none⟩,
  ⟨(some 47), .move (.t 50), none⟩,
  ⟨(some 51), .extract (.t 47) 0, none⟩,
  ⟨(some 52), .extract (.t 47) 1, none⟩,
  ⟨(some 11), .move (.t 51), none⟩,
  ⟨(some 12), .move (.t 52), none⟩]
def b8_13 : SCode := .region r8_13
theorem x8_13 : sC C n0 b8_13 (unw C n0 R k) e σ = sOps C r8_13 (unw C n0 R k .normal) e σ := _root_.id rfl
def r8_14 : List MOper := [⟨(some 54), .indexArrAddr 2 8 (.t 5) (.c (.int .i64 1)), none⟩,
  ⟨(some 55), .loadN 8 (.t 54), none⟩,
  ⟨(some 56), .call 26 [(.t 55)], none⟩,
  ⟨(some 53), .move (.t 56), none⟩,
  ⟨(some 57), .extract (.t 53) 0, none⟩,
  ⟨(some 58), .extract (.t 53) 1, none⟩,
  ⟨(some 13), .move (.t 57), none⟩,
  ⟨(some 14), .move (.t 58), none⟩]
def b8_14 : SCode := .region r8_14
theorem x8_14 : sC C n0 b8_14 (unw C n0 R k) e σ = sOps C r8_14 (unw C n0 R k .normal) e σ := _root_.id rfl
def t8_15 : LTree := (.quiet ⟨(some 59), .move (.t 8), none⟩ 0
  (.quiet ⟨(some 60), .bin .neq .num (.t 59) (.c (.int .i64 0)), none⟩ 1
  (.quiet ⟨(some 61), .move (.t 60), none⟩ 2
  (.quiet ⟨(some 62), .move (.t 10), (some (61, false))⟩ 3
  (.quiet ⟨(some 63), .bin .neq .num (.t 62) (.c (.int .i64 0)), (some (61, false))⟩ 4
  (.quiet ⟨(some 64), .pick (.t 61) (.c (.bool true)) (.t 63), none⟩ 5
  (.quiet ⟨(some 65), .move (.t 64), none⟩ 6
  (.quiet ⟨(some 66), .move (.t 7), (some (65, false))⟩ 7
  (.quiet ⟨(some 67), .ofBytes (.t 66), (some (65, false))⟩ 8
  (.quiet ⟨(some 68), .move (.t 9), (some (65, false))⟩ 9
  (.quiet ⟨(some 69), .ofBytes (.t 68), (some (65, false))⟩ 10
  (.quiet ⟨(some 70), .bin .eql .num (.t 67) (.t 69), (some (65, false))⟩ 11
  (.quiet ⟨(some 71), .loadN 8 (.t 3), (some (65, false))⟩ 12
  (.quiet ⟨(some 72), .loadN 8 (.t 4), (some (65, false))⟩ 13
  (.quiet ⟨(some 73), .bin .eql (.flat [.i, .i, .i, .s, .s, .s, .s, .i]) (.t 71) (.t 72), (some (65, false))⟩ 14
  (.quiet ⟨(some 74), .bin .eql .bool (.t 70) (.t 73), (some (65, false))⟩ 15
  (.quiet ⟨(some 75), .pick (.t 65) (.c (.bool true)) (.t 74), none⟩ 16
  (.quiet ⟨(some 76), .move (.t 75), none⟩ 17
  (.quiet ⟨(some 77), .move (.t 12), (some (76, true))⟩ 18
  (.quiet ⟨(some 78), .bin .neq .num (.t 77) (.c (.int .i64 0)), (some (76, true))⟩ 19
  (.quiet ⟨(some 79), .move (.t 78), (some (76, true))⟩ 20
  (.quiet ⟨(some 80), .move (.t 14), (some (79, false))⟩ 21
  (.quiet ⟨(some 81), .bin .neq .num (.t 80) (.c (.int .i64 0)), (some (79, false))⟩ 22
  (.quiet ⟨(some 82), .pick (.t 79) (.c (.bool true)) (.t 81), (some (76, true))⟩ 23
  (.quiet ⟨(some 83), .move (.t 82), (some (76, true))⟩ 24
  (.quiet ⟨(some 84), .move (.t 11), (some (83, false))⟩ 25
  (.quiet ⟨(some 85), .ofBytes (.t 84), (some (83, false))⟩ 26
  (.quiet ⟨(some 86), .move (.t 13), (some (83, false))⟩ 27
  (.quiet ⟨(some 87), .ofBytes (.t 86), (some (83, false))⟩ 28
  (.quiet ⟨(some 88), .bin .eql .num (.t 85) (.t 87), (some (83, false))⟩ 29
  (.quiet ⟨(some 89), .indexArrAddr 2 8 (.t 5) (.c (.int .i64 0)), (some (83, false))⟩ 30
  (.quiet ⟨(some 90), .loadN 8 (.t 89), (some (83, false))⟩ 31
  (.quiet ⟨(some 91), .indexArrAddr 2 8 (.t 5) (.c (.int .i64 1)), (some (83, false))⟩ 32
  (.quiet ⟨(some 92), .loadN 8 (.t 91), (some (83, false))⟩ 33
  (.loud ⟨(some 93), .call 27 [(.t 90), (.t 92)], (some (83, false))⟩ [26, 28]
  (.quiet ⟨(some 94), .bin .eql .bool (.t 88) (.t 93), (some (83, false))⟩ 35
  (.quiet ⟨(some 95), .pick (.t 83) (.c (.bool true)) (.t 94), (some (76, true))⟩ 36
  (.quiet ⟨(some 96), .pick (.t 76) (.t 95) (.c (.bool false)), none⟩ 37
  (.quiet ⟨(some 6), .move (.t 96), none⟩ 38
  .leaf)))) .stop)))))))))))))))))))))))))))))))))))
def b8_15 : SCode := .draw t8_15
theorem x8_15 : sC C n0 b8_15 (unw C n0 R k) e σ = sTree C (unw C n0 R k .normal) t8_15 [] e σ := _root_.id rfl
def b8_16 : SCode := .seq b8_15 .ret
theorem x8_16 : sC C n0 b8_16 (unw C n0 R k) e σ = sC C n0 b8_15 (unw C n0 R (.seq .ret k)) e σ := _root_.id rfl
def b8_17 : SCode := .seq b8_14 b8_16
theorem x8_17 : sC C n0 b8_17 (unw C n0 R k) e σ = sC C n0 b8_14 (unw C n0 R (.seq b8_16 k)) e σ := _root_.id rfl
def b8_18 : SCode := .seq b8_13 b8_17
theorem x8_18 : sC C n0 b8_18 (unw C n0 R k) e σ = sC C n0 b8_13 (unw C n0 R (.seq b8_17 k)) e σ := _root_.id rfl
def b8_19 : SCode := .seq b8_12 b8_18
theorem x8_19 : sC C n0 b8_19 (unw C n0 R k) e σ = sC C n0 b8_12 (unw C n0 R (.seq b8_18 k)) e σ := _root_.id rfl
def b8_20 : SCode := .seq b8_11 b8_19
theorem x8_20 : sC C n0 b8_20 (unw C n0 R k) e σ = sC C n0 b8_11 (unw C n0 R (.seq b8_19 k)) e σ := _root_.id rfl
def b8_21 : SCode := .seq b8_10 b8_20
theorem x8_21 : sC C n0 b8_21 (unw C n0 R k) e σ = sC C n0 b8_10 (unw C n0 R (.seq b8_20 k)) e σ := _root_.id rfl
def b8_22 : SCode := .seq b8_5 b8_21
theorem x8_22 : sC C n0 b8_22 (unw C n0 R k) e σ = sC C n0 b8_5 (unw C n0 R (.seq b8_21 k)) e σ := _root_.id rfl
def b8_23 : SCode := .seq b8_0 b8_22
theorem x8_23 : sC C n0 b8_23 (unw C n0 R k) e σ = sC C n0 b8_0 (unw C n0 R (.seq b8_22 k)) e σ := _root_.id rfl
def s8 : SFunc := ⟨97, [.t 6], b8_23⟩
theorem c8 : sFn Try.prog 8 = some s8 := by kernel_rfl
theorem y8 {args : List AV} {Q : AV → AHeap → Prop} : sF C s8 args σ Q = (args.length ≤ 97 ∧ sC C σ.length b8_23 (unw C σ.length (RetQ [.t 6] Q) .fin) (argEnv args) σ) := _root_.id rfl

end
set_option maxHeartbeats 4000000
set_option maxRecDepth 10000
/-! The plain laws. -/
theorem badT_len {s : List UInt8} (h : badT s = false) : s.length ≤ 268435455 := by
  simp only [badT, badN, Bool.or_eq_false_iff, decide_eq_false_iff_not] at h
  omega
theorem ask_inj {a b : AskV} (ha : a.bad = false) (hb : b.bad = false) : a.bytes = b.bytes ↔ a = b := by
  refine ⟨fun h => ?_, fun h => by rw [h]⟩
  obtain ⟨a1, a2, a3, a4, a5, a6, a7, a8⟩ := a
  obtain ⟨b1, b2, b3, b4, b5, b6, b7, b8⟩ := b
  simp only [AskV.bad, AskV.nums, AskV.texts, List.any_cons, List.any_nil, Bool.or_false, Bool.or_eq_false_iff] at ha hb
  obtain ⟨⟨⟨x1, x2, x3, x4⟩, x5, x6, x7, x8⟩, _⟩ := ha
  obtain ⟨⟨⟨y1, y2, y3, y4⟩, y5, y6, y7, y8⟩, _⟩ := hb
  simp only [AskV.bytes, AskV.nums, AskV.texts, List.flatMap_cons, List.flatMap_nil, List.append_nil, List.append_assoc] at h
  obtain ⟨e1, h⟩ := cons32 h x1 y1
  obtain ⟨e2, h⟩ := cons32 h x2 y2
  obtain ⟨e3, h⟩ := cons32 h x3 y3
  obtain ⟨e4, h⟩ := cons32 h x4 y4
  obtain ⟨e5, h⟩ := consT h (badT_len x5) (badT_len y5)
  obtain ⟨e6, h⟩ := consT h (badT_len x6) (badT_len y6)
  obtain ⟨e7, h⟩ := consT h (badT_len x7) (badT_len y7)
  have h' : txt a7 ++ [] = txt b7 ++ [] := by simpa using h
  obtain ⟨e8, _⟩ := consT h' (badT_len x8) (badT_len y8)
  subst e1 e2 e3 e4 e5 e6 e7 e8
  rfl
theorem list_inj : ∀ {l m : List (List UInt8 × List UInt8)} {r s : List UInt8}, l.length = m.length → l.any badT2 = false → m.any badT2 = false → l.flatMap txt2 ++ r = m.flatMap txt2 ++ s → l = m ∧ r = s
  | [], [], r, s, _, _, _, h => ⟨rfl, by simpa using h⟩
  | (p1, p2) :: l, (q1, q2) :: m, r, s, hl, h1, h2, h => by
    simp only [List.any_cons, Bool.or_eq_false_iff, badT2] at h1 h2
    obtain ⟨⟨x1, x2⟩, x3⟩ := h1
    obtain ⟨⟨y1, y2⟩, y3⟩ := h2
    simp only [List.flatMap_cons, txt2, List.append_assoc] at h
    obtain ⟨e1, h⟩ := consT h (badT_len x1) (badT_len y1)
    obtain ⟨e2, h⟩ := consT h (badT_len x2) (badT_len y2)
    obtain ⟨e3, h⟩ := list_inj (by simpa using hl) x3 y3 h
    exact ⟨by rw [e1, e2, e3], h⟩
theorem tb_inj {p q : Bool} {r s : List UInt8} (h : tb p ++ r = tb q ++ s) : p = q ∧ r = s := by
  cases p <;> cases q <;> simp [tb] at h <;> exact ⟨rfl, h⟩
theorem rep_inj {a b : RepV} (ha : a.bad = false) (hb : b.bad = false) : a.bytes = b.bytes ↔ a = b := by
  refine ⟨fun h => ?_, fun h => by rw [h]⟩
  rw [rep_eq]
  simp only [RepV.bad, RepV.badH, List.any_cons, List.any_nil, Bool.or_false, Bool.or_eq_false_iff] at ha hb
  obtain ⟨⟨⟨⟨⟨⟨x1, x2, x3⟩, x4⟩, x5⟩, x6⟩, x7⟩, _⟩ := ha
  obtain ⟨⟨⟨⟨⟨⟨y1, y2, y3⟩, y4⟩, y5⟩, y6⟩, y7⟩, _⟩ := hb
  simp only [RepV.bytes, RepV.head, List.flatMap_cons, List.flatMap_nil, List.append_nil, List.append_assoc] at h
  obtain ⟨e1, h⟩ := cons32 h x1 y1
  obtain ⟨e2, h⟩ := cons32 h x2 y2
  obtain ⟨e3, h⟩ := cons32 h x3 y3
  obtain ⟨e4, h⟩ := tb_inj h
  obtain ⟨e5, h⟩ := consT h (badT_len x4) (badT_len y4)
  obtain ⟨e6, h⟩ := cons32 h x5 y5
  obtain ⟨e7, h⟩ := list_inj (by omega) x6 y6 h
  obtain ⟨e8, h⟩ := consT h (badT_len x7) (badT_len y7)
  have h' : tb a.more ++ [] = tb b.more ++ [] := by simpa using h
  obtain ⟨e9, _⟩ := tb_inj h'
  exact ⟨e1, e2, e3, e4, e5, e8, e9, e7⟩
theorem ask_tot {a : AskV} (h : a.small = true) : total a.texts ≤ 900000000 := by
  simp only [AskV.small, decide_eq_true_eq] at h
  simp only [total, AskV.texts, List.flatMap_cons, List.flatMap_nil, txt, List.length_append, u32_len, List.length_nil]
  omega
theorem list_tot : ∀ l : List (List UInt8 × List UInt8), ((l.flatMap txt2).length : Int) = 8 * l.length + sumL l
  | [] => rfl
  | p :: l => by
    have := list_tot l
    have e : sumL (p :: l) = (p.1.length : Int) + p.2.length + sumL l := by simp [sumL]
    rw [e]
    simp only [List.flatMap_cons, List.length_append, txt2, txt, u32_len, List.length_cons]
    omega
theorem rep_tot2 {a : RepV} (h : a.small = true) : a.bytes.length ≤ 900000000 := by
  simp only [RepV.small, Bool.and_eq_true, decide_eq_true_eq] at h
  have := list_tot a.l
  simp only [RepV.bytes, RepV.head, tb, List.length_append, List.flatMap_cons, List.flatMap_nil, txt, u32_len, List.length_nil, List.length_cons]
  omega
/-! The law. -/
theorem awakeRun : bF (cFn Try.prog) 100 50 22 [] [] isYes = true := by kernel_rfl
theorem awakeOk (σ : AHeap) : Tri Try.prog 22 [] σ fun r σ' => r = .bool true ∧ σ' = σ :=
  Tri.frame (f := 22) (Q := fun r => r = .bool true) (by intro x hx; cases hx) ((Tri.run 100 50 isYes awakeRun).mono fun r σ' h => by
    have h1 : r = .bool true := isYes_ok h
    subst h1; exact ⟨rfl, rfl⟩) σ
def awakeD (args : List AV) (σ : AHeap) (K : AV → AHeap → Prop) : Prop := args = [] ∧ K (.bool true) σ
theorem awakeD_ok (args : List AV) (σ : AHeap) (K : AV → AHeap → Prop) (h : awakeD args σ K) : Tri Try.prog 22 args σ K := by
  obtain ⟨rfl, h⟩ := h
  exact (awakeOk σ).mono fun r σ' hr => by rw [hr.1, hr.2]; exact h
theorem awakeD_eq {args : List AV} {σ : AHeap} {K : AV → AHeap → Prop} : awakeD args σ K = (args = [] ∧ K (.bool true) σ) := _root_.id rfl
theorem ask_clean (a : AskV) : (AV.agg a.cells).cleanD := by
  intro v hv
  simp only [AskV.cells, List.mem_cons, List.not_mem_nil, or_false] at hv
  rcases hv with rfl | rfl | rfl | rfl | rfl | rfl | rfl | rfl <;> rfl
theorem recs_flat (l : List (List UInt8 × List UInt8)) : flatLL (recs l) := by
  intro r hr
  obtain ⟨p, _, rfl⟩ := List.mem_map.1 hr
  intro x hx
  simp at hx
  rcases hx with rfl | rfl <;> rfl
theorem rep_clean (a : RepV) : (AV.agg a.cells).cleanD := by
  intro v hv
  simp only [RepV.cells, List.mem_cons, List.not_mem_nil, or_false] at hv
  rcases hv with rfl | rfl | rfl | rfl | rfl | rfl | rfl | rfl
  case _ => rfl
  case _ => rfl
  case _ => rfl
  case _ => rfl
  case _ => rfl
  case _ => exact recs_flat a.l
  case _ => rfl
  case _ => rfl
def smallAD (args : List AV) (σ : AHeap) (K : AV → AHeap → Prop) : Prop := ∃ a : AskV, args = [.agg a.cells] ∧ a.okS ∧ K (.bool a.small) σ
def smallRD (args : List AV) (σ : AHeap) (K : AV → AHeap → Prop) : Prop := ∃ a : RepV, args = [.agg a.cells] ∧ a.okS ∧ K (.bool a.small) σ
def askD (args : List AV) (σ : AHeap) (K : AV → AHeap → Prop) : Prop := ∃ a : AskV, args = [.agg a.cells] ∧ total a.texts ≤ 900000000 ∧ K (packR a.bad a.bytes) σ
def replyD (args : List AV) (σ : AHeap) (K : AV → AHeap → Prop) : Prop := ∃ a : RepV, args = [.agg a.cells] ∧ a.bytes.length ≤ 900000000 ∧ K (packR a.bad a.bytes) σ
def sameD (args : List AV) (σ : AHeap) (K : AV → AHeap → Prop) : Prop := ∃ a b : RepV, args = [.agg a.cells, .agg b.cells] ∧ a.l.length ≤ 140737488351232 ∧ ∀ t, (t = true ↔ a = b) → K (.bool t) σ
theorem smallAD_ok (args : List AV) (σ : AHeap) (K : AV → AHeap → Prop) (h : smallAD args σ K) : Tri Try.prog 23 args σ K := by
  obtain ⟨a, rfl, h1, h2⟩ := h
  exact (Tri.pureF (by intro x hx; simp at hx; subst hx; exact ask_clean a) (smallA_ok a h1) σ).mono fun r σ' hr => by rw [hr.1, hr.2]; exact h2
theorem smallRD_ok (args : List AV) (σ : AHeap) (K : AV → AHeap → Prop) (h : smallRD args σ K) : Tri Try.prog 24 args σ K := by
  obtain ⟨a, rfl, h1, h2⟩ := h
  exact (Tri.pureF (by intro x hx; simp at hx; subst hx; exact rep_clean a) (smallR_ok a h1) σ).mono fun r σ' hr => by rw [hr.1, hr.2]; exact h2
theorem askD_ok (args : List AV) (σ : AHeap) (K : AV → AHeap → Prop) (h : askD args σ K) : Tri Try.prog 25 args σ K := by
  obtain ⟨a, rfl, h1, h2⟩ := h
  exact (Tri.pureF (by intro x hx; simp at hx; subst hx; exact ask_clean a) (ask_ok a h1) σ).mono fun r σ' hr => by rw [hr.1, hr.2]; exact h2
theorem replyD_ok (args : List AV) (σ : AHeap) (K : AV → AHeap → Prop) (h : replyD args σ K) : Tri Try.prog 26 args σ K := by
  obtain ⟨a, rfl, h1, h2⟩ := h
  exact (Tri.pureF (by intro x hx; simp at hx; subst hx; exact rep_clean a) (reply_ok a h1) σ).mono fun r σ' hr => by rw [hr.1, hr.2]; exact h2
theorem sameD_ok (args : List AV) (σ : AHeap) (K : AV → AHeap → Prop) (h : sameD args σ K) : Tri Try.prog 27 args σ K := by
  obtain ⟨a, b, rfl, h1, h2⟩ := h
  exact (Tri.pureF (by intro x hx; simp at hx; rcases hx with rfl | rfl; exact rep_clean a; exact rep_clean b) (same_ok a b h1) σ).mono fun r σ' hr => by
    obtain ⟨⟨t, rfl, ht⟩, rfl⟩ := hr
    exact h2 t ht
def C3 : PCall := rowQ 22 awakeD (rowQ 23 smallAD (rowQ 24 smallRD (rowQ 25 askD (rowQ 26 replyD (rowQ 27 sameD noCall)))))
theorem C3_app {f : FuncId} {args : List AV} {σ : AHeap} {K : AV → AHeap → Prop} : C3 f args σ K = rowQ 22 awakeD (rowQ 23 smallAD (rowQ 24 smallRD (rowQ 25 askD (rowQ 26 replyD (rowQ 27 sameD noCall))))) f args σ K := _root_.id rfl
theorem C3_sound : Sound Try.prog C3 := rowQ_sound awakeD_ok (rowQ_sound smallAD_ok (rowQ_sound smallRD_ok (rowQ_sound askD_ok (rowQ_sound replyD_ok (rowQ_sound sameD_ok (noCall_sound _))))))
theorem bytes_of (bs : List UInt8) : bytesOf (bs.map byteAV) = some bs := by
  induction bs with
  | nil => rfl
  | cons b r ih =>
    simp only [List.map_cons]
    rw [show byteAV b = AV.int .u8 (b.toNat : Int) from rfl]
    simp only [bytesOf, ih]
    simp
theorem ofB (σ : AHeap) (bs : List UInt8) (f n : Bool) : Gz.ofBytes σ (.imm (bs.map fun b => [byteAV b]) f n) = some bs := by
  have h1 : (bs.map fun b => [byteAV b]).all (fun r => r.length == 1) = true := by simp
  show ((if (bs.map fun b => [byteAV b]).all (fun r => r.length == 1) then some (bs.map fun b => [byteAV b]).flatten else none).bind bytesOf) = some bs
  rw [if_pos h1, rows_flat]
  exact bytes_of bs
theorem eqA_true {a b : AskV} (ha : a.bad = false) (hb : b.bad = false) : (decide (a.bytes = b.bytes) ==
        (decide (a.do_ = b.do_) && (decide (a.client = b.client) && (decide (a.seq = b.seq) && (decide (a.text = b.text) && (decide (a.val = b.val) &&
                  (decide (a.from_ = b.from_) && (decide (a.to = b.to) && decide (a.limit = b.limit))))))))) = true := by
  have h := ask_inj ha hb
  rw [beq_iff_eq, Bool.eq_iff_iff]
  simp only [Bool.and_eq_true, decide_eq_true_eq]
  rw [h]
  cases a; cases b
  simp only [AskV.mk.injEq]
theorem law (a b : AskV) (p q : RepV) (ha : a.okS) (hb : b.okS) (hp : p.okS) (hq : q.okS) : sF C3 s8 [.agg a.cells, .agg b.cells, .agg (p.cells ++ q.cells)] [] Yes := by
  have ca : ∀ a : AskV, a.cells = [.int .i64 a.do_, .int .i64 a.client, .int .i64 a.seq, .str a.text, .str a.val, .str a.from_, .str a.to, .int .i64 a.limit] := fun _ => rfl
  have cp : ∀ a : RepV, a.cells = [.int .i64 a.client, .int .i64 a.seq, .int .i64 a.err, .bool a.found, .str a.val, .imm (recs a.l) false false, .str a.next, .bool a.more] := fun _ => rfl
  rw [ca a, ca b, cp p, cp q]
  simp only [C3_app, awakeD_eq, packR, y8, x8_0, r8_0, x8_1, r8_1, x8_2, r8_2, x8_3, x8_4, x8_5, x8_6, r8_6, x8_7, r8_7, x8_8, x8_9, x8_10, x8_11, r8_11, x8_12, r8_12, x8_13, r8_13, x8_14, r8_14, x8_15, t8_15, x8_16, x8_17, x8_18, x8_19, x8_20, x8_21, x8_22, x8_23, sC_skip, sC_exit, sC_ret, condK_true, condK_false, unw_seq_normal, unw_seq_exit, unw_seq_ret, unw_block_normal, unw_block_exit, unw_block_ret, unw_lp_exit, unw_lp_ret, unw_fin, retQ_ret, retQ_normal, retQ_exit, nxt_app, nxtQ_app, nxtL_app, guardK_tt, guardK_ff, guardK_tf, guardK_ft, guardK_u, guardQ_tt, guardQ_ff, guardQ_tf, guardQ_ft, guardQ_u, guardL_tt, guardL_ff, guardL_tf, guardL_ft, guardL_u, sOps_nil, sOps_cons, sOps_guard, sTree_leaf, sTree_stop, sTree_quiet, sTree_loud, sTree_quietG, sTree_loudG, goO_some, goO_none, sOp_call, callvP_func, sOp_callv, putD_some, putD_none, still_nil, still_none, still_cons, sOp_move, sOp_nilCheck, sOp_pick, sOp_alloc, sOp_box, sOp_build, sOp_buildSlice, sOp_load1, sOp_loadN, sOp_store, sOp_bin, sOp_un, sOp_convInt, sOp_convSame, sOp_resame, sOp_toBytes, sOp_ofBytes, sOp_mkfunc, sOp_makeSlice, sOp_sliceStr, sOp_slice, sOp_sliceArr, sOp_fieldAddr, sOp_field1, sOp_fieldN, sOp_indexAddr, sOp_indexArrAddr, sOp_indexStr, sOp_indexArr1, sOp_indexArrN, sOp_extract, sOp_lenStr, sOp_lenSl, sOp_lenArr, sOp_append, sOp_copy, sOp_minmax, sOp_capOf, ev_t, ev_c, argEnv_nil, argEnv_cons, envL_nil, envL_cons, abin_add, abin_sub, abin_mul, abin_quo, abin_rem, abin_eql, abin_neq, abin_lss, abin_leq, abin_gtr, abin_geq, abin_shl, abin_shr, abin_sadd, abin_seql, abin_sneq, abin_slss, abin_sleq, abin_sgtr, abin_sgeq, abin_beql, abin_bneq, abin_p1, abin_p2, abin_p3, abin_p4, abin_p5, abin_p6, abin_s3, abin_s4, abin_s5, abin_s6, abin_f1, abin_f2, abin_f3, abin_f4, abin_feq, abin_fne, cellsEq_nil, cellsEq_s, cellsEq_i, cellsEq_b, aun_not, aun_neg, hget_nil, hget_cons, hset_cons, hkill_cons, hpush_nil, hpush_cons, idx_nil, idx_cons, sub_cons, take_cons, take_nil', put_cons, drop_cons, cells_agg, cells_str, cells_int, cells_bool, cells_ptr, cells_nilptr, cells_nilslice, cells_slice, cells_imm, cells_func, resVals_nil, resVals_t, retOf_one, retOf_two, retOf_nil, evOp, isRead, fixOp, ldCell, ldCells, fAddr, iAddr_slice, iAddr_imm, aAddr_ptr, aAddr_iptr, inRange_int, bound_none, bound_int, mayGrow, fillParts, lenOf, lenSl, evSlice, topOf, evAppend, elemsOf, grown, rowF_eq, rowQ_eq, Option.map_some, Option.map_none, Option.bind_some, Option.bind_none, Option.isSome_some, Option.isSome_none, List.map_cons, List.map_nil, List.length_cons, List.length_nil, List.append_nil, List.nil_append, List.cons_append, List.all_cons, List.all_nil, cell_str, cell_int, cell_bool, cell_ptr, cell_iptr, cell_nilptr, cell_nilslice, cell_slice, cell_imm, cell_func, cell_nilfunc, Bool.and_true, Bool.true_and, Bool.and_false, Bool.false_and, Bool.or_true, Bool.true_or, Bool.or_false, Bool.false_or, Bool.not_true, Bool.not_false, Bool.false_eq_true, Bool.true_eq_false, and_true, true_and, and_false, false_and, or_true, true_or, or_false, false_or, not_true_eq_false, not_false_eq_true, decide_true, decide_false, decide_eq_true_eq, if_true, if_false, ite_true, ite_false, ↓reduceIte, Nat.reduceAdd, Nat.reduceSub, Nat.reduceMul, Nat.reduceEqDiff, Nat.reduceLeDiff, Nat.reduceLT, Nat.succ_ne_zero, Nat.zero_add, Nat.add_zero, Nat.zero_mul, Nat.mul_one, Nat.one_mul, Nat.le_refl, Nat.sub_zero, Int.reduceLT, Int.reduceLE, Int.reduceEq, Int.reduceNe, Int.reduceToNat, Int.reduceAdd, Int.reduceSub, Int.toNat_zero, reduceCtorEq, eq_self, ne_eq, beq_self_eq_true, Nat.reduceBEq, Nat.reduceBNe, List.mem_cons, List.not_mem_nil, false_implies, true_implies, implies_true, forall_const, List.drop_zero, List.drop_nil, List.take_zero, List.drop_length, List.length_append, cast_zero, cast_one, Int.cast_ofNat_Int, List.replicate_zero, List.replicate_succ, List.flatten_cons, List.flatten_nil, wrap_one]
  refine ⟨a, rfl, ha, ?_⟩
  cases sa : a.small
  · simp only [C3_app, awakeD_eq, packR, y8, x8_0, r8_0, x8_1, r8_1, x8_2, r8_2, x8_3, x8_4, x8_5, x8_6, r8_6, x8_7, r8_7, x8_8, x8_9, x8_10, x8_11, r8_11, x8_12, r8_12, x8_13, r8_13, x8_14, r8_14, x8_15, t8_15, x8_16, x8_17, x8_18, x8_19, x8_20, x8_21, x8_22, x8_23, sC_skip, sC_exit, sC_ret, condK_true, condK_false, unw_seq_normal, unw_seq_exit, unw_seq_ret, unw_block_normal, unw_block_exit, unw_block_ret, unw_lp_exit, unw_lp_ret, unw_fin, retQ_ret, retQ_normal, retQ_exit, nxt_app, nxtQ_app, nxtL_app, guardK_tt, guardK_ff, guardK_tf, guardK_ft, guardK_u, guardQ_tt, guardQ_ff, guardQ_tf, guardQ_ft, guardQ_u, guardL_tt, guardL_ff, guardL_tf, guardL_ft, guardL_u, sOps_nil, sOps_cons, sOps_guard, sTree_leaf, sTree_stop, sTree_quiet, sTree_loud, sTree_quietG, sTree_loudG, goO_some, goO_none, sOp_call, callvP_func, sOp_callv, putD_some, putD_none, still_nil, still_none, still_cons, sOp_move, sOp_nilCheck, sOp_pick, sOp_alloc, sOp_box, sOp_build, sOp_buildSlice, sOp_load1, sOp_loadN, sOp_store, sOp_bin, sOp_un, sOp_convInt, sOp_convSame, sOp_resame, sOp_toBytes, sOp_ofBytes, sOp_mkfunc, sOp_makeSlice, sOp_sliceStr, sOp_slice, sOp_sliceArr, sOp_fieldAddr, sOp_field1, sOp_fieldN, sOp_indexAddr, sOp_indexArrAddr, sOp_indexStr, sOp_indexArr1, sOp_indexArrN, sOp_extract, sOp_lenStr, sOp_lenSl, sOp_lenArr, sOp_append, sOp_copy, sOp_minmax, sOp_capOf, ev_t, ev_c, argEnv_nil, argEnv_cons, envL_nil, envL_cons, abin_add, abin_sub, abin_mul, abin_quo, abin_rem, abin_eql, abin_neq, abin_lss, abin_leq, abin_gtr, abin_geq, abin_shl, abin_shr, abin_sadd, abin_seql, abin_sneq, abin_slss, abin_sleq, abin_sgtr, abin_sgeq, abin_beql, abin_bneq, abin_p1, abin_p2, abin_p3, abin_p4, abin_p5, abin_p6, abin_s3, abin_s4, abin_s5, abin_s6, abin_f1, abin_f2, abin_f3, abin_f4, abin_feq, abin_fne, cellsEq_nil, cellsEq_s, cellsEq_i, cellsEq_b, aun_not, aun_neg, hget_nil, hget_cons, hset_cons, hkill_cons, hpush_nil, hpush_cons, idx_nil, idx_cons, sub_cons, take_cons, take_nil', put_cons, drop_cons, cells_agg, cells_str, cells_int, cells_bool, cells_ptr, cells_nilptr, cells_nilslice, cells_slice, cells_imm, cells_func, resVals_nil, resVals_t, retOf_one, retOf_two, retOf_nil, evOp, isRead, fixOp, ldCell, ldCells, fAddr, iAddr_slice, iAddr_imm, aAddr_ptr, aAddr_iptr, inRange_int, bound_none, bound_int, mayGrow, fillParts, lenOf, lenSl, evSlice, topOf, evAppend, elemsOf, grown, rowF_eq, rowQ_eq, Option.map_some, Option.map_none, Option.bind_some, Option.bind_none, Option.isSome_some, Option.isSome_none, List.map_cons, List.map_nil, List.length_cons, List.length_nil, List.append_nil, List.nil_append, List.cons_append, List.all_cons, List.all_nil, cell_str, cell_int, cell_bool, cell_ptr, cell_iptr, cell_nilptr, cell_nilslice, cell_slice, cell_imm, cell_func, cell_nilfunc, Bool.and_true, Bool.true_and, Bool.and_false, Bool.false_and, Bool.or_true, Bool.true_or, Bool.or_false, Bool.false_or, Bool.not_true, Bool.not_false, Bool.false_eq_true, Bool.true_eq_false, and_true, true_and, and_false, false_and, or_true, true_or, or_false, false_or, not_true_eq_false, not_false_eq_true, decide_true, decide_false, decide_eq_true_eq, if_true, if_false, ite_true, ite_false, ↓reduceIte, Nat.reduceAdd, Nat.reduceSub, Nat.reduceMul, Nat.reduceEqDiff, Nat.reduceLeDiff, Nat.reduceLT, Nat.succ_ne_zero, Nat.zero_add, Nat.add_zero, Nat.zero_mul, Nat.mul_one, Nat.one_mul, Nat.le_refl, Nat.sub_zero, Int.reduceLT, Int.reduceLE, Int.reduceEq, Int.reduceNe, Int.reduceToNat, Int.reduceAdd, Int.reduceSub, Int.toNat_zero, reduceCtorEq, eq_self, ne_eq, beq_self_eq_true, Nat.reduceBEq, Nat.reduceBNe, List.mem_cons, List.not_mem_nil, false_implies, true_implies, implies_true, forall_const, List.drop_zero, List.drop_nil, List.take_zero, List.drop_length, List.length_append, cast_zero, cast_one, Int.cast_ofNat_Int, List.replicate_zero, List.replicate_succ, List.flatten_cons, List.flatten_nil, wrap_one]
    trivial
  simp only [C3_app, awakeD_eq, packR, y8, x8_0, r8_0, x8_1, r8_1, x8_2, r8_2, x8_3, x8_4, x8_5, x8_6, r8_6, x8_7, r8_7, x8_8, x8_9, x8_10, x8_11, r8_11, x8_12, r8_12, x8_13, r8_13, x8_14, r8_14, x8_15, t8_15, x8_16, x8_17, x8_18, x8_19, x8_20, x8_21, x8_22, x8_23, sC_skip, sC_exit, sC_ret, condK_true, condK_false, unw_seq_normal, unw_seq_exit, unw_seq_ret, unw_block_normal, unw_block_exit, unw_block_ret, unw_lp_exit, unw_lp_ret, unw_fin, retQ_ret, retQ_normal, retQ_exit, nxt_app, nxtQ_app, nxtL_app, guardK_tt, guardK_ff, guardK_tf, guardK_ft, guardK_u, guardQ_tt, guardQ_ff, guardQ_tf, guardQ_ft, guardQ_u, guardL_tt, guardL_ff, guardL_tf, guardL_ft, guardL_u, sOps_nil, sOps_cons, sOps_guard, sTree_leaf, sTree_stop, sTree_quiet, sTree_loud, sTree_quietG, sTree_loudG, goO_some, goO_none, sOp_call, callvP_func, sOp_callv, putD_some, putD_none, still_nil, still_none, still_cons, sOp_move, sOp_nilCheck, sOp_pick, sOp_alloc, sOp_box, sOp_build, sOp_buildSlice, sOp_load1, sOp_loadN, sOp_store, sOp_bin, sOp_un, sOp_convInt, sOp_convSame, sOp_resame, sOp_toBytes, sOp_ofBytes, sOp_mkfunc, sOp_makeSlice, sOp_sliceStr, sOp_slice, sOp_sliceArr, sOp_fieldAddr, sOp_field1, sOp_fieldN, sOp_indexAddr, sOp_indexArrAddr, sOp_indexStr, sOp_indexArr1, sOp_indexArrN, sOp_extract, sOp_lenStr, sOp_lenSl, sOp_lenArr, sOp_append, sOp_copy, sOp_minmax, sOp_capOf, ev_t, ev_c, argEnv_nil, argEnv_cons, envL_nil, envL_cons, abin_add, abin_sub, abin_mul, abin_quo, abin_rem, abin_eql, abin_neq, abin_lss, abin_leq, abin_gtr, abin_geq, abin_shl, abin_shr, abin_sadd, abin_seql, abin_sneq, abin_slss, abin_sleq, abin_sgtr, abin_sgeq, abin_beql, abin_bneq, abin_p1, abin_p2, abin_p3, abin_p4, abin_p5, abin_p6, abin_s3, abin_s4, abin_s5, abin_s6, abin_f1, abin_f2, abin_f3, abin_f4, abin_feq, abin_fne, cellsEq_nil, cellsEq_s, cellsEq_i, cellsEq_b, aun_not, aun_neg, hget_nil, hget_cons, hset_cons, hkill_cons, hpush_nil, hpush_cons, idx_nil, idx_cons, sub_cons, take_cons, take_nil', put_cons, drop_cons, cells_agg, cells_str, cells_int, cells_bool, cells_ptr, cells_nilptr, cells_nilslice, cells_slice, cells_imm, cells_func, resVals_nil, resVals_t, retOf_one, retOf_two, retOf_nil, evOp, isRead, fixOp, ldCell, ldCells, fAddr, iAddr_slice, iAddr_imm, aAddr_ptr, aAddr_iptr, inRange_int, bound_none, bound_int, mayGrow, fillParts, lenOf, lenSl, evSlice, topOf, evAppend, elemsOf, grown, rowF_eq, rowQ_eq, Option.map_some, Option.map_none, Option.bind_some, Option.bind_none, Option.isSome_some, Option.isSome_none, List.map_cons, List.map_nil, List.length_cons, List.length_nil, List.append_nil, List.nil_append, List.cons_append, List.all_cons, List.all_nil, cell_str, cell_int, cell_bool, cell_ptr, cell_iptr, cell_nilptr, cell_nilslice, cell_slice, cell_imm, cell_func, cell_nilfunc, Bool.and_true, Bool.true_and, Bool.and_false, Bool.false_and, Bool.or_true, Bool.true_or, Bool.or_false, Bool.false_or, Bool.not_true, Bool.not_false, Bool.false_eq_true, Bool.true_eq_false, and_true, true_and, and_false, false_and, or_true, true_or, or_false, false_or, not_true_eq_false, not_false_eq_true, decide_true, decide_false, decide_eq_true_eq, if_true, if_false, ite_true, ite_false, ↓reduceIte, Nat.reduceAdd, Nat.reduceSub, Nat.reduceMul, Nat.reduceEqDiff, Nat.reduceLeDiff, Nat.reduceLT, Nat.succ_ne_zero, Nat.zero_add, Nat.add_zero, Nat.zero_mul, Nat.mul_one, Nat.one_mul, Nat.le_refl, Nat.sub_zero, Int.reduceLT, Int.reduceLE, Int.reduceEq, Int.reduceNe, Int.reduceToNat, Int.reduceAdd, Int.reduceSub, Int.toNat_zero, reduceCtorEq, eq_self, ne_eq, beq_self_eq_true, Nat.reduceBEq, Nat.reduceBNe, List.mem_cons, List.not_mem_nil, false_implies, true_implies, implies_true, forall_const, List.drop_zero, List.drop_nil, List.take_zero, List.drop_length, List.length_append, cast_zero, cast_one, Int.cast_ofNat_Int, List.replicate_zero, List.replicate_succ, List.flatten_cons, List.flatten_nil, wrap_one]
  refine ⟨b, rfl, hb, ?_⟩
  cases sb : b.small
  · simp only [C3_app, awakeD_eq, packR, y8, x8_0, r8_0, x8_1, r8_1, x8_2, r8_2, x8_3, x8_4, x8_5, x8_6, r8_6, x8_7, r8_7, x8_8, x8_9, x8_10, x8_11, r8_11, x8_12, r8_12, x8_13, r8_13, x8_14, r8_14, x8_15, t8_15, x8_16, x8_17, x8_18, x8_19, x8_20, x8_21, x8_22, x8_23, sC_skip, sC_exit, sC_ret, condK_true, condK_false, unw_seq_normal, unw_seq_exit, unw_seq_ret, unw_block_normal, unw_block_exit, unw_block_ret, unw_lp_exit, unw_lp_ret, unw_fin, retQ_ret, retQ_normal, retQ_exit, nxt_app, nxtQ_app, nxtL_app, guardK_tt, guardK_ff, guardK_tf, guardK_ft, guardK_u, guardQ_tt, guardQ_ff, guardQ_tf, guardQ_ft, guardQ_u, guardL_tt, guardL_ff, guardL_tf, guardL_ft, guardL_u, sOps_nil, sOps_cons, sOps_guard, sTree_leaf, sTree_stop, sTree_quiet, sTree_loud, sTree_quietG, sTree_loudG, goO_some, goO_none, sOp_call, callvP_func, sOp_callv, putD_some, putD_none, still_nil, still_none, still_cons, sOp_move, sOp_nilCheck, sOp_pick, sOp_alloc, sOp_box, sOp_build, sOp_buildSlice, sOp_load1, sOp_loadN, sOp_store, sOp_bin, sOp_un, sOp_convInt, sOp_convSame, sOp_resame, sOp_toBytes, sOp_ofBytes, sOp_mkfunc, sOp_makeSlice, sOp_sliceStr, sOp_slice, sOp_sliceArr, sOp_fieldAddr, sOp_field1, sOp_fieldN, sOp_indexAddr, sOp_indexArrAddr, sOp_indexStr, sOp_indexArr1, sOp_indexArrN, sOp_extract, sOp_lenStr, sOp_lenSl, sOp_lenArr, sOp_append, sOp_copy, sOp_minmax, sOp_capOf, ev_t, ev_c, argEnv_nil, argEnv_cons, envL_nil, envL_cons, abin_add, abin_sub, abin_mul, abin_quo, abin_rem, abin_eql, abin_neq, abin_lss, abin_leq, abin_gtr, abin_geq, abin_shl, abin_shr, abin_sadd, abin_seql, abin_sneq, abin_slss, abin_sleq, abin_sgtr, abin_sgeq, abin_beql, abin_bneq, abin_p1, abin_p2, abin_p3, abin_p4, abin_p5, abin_p6, abin_s3, abin_s4, abin_s5, abin_s6, abin_f1, abin_f2, abin_f3, abin_f4, abin_feq, abin_fne, cellsEq_nil, cellsEq_s, cellsEq_i, cellsEq_b, aun_not, aun_neg, hget_nil, hget_cons, hset_cons, hkill_cons, hpush_nil, hpush_cons, idx_nil, idx_cons, sub_cons, take_cons, take_nil', put_cons, drop_cons, cells_agg, cells_str, cells_int, cells_bool, cells_ptr, cells_nilptr, cells_nilslice, cells_slice, cells_imm, cells_func, resVals_nil, resVals_t, retOf_one, retOf_two, retOf_nil, evOp, isRead, fixOp, ldCell, ldCells, fAddr, iAddr_slice, iAddr_imm, aAddr_ptr, aAddr_iptr, inRange_int, bound_none, bound_int, mayGrow, fillParts, lenOf, lenSl, evSlice, topOf, evAppend, elemsOf, grown, rowF_eq, rowQ_eq, Option.map_some, Option.map_none, Option.bind_some, Option.bind_none, Option.isSome_some, Option.isSome_none, List.map_cons, List.map_nil, List.length_cons, List.length_nil, List.append_nil, List.nil_append, List.cons_append, List.all_cons, List.all_nil, cell_str, cell_int, cell_bool, cell_ptr, cell_iptr, cell_nilptr, cell_nilslice, cell_slice, cell_imm, cell_func, cell_nilfunc, Bool.and_true, Bool.true_and, Bool.and_false, Bool.false_and, Bool.or_true, Bool.true_or, Bool.or_false, Bool.false_or, Bool.not_true, Bool.not_false, Bool.false_eq_true, Bool.true_eq_false, and_true, true_and, and_false, false_and, or_true, true_or, or_false, false_or, not_true_eq_false, not_false_eq_true, decide_true, decide_false, decide_eq_true_eq, if_true, if_false, ite_true, ite_false, ↓reduceIte, Nat.reduceAdd, Nat.reduceSub, Nat.reduceMul, Nat.reduceEqDiff, Nat.reduceLeDiff, Nat.reduceLT, Nat.succ_ne_zero, Nat.zero_add, Nat.add_zero, Nat.zero_mul, Nat.mul_one, Nat.one_mul, Nat.le_refl, Nat.sub_zero, Int.reduceLT, Int.reduceLE, Int.reduceEq, Int.reduceNe, Int.reduceToNat, Int.reduceAdd, Int.reduceSub, Int.toNat_zero, reduceCtorEq, eq_self, ne_eq, beq_self_eq_true, Nat.reduceBEq, Nat.reduceBNe, List.mem_cons, List.not_mem_nil, false_implies, true_implies, implies_true, forall_const, List.drop_zero, List.drop_nil, List.take_zero, List.drop_length, List.length_append, cast_zero, cast_one, Int.cast_ofNat_Int, List.replicate_zero, List.replicate_succ, List.flatten_cons, List.flatten_nil, wrap_one]
    trivial
  simp only [C3_app, awakeD_eq, packR, y8, x8_0, r8_0, x8_1, r8_1, x8_2, r8_2, x8_3, x8_4, x8_5, x8_6, r8_6, x8_7, r8_7, x8_8, x8_9, x8_10, x8_11, r8_11, x8_12, r8_12, x8_13, r8_13, x8_14, r8_14, x8_15, t8_15, x8_16, x8_17, x8_18, x8_19, x8_20, x8_21, x8_22, x8_23, sC_skip, sC_exit, sC_ret, condK_true, condK_false, unw_seq_normal, unw_seq_exit, unw_seq_ret, unw_block_normal, unw_block_exit, unw_block_ret, unw_lp_exit, unw_lp_ret, unw_fin, retQ_ret, retQ_normal, retQ_exit, nxt_app, nxtQ_app, nxtL_app, guardK_tt, guardK_ff, guardK_tf, guardK_ft, guardK_u, guardQ_tt, guardQ_ff, guardQ_tf, guardQ_ft, guardQ_u, guardL_tt, guardL_ff, guardL_tf, guardL_ft, guardL_u, sOps_nil, sOps_cons, sOps_guard, sTree_leaf, sTree_stop, sTree_quiet, sTree_loud, sTree_quietG, sTree_loudG, goO_some, goO_none, sOp_call, callvP_func, sOp_callv, putD_some, putD_none, still_nil, still_none, still_cons, sOp_move, sOp_nilCheck, sOp_pick, sOp_alloc, sOp_box, sOp_build, sOp_buildSlice, sOp_load1, sOp_loadN, sOp_store, sOp_bin, sOp_un, sOp_convInt, sOp_convSame, sOp_resame, sOp_toBytes, sOp_ofBytes, sOp_mkfunc, sOp_makeSlice, sOp_sliceStr, sOp_slice, sOp_sliceArr, sOp_fieldAddr, sOp_field1, sOp_fieldN, sOp_indexAddr, sOp_indexArrAddr, sOp_indexStr, sOp_indexArr1, sOp_indexArrN, sOp_extract, sOp_lenStr, sOp_lenSl, sOp_lenArr, sOp_append, sOp_copy, sOp_minmax, sOp_capOf, ev_t, ev_c, argEnv_nil, argEnv_cons, envL_nil, envL_cons, abin_add, abin_sub, abin_mul, abin_quo, abin_rem, abin_eql, abin_neq, abin_lss, abin_leq, abin_gtr, abin_geq, abin_shl, abin_shr, abin_sadd, abin_seql, abin_sneq, abin_slss, abin_sleq, abin_sgtr, abin_sgeq, abin_beql, abin_bneq, abin_p1, abin_p2, abin_p3, abin_p4, abin_p5, abin_p6, abin_s3, abin_s4, abin_s5, abin_s6, abin_f1, abin_f2, abin_f3, abin_f4, abin_feq, abin_fne, cellsEq_nil, cellsEq_s, cellsEq_i, cellsEq_b, aun_not, aun_neg, hget_nil, hget_cons, hset_cons, hkill_cons, hpush_nil, hpush_cons, idx_nil, idx_cons, sub_cons, take_cons, take_nil', put_cons, drop_cons, cells_agg, cells_str, cells_int, cells_bool, cells_ptr, cells_nilptr, cells_nilslice, cells_slice, cells_imm, cells_func, resVals_nil, resVals_t, retOf_one, retOf_two, retOf_nil, evOp, isRead, fixOp, ldCell, ldCells, fAddr, iAddr_slice, iAddr_imm, aAddr_ptr, aAddr_iptr, inRange_int, bound_none, bound_int, mayGrow, fillParts, lenOf, lenSl, evSlice, topOf, evAppend, elemsOf, grown, rowF_eq, rowQ_eq, Option.map_some, Option.map_none, Option.bind_some, Option.bind_none, Option.isSome_some, Option.isSome_none, List.map_cons, List.map_nil, List.length_cons, List.length_nil, List.append_nil, List.nil_append, List.cons_append, List.all_cons, List.all_nil, cell_str, cell_int, cell_bool, cell_ptr, cell_iptr, cell_nilptr, cell_nilslice, cell_slice, cell_imm, cell_func, cell_nilfunc, Bool.and_true, Bool.true_and, Bool.and_false, Bool.false_and, Bool.or_true, Bool.true_or, Bool.or_false, Bool.false_or, Bool.not_true, Bool.not_false, Bool.false_eq_true, Bool.true_eq_false, and_true, true_and, and_false, false_and, or_true, true_or, or_false, false_or, not_true_eq_false, not_false_eq_true, decide_true, decide_false, decide_eq_true_eq, if_true, if_false, ite_true, ite_false, ↓reduceIte, Nat.reduceAdd, Nat.reduceSub, Nat.reduceMul, Nat.reduceEqDiff, Nat.reduceLeDiff, Nat.reduceLT, Nat.succ_ne_zero, Nat.zero_add, Nat.add_zero, Nat.zero_mul, Nat.mul_one, Nat.one_mul, Nat.le_refl, Nat.sub_zero, Int.reduceLT, Int.reduceLE, Int.reduceEq, Int.reduceNe, Int.reduceToNat, Int.reduceAdd, Int.reduceSub, Int.toNat_zero, reduceCtorEq, eq_self, ne_eq, beq_self_eq_true, Nat.reduceBEq, Nat.reduceBNe, List.mem_cons, List.not_mem_nil, false_implies, true_implies, implies_true, forall_const, List.drop_zero, List.drop_nil, List.take_zero, List.drop_length, List.length_append, cast_zero, cast_one, Int.cast_ofNat_Int, List.replicate_zero, List.replicate_succ, List.flatten_cons, List.flatten_nil, wrap_one]
  refine ⟨p, rfl, hp, ?_⟩
  cases sp : p.small
  · simp only [C3_app, awakeD_eq, packR, y8, x8_0, r8_0, x8_1, r8_1, x8_2, r8_2, x8_3, x8_4, x8_5, x8_6, r8_6, x8_7, r8_7, x8_8, x8_9, x8_10, x8_11, r8_11, x8_12, r8_12, x8_13, r8_13, x8_14, r8_14, x8_15, t8_15, x8_16, x8_17, x8_18, x8_19, x8_20, x8_21, x8_22, x8_23, sC_skip, sC_exit, sC_ret, condK_true, condK_false, unw_seq_normal, unw_seq_exit, unw_seq_ret, unw_block_normal, unw_block_exit, unw_block_ret, unw_lp_exit, unw_lp_ret, unw_fin, retQ_ret, retQ_normal, retQ_exit, nxt_app, nxtQ_app, nxtL_app, guardK_tt, guardK_ff, guardK_tf, guardK_ft, guardK_u, guardQ_tt, guardQ_ff, guardQ_tf, guardQ_ft, guardQ_u, guardL_tt, guardL_ff, guardL_tf, guardL_ft, guardL_u, sOps_nil, sOps_cons, sOps_guard, sTree_leaf, sTree_stop, sTree_quiet, sTree_loud, sTree_quietG, sTree_loudG, goO_some, goO_none, sOp_call, callvP_func, sOp_callv, putD_some, putD_none, still_nil, still_none, still_cons, sOp_move, sOp_nilCheck, sOp_pick, sOp_alloc, sOp_box, sOp_build, sOp_buildSlice, sOp_load1, sOp_loadN, sOp_store, sOp_bin, sOp_un, sOp_convInt, sOp_convSame, sOp_resame, sOp_toBytes, sOp_ofBytes, sOp_mkfunc, sOp_makeSlice, sOp_sliceStr, sOp_slice, sOp_sliceArr, sOp_fieldAddr, sOp_field1, sOp_fieldN, sOp_indexAddr, sOp_indexArrAddr, sOp_indexStr, sOp_indexArr1, sOp_indexArrN, sOp_extract, sOp_lenStr, sOp_lenSl, sOp_lenArr, sOp_append, sOp_copy, sOp_minmax, sOp_capOf, ev_t, ev_c, argEnv_nil, argEnv_cons, envL_nil, envL_cons, abin_add, abin_sub, abin_mul, abin_quo, abin_rem, abin_eql, abin_neq, abin_lss, abin_leq, abin_gtr, abin_geq, abin_shl, abin_shr, abin_sadd, abin_seql, abin_sneq, abin_slss, abin_sleq, abin_sgtr, abin_sgeq, abin_beql, abin_bneq, abin_p1, abin_p2, abin_p3, abin_p4, abin_p5, abin_p6, abin_s3, abin_s4, abin_s5, abin_s6, abin_f1, abin_f2, abin_f3, abin_f4, abin_feq, abin_fne, cellsEq_nil, cellsEq_s, cellsEq_i, cellsEq_b, aun_not, aun_neg, hget_nil, hget_cons, hset_cons, hkill_cons, hpush_nil, hpush_cons, idx_nil, idx_cons, sub_cons, take_cons, take_nil', put_cons, drop_cons, cells_agg, cells_str, cells_int, cells_bool, cells_ptr, cells_nilptr, cells_nilslice, cells_slice, cells_imm, cells_func, resVals_nil, resVals_t, retOf_one, retOf_two, retOf_nil, evOp, isRead, fixOp, ldCell, ldCells, fAddr, iAddr_slice, iAddr_imm, aAddr_ptr, aAddr_iptr, inRange_int, bound_none, bound_int, mayGrow, fillParts, lenOf, lenSl, evSlice, topOf, evAppend, elemsOf, grown, rowF_eq, rowQ_eq, Option.map_some, Option.map_none, Option.bind_some, Option.bind_none, Option.isSome_some, Option.isSome_none, List.map_cons, List.map_nil, List.length_cons, List.length_nil, List.append_nil, List.nil_append, List.cons_append, List.all_cons, List.all_nil, cell_str, cell_int, cell_bool, cell_ptr, cell_iptr, cell_nilptr, cell_nilslice, cell_slice, cell_imm, cell_func, cell_nilfunc, Bool.and_true, Bool.true_and, Bool.and_false, Bool.false_and, Bool.or_true, Bool.true_or, Bool.or_false, Bool.false_or, Bool.not_true, Bool.not_false, Bool.false_eq_true, Bool.true_eq_false, and_true, true_and, and_false, false_and, or_true, true_or, or_false, false_or, not_true_eq_false, not_false_eq_true, decide_true, decide_false, decide_eq_true_eq, if_true, if_false, ite_true, ite_false, ↓reduceIte, Nat.reduceAdd, Nat.reduceSub, Nat.reduceMul, Nat.reduceEqDiff, Nat.reduceLeDiff, Nat.reduceLT, Nat.succ_ne_zero, Nat.zero_add, Nat.add_zero, Nat.zero_mul, Nat.mul_one, Nat.one_mul, Nat.le_refl, Nat.sub_zero, Int.reduceLT, Int.reduceLE, Int.reduceEq, Int.reduceNe, Int.reduceToNat, Int.reduceAdd, Int.reduceSub, Int.toNat_zero, reduceCtorEq, eq_self, ne_eq, beq_self_eq_true, Nat.reduceBEq, Nat.reduceBNe, List.mem_cons, List.not_mem_nil, false_implies, true_implies, implies_true, forall_const, List.drop_zero, List.drop_nil, List.take_zero, List.drop_length, List.length_append, cast_zero, cast_one, Int.cast_ofNat_Int, List.replicate_zero, List.replicate_succ, List.flatten_cons, List.flatten_nil, wrap_one]
    trivial
  simp only [C3_app, awakeD_eq, packR, y8, x8_0, r8_0, x8_1, r8_1, x8_2, r8_2, x8_3, x8_4, x8_5, x8_6, r8_6, x8_7, r8_7, x8_8, x8_9, x8_10, x8_11, r8_11, x8_12, r8_12, x8_13, r8_13, x8_14, r8_14, x8_15, t8_15, x8_16, x8_17, x8_18, x8_19, x8_20, x8_21, x8_22, x8_23, sC_skip, sC_exit, sC_ret, condK_true, condK_false, unw_seq_normal, unw_seq_exit, unw_seq_ret, unw_block_normal, unw_block_exit, unw_block_ret, unw_lp_exit, unw_lp_ret, unw_fin, retQ_ret, retQ_normal, retQ_exit, nxt_app, nxtQ_app, nxtL_app, guardK_tt, guardK_ff, guardK_tf, guardK_ft, guardK_u, guardQ_tt, guardQ_ff, guardQ_tf, guardQ_ft, guardQ_u, guardL_tt, guardL_ff, guardL_tf, guardL_ft, guardL_u, sOps_nil, sOps_cons, sOps_guard, sTree_leaf, sTree_stop, sTree_quiet, sTree_loud, sTree_quietG, sTree_loudG, goO_some, goO_none, sOp_call, callvP_func, sOp_callv, putD_some, putD_none, still_nil, still_none, still_cons, sOp_move, sOp_nilCheck, sOp_pick, sOp_alloc, sOp_box, sOp_build, sOp_buildSlice, sOp_load1, sOp_loadN, sOp_store, sOp_bin, sOp_un, sOp_convInt, sOp_convSame, sOp_resame, sOp_toBytes, sOp_ofBytes, sOp_mkfunc, sOp_makeSlice, sOp_sliceStr, sOp_slice, sOp_sliceArr, sOp_fieldAddr, sOp_field1, sOp_fieldN, sOp_indexAddr, sOp_indexArrAddr, sOp_indexStr, sOp_indexArr1, sOp_indexArrN, sOp_extract, sOp_lenStr, sOp_lenSl, sOp_lenArr, sOp_append, sOp_copy, sOp_minmax, sOp_capOf, ev_t, ev_c, argEnv_nil, argEnv_cons, envL_nil, envL_cons, abin_add, abin_sub, abin_mul, abin_quo, abin_rem, abin_eql, abin_neq, abin_lss, abin_leq, abin_gtr, abin_geq, abin_shl, abin_shr, abin_sadd, abin_seql, abin_sneq, abin_slss, abin_sleq, abin_sgtr, abin_sgeq, abin_beql, abin_bneq, abin_p1, abin_p2, abin_p3, abin_p4, abin_p5, abin_p6, abin_s3, abin_s4, abin_s5, abin_s6, abin_f1, abin_f2, abin_f3, abin_f4, abin_feq, abin_fne, cellsEq_nil, cellsEq_s, cellsEq_i, cellsEq_b, aun_not, aun_neg, hget_nil, hget_cons, hset_cons, hkill_cons, hpush_nil, hpush_cons, idx_nil, idx_cons, sub_cons, take_cons, take_nil', put_cons, drop_cons, cells_agg, cells_str, cells_int, cells_bool, cells_ptr, cells_nilptr, cells_nilslice, cells_slice, cells_imm, cells_func, resVals_nil, resVals_t, retOf_one, retOf_two, retOf_nil, evOp, isRead, fixOp, ldCell, ldCells, fAddr, iAddr_slice, iAddr_imm, aAddr_ptr, aAddr_iptr, inRange_int, bound_none, bound_int, mayGrow, fillParts, lenOf, lenSl, evSlice, topOf, evAppend, elemsOf, grown, rowF_eq, rowQ_eq, Option.map_some, Option.map_none, Option.bind_some, Option.bind_none, Option.isSome_some, Option.isSome_none, List.map_cons, List.map_nil, List.length_cons, List.length_nil, List.append_nil, List.nil_append, List.cons_append, List.all_cons, List.all_nil, cell_str, cell_int, cell_bool, cell_ptr, cell_iptr, cell_nilptr, cell_nilslice, cell_slice, cell_imm, cell_func, cell_nilfunc, Bool.and_true, Bool.true_and, Bool.and_false, Bool.false_and, Bool.or_true, Bool.true_or, Bool.or_false, Bool.false_or, Bool.not_true, Bool.not_false, Bool.false_eq_true, Bool.true_eq_false, and_true, true_and, and_false, false_and, or_true, true_or, or_false, false_or, not_true_eq_false, not_false_eq_true, decide_true, decide_false, decide_eq_true_eq, if_true, if_false, ite_true, ite_false, ↓reduceIte, Nat.reduceAdd, Nat.reduceSub, Nat.reduceMul, Nat.reduceEqDiff, Nat.reduceLeDiff, Nat.reduceLT, Nat.succ_ne_zero, Nat.zero_add, Nat.add_zero, Nat.zero_mul, Nat.mul_one, Nat.one_mul, Nat.le_refl, Nat.sub_zero, Int.reduceLT, Int.reduceLE, Int.reduceEq, Int.reduceNe, Int.reduceToNat, Int.reduceAdd, Int.reduceSub, Int.toNat_zero, reduceCtorEq, eq_self, ne_eq, beq_self_eq_true, Nat.reduceBEq, Nat.reduceBNe, List.mem_cons, List.not_mem_nil, false_implies, true_implies, implies_true, forall_const, List.drop_zero, List.drop_nil, List.take_zero, List.drop_length, List.length_append, cast_zero, cast_one, Int.cast_ofNat_Int, List.replicate_zero, List.replicate_succ, List.flatten_cons, List.flatten_nil, wrap_one]
  refine ⟨q, rfl, hq, ?_⟩
  cases sq : q.small
  · simp only [C3_app, awakeD_eq, packR, y8, x8_0, r8_0, x8_1, r8_1, x8_2, r8_2, x8_3, x8_4, x8_5, x8_6, r8_6, x8_7, r8_7, x8_8, x8_9, x8_10, x8_11, r8_11, x8_12, r8_12, x8_13, r8_13, x8_14, r8_14, x8_15, t8_15, x8_16, x8_17, x8_18, x8_19, x8_20, x8_21, x8_22, x8_23, sC_skip, sC_exit, sC_ret, condK_true, condK_false, unw_seq_normal, unw_seq_exit, unw_seq_ret, unw_block_normal, unw_block_exit, unw_block_ret, unw_lp_exit, unw_lp_ret, unw_fin, retQ_ret, retQ_normal, retQ_exit, nxt_app, nxtQ_app, nxtL_app, guardK_tt, guardK_ff, guardK_tf, guardK_ft, guardK_u, guardQ_tt, guardQ_ff, guardQ_tf, guardQ_ft, guardQ_u, guardL_tt, guardL_ff, guardL_tf, guardL_ft, guardL_u, sOps_nil, sOps_cons, sOps_guard, sTree_leaf, sTree_stop, sTree_quiet, sTree_loud, sTree_quietG, sTree_loudG, goO_some, goO_none, sOp_call, callvP_func, sOp_callv, putD_some, putD_none, still_nil, still_none, still_cons, sOp_move, sOp_nilCheck, sOp_pick, sOp_alloc, sOp_box, sOp_build, sOp_buildSlice, sOp_load1, sOp_loadN, sOp_store, sOp_bin, sOp_un, sOp_convInt, sOp_convSame, sOp_resame, sOp_toBytes, sOp_ofBytes, sOp_mkfunc, sOp_makeSlice, sOp_sliceStr, sOp_slice, sOp_sliceArr, sOp_fieldAddr, sOp_field1, sOp_fieldN, sOp_indexAddr, sOp_indexArrAddr, sOp_indexStr, sOp_indexArr1, sOp_indexArrN, sOp_extract, sOp_lenStr, sOp_lenSl, sOp_lenArr, sOp_append, sOp_copy, sOp_minmax, sOp_capOf, ev_t, ev_c, argEnv_nil, argEnv_cons, envL_nil, envL_cons, abin_add, abin_sub, abin_mul, abin_quo, abin_rem, abin_eql, abin_neq, abin_lss, abin_leq, abin_gtr, abin_geq, abin_shl, abin_shr, abin_sadd, abin_seql, abin_sneq, abin_slss, abin_sleq, abin_sgtr, abin_sgeq, abin_beql, abin_bneq, abin_p1, abin_p2, abin_p3, abin_p4, abin_p5, abin_p6, abin_s3, abin_s4, abin_s5, abin_s6, abin_f1, abin_f2, abin_f3, abin_f4, abin_feq, abin_fne, cellsEq_nil, cellsEq_s, cellsEq_i, cellsEq_b, aun_not, aun_neg, hget_nil, hget_cons, hset_cons, hkill_cons, hpush_nil, hpush_cons, idx_nil, idx_cons, sub_cons, take_cons, take_nil', put_cons, drop_cons, cells_agg, cells_str, cells_int, cells_bool, cells_ptr, cells_nilptr, cells_nilslice, cells_slice, cells_imm, cells_func, resVals_nil, resVals_t, retOf_one, retOf_two, retOf_nil, evOp, isRead, fixOp, ldCell, ldCells, fAddr, iAddr_slice, iAddr_imm, aAddr_ptr, aAddr_iptr, inRange_int, bound_none, bound_int, mayGrow, fillParts, lenOf, lenSl, evSlice, topOf, evAppend, elemsOf, grown, rowF_eq, rowQ_eq, Option.map_some, Option.map_none, Option.bind_some, Option.bind_none, Option.isSome_some, Option.isSome_none, List.map_cons, List.map_nil, List.length_cons, List.length_nil, List.append_nil, List.nil_append, List.cons_append, List.all_cons, List.all_nil, cell_str, cell_int, cell_bool, cell_ptr, cell_iptr, cell_nilptr, cell_nilslice, cell_slice, cell_imm, cell_func, cell_nilfunc, Bool.and_true, Bool.true_and, Bool.and_false, Bool.false_and, Bool.or_true, Bool.true_or, Bool.or_false, Bool.false_or, Bool.not_true, Bool.not_false, Bool.false_eq_true, Bool.true_eq_false, and_true, true_and, and_false, false_and, or_true, true_or, or_false, false_or, not_true_eq_false, not_false_eq_true, decide_true, decide_false, decide_eq_true_eq, if_true, if_false, ite_true, ite_false, ↓reduceIte, Nat.reduceAdd, Nat.reduceSub, Nat.reduceMul, Nat.reduceEqDiff, Nat.reduceLeDiff, Nat.reduceLT, Nat.succ_ne_zero, Nat.zero_add, Nat.add_zero, Nat.zero_mul, Nat.mul_one, Nat.one_mul, Nat.le_refl, Nat.sub_zero, Int.reduceLT, Int.reduceLE, Int.reduceEq, Int.reduceNe, Int.reduceToNat, Int.reduceAdd, Int.reduceSub, Int.toNat_zero, reduceCtorEq, eq_self, ne_eq, beq_self_eq_true, Nat.reduceBEq, Nat.reduceBNe, List.mem_cons, List.not_mem_nil, false_implies, true_implies, implies_true, forall_const, List.drop_zero, List.drop_nil, List.take_zero, List.drop_length, List.length_append, cast_zero, cast_one, Int.cast_ofNat_Int, List.replicate_zero, List.replicate_succ, List.flatten_cons, List.flatten_nil, wrap_one]
    trivial
  simp only [C3_app, awakeD_eq, packR, y8, x8_0, r8_0, x8_1, r8_1, x8_2, r8_2, x8_3, x8_4, x8_5, x8_6, r8_6, x8_7, r8_7, x8_8, x8_9, x8_10, x8_11, r8_11, x8_12, r8_12, x8_13, r8_13, x8_14, r8_14, x8_15, t8_15, x8_16, x8_17, x8_18, x8_19, x8_20, x8_21, x8_22, x8_23, sC_skip, sC_exit, sC_ret, condK_true, condK_false, unw_seq_normal, unw_seq_exit, unw_seq_ret, unw_block_normal, unw_block_exit, unw_block_ret, unw_lp_exit, unw_lp_ret, unw_fin, retQ_ret, retQ_normal, retQ_exit, nxt_app, nxtQ_app, nxtL_app, guardK_tt, guardK_ff, guardK_tf, guardK_ft, guardK_u, guardQ_tt, guardQ_ff, guardQ_tf, guardQ_ft, guardQ_u, guardL_tt, guardL_ff, guardL_tf, guardL_ft, guardL_u, sOps_nil, sOps_cons, sOps_guard, sTree_leaf, sTree_stop, sTree_quiet, sTree_loud, sTree_quietG, sTree_loudG, goO_some, goO_none, sOp_call, callvP_func, sOp_callv, putD_some, putD_none, still_nil, still_none, still_cons, sOp_move, sOp_nilCheck, sOp_pick, sOp_alloc, sOp_box, sOp_build, sOp_buildSlice, sOp_load1, sOp_loadN, sOp_store, sOp_bin, sOp_un, sOp_convInt, sOp_convSame, sOp_resame, sOp_toBytes, sOp_ofBytes, sOp_mkfunc, sOp_makeSlice, sOp_sliceStr, sOp_slice, sOp_sliceArr, sOp_fieldAddr, sOp_field1, sOp_fieldN, sOp_indexAddr, sOp_indexArrAddr, sOp_indexStr, sOp_indexArr1, sOp_indexArrN, sOp_extract, sOp_lenStr, sOp_lenSl, sOp_lenArr, sOp_append, sOp_copy, sOp_minmax, sOp_capOf, ev_t, ev_c, argEnv_nil, argEnv_cons, envL_nil, envL_cons, abin_add, abin_sub, abin_mul, abin_quo, abin_rem, abin_eql, abin_neq, abin_lss, abin_leq, abin_gtr, abin_geq, abin_shl, abin_shr, abin_sadd, abin_seql, abin_sneq, abin_slss, abin_sleq, abin_sgtr, abin_sgeq, abin_beql, abin_bneq, abin_p1, abin_p2, abin_p3, abin_p4, abin_p5, abin_p6, abin_s3, abin_s4, abin_s5, abin_s6, abin_f1, abin_f2, abin_f3, abin_f4, abin_feq, abin_fne, cellsEq_nil, cellsEq_s, cellsEq_i, cellsEq_b, aun_not, aun_neg, hget_nil, hget_cons, hset_cons, hkill_cons, hpush_nil, hpush_cons, idx_nil, idx_cons, sub_cons, take_cons, take_nil', put_cons, drop_cons, cells_agg, cells_str, cells_int, cells_bool, cells_ptr, cells_nilptr, cells_nilslice, cells_slice, cells_imm, cells_func, resVals_nil, resVals_t, retOf_one, retOf_two, retOf_nil, evOp, isRead, fixOp, ldCell, ldCells, fAddr, iAddr_slice, iAddr_imm, aAddr_ptr, aAddr_iptr, inRange_int, bound_none, bound_int, mayGrow, fillParts, lenOf, lenSl, evSlice, topOf, evAppend, elemsOf, grown, rowF_eq, rowQ_eq, Option.map_some, Option.map_none, Option.bind_some, Option.bind_none, Option.isSome_some, Option.isSome_none, List.map_cons, List.map_nil, List.length_cons, List.length_nil, List.append_nil, List.nil_append, List.cons_append, List.all_cons, List.all_nil, cell_str, cell_int, cell_bool, cell_ptr, cell_iptr, cell_nilptr, cell_nilslice, cell_slice, cell_imm, cell_func, cell_nilfunc, Bool.and_true, Bool.true_and, Bool.and_false, Bool.false_and, Bool.or_true, Bool.true_or, Bool.or_false, Bool.false_or, Bool.not_true, Bool.not_false, Bool.false_eq_true, Bool.true_eq_false, and_true, true_and, and_false, false_and, or_true, true_or, or_false, false_or, not_true_eq_false, not_false_eq_true, decide_true, decide_false, decide_eq_true_eq, if_true, if_false, ite_true, ite_false, ↓reduceIte, Nat.reduceAdd, Nat.reduceSub, Nat.reduceMul, Nat.reduceEqDiff, Nat.reduceLeDiff, Nat.reduceLT, Nat.succ_ne_zero, Nat.zero_add, Nat.add_zero, Nat.zero_mul, Nat.mul_one, Nat.one_mul, Nat.le_refl, Nat.sub_zero, Int.reduceLT, Int.reduceLE, Int.reduceEq, Int.reduceNe, Int.reduceToNat, Int.reduceAdd, Int.reduceSub, Int.toNat_zero, reduceCtorEq, eq_self, ne_eq, beq_self_eq_true, Nat.reduceBEq, Nat.reduceBNe, List.mem_cons, List.not_mem_nil, false_implies, true_implies, implies_true, forall_const, List.drop_zero, List.drop_nil, List.take_zero, List.drop_length, List.length_append, cast_zero, cast_one, Int.cast_ofNat_Int, List.replicate_zero, List.replicate_succ, List.flatten_cons, List.flatten_nil, wrap_one]
  refine ⟨a, rfl, ask_tot sa, ?_⟩
  cases ba : a.bad
  all_goals
    simp only [C3_app, awakeD_eq, packR, y8, x8_0, r8_0, x8_1, r8_1, x8_2, r8_2, x8_3, x8_4, x8_5, x8_6, r8_6, x8_7, r8_7, x8_8, x8_9, x8_10, x8_11, r8_11, x8_12, r8_12, x8_13, r8_13, x8_14, r8_14, x8_15, t8_15, x8_16, x8_17, x8_18, x8_19, x8_20, x8_21, x8_22, x8_23, sC_skip, sC_exit, sC_ret, condK_true, condK_false, unw_seq_normal, unw_seq_exit, unw_seq_ret, unw_block_normal, unw_block_exit, unw_block_ret, unw_lp_exit, unw_lp_ret, unw_fin, retQ_ret, retQ_normal, retQ_exit, nxt_app, nxtQ_app, nxtL_app, guardK_tt, guardK_ff, guardK_tf, guardK_ft, guardK_u, guardQ_tt, guardQ_ff, guardQ_tf, guardQ_ft, guardQ_u, guardL_tt, guardL_ff, guardL_tf, guardL_ft, guardL_u, sOps_nil, sOps_cons, sOps_guard, sTree_leaf, sTree_stop, sTree_quiet, sTree_loud, sTree_quietG, sTree_loudG, goO_some, goO_none, sOp_call, callvP_func, sOp_callv, putD_some, putD_none, still_nil, still_none, still_cons, sOp_move, sOp_nilCheck, sOp_pick, sOp_alloc, sOp_box, sOp_build, sOp_buildSlice, sOp_load1, sOp_loadN, sOp_store, sOp_bin, sOp_un, sOp_convInt, sOp_convSame, sOp_resame, sOp_toBytes, sOp_ofBytes, sOp_mkfunc, sOp_makeSlice, sOp_sliceStr, sOp_slice, sOp_sliceArr, sOp_fieldAddr, sOp_field1, sOp_fieldN, sOp_indexAddr, sOp_indexArrAddr, sOp_indexStr, sOp_indexArr1, sOp_indexArrN, sOp_extract, sOp_lenStr, sOp_lenSl, sOp_lenArr, sOp_append, sOp_copy, sOp_minmax, sOp_capOf, ev_t, ev_c, argEnv_nil, argEnv_cons, envL_nil, envL_cons, abin_add, abin_sub, abin_mul, abin_quo, abin_rem, abin_eql, abin_neq, abin_lss, abin_leq, abin_gtr, abin_geq, abin_shl, abin_shr, abin_sadd, abin_seql, abin_sneq, abin_slss, abin_sleq, abin_sgtr, abin_sgeq, abin_beql, abin_bneq, abin_p1, abin_p2, abin_p3, abin_p4, abin_p5, abin_p6, abin_s3, abin_s4, abin_s5, abin_s6, abin_f1, abin_f2, abin_f3, abin_f4, abin_feq, abin_fne, cellsEq_nil, cellsEq_s, cellsEq_i, cellsEq_b, aun_not, aun_neg, hget_nil, hget_cons, hset_cons, hkill_cons, hpush_nil, hpush_cons, idx_nil, idx_cons, sub_cons, take_cons, take_nil', put_cons, drop_cons, cells_agg, cells_str, cells_int, cells_bool, cells_ptr, cells_nilptr, cells_nilslice, cells_slice, cells_imm, cells_func, resVals_nil, resVals_t, retOf_one, retOf_two, retOf_nil, evOp, isRead, fixOp, ldCell, ldCells, fAddr, iAddr_slice, iAddr_imm, aAddr_ptr, aAddr_iptr, inRange_int, bound_none, bound_int, mayGrow, fillParts, lenOf, lenSl, evSlice, topOf, evAppend, elemsOf, grown, rowF_eq, rowQ_eq, Option.map_some, Option.map_none, Option.bind_some, Option.bind_none, Option.isSome_some, Option.isSome_none, List.map_cons, List.map_nil, List.length_cons, List.length_nil, List.append_nil, List.nil_append, List.cons_append, List.all_cons, List.all_nil, cell_str, cell_int, cell_bool, cell_ptr, cell_iptr, cell_nilptr, cell_nilslice, cell_slice, cell_imm, cell_func, cell_nilfunc, Bool.and_true, Bool.true_and, Bool.and_false, Bool.false_and, Bool.or_true, Bool.true_or, Bool.or_false, Bool.false_or, Bool.not_true, Bool.not_false, Bool.false_eq_true, Bool.true_eq_false, and_true, true_and, and_false, false_and, or_true, true_or, or_false, false_or, not_true_eq_false, not_false_eq_true, decide_true, decide_false, decide_eq_true_eq, if_true, if_false, ite_true, ite_false, ↓reduceIte, Nat.reduceAdd, Nat.reduceSub, Nat.reduceMul, Nat.reduceEqDiff, Nat.reduceLeDiff, Nat.reduceLT, Nat.succ_ne_zero, Nat.zero_add, Nat.add_zero, Nat.zero_mul, Nat.mul_one, Nat.one_mul, Nat.le_refl, Nat.sub_zero, Int.reduceLT, Int.reduceLE, Int.reduceEq, Int.reduceNe, Int.reduceToNat, Int.reduceAdd, Int.reduceSub, Int.toNat_zero, reduceCtorEq, eq_self, ne_eq, beq_self_eq_true, Nat.reduceBEq, Nat.reduceBNe, List.mem_cons, List.not_mem_nil, false_implies, true_implies, implies_true, forall_const, List.drop_zero, List.drop_nil, List.take_zero, List.drop_length, List.length_append, cast_zero, cast_one, Int.cast_ofNat_Int, List.replicate_zero, List.replicate_succ, List.flatten_cons, List.flatten_nil, wrap_one]
    refine ⟨b, rfl, ask_tot sb, ?_⟩
    cases bb : b.bad
    all_goals
      simp only [C3_app, awakeD_eq, packR, y8, x8_0, r8_0, x8_1, r8_1, x8_2, r8_2, x8_3, x8_4, x8_5, x8_6, r8_6, x8_7, r8_7, x8_8, x8_9, x8_10, x8_11, r8_11, x8_12, r8_12, x8_13, r8_13, x8_14, r8_14, x8_15, t8_15, x8_16, x8_17, x8_18, x8_19, x8_20, x8_21, x8_22, x8_23, sC_skip, sC_exit, sC_ret, condK_true, condK_false, unw_seq_normal, unw_seq_exit, unw_seq_ret, unw_block_normal, unw_block_exit, unw_block_ret, unw_lp_exit, unw_lp_ret, unw_fin, retQ_ret, retQ_normal, retQ_exit, nxt_app, nxtQ_app, nxtL_app, guardK_tt, guardK_ff, guardK_tf, guardK_ft, guardK_u, guardQ_tt, guardQ_ff, guardQ_tf, guardQ_ft, guardQ_u, guardL_tt, guardL_ff, guardL_tf, guardL_ft, guardL_u, sOps_nil, sOps_cons, sOps_guard, sTree_leaf, sTree_stop, sTree_quiet, sTree_loud, sTree_quietG, sTree_loudG, goO_some, goO_none, sOp_call, callvP_func, sOp_callv, putD_some, putD_none, still_nil, still_none, still_cons, sOp_move, sOp_nilCheck, sOp_pick, sOp_alloc, sOp_box, sOp_build, sOp_buildSlice, sOp_load1, sOp_loadN, sOp_store, sOp_bin, sOp_un, sOp_convInt, sOp_convSame, sOp_resame, sOp_toBytes, sOp_ofBytes, sOp_mkfunc, sOp_makeSlice, sOp_sliceStr, sOp_slice, sOp_sliceArr, sOp_fieldAddr, sOp_field1, sOp_fieldN, sOp_indexAddr, sOp_indexArrAddr, sOp_indexStr, sOp_indexArr1, sOp_indexArrN, sOp_extract, sOp_lenStr, sOp_lenSl, sOp_lenArr, sOp_append, sOp_copy, sOp_minmax, sOp_capOf, ev_t, ev_c, argEnv_nil, argEnv_cons, envL_nil, envL_cons, abin_add, abin_sub, abin_mul, abin_quo, abin_rem, abin_eql, abin_neq, abin_lss, abin_leq, abin_gtr, abin_geq, abin_shl, abin_shr, abin_sadd, abin_seql, abin_sneq, abin_slss, abin_sleq, abin_sgtr, abin_sgeq, abin_beql, abin_bneq, abin_p1, abin_p2, abin_p3, abin_p4, abin_p5, abin_p6, abin_s3, abin_s4, abin_s5, abin_s6, abin_f1, abin_f2, abin_f3, abin_f4, abin_feq, abin_fne, cellsEq_nil, cellsEq_s, cellsEq_i, cellsEq_b, aun_not, aun_neg, hget_nil, hget_cons, hset_cons, hkill_cons, hpush_nil, hpush_cons, idx_nil, idx_cons, sub_cons, take_cons, take_nil', put_cons, drop_cons, cells_agg, cells_str, cells_int, cells_bool, cells_ptr, cells_nilptr, cells_nilslice, cells_slice, cells_imm, cells_func, resVals_nil, resVals_t, retOf_one, retOf_two, retOf_nil, evOp, isRead, fixOp, ldCell, ldCells, fAddr, iAddr_slice, iAddr_imm, aAddr_ptr, aAddr_iptr, inRange_int, bound_none, bound_int, mayGrow, fillParts, lenOf, lenSl, evSlice, topOf, evAppend, elemsOf, grown, rowF_eq, rowQ_eq, Option.map_some, Option.map_none, Option.bind_some, Option.bind_none, Option.isSome_some, Option.isSome_none, List.map_cons, List.map_nil, List.length_cons, List.length_nil, List.append_nil, List.nil_append, List.cons_append, List.all_cons, List.all_nil, cell_str, cell_int, cell_bool, cell_ptr, cell_iptr, cell_nilptr, cell_nilslice, cell_slice, cell_imm, cell_func, cell_nilfunc, Bool.and_true, Bool.true_and, Bool.and_false, Bool.false_and, Bool.or_true, Bool.true_or, Bool.or_false, Bool.false_or, Bool.not_true, Bool.not_false, Bool.false_eq_true, Bool.true_eq_false, and_true, true_and, and_false, false_and, or_true, true_or, or_false, false_or, not_true_eq_false, not_false_eq_true, decide_true, decide_false, decide_eq_true_eq, if_true, if_false, ite_true, ite_false, ↓reduceIte, Nat.reduceAdd, Nat.reduceSub, Nat.reduceMul, Nat.reduceEqDiff, Nat.reduceLeDiff, Nat.reduceLT, Nat.succ_ne_zero, Nat.zero_add, Nat.add_zero, Nat.zero_mul, Nat.mul_one, Nat.one_mul, Nat.le_refl, Nat.sub_zero, Int.reduceLT, Int.reduceLE, Int.reduceEq, Int.reduceNe, Int.reduceToNat, Int.reduceAdd, Int.reduceSub, Int.toNat_zero, reduceCtorEq, eq_self, ne_eq, beq_self_eq_true, Nat.reduceBEq, Nat.reduceBNe, List.mem_cons, List.not_mem_nil, false_implies, true_implies, implies_true, forall_const, List.drop_zero, List.drop_nil, List.take_zero, List.drop_length, List.length_append, cast_zero, cast_one, Int.cast_ofNat_Int, List.replicate_zero, List.replicate_succ, List.flatten_cons, List.flatten_nil, wrap_one]
      refine ⟨p, rfl, rep_tot2 sp, ?_⟩
      cases bp : p.bad
      all_goals
        simp only [C3_app, awakeD_eq, packR, y8, x8_0, r8_0, x8_1, r8_1, x8_2, r8_2, x8_3, x8_4, x8_5, x8_6, r8_6, x8_7, r8_7, x8_8, x8_9, x8_10, x8_11, r8_11, x8_12, r8_12, x8_13, r8_13, x8_14, r8_14, x8_15, t8_15, x8_16, x8_17, x8_18, x8_19, x8_20, x8_21, x8_22, x8_23, sC_skip, sC_exit, sC_ret, condK_true, condK_false, unw_seq_normal, unw_seq_exit, unw_seq_ret, unw_block_normal, unw_block_exit, unw_block_ret, unw_lp_exit, unw_lp_ret, unw_fin, retQ_ret, retQ_normal, retQ_exit, nxt_app, nxtQ_app, nxtL_app, guardK_tt, guardK_ff, guardK_tf, guardK_ft, guardK_u, guardQ_tt, guardQ_ff, guardQ_tf, guardQ_ft, guardQ_u, guardL_tt, guardL_ff, guardL_tf, guardL_ft, guardL_u, sOps_nil, sOps_cons, sOps_guard, sTree_leaf, sTree_stop, sTree_quiet, sTree_loud, sTree_quietG, sTree_loudG, goO_some, goO_none, sOp_call, callvP_func, sOp_callv, putD_some, putD_none, still_nil, still_none, still_cons, sOp_move, sOp_nilCheck, sOp_pick, sOp_alloc, sOp_box, sOp_build, sOp_buildSlice, sOp_load1, sOp_loadN, sOp_store, sOp_bin, sOp_un, sOp_convInt, sOp_convSame, sOp_resame, sOp_toBytes, sOp_ofBytes, sOp_mkfunc, sOp_makeSlice, sOp_sliceStr, sOp_slice, sOp_sliceArr, sOp_fieldAddr, sOp_field1, sOp_fieldN, sOp_indexAddr, sOp_indexArrAddr, sOp_indexStr, sOp_indexArr1, sOp_indexArrN, sOp_extract, sOp_lenStr, sOp_lenSl, sOp_lenArr, sOp_append, sOp_copy, sOp_minmax, sOp_capOf, ev_t, ev_c, argEnv_nil, argEnv_cons, envL_nil, envL_cons, abin_add, abin_sub, abin_mul, abin_quo, abin_rem, abin_eql, abin_neq, abin_lss, abin_leq, abin_gtr, abin_geq, abin_shl, abin_shr, abin_sadd, abin_seql, abin_sneq, abin_slss, abin_sleq, abin_sgtr, abin_sgeq, abin_beql, abin_bneq, abin_p1, abin_p2, abin_p3, abin_p4, abin_p5, abin_p6, abin_s3, abin_s4, abin_s5, abin_s6, abin_f1, abin_f2, abin_f3, abin_f4, abin_feq, abin_fne, cellsEq_nil, cellsEq_s, cellsEq_i, cellsEq_b, aun_not, aun_neg, hget_nil, hget_cons, hset_cons, hkill_cons, hpush_nil, hpush_cons, idx_nil, idx_cons, sub_cons, take_cons, take_nil', put_cons, drop_cons, cells_agg, cells_str, cells_int, cells_bool, cells_ptr, cells_nilptr, cells_nilslice, cells_slice, cells_imm, cells_func, resVals_nil, resVals_t, retOf_one, retOf_two, retOf_nil, evOp, isRead, fixOp, ldCell, ldCells, fAddr, iAddr_slice, iAddr_imm, aAddr_ptr, aAddr_iptr, inRange_int, bound_none, bound_int, mayGrow, fillParts, lenOf, lenSl, evSlice, topOf, evAppend, elemsOf, grown, rowF_eq, rowQ_eq, Option.map_some, Option.map_none, Option.bind_some, Option.bind_none, Option.isSome_some, Option.isSome_none, List.map_cons, List.map_nil, List.length_cons, List.length_nil, List.append_nil, List.nil_append, List.cons_append, List.all_cons, List.all_nil, cell_str, cell_int, cell_bool, cell_ptr, cell_iptr, cell_nilptr, cell_nilslice, cell_slice, cell_imm, cell_func, cell_nilfunc, Bool.and_true, Bool.true_and, Bool.and_false, Bool.false_and, Bool.or_true, Bool.true_or, Bool.or_false, Bool.false_or, Bool.not_true, Bool.not_false, Bool.false_eq_true, Bool.true_eq_false, and_true, true_and, and_false, false_and, or_true, true_or, or_false, false_or, not_true_eq_false, not_false_eq_true, decide_true, decide_false, decide_eq_true_eq, if_true, if_false, ite_true, ite_false, ↓reduceIte, Nat.reduceAdd, Nat.reduceSub, Nat.reduceMul, Nat.reduceEqDiff, Nat.reduceLeDiff, Nat.reduceLT, Nat.succ_ne_zero, Nat.zero_add, Nat.add_zero, Nat.zero_mul, Nat.mul_one, Nat.one_mul, Nat.le_refl, Nat.sub_zero, Int.reduceLT, Int.reduceLE, Int.reduceEq, Int.reduceNe, Int.reduceToNat, Int.reduceAdd, Int.reduceSub, Int.toNat_zero, reduceCtorEq, eq_self, ne_eq, beq_self_eq_true, Nat.reduceBEq, Nat.reduceBNe, List.mem_cons, List.not_mem_nil, false_implies, true_implies, implies_true, forall_const, List.drop_zero, List.drop_nil, List.take_zero, List.drop_length, List.length_append, cast_zero, cast_one, Int.cast_ofNat_Int, List.replicate_zero, List.replicate_succ, List.flatten_cons, List.flatten_nil, wrap_one]
        refine ⟨q, rfl, rep_tot2 sq, ?_⟩
        cases bq : q.bad
        all_goals
          first
            | (have hA' := eqA_true ba bb; simp only [C3_app, awakeD_eq, packR, y8, x8_0, r8_0, x8_1, r8_1, x8_2, r8_2, x8_3, x8_4, x8_5, x8_6, r8_6, x8_7, r8_7, x8_8, x8_9, x8_10, x8_11, r8_11, x8_12, r8_12, x8_13, r8_13, x8_14, r8_14, x8_15, t8_15, x8_16, x8_17, x8_18, x8_19, x8_20, x8_21, x8_22, x8_23, sC_skip, sC_exit, sC_ret, condK_true, condK_false, unw_seq_normal, unw_seq_exit, unw_seq_ret, unw_block_normal, unw_block_exit, unw_block_ret, unw_lp_exit, unw_lp_ret, unw_fin, retQ_ret, retQ_normal, retQ_exit, nxt_app, nxtQ_app, nxtL_app, guardK_tt, guardK_ff, guardK_tf, guardK_ft, guardK_u, guardQ_tt, guardQ_ff, guardQ_tf, guardQ_ft, guardQ_u, guardL_tt, guardL_ff, guardL_tf, guardL_ft, guardL_u, sOps_nil, sOps_cons, sOps_guard, sTree_leaf, sTree_stop, sTree_quiet, sTree_loud, sTree_quietG, sTree_loudG, goO_some, goO_none, sOp_call, callvP_func, sOp_callv, putD_some, putD_none, still_nil, still_none, still_cons, sOp_move, sOp_nilCheck, sOp_pick, sOp_alloc, sOp_box, sOp_build, sOp_buildSlice, sOp_load1, sOp_loadN, sOp_store, sOp_bin, sOp_un, sOp_convInt, sOp_convSame, sOp_resame, sOp_toBytes, sOp_ofBytes, sOp_mkfunc, sOp_makeSlice, sOp_sliceStr, sOp_slice, sOp_sliceArr, sOp_fieldAddr, sOp_field1, sOp_fieldN, sOp_indexAddr, sOp_indexArrAddr, sOp_indexStr, sOp_indexArr1, sOp_indexArrN, sOp_extract, sOp_lenStr, sOp_lenSl, sOp_lenArr, sOp_append, sOp_copy, sOp_minmax, sOp_capOf, ev_t, ev_c, argEnv_nil, argEnv_cons, envL_nil, envL_cons, abin_add, abin_sub, abin_mul, abin_quo, abin_rem, abin_eql, abin_neq, abin_lss, abin_leq, abin_gtr, abin_geq, abin_shl, abin_shr, abin_sadd, abin_seql, abin_sneq, abin_slss, abin_sleq, abin_sgtr, abin_sgeq, abin_beql, abin_bneq, abin_p1, abin_p2, abin_p3, abin_p4, abin_p5, abin_p6, abin_s3, abin_s4, abin_s5, abin_s6, abin_f1, abin_f2, abin_f3, abin_f4, abin_feq, abin_fne, cellsEq_nil, cellsEq_s, cellsEq_i, cellsEq_b, aun_not, aun_neg, hget_nil, hget_cons, hset_cons, hkill_cons, hpush_nil, hpush_cons, idx_nil, idx_cons, sub_cons, take_cons, take_nil', put_cons, drop_cons, cells_agg, cells_str, cells_int, cells_bool, cells_ptr, cells_nilptr, cells_nilslice, cells_slice, cells_imm, cells_func, resVals_nil, resVals_t, retOf_one, retOf_two, retOf_nil, evOp, isRead, fixOp, ldCell, ldCells, fAddr, iAddr_slice, iAddr_imm, aAddr_ptr, aAddr_iptr, inRange_int, bound_none, bound_int, mayGrow, fillParts, lenOf, lenSl, evSlice, topOf, evAppend, elemsOf, grown, rowF_eq, rowQ_eq, Option.map_some, Option.map_none, Option.bind_some, Option.bind_none, Option.isSome_some, Option.isSome_none, List.map_cons, List.map_nil, List.length_cons, List.length_nil, List.append_nil, List.nil_append, List.cons_append, List.all_cons, List.all_nil, cell_str, cell_int, cell_bool, cell_ptr, cell_iptr, cell_nilptr, cell_nilslice, cell_slice, cell_imm, cell_func, cell_nilfunc, Bool.and_true, Bool.true_and, Bool.and_false, Bool.false_and, Bool.or_true, Bool.true_or, Bool.or_false, Bool.false_or, Bool.not_true, Bool.not_false, Bool.false_eq_true, Bool.true_eq_false, and_true, true_and, and_false, false_and, or_true, true_or, or_false, false_or, not_true_eq_false, not_false_eq_true, decide_true, decide_false, decide_eq_true_eq, if_true, if_false, ite_true, ite_false, ↓reduceIte, Nat.reduceAdd, Nat.reduceSub, Nat.reduceMul, Nat.reduceEqDiff, Nat.reduceLeDiff, Nat.reduceLT, Nat.succ_ne_zero, Nat.zero_add, Nat.add_zero, Nat.zero_mul, Nat.mul_one, Nat.one_mul, Nat.le_refl, Nat.sub_zero, Int.reduceLT, Int.reduceLE, Int.reduceEq, Int.reduceNe, Int.reduceToNat, Int.reduceAdd, Int.reduceSub, Int.toNat_zero, reduceCtorEq, eq_self, ne_eq, beq_self_eq_true, Nat.reduceBEq, Nat.reduceBNe, List.mem_cons, List.not_mem_nil, false_implies, true_implies, implies_true, forall_const, List.drop_zero, List.drop_nil, List.take_zero, List.drop_length, List.length_append, cast_zero, cast_one, Int.cast_ofNat_Int, List.replicate_zero, List.replicate_succ, List.flatten_cons, List.flatten_nil, wrap_one, ofB, hA'])
            | simp only [C3_app, awakeD_eq, packR, y8, x8_0, r8_0, x8_1, r8_1, x8_2, r8_2, x8_3, x8_4, x8_5, x8_6, r8_6, x8_7, r8_7, x8_8, x8_9, x8_10, x8_11, r8_11, x8_12, r8_12, x8_13, r8_13, x8_14, r8_14, x8_15, t8_15, x8_16, x8_17, x8_18, x8_19, x8_20, x8_21, x8_22, x8_23, sC_skip, sC_exit, sC_ret, condK_true, condK_false, unw_seq_normal, unw_seq_exit, unw_seq_ret, unw_block_normal, unw_block_exit, unw_block_ret, unw_lp_exit, unw_lp_ret, unw_fin, retQ_ret, retQ_normal, retQ_exit, nxt_app, nxtQ_app, nxtL_app, guardK_tt, guardK_ff, guardK_tf, guardK_ft, guardK_u, guardQ_tt, guardQ_ff, guardQ_tf, guardQ_ft, guardQ_u, guardL_tt, guardL_ff, guardL_tf, guardL_ft, guardL_u, sOps_nil, sOps_cons, sOps_guard, sTree_leaf, sTree_stop, sTree_quiet, sTree_loud, sTree_quietG, sTree_loudG, goO_some, goO_none, sOp_call, callvP_func, sOp_callv, putD_some, putD_none, still_nil, still_none, still_cons, sOp_move, sOp_nilCheck, sOp_pick, sOp_alloc, sOp_box, sOp_build, sOp_buildSlice, sOp_load1, sOp_loadN, sOp_store, sOp_bin, sOp_un, sOp_convInt, sOp_convSame, sOp_resame, sOp_toBytes, sOp_ofBytes, sOp_mkfunc, sOp_makeSlice, sOp_sliceStr, sOp_slice, sOp_sliceArr, sOp_fieldAddr, sOp_field1, sOp_fieldN, sOp_indexAddr, sOp_indexArrAddr, sOp_indexStr, sOp_indexArr1, sOp_indexArrN, sOp_extract, sOp_lenStr, sOp_lenSl, sOp_lenArr, sOp_append, sOp_copy, sOp_minmax, sOp_capOf, ev_t, ev_c, argEnv_nil, argEnv_cons, envL_nil, envL_cons, abin_add, abin_sub, abin_mul, abin_quo, abin_rem, abin_eql, abin_neq, abin_lss, abin_leq, abin_gtr, abin_geq, abin_shl, abin_shr, abin_sadd, abin_seql, abin_sneq, abin_slss, abin_sleq, abin_sgtr, abin_sgeq, abin_beql, abin_bneq, abin_p1, abin_p2, abin_p3, abin_p4, abin_p5, abin_p6, abin_s3, abin_s4, abin_s5, abin_s6, abin_f1, abin_f2, abin_f3, abin_f4, abin_feq, abin_fne, cellsEq_nil, cellsEq_s, cellsEq_i, cellsEq_b, aun_not, aun_neg, hget_nil, hget_cons, hset_cons, hkill_cons, hpush_nil, hpush_cons, idx_nil, idx_cons, sub_cons, take_cons, take_nil', put_cons, drop_cons, cells_agg, cells_str, cells_int, cells_bool, cells_ptr, cells_nilptr, cells_nilslice, cells_slice, cells_imm, cells_func, resVals_nil, resVals_t, retOf_one, retOf_two, retOf_nil, evOp, isRead, fixOp, ldCell, ldCells, fAddr, iAddr_slice, iAddr_imm, aAddr_ptr, aAddr_iptr, inRange_int, bound_none, bound_int, mayGrow, fillParts, lenOf, lenSl, evSlice, topOf, evAppend, elemsOf, grown, rowF_eq, rowQ_eq, Option.map_some, Option.map_none, Option.bind_some, Option.bind_none, Option.isSome_some, Option.isSome_none, List.map_cons, List.map_nil, List.length_cons, List.length_nil, List.append_nil, List.nil_append, List.cons_append, List.all_cons, List.all_nil, cell_str, cell_int, cell_bool, cell_ptr, cell_iptr, cell_nilptr, cell_nilslice, cell_slice, cell_imm, cell_func, cell_nilfunc, Bool.and_true, Bool.true_and, Bool.and_false, Bool.false_and, Bool.or_true, Bool.true_or, Bool.or_false, Bool.false_or, Bool.not_true, Bool.not_false, Bool.false_eq_true, Bool.true_eq_false, and_true, true_and, and_false, false_and, or_true, true_or, or_false, false_or, not_true_eq_false, not_false_eq_true, decide_true, decide_false, decide_eq_true_eq, if_true, if_false, ite_true, ite_false, ↓reduceIte, Nat.reduceAdd, Nat.reduceSub, Nat.reduceMul, Nat.reduceEqDiff, Nat.reduceLeDiff, Nat.reduceLT, Nat.succ_ne_zero, Nat.zero_add, Nat.add_zero, Nat.zero_mul, Nat.mul_one, Nat.one_mul, Nat.le_refl, Nat.sub_zero, Int.reduceLT, Int.reduceLE, Int.reduceEq, Int.reduceNe, Int.reduceToNat, Int.reduceAdd, Int.reduceSub, Int.toNat_zero, reduceCtorEq, eq_self, ne_eq, beq_self_eq_true, Nat.reduceBEq, Nat.reduceBNe, List.mem_cons, List.not_mem_nil, false_implies, true_implies, implies_true, forall_const, List.drop_zero, List.drop_nil, List.take_zero, List.drop_length, List.length_append, cast_zero, cast_one, Int.cast_ofNat_Int, List.replicate_zero, List.replicate_succ, List.flatten_cons, List.flatten_nil, wrap_one, ofB]
          first
            | trivial
            | (refine ⟨p, q, rfl, hp.2.2.1, fun t ht => ?_⟩
               have hR : (decide (p.bytes = q.bytes) == t) = true := by
                 rw [beq_iff_eq, Bool.eq_iff_iff, ht, ← rep_inj bp bq]; simp
               simp only [C3_app, awakeD_eq, packR, y8, x8_0, r8_0, x8_1, r8_1, x8_2, r8_2, x8_3, x8_4, x8_5, x8_6, r8_6, x8_7, r8_7, x8_8, x8_9, x8_10, x8_11, r8_11, x8_12, r8_12, x8_13, r8_13, x8_14, r8_14, x8_15, t8_15, x8_16, x8_17, x8_18, x8_19, x8_20, x8_21, x8_22, x8_23, sC_skip, sC_exit, sC_ret, condK_true, condK_false, unw_seq_normal, unw_seq_exit, unw_seq_ret, unw_block_normal, unw_block_exit, unw_block_ret, unw_lp_exit, unw_lp_ret, unw_fin, retQ_ret, retQ_normal, retQ_exit, nxt_app, nxtQ_app, nxtL_app, guardK_tt, guardK_ff, guardK_tf, guardK_ft, guardK_u, guardQ_tt, guardQ_ff, guardQ_tf, guardQ_ft, guardQ_u, guardL_tt, guardL_ff, guardL_tf, guardL_ft, guardL_u, sOps_nil, sOps_cons, sOps_guard, sTree_leaf, sTree_stop, sTree_quiet, sTree_loud, sTree_quietG, sTree_loudG, goO_some, goO_none, sOp_call, callvP_func, sOp_callv, putD_some, putD_none, still_nil, still_none, still_cons, sOp_move, sOp_nilCheck, sOp_pick, sOp_alloc, sOp_box, sOp_build, sOp_buildSlice, sOp_load1, sOp_loadN, sOp_store, sOp_bin, sOp_un, sOp_convInt, sOp_convSame, sOp_resame, sOp_toBytes, sOp_ofBytes, sOp_mkfunc, sOp_makeSlice, sOp_sliceStr, sOp_slice, sOp_sliceArr, sOp_fieldAddr, sOp_field1, sOp_fieldN, sOp_indexAddr, sOp_indexArrAddr, sOp_indexStr, sOp_indexArr1, sOp_indexArrN, sOp_extract, sOp_lenStr, sOp_lenSl, sOp_lenArr, sOp_append, sOp_copy, sOp_minmax, sOp_capOf, ev_t, ev_c, argEnv_nil, argEnv_cons, envL_nil, envL_cons, abin_add, abin_sub, abin_mul, abin_quo, abin_rem, abin_eql, abin_neq, abin_lss, abin_leq, abin_gtr, abin_geq, abin_shl, abin_shr, abin_sadd, abin_seql, abin_sneq, abin_slss, abin_sleq, abin_sgtr, abin_sgeq, abin_beql, abin_bneq, abin_p1, abin_p2, abin_p3, abin_p4, abin_p5, abin_p6, abin_s3, abin_s4, abin_s5, abin_s6, abin_f1, abin_f2, abin_f3, abin_f4, abin_feq, abin_fne, cellsEq_nil, cellsEq_s, cellsEq_i, cellsEq_b, aun_not, aun_neg, hget_nil, hget_cons, hset_cons, hkill_cons, hpush_nil, hpush_cons, idx_nil, idx_cons, sub_cons, take_cons, take_nil', put_cons, drop_cons, cells_agg, cells_str, cells_int, cells_bool, cells_ptr, cells_nilptr, cells_nilslice, cells_slice, cells_imm, cells_func, resVals_nil, resVals_t, retOf_one, retOf_two, retOf_nil, evOp, isRead, fixOp, ldCell, ldCells, fAddr, iAddr_slice, iAddr_imm, aAddr_ptr, aAddr_iptr, inRange_int, bound_none, bound_int, mayGrow, fillParts, lenOf, lenSl, evSlice, topOf, evAppend, elemsOf, grown, rowF_eq, rowQ_eq, Option.map_some, Option.map_none, Option.bind_some, Option.bind_none, Option.isSome_some, Option.isSome_none, List.map_cons, List.map_nil, List.length_cons, List.length_nil, List.append_nil, List.nil_append, List.cons_append, List.all_cons, List.all_nil, cell_str, cell_int, cell_bool, cell_ptr, cell_iptr, cell_nilptr, cell_nilslice, cell_slice, cell_imm, cell_func, cell_nilfunc, Bool.and_true, Bool.true_and, Bool.and_false, Bool.false_and, Bool.or_true, Bool.true_or, Bool.or_false, Bool.false_or, Bool.not_true, Bool.not_false, Bool.false_eq_true, Bool.true_eq_false, and_true, true_and, and_false, false_and, or_true, true_or, or_false, false_or, not_true_eq_false, not_false_eq_true, decide_true, decide_false, decide_eq_true_eq, if_true, if_false, ite_true, ite_false, ↓reduceIte, Nat.reduceAdd, Nat.reduceSub, Nat.reduceMul, Nat.reduceEqDiff, Nat.reduceLeDiff, Nat.reduceLT, Nat.succ_ne_zero, Nat.zero_add, Nat.add_zero, Nat.zero_mul, Nat.mul_one, Nat.one_mul, Nat.le_refl, Nat.sub_zero, Int.reduceLT, Int.reduceLE, Int.reduceEq, Int.reduceNe, Int.reduceToNat, Int.reduceAdd, Int.reduceSub, Int.toNat_zero, reduceCtorEq, eq_self, ne_eq, beq_self_eq_true, Nat.reduceBEq, Nat.reduceBNe, List.mem_cons, List.not_mem_nil, false_implies, true_implies, implies_true, forall_const, List.drop_zero, List.drop_nil, List.take_zero, List.drop_length, List.length_append, cast_zero, cast_one, Int.cast_ofNat_Int, List.replicate_zero, List.replicate_succ, List.flatten_cons, List.flatten_nil, wrap_one, ofB, hR]
               trivial)
theorem rdAsk : Rd Try.prog 60 AskV.cells AskV.okS := by
  have hu : Try.prog.underlying 60 = some (.struct (Try.prog.fieldsOf 60)) := by kernel_rfl
  have hf : (Try.prog.fieldsOf 60).toList = [⟨ "Do", 3, 0, false, "", "", 0⟩, ⟨ "Client", 3, 1, false, "", "", 8⟩, ⟨ "Seq", 3, 2, false, "", "", 16⟩, ⟨ "Text", 9, 3, false, "", "", 24⟩, ⟨ "Val", 9, 4, false, "", "", 40⟩, ⟨ "From", 9, 5, false, "", "", 56⟩, ⟨ "To", 9, 6, false, "", "", 72⟩, ⟨ "Limit", 3, 7, false, "", "", 88⟩] := by kernel_rfl
  have h := rdf_cons (P := Try.prog) (f := ⟨ "Do", 3, 0, false, "", "", 0⟩) (o := 0) rfl (rd_int (k := .i64) (by kernel_rfl))
    (rdf_cons (f := ⟨ "Client", 3, 1, false, "", "", 8⟩) (by kernel_rfl) (rd_int (k := .i64) (by kernel_rfl))
    (rdf_cons (f := ⟨ "Seq", 3, 2, false, "", "", 16⟩) (by kernel_rfl) (rd_int (k := .i64) (by kernel_rfl))
    (rdf_cons (f := ⟨ "Text", 9, 3, false, "", "", 24⟩) (by kernel_rfl) (rd_str (by kernel_rfl))
    (rdf_cons (f := ⟨ "Val", 9, 4, false, "", "", 40⟩) (by kernel_rfl) (rd_str (by kernel_rfl))
    (rdf_cons (f := ⟨ "From", 9, 5, false, "", "", 56⟩) (by kernel_rfl) (rd_str (by kernel_rfl))
    (rdf_cons (f := ⟨ "To", 9, 6, false, "", "", 72⟩) (by kernel_rfl) (rd_str (by kernel_rfl))
    (rdf_cons (f := ⟨ "Limit", 3, 7, false, "", "", 88⟩) (by kernel_rfl) (rd_int (k := .i64) (by kernel_rfl)) (rdf_nil _))))))))
  rw [← hf] at h
  exact (rd_struct hu (by kernel_rfl) h).map (fun x => ⟨x.1, x.2.1, x.2.2.1, x.2.2.2.1, x.2.2.2.2.1, x.2.2.2.2.2.1, x.2.2.2.2.2.2.1, x.2.2.2.2.2.2.2.1⟩) (fun x => rfl) (fun x hx => ⟨hx.2.2.2.1, hx.2.2.2.2.1, hx.2.2.2.2.2.1, hx.2.2.2.2.2.2.1⟩)
theorem rdRec : Rd Try.prog 44 (fun p : List UInt8 × List UInt8 => [.str p.1, .str p.2]) (fun p => p.1.length ≤ 140737488351232 ∧ p.2.length ≤ 140737488351232) := by
  have hu : Try.prog.underlying 44 = some (.struct (Try.prog.fieldsOf 44)) := by kernel_rfl
  have hf : (Try.prog.fieldsOf 44).toList = [⟨ "Text", 9, 0, false, "", "", 0⟩, ⟨ "Val", 9, 1, false, "", "", 16⟩] := by kernel_rfl
  have h := rdf_cons (P := Try.prog) (f := ⟨ "Text", 9, 0, false, "", "", 0⟩) (o := 0) rfl (rd_str (by kernel_rfl)) (rdf_cons (f := ⟨ "Val", 9, 1, false, "", "", 16⟩) (by kernel_rfl) (rd_str (by kernel_rfl)) (rdf_nil _))
  rw [← hf] at h
  exact (rd_struct hu (by kernel_rfl) h).map (fun x => (x.1, x.2.1)) (fun x => rfl) (fun x hx => ⟨hx.1, hx.2.1⟩)
theorem rdRep : Rd Try.prog 37 RepV.cells RepV.okS := by
  have hu : Try.prog.underlying 37 = some (.struct (Try.prog.fieldsOf 37)) := by kernel_rfl
  have hf : (Try.prog.fieldsOf 37).toList = [⟨ "Client", 3, 0, false, "", "", 0⟩, ⟨ "Seq", 3, 1, false, "", "", 8⟩, ⟨ "Err", 29, 2, false, "", "", 16⟩, ⟨ "Found", 4, 3, false, "", "", 24⟩, ⟨ "Val", 9, 4, false, "", "", 32⟩, ⟨ "L", 35, 5, false, "", "", 48⟩, ⟨ "Next", 9, 6, false, "", "", 72⟩, ⟨ "More", 4, 7, false, "", "", 88⟩] := by kernel_rfl
  have hsl := rd_slice (P := Try.prog) (t := 35) (e := 44) (by kernel_rfl) (by decide +kernel) rdRec
  have h := rdf_cons (P := Try.prog) (f := ⟨ "Client", 3, 0, false, "", "", 0⟩) (o := 0) rfl (rd_int (k := .i64) (by kernel_rfl))
    (rdf_cons (f := ⟨ "Seq", 3, 1, false, "", "", 8⟩) (by kernel_rfl) (rd_int (k := .i64) (by kernel_rfl))
    (rdf_cons (f := ⟨ "Err", 29, 2, false, "", "", 16⟩) (by kernel_rfl) (rd_int (k := .i64) (by kernel_rfl))
    (rdf_cons (f := ⟨ "Found", 4, 3, false, "", "", 24⟩) (by kernel_rfl) (rd_bool (by kernel_rfl))
    (rdf_cons (f := ⟨ "Val", 9, 4, false, "", "", 32⟩) (by kernel_rfl) (rd_str (by kernel_rfl))
    (rdf_cons (f := ⟨ "L", 35, 5, false, "", "", 48⟩) (by kernel_rfl) hsl
    (rdf_cons (f := ⟨ "Next", 9, 6, false, "", "", 72⟩) (by kernel_rfl) (rd_str (by kernel_rfl))
    (rdf_cons (f := ⟨ "More", 4, 7, false, "", "", 88⟩) (by kernel_rfl) (rd_bool (by kernel_rfl)) (rdf_nil _))))))))
  rw [← hf] at h
  have hb : Try.prog.bytesOf 44 = 32 := by kernel_rfl
  refine (rd_struct hu (by kernel_rfl) h).map (fun x => ⟨x.1, x.2.1, x.2.2.1, x.2.2.2.1, x.2.2.2.2.1, x.2.2.2.2.2.1, x.2.2.2.2.2.2.1, x.2.2.2.2.2.2.2.1⟩) (fun x => rfl) (fun x hx => ⟨hx.2.2.2.2.1, hx.2.2.2.2.2.2.1, ?_, hx.2.2.2.2.2.1.2⟩)
  have h1 := hx.2.2.2.2.2.1.1
  rw [hb] at h1
  have h2 : x.2.2.2.2.2.1.length * 32 ≤ 140737488351232 := h1
  show x.2.2.2.2.2.1.length ≤ 140737488351232
  omega
abbrev Inp := AskV × (AskV × (List RepV × Unit))
def avs (p : Inp) : List AV := [.agg p.1.cells, .agg p.2.1.cells, .agg (p.2.2.1.flatMap RepV.cells)]
def oks (p : Inp) : Prop := p.1.okS ∧ (p.2.1.okS ∧ ((p.2.2.1.length = 2 ∧ ∀ y ∈ p.2.2.1, y.okS) ∧ True))
theorem args : Args Try.prog Try.f8.params.toList avs oks := by
  have hp : Try.f8.params.toList = [60, 60, 65] := by kernel_rfl
  rw [hp]
  have hu : Try.prog.underlying 60 = some (.struct (Try.prog.fieldsOf 60)) := by kernel_rfl
  exact .cons (arg_agg rdAsk (.inl ⟨_, hu⟩)) (.cons (arg_agg rdAsk (.inl ⟨_, hu⟩)) (.cons (arg_agg (rd_array (e := 37) (n := 2) (by kernel_rfl) (by kernel_rfl) rdRep) (.inr ⟨2, 37, by kernel_rfl⟩)) .nil))
theorem comes (y : Inp) (hy : oks y) : Tri Try.prog 8 (avs y) [] Yes := by
  obtain ⟨a, b, l, u⟩ := y
  obtain ⟨ha, hb, ⟨hl, hr⟩, _⟩ := hy
  match l, hl with
  | [p, q], _ =>
    have := Tri.of_s c8 C3_sound (law a b p q ha hb (hr p (by simp)) (hr q (by simp)))
    simpa [avs] using this
theorem own : ownKnob Try.prog.godebug = none := by kernel_rfl
theorem laidOut : laidOutB Try.prog = true := by kernel_rfl
set_option maxRecDepth 100000 in
theorem lifted (os : Os) (started : os.Started) (H : Type) (enc : TypeId × Value → H) :
    ReturnsInHanded {} Try.checked os 8 .any (Rows.parcelApartSpec.pre6 enc Try.prog Try.f8 Rows.parcelApartRow.domain false) (Rows.parcelApartSpec.post enc Try.prog Try.f8 false true false false) := by
  refine returnsInHanded_of_change_sized (C := Try.checked) own started (by kernel_rfl) Try.func8
    (ChangeSpec.witness6 (enc := enc) (C := Try.checked) false ⟨#[], #[.agg #[.int .i64 0, .int .i64 0, .int .i64 0, .string ⟨#[]⟩, .string ⟨#[]⟩, .string ⟨#[]⟩, .string ⟨#[]⟩, .int .i64 0], .agg #[.int .i64 0, .int .i64 0, .int .i64 0, .string ⟨#[]⟩, .string ⟨#[]⟩, .string ⟨#[]⟩, .string ⟨#[]⟩, .int .i64 0], .agg #[.int .i64 0, .int .i64 0, .int .i64 0, .bool false, .string ⟨#[]⟩, .slice none 0 0, .string ⟨#[]⟩, .bool false, .int .i64 0, .int .i64 0, .int .i64 0, .bool false, .string ⟨#[]⟩, .slice none 0 0, .string ⟨#[]⟩, .bool false]], []⟩ 8 (by kernel_rfl) (by kernel_rfl) (by kernel_rfl) (by kernel_rfl)) ?_
  intro W base args0 ds gs before hval hW _ hz _
  have hp : Try.f8.params.toList = [60, 60, 65] := by kernel_rfl
  refine calls_post (avs := avs) (oks := oks) laidOut ?_ (by kernel_rfl) (tb := 4) (by kernel_rfl) rfl ?_ args comes hval hW hz
  · rw [hp]; intro t ht
    have h3 : ([60, 60, 65].all fun t => Try.prog.readableRec t && Nat.blt t Try.prog.types.size) = true := by kernel_rfl
    have := List.all_eq_true.1 h3 t ht
    rw [Bool.and_eq_true, Nat.blt_eq] at this
    exact this
  · intro ds h
    rw [hp] at h
    match ds, h with
    | [_, _, _], _ => rfl
end Go.Proofs.Ytmjnmnhpmbbmgaa.parcelApart
namespace Go.Proofs.Ytmjnmnhpmbbmgaa
open Go.ChangeShapes Go.WideShapes Go.ChangeAt Go.RowKit
theorem parcelApart_holds : Rows.ParcelApartSaid :=
  OpenClaim.holds_of_wide 8 Try.f8 rfl rfl rfl rfl rfl rfl rfl ⟨rfl, rfl, rfl, rfl, rfl⟩ rfl rfl rfl rfl rfl (by kernel_rfl) Try.func8 (by kernel_rfl)
    (of_decide_eq_true (by kernel_rfl)) (by unfold Func.isWrapper; first | (rw [if_pos (by decide +kernel)]; kernel_rfl) | (rw [if_neg (by decide +kernel)]; exact ⟨rfl, rfl⟩))
    (fun os started H enc _ => parcelApart.lifted os started H enc)
end Go.Proofs.Ytmjnmnhpmbbmgaa
