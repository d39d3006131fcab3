/- Which notes may be: what May answers, as a truth that is counted from the note. No condition. -/
import Derived.Test.YtndlgmciplckjaaNMay2
set_option linter.unusedVariables false
set_option linter.unusedSimpArgs false
namespace Go.Proofs.Ytndlgmciplckjaa.note
open Go.ChangeShapes Go.WideShapes Go.ChangeAt Go.RowKit Go.Gz
section
variable {C : PCall} {n0 : Nat} {R : MExit → Env → AHeap → Prop} {k : Cont} {e : Env} {σ : AHeap}
abbrev r75_0 : List MOper := [⟨(some 2), .box (.t 0), none⟩,
  ⟨(some 4), .move (.c (.bool false)), none⟩]
def b75_0 : SCode := .region r75_0
abbrev r75_1 : List MOper := [⟨(some 8), .move (.t 1), none⟩,
  ⟨(some 9), .bin .lss .num (.t 8) (.c (.int .i64 1)), none⟩,
  ⟨(some 10), .move (.t 9), none⟩,
  ⟨(some 11), .move (.t 1), (some (10, false))⟩,
  ⟨(some 12), .bin .gtr .num (.t 11) (.c (.int .i64 5)), (some (10, false))⟩,
  ⟨(some 13), .pick (.t 10) (.c (.bool true)) (.t 12), none⟩,
  ⟨(some 14), .move (.t 13), none⟩,
  ⟨(some 15), .fieldAddr 1 (.t 2), (some (14, false))⟩,
  ⟨(some 16), .load1 (.t 15), (some (14, false))⟩,
  ⟨(some 17), .lenSl (.t 16), (some (14, false))⟩,
  ⟨(some 18), .bin .lss .num (.t 17) (.c (.int .i64 1)), (some (14, false))⟩,
  ⟨(some 19), .pick (.t 14) (.c (.bool true)) (.t 18), none⟩,
  ⟨(some 20), .move (.t 19), none⟩,
  ⟨(some 21), .fieldAddr 1 (.t 2), (some (20, false))⟩,
  ⟨(some 22), .load1 (.t 21), (some (20, false))⟩,
  ⟨(some 23), .lenSl (.t 22), (some (20, false))⟩,
  ⟨(some 24), .bin .gtr .num (.t 23) (.c (.int .i64 12)), (some (20, false))⟩,
  ⟨(some 25), .pick (.t 20) (.c (.bool true)) (.t 24), none⟩,
  ⟨(some 26), .move (.t 25), none⟩,
  ⟨(some 27), .fieldAddr 0 (.t 2), (some (26, false))⟩,
  ⟨(some 28), .load1 (.t 27), (some (26, false))⟩,
  ⟨(some 29), .bin .lss .num (.t 28) (.c (.int .i64 1)), (some (26, false))⟩,
  ⟨(some 30), .pick (.t 26) (.c (.bool true)) (.t 29), none⟩]
def b75_1 : SCode := .region r75_1
abbrev r75_2 : List MOper := [⟨(some 4), .move (.c (.bool false)), none⟩]
def b75_2 : SCode := .region r75_2
def b75_3 : SCode := .seq b75_2 .ret
def b75_4 : SCode := .cond (.t 30) b75_3 .skip
def b75_5 : SCode := .seq b75_1 b75_4
abbrev r75_6 : List MOper := [⟨(some 5), .move (.c (.nilslice)), none⟩]
def b75_6 : SCode := .region r75_6
abbrev r75_7 : List MOper := [⟨(some 31), .fieldAddr 1 (.t 2), none⟩,
  ⟨(some 32), .load1 (.t 31), none⟩,
  ⟨(some 33), .lenSl (.t 32), none⟩,
  ⟨(some 34), .move (.c (.int .i64 0)), none⟩]
def b75_7 : SCode := .region r75_7
abbrev r75_8 : List MOper := [⟨(some 35), .bin .lss .num (.t 34) (.t 33), none⟩]
def b75_8 : SCode := .region r75_8
def b75_9 : SCode := .cond (.t 35) .skip (.exit 0)
abbrev r75_10 : List MOper := [⟨(some 36), .indexAddr 4 (.t 32) (.t 34), none⟩,
  ⟨(some 37), .loadN 4 (.t 36), none⟩,
  ⟨(some 7), .alloc [.str [], .str [], .int .i64 0, .int .i64 0], none⟩,
  ⟨none, .store 4 (.t 7) (.t 37), none⟩]
def b75_10 : SCode := .region r75_10
abbrev r75_11 : List MOper := [⟨(some 38), .fieldAddr 2 (.t 7), none⟩,
  ⟨(some 39), .load1 (.t 38), none⟩,
  ⟨(some 40), .bin .lss .num (.t 39) (.c (.int .i64 1)), none⟩,
  ⟨(some 41), .move (.t 40), none⟩,
  ⟨(some 42), .fieldAddr 2 (.t 7), (some (41, false))⟩,
  ⟨(some 43), .load1 (.t 42), (some (41, false))⟩,
  ⟨(some 44), .move (.t 1), (some (41, false))⟩,
  ⟨(some 45), .bin .gtr .num (.t 43) (.t 44), (some (41, false))⟩,
  ⟨(some 46), .pick (.t 41) (.c (.bool true)) (.t 45), none⟩,
  ⟨(some 47), .move (.t 46), none⟩,
  ⟨(some 48), .fieldAddr 3 (.t 7), (some (47, false))⟩,
  ⟨(some 49), .load1 (.t 48), (some (47, false))⟩,
  ⟨(some 50), .bin .lss .num (.t 49) (.c (.int .i64 1)), (some (47, false))⟩,
  ⟨(some 51), .pick (.t 47) (.c (.bool true)) (.t 50), none⟩,
  ⟨(some 52), .move (.t 51), none⟩,
  ⟨(some 53), .fieldAddr 3 (.t 7), (some (52, false))⟩,
  ⟨(some 54), .load1 (.t 53), (some (52, false))⟩,
  ⟨(some 55), .fieldAddr 0 (.t 2), (some (52, false))⟩,
  ⟨(some 56), .load1 (.t 55), (some (52, false))⟩,
  ⟨(some 57), .bin .gtr .num (.t 54) (.t 56), (some (52, false))⟩,
  ⟨(some 58), .pick (.t 52) (.c (.bool true)) (.t 57), none⟩]
def b75_11 : SCode := .region r75_11
abbrev r75_12 : List MOper := [⟨(some 4), .move (.c (.bool false)), none⟩]
def b75_12 : SCode := .region r75_12
def b75_13 : SCode := .seq b75_12 .ret
def b75_14 : SCode := .cond (.t 58) b75_13 .skip
def b75_15 : SCode := .seq b75_11 b75_14
abbrev r75_16 : List MOper := [⟨(some 59), .move (.t 5), none⟩,
  ⟨(some 60), .fieldAddr 0 (.t 7), none⟩,
  ⟨(some 61), .loadN 2 (.t 60), none⟩,
  ⟨(some 62), .buildSlice [.str [], .str []] 2 1 [(0, 2, (.t 61))], none⟩,
  ⟨(some 63), .append 2 32 (.t 59) (.t 62), none⟩,
  ⟨(some 5), .move (.t 63), none⟩]
def b75_16 : SCode := .region r75_16
def b75_17 : SCode := .seq b75_15 b75_16
def b75_18 : SCode := .seq b75_10 b75_17
def b75_19 : SCode := .block 1 b75_18
abbrev r75_20 : List MOper := [⟨(some 64), .bin .add .num (.t 34) (.c (.int .i64 1)), none⟩,
  ⟨(some 34), .move (.t 64), none⟩]
def b75_20 : SCode := .region r75_20
def b75_21 : SCode := .seq b75_19 b75_20
def b75_22 : SCode := .seq b75_9 b75_21
def b75_23 : SCode := .seq b75_8 b75_22
def b75_24 : SCode := .loop b75_23
def b75_25 : SCode := .block 0 b75_24
def b75_26 : SCode := .seq b75_7 b75_25
abbrev r75_27 : List MOper := [⟨(some 65), .move (.t 5), none⟩,
  ⟨(some 66), .call 88 [(.t 65)], none⟩,
  ⟨(some 4), .move (.t 66), none⟩]
def b75_27 : SCode := .region r75_27
def b75_28 : SCode := .seq b75_27 .ret
def b75_29 : SCode := .seq b75_26 b75_28
def b75_30 : SCode := .seq b75_6 b75_29
def b75_31 : SCode := .seq b75_5 b75_30
def b75_32 : SCode := .seq b75_0 b75_31
def s75 : SFunc := ⟨67, [.t 4], b75_32⟩
theorem c75 : sFn Try.prog 75 = some s75 := by kernel_rfl
theorem Z75 : XR b75_0 r75_0 ∧ XR b75_1 r75_1 ∧ XR b75_2 r75_2 ∧ XS b75_3 b75_2 .ret ∧ XC b75_4 (.t 30) b75_3 .skip ∧ XS b75_5 b75_1 b75_4 ∧ XR b75_6 r75_6 ∧ XR b75_7 r75_7 ∧ XR b75_8 r75_8 ∧ XC b75_9 (.t 35) .skip (.exit 0) ∧ XR b75_10 r75_10 ∧ XR b75_11 r75_11 ∧ XR b75_12 r75_12 ∧ XS b75_13 b75_12 .ret ∧ XC b75_14 (.t 58) b75_13 .skip ∧ XS b75_15 b75_11 b75_14 ∧ XR b75_16 r75_16 ∧ XS b75_17 b75_15 b75_16 ∧ XS b75_18 b75_10 b75_17 ∧ XB b75_19 1 b75_18 ∧ XR b75_20 r75_20 ∧ XS b75_21 b75_19 b75_20 ∧ XS b75_22 b75_9 b75_21 ∧ XS b75_23 b75_8 b75_22 ∧ XB b75_25 0 b75_24 ∧ XS b75_26 b75_7 b75_25 ∧ XR b75_27 r75_27 ∧ XS b75_28 b75_27 .ret ∧ XS b75_29 b75_26 b75_28 ∧ XS b75_30 b75_6 b75_29 ∧ XS b75_31 b75_5 b75_30 ∧ XS b75_32 b75_0 b75_31 ∧ XY s75 67 b75_32 [.t 4] := ⟨rfl, rfl, rfl, rfl, sC_cond, rfl, rfl, rfl, rfl, sC_cond, rfl, rfl, rfl, rfl, sC_cond, rfl, rfl, rfl, rfl, rfl, rfl, rfl, rfl, rfl, rfl, rfl, rfl, rfl, rfl, rfl, rfl, rfl, rfl⟩

end
set_option maxHeartbeats 4000000
set_option maxRecDepth 10000
theorem map_inj {α β : Type} {f : α → β} (hf : ∀ a b, f a = f b → a = b) : ∀ {l m : List α}, l.map f = m.map f → l = m
  | [], [], _ => rfl
  | [], _ :: _, h => by simp at h
  | _ :: _, [], h => by simp at h
  | p :: l, q :: m, h => by
    simp only [List.map_cons, List.cons.injEq] at h
    rw [map_inj hf h.2, hf _ _ h.1]
theorem recC_inj (a b : List UInt8 × List UInt8) (h : recC a = recC b) : a = b := by
  simp only [recC, List.cons.injEq, AV.str.injEq, and_true] at h
  exact Prod.ext h.1 h.2
theorem la_inj (a b : LaV) (h : a.cells = b.cells) : a = b := by
  simp only [LaV.cells, List.cons.injEq, AV.int.injEq, true_and] at h
  have := rep_inj (r := a.rep) (s := b.rep) (by rw [h.2])
  cases a; cases b
  simp only at h this
  rw [h.1, this]
theorem sh_inj (a b : ShV) (h : a.cells = b.cells) : a = b := by
  cases a; cases b
  simp only [ShV.cells, List.cons.injEq, AV.str.injEq, AV.int.injEq, true_and, and_true] at h
  obtain ⟨h1, h2, h3, h4⟩ := h
  rw [h1, h2, h3, h4]
theorem note_inj {n m : NoteV} (h : AV.agg n.cells = .agg m.cells) : n = m := by
  simp only [NoteV.cells, AV.agg.injEq, List.cons.injEq, AV.int.injEq, AV.bool.injEq, AV.str.injEq, AV.imm.injEq, and_true, true_and] at h
  obtain ⟨h1, h2, h3, h4, h5, a1, a2, a3, a4, a5, a6, a7, a8, r1, r2, r3, r4, r5, r6, r7, r8, s1, s2, l1, l2, e1, l3⟩ := h
  have r6 := recs_inj r6
  have l1 := map_inj recC_inj l1
  have l2 := map_inj la_inj l2
  have l3 := map_inj sh_inj l3
  obtain ⟨k, f, t, ep, ti, ⟨b1, b2, b3, b4, b5, b6, b7, b8⟩, ⟨c1, c2, c3, c4, c5, c6, c7, c8⟩, sf, st, l, la, ae, sh⟩ := n
  obtain ⟨k', f', t', ep', ti', ⟨b1', b2', b3', b4', b5', b6', b7', b8'⟩, ⟨c1', c2', c3', c4', c5', c6', c7', c8'⟩, sf', st', l', la', ae', sh'⟩ := m
  simp only at *
  subst h1 h2 h3 h4 h5 a1 a2 a3 a4 a5 a6 a7 a8 r1 r2 r3 r4 r5 r6 r7 r8 s1 s2 l1 l2 e1 l3
  rfl
/-! The atlas. -/
def shOk (ep : Int) (s : ShV) : Bool := !decide (s.node < 1) && (!decide (5 < s.node) && (!decide (s.epoch < 1) && !decide (ep < s.epoch)))
def ShV.span (s : ShV) : List UInt8 × List UInt8 := (s.from_, s.to)
def atlasB (ep : Int) (sh : List ShV) : Bool := !decide ((sh.length : Int) < 1) && (!decide (12 < (sh.length : Int)) && (!decide (ep < 1) && (sh.all (shOk ep) && wholeB (sh.map ShV.span))))
theorem grow_given {σ : AHeap} {Lv : AV} {w : Nat} {rows : List (List AV)} (h : Grow σ Lv w rows) (hp : pureLL rows = true) : ∃ d, Given σ d Lv (.imm rows false false) := by
  rcases h with ⟨rfl, rfl⟩ | ⟨d, rfl, h1, h2, h3⟩
  · exact ⟨0, .inr (.inl ⟨rfl, rfl⟩)⟩
  · exact ⟨d, .inr (.inr ⟨0, rows.length, none, w, _, rows, rfl, rfl, h1, sub_all (flat_len h2).symm, rfl, h2, hp⟩)⟩
def wholeLD (args : List AV) (σ : AHeap) (K : AV → AHeap → Prop) : Prop := ∃ (Lv : AV) (l : List (List UInt8 × List UInt8)), args = [Lv] ∧ Grow σ Lv 2 (l.map recC) ∧ l.length ≤ 1000000 ∧ ∀ σ', K (.bool (wholeB l)) σ'
theorem wholeLD_ok (args : List AV) (σ : AHeap) (K : AV → AHeap → Prop) (h : wholeLD args σ K) : Tri Try.prog 88 args σ K := by
  obtain ⟨Lv, l, rfl, hg, hl, h⟩ := h
  obtain ⟨d, hd⟩ := grow_given hg (rowsRec_pure l)
  exact (Tri.give (args := [Lv]) (args1 := [.imm (l.map recC) false false]) d rfl (given1 hd) (whole_ok l hl)).mono fun r σ' hr => by rw [hr.1]; exact h _
def A1 : PCall := rowQ 88 wholeLD noCall
theorem A1_app {f : FuncId} {args : List AV} {σ : AHeap} {K : AV → AHeap → Prop} : A1 f args σ K = rowQ 88 wholeLD noCall f args σ K := _root_.id rfl
theorem A1_sound : Sound Try.prog A1 := rowQ_sound wholeLD_ok (noCall_sound _)
def amI (ep : Int) (sh : List ShV) (n : Nat) (e : Env) (σ : AHeap) : Prop :=
  ∃ (i : Nat) (Lv : AV), i ≤ sh.length ∧ n = sh.length - i ∧ hget σ 0 = some [.int .i64 ep, .imm (sh.map ShV.cells) false false] ∧ Grow σ Lv 2 (((sh.take i).map ShV.span).map recC) ∧ LvD Lv ≠ some 0 ∧ (sh.take i).all (shOk ep) = true ∧
    e 1 = .int .i64 5 ∧ e 2 = .ptr 0 0 ∧ e 5 = Lv ∧ e 32 = .imm (sh.map ShV.cells) false false ∧ e 33 = .int .i64 (sh.length : Int) ∧ e 34 = .int .i64 (i : Int)
theorem am_step (ep : Int) (sh : List ShV) (hl : sh.length ≤ 1000000) (Q : AV → AHeap → Prop) (hF : sh.all (shOk ep) = false → ∀ σ, Q (.bool false) σ) (hT : sh.all (shOk ep) = true → ∀ σ, Q (.bool (wholeB (sh.map ShV.span))) σ) (n : Nat) (e : Env) (σ : AHeap) (h : amI ep sh n e σ) :
    sC A1 0 b75_23 (unw A1 0 (loopR A1 0 (RetQ [MRes.t 4] Q) (.block 0 (.seq b75_28 .fin)) (amI ep sh) n) .fin) e σ := by
  obtain ⟨i, Lv, hi, hn, g0, hLv, d0, hall, e1, e2, e5, e32, e33, e34⟩ := h
  have hml : (sh.map ShV.cells).length = sh.length := by simp
  have h0l := hget_lt g0
  rcases Nat.lt_or_ge i sh.length with hlt | hge
  · have hlt' : (i : Int) < (sh.length : Int) := by omega
    have hge0 : (0 : Int) ≤ (i : Int) := by omega
    obtain ⟨x, hx⟩ : ∃ x, sh[i]? = some x := ⟨_, List.getElem?_eq_getElem hlt⟩
    have hxx : (sh.map ShV.cells)[i]? = some [.str x.from_, .str x.to, .int .i64 x.node, .int .i64 x.epoch] := by simp [hx, ShV.cells]
    have hw : IntKind.wrap .i64 ((i : Int) + 1) = ((i + 1 : Nat) : Int) := by rw [Gz.wrap64 (by omega)]; omega
    have htk : sh.take (i + 1) = sh.take i ++ [x] := by rw [List.take_add_one, hx]; rfl
    have sn : ∀ c c' : List AV, hget (hset (hpush σ c) (List.length σ) c') (List.length σ) = some c' := fun c c' => set_same push_new'
    have s0 : ∀ c c' : List AV, hget (hset (hpush σ c) (List.length σ) c') 0 = some [.int .i64 ep, .imm (sh.map ShV.cells) false false] := fun c c' => al_frame g0
    have bad : shOk ep x = false → ∀ σ, Q (.bool false) σ := fun hb => hF (by
      rw [Bool.eq_false_iff]; intro ha
      have := List.all_eq_true.1 ha x (List.mem_of_getElem? hx)
      rw [hb] at this; cases this)
    cases h1 : decide (x.node < 1) with
    | true =>
      simp only [A1_app, Z75, base1, ↓reduceIte, Nat.reduceAdd, Nat.reduceSub, Nat.reduceMul, Nat.reduceEqDiff, Nat.reduceLeDiff, Nat.reduceLT, Int.reduceLT, Int.reduceLE, Int.reduceEq, Int.reduceNe, Int.reduceToNat, Int.reduceAdd, Int.reduceSub, reduceCtorEq, Nat.reduceBEq, Nat.reduceBNe, loopR_exit, loopR_ret, e1, e2, e5, e32, e33, e34, hlt', hlt, hge0, hxx, hml, Int.toNat_natCast, push_new', sn, s0, h1]
      exact bad (by simp only [shOk, h1]; rfl) _
    | false =>
    cases h2 : decide (5 < x.node) with
    | true =>
      simp only [A1_app, Z75, base1, ↓reduceIte, Nat.reduceAdd, Nat.reduceSub, Nat.reduceMul, Nat.reduceEqDiff, Nat.reduceLeDiff, Nat.reduceLT, Int.reduceLT, Int.reduceLE, Int.reduceEq, Int.reduceNe, Int.reduceToNat, Int.reduceAdd, Int.reduceSub, reduceCtorEq, Nat.reduceBEq, Nat.reduceBNe, loopR_exit, loopR_ret, e1, e2, e5, e32, e33, e34, hlt', hlt, hge0, hxx, hml, Int.toNat_natCast, push_new', sn, s0, h1, h2]
      exact bad (by simp only [shOk, h1, h2]; rfl) _
    | false =>
    cases h3 : decide (x.epoch < 1) with
    | true =>
      simp only [A1_app, Z75, base1, ↓reduceIte, Nat.reduceAdd, Nat.reduceSub, Nat.reduceMul, Nat.reduceEqDiff, Nat.reduceLeDiff, Nat.reduceLT, Int.reduceLT, Int.reduceLE, Int.reduceEq, Int.reduceNe, Int.reduceToNat, Int.reduceAdd, Int.reduceSub, reduceCtorEq, Nat.reduceBEq, Nat.reduceBNe, loopR_exit, loopR_ret, e1, e2, e5, e32, e33, e34, hlt', hlt, hge0, hxx, hml, Int.toNat_natCast, push_new', sn, s0, h1, h2, h3]
      exact bad (by simp only [shOk, h1, h2, h3]; rfl) _
    | false =>
    cases h4 : decide (ep < x.epoch) with
    | true =>
      simp only [A1_app, Z75, base1, ↓reduceIte, Nat.reduceAdd, Nat.reduceSub, Nat.reduceMul, Nat.reduceEqDiff, Nat.reduceLeDiff, Nat.reduceLT, Int.reduceLT, Int.reduceLE, Int.reduceEq, Int.reduceNe, Int.reduceToNat, Int.reduceAdd, Int.reduceSub, reduceCtorEq, Nat.reduceBEq, Nat.reduceBNe, loopR_exit, loopR_ret, e1, e2, e5, e32, e33, e34, hlt', hlt, hge0, hxx, hml, Int.toNat_natCast, push_new', sn, s0, h1, h2, h3, h4]
      exact bad (by simp only [shOk, h1, h2, h3, h4]; rfl) _
    | false =>
    generalize hz : ([.str [], .str [], .int .i64 0, .int .i64 0] : List AV) = z at sn s0
    have v1 := grow_frame hLv (τ := hset (hpush σ z) σ.length x.cells) fun j c hj hd => al_frame hj
    have hs3 : (hset (hpush σ z) σ.length x.cells).length = σ.length + 1 := by rw [set_len, push_len]
    obtain ⟨v, τ, a1, a2, a3, a4, a5⟩ := grow_one (b := 32) (by decide) v1 (by simp; omega) (recC x.span) rfl rfl
    obtain ⟨q0, u0⟩ := a4 0 _ (al_frame g0) d0
    have lc := grow_cell hLv
    rw [hs3] at a1
    simp only [recC, ShV.span, ShV.cells] at a1
    subst hz
    simp only [A1_app, Z75, base1, ↓reduceIte, Nat.reduceAdd, Nat.reduceSub, Nat.reduceMul, Nat.reduceEqDiff, Nat.reduceLeDiff, Nat.reduceLT, Int.reduceLT, Int.reduceLE, Int.reduceEq, Int.reduceNe, Int.reduceToNat, Int.reduceAdd, Int.reduceSub, reduceCtorEq, Nat.reduceBEq, Nat.reduceBNe, loopR_exit, loopR_ret, e1, e2, e5, e32, e33, e34, hlt', hlt, hge0, hxx, hml, Int.toNat_natCast, push_new', sn, s0, h1, h2, h3, h4, set_len, push_len, a1, a2, a3, hw]
    rw [loopR_normal]
    refine ⟨sh.length - (i + 1), _, _, by omega, .refl _ _ _, i + 1, v, hlt, rfl, q0, ?_, u0, ?_, ?_, ?_, ?_, ?_, ?_, ?_⟩
    · rw [htk]; simpa using a5
    · rw [htk, List.all_append, hall]
      simp only [List.all_cons, List.all_nil, shOk, h1, h2, h3, h4]; rfl
    all_goals simp only [putD_some, putD_none, Nat.reduceEqDiff, ↓reduceIte, e1, e2, e5, e32, e33, e34, hw]
  · have hlt' : ¬ (i : Int) < (sh.length : Int) := by omega
    have hie : i = sh.length := by omega
    subst hie
    rw [List.take_length] at hLv hall
    simp only [A1_app, Z75, base1, ↓reduceIte, Nat.reduceAdd, Nat.reduceSub, Nat.reduceMul, Nat.reduceEqDiff, Nat.reduceLeDiff, Nat.reduceLT, Int.reduceLT, Int.reduceLE, Int.reduceEq, Int.reduceNe, Int.reduceToNat, Int.reduceAdd, Int.reduceSub, reduceCtorEq, Nat.reduceBEq, Nat.reduceBNe, loopR_exit, loopR_ret, e1, e2, e5, e32, e33, e34, hlt']
    exact ⟨Lv, sh.map ShV.span, rfl, hLv, by simpa using hl, fun σ' => by simp only [A1_app, Z75, base1, ↓reduceIte, Nat.reduceAdd, Nat.reduceSub, Nat.reduceMul, Nat.reduceEqDiff, Nat.reduceLeDiff, Nat.reduceLT, Int.reduceLT, Int.reduceLE, Int.reduceEq, Int.reduceNe, Int.reduceToNat, Int.reduceAdd, Int.reduceSub, reduceCtorEq, Nat.reduceBEq, Nat.reduceBNe]; exact hT hall σ'⟩
theorem atlas_ok (ep : Int) (sh : List ShV) (hl : sh.length ≤ 1000000) : Tri Try.prog 75 [.agg [.int .i64 ep, .imm (sh.map ShV.cells) false false], .int .i64 5] [] fun r _ => r.pure = true ∧ r = .bool (atlasB ep sh) := by
  refine Tri.of_s c75 A1_sound ?_
  have hml : (sh.map ShV.cells).length = sh.length := by simp
  cases h1 : decide ((sh.length : Int) < 1) with
  | true => simp only [A1_app, Z75, base1, baseE, ↓reduceIte, Nat.reduceAdd, Nat.reduceSub, Nat.reduceMul, Nat.reduceEqDiff, Nat.reduceLeDiff, Nat.reduceLT, Int.reduceLT, Int.reduceLE, Int.reduceEq, Int.reduceNe, Int.reduceToNat, Int.reduceAdd, Int.reduceSub, reduceCtorEq, Nat.reduceBEq, Nat.reduceBNe, hml, h1]; exact ⟨rfl, by simp only [atlasB, h1]; rfl⟩
  | false =>
  cases h2 : decide (12 < (sh.length : Int)) with
  | true => simp only [A1_app, Z75, base1, baseE, ↓reduceIte, Nat.reduceAdd, Nat.reduceSub, Nat.reduceMul, Nat.reduceEqDiff, Nat.reduceLeDiff, Nat.reduceLT, Int.reduceLT, Int.reduceLE, Int.reduceEq, Int.reduceNe, Int.reduceToNat, Int.reduceAdd, Int.reduceSub, reduceCtorEq, Nat.reduceBEq, Nat.reduceBNe, hml, h1, h2]; exact ⟨rfl, by simp only [atlasB, h1, h2]; rfl⟩
  | false =>
  cases h3 : decide (ep < 1) with
  | true => simp only [A1_app, Z75, base1, baseE, ↓reduceIte, Nat.reduceAdd, Nat.reduceSub, Nat.reduceMul, Nat.reduceEqDiff, Nat.reduceLeDiff, Nat.reduceLT, Int.reduceLT, Int.reduceLE, Int.reduceEq, Int.reduceNe, Int.reduceToNat, Int.reduceAdd, Int.reduceSub, reduceCtorEq, Nat.reduceBEq, Nat.reduceBNe, hml, h1, h2, h3]; exact ⟨rfl, by simp only [atlasB, h1, h2, h3]; rfl⟩
  | false =>
  simp only [A1_app, Z75, base1, baseE, ↓reduceIte, Nat.reduceAdd, Nat.reduceSub, Nat.reduceMul, Nat.reduceEqDiff, Nat.reduceLeDiff, Nat.reduceLT, Int.reduceLT, Int.reduceLE, Int.reduceEq, Int.reduceNe, Int.reduceToNat, Int.reduceAdd, Int.reduceSub, reduceCtorEq, Nat.reduceBEq, Nat.reduceBNe, hml, h1, h2, h3]
  refine sC_inv (a := b75_23) (amI ep sh) sh.length _ _ (.refl _ _ _) ⟨0, .nilslice, Nat.zero_le _, rfl, rfl, .inl ⟨rfl, rfl⟩, by simp [LvD], rfl, rfl, rfl, rfl, rfl, rfl, rfl⟩ (am_step ep sh hl _ (fun hf σ => ⟨rfl, ?_⟩) (fun ht σ => ⟨rfl, ?_⟩))
  · simp only [atlasB, h1, h2, h3, hf]; rfl
  · simp only [atlasB, h1, h2, h3, ht]; rfl
end Go.Proofs.Ytndlgmciplckjaa.note
