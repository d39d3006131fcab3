/- Are two notes the same? So the program says. No condition. -/
import Derived.Test.YtndlgmciplckjaaNSame1
set_option linter.unusedVariables false
set_option linter.unusedSimpArgs false
namespace Go.Proofs.Ytndlgmciplckjaa.note
open Go.ChangeShapes Go.WideShapes Go.ChangeAt Go.RowKit Go.Gz
section
variable {C : PCall} {n0 : Nat} {R : MExit → Env → AHeap → Prop} {k : Cont} {e : Env} {σ : AHeap}
abbrev r16_0 : List MOper := [⟨(some 2), .box (.t 0), none⟩,
  ⟨(some 3), .box (.t 1), none⟩,
  ⟨(some 4), .move (.c (.bool false)), none⟩]
def b16_0 : SCode := .region r16_0
abbrev r16_1 : List MOper := [⟨(some 6), .fieldAddr 0 (.t 2), none⟩,
  ⟨(some 7), .load1 (.t 6), none⟩,
  ⟨(some 8), .fieldAddr 0 (.t 3), none⟩,
  ⟨(some 9), .load1 (.t 8), none⟩,
  ⟨(some 10), .bin .neq .num (.t 7) (.t 9), none⟩,
  ⟨(some 11), .move (.t 10), none⟩,
  ⟨(some 12), .fieldAddr 1 (.t 2), (some (11, false))⟩,
  ⟨(some 13), .load1 (.t 12), (some (11, false))⟩,
  ⟨(some 14), .fieldAddr 1 (.t 3), (some (11, false))⟩,
  ⟨(some 15), .load1 (.t 14), (some (11, false))⟩,
  ⟨(some 16), .bin .neq .num (.t 13) (.t 15), (some (11, false))⟩,
  ⟨(some 17), .pick (.t 11) (.c (.bool true)) (.t 16), none⟩,
  ⟨(some 18), .move (.t 17), none⟩,
  ⟨(some 19), .fieldAddr 2 (.t 2), (some (18, false))⟩,
  ⟨(some 20), .load1 (.t 19), (some (18, false))⟩,
  ⟨(some 21), .fieldAddr 2 (.t 3), (some (18, false))⟩,
  ⟨(some 22), .load1 (.t 21), (some (18, false))⟩,
  ⟨(some 23), .bin .neq .num (.t 20) (.t 22), (some (18, false))⟩,
  ⟨(some 24), .pick (.t 18) (.c (.bool true)) (.t 23), none⟩,
  ⟨(some 25), .move (.t 24), none⟩,
  ⟨(some 26), .fieldAddr 3 (.t 2), (some (25, false))⟩,
  ⟨(some 27), .load1 (.t 26), (some (25, false))⟩,
  ⟨(some 28), .fieldAddr 3 (.t 3), (some (25, false))⟩,
  ⟨(some 29), .load1 (.t 28), (some (25, false))⟩,
  ⟨(some 30), .bin .neq .num (.t 27) (.t 29), (some (25, false))⟩,
  ⟨(some 31), .pick (.t 25) (.c (.bool true)) (.t 30), none⟩,
  ⟨(some 32), .move (.t 31), none⟩,
  ⟨(some 33), .fieldAddr 4 (.t 2), (some (32, false))⟩,
  ⟨(some 34), .load1 (.t 33), (some (32, false))⟩,
  ⟨(some 35), .fieldAddr 4 (.t 3), (some (32, false))⟩,
  ⟨(some 36), .load1 (.t 35), (some (32, false))⟩,
  ⟨(some 37), .bin .neq .num (.t 34) (.t 36), (some (32, false))⟩,
  ⟨(some 38), .pick (.t 32) (.c (.bool true)) (.t 37), none⟩,
  ⟨(some 39), .move (.t 38), none⟩,
  ⟨(some 40), .fieldAddr 5 (.t 2), (some (39, false))⟩,
  ⟨(some 41), .loadN 8 (.t 40), (some (39, false))⟩,
  ⟨(some 42), .fieldAddr 5 (.t 3), (some (39, false))⟩,
  ⟨(some 43), .loadN 8 (.t 42), (some (39, false))⟩,
  ⟨(some 44), .bin .neq (.flat [.i, .i, .i, .s, .s, .s, .s, .i]) (.t 41) (.t 43), (some (39, false))⟩,
  ⟨(some 45), .pick (.t 39) (.c (.bool true)) (.t 44), none⟩,
  ⟨(some 46), .move (.t 45), none⟩,
  ⟨(some 47), .fieldAddr 13 (.t 2), (some (46, false))⟩,
  ⟨(some 48), .loadN 8 (.t 47), (some (46, false))⟩,
  ⟨(some 49), .fieldAddr 13 (.t 3), (some (46, false))⟩,
  ⟨(some 50), .loadN 8 (.t 49), (some (46, false))⟩,
  ⟨(some 51), .call 43 [(.t 48), (.t 50)], (some (46, false))⟩,
  ⟨(some 52), .un .not (.t 51), (some (46, false))⟩,
  ⟨(some 53), .pick (.t 46) (.c (.bool true)) (.t 52), none⟩,
  ⟨(some 54), .move (.t 53), none⟩,
  ⟨(some 55), .fieldAddr 21 (.t 2), (some (54, false))⟩,
  ⟨(some 56), .loadN 2 (.t 55), (some (54, false))⟩,
  ⟨(some 57), .fieldAddr 21 (.t 3), (some (54, false))⟩,
  ⟨(some 58), .loadN 2 (.t 57), (some (54, false))⟩,
  ⟨(some 59), .bin .neq (.flat [.s, .s]) (.t 56) (.t 58), (some (54, false))⟩,
  ⟨(some 60), .pick (.t 54) (.c (.bool true)) (.t 59), none⟩,
  ⟨(some 61), .move (.t 60), none⟩,
  ⟨(some 62), .fieldAddr 23 (.t 2), (some (61, false))⟩,
  ⟨(some 63), .load1 (.t 62), (some (61, false))⟩,
  ⟨(some 64), .lenSl (.t 63), (some (61, false))⟩,
  ⟨(some 65), .fieldAddr 23 (.t 3), (some (61, false))⟩,
  ⟨(some 66), .load1 (.t 65), (some (61, false))⟩,
  ⟨(some 67), .lenSl (.t 66), (some (61, false))⟩,
  ⟨(some 68), .bin .neq .num (.t 64) (.t 67), (some (61, false))⟩,
  ⟨(some 69), .pick (.t 61) (.c (.bool true)) (.t 68), none⟩]
def b16_1 : SCode := .region r16_1
abbrev r16_2 : List MOper := [⟨(some 4), .move (.c (.bool false)), none⟩]
def b16_2 : SCode := .region r16_2
def b16_3 : SCode := .seq b16_2 .ret
def b16_4 : SCode := .cond (.t 69) b16_3 .skip
def b16_5 : SCode := .seq b16_1 b16_4
abbrev r16_6 : List MOper := [⟨(some 5), .move (.c (.int .i64 0)), none⟩]
def b16_6 : SCode := .region r16_6
abbrev r16_7 : List MOper := [⟨(some 70), .move (.t 5), none⟩,
  ⟨(some 71), .fieldAddr 23 (.t 2), none⟩,
  ⟨(some 72), .load1 (.t 71), none⟩,
  ⟨(some 73), .lenSl (.t 72), none⟩,
  ⟨(some 74), .bin .lss .num (.t 70) (.t 73), none⟩]
def b16_7 : SCode := .region r16_7
def b16_8 : SCode := .cond (.t 74) .skip (.exit 0)
def b16_9 : SCode := .seq b16_7 b16_8
abbrev t16_10 : LTree := (.quiet ⟨(some 77), .fieldAddr 23 (.t 2), none⟩ 0
  (.quiet ⟨(some 78), .load1 (.t 77), none⟩ 1
  (.quiet ⟨(some 79), .move (.t 5), none⟩ 2
  (.quiet ⟨(some 80), .indexAddr 2 (.t 78) (.t 79), none⟩ 3
  (.quiet ⟨(some 81), .loadN 2 (.t 80), none⟩ 4
  (.quiet ⟨(some 82), .fieldAddr 23 (.t 3), none⟩ 5
  (.quiet ⟨(some 83), .load1 (.t 82), none⟩ 6
  (.quiet ⟨(some 84), .move (.t 5), none⟩ 7
  (.quiet ⟨(some 85), .indexAddr 2 (.t 83) (.t 84), none⟩ 8
  (.quiet ⟨(some 86), .loadN 2 (.t 85), none⟩ 9
  (.quiet ⟨(some 87), .bin .neq (.flat [.s, .s]) (.t 81) (.t 86), none⟩ 10
  .leaf)))))))))))
def b16_10 : SCode := .draw t16_10
abbrev r16_11 : List MOper := [⟨(some 4), .move (.c (.bool false)), none⟩]
def b16_11 : SCode := .region r16_11
def b16_12 : SCode := .seq b16_11 .ret
def b16_13 : SCode := .cond (.t 87) b16_12 .skip
def b16_14 : SCode := .seq b16_10 b16_13
def b16_15 : SCode := .block 1 b16_14
abbrev r16_16 : List MOper := [⟨(some 75), .move (.t 5), none⟩,
  ⟨(some 76), .bin .add .num (.t 75) (.c (.int .i64 1)), none⟩,
  ⟨(some 5), .move (.t 76), none⟩]
def b16_16 : SCode := .region r16_16
def b16_17 : SCode := .seq b16_15 b16_16
def b16_18 : SCode := .seq b16_9 b16_17
def b16_19 : SCode := .loop b16_18
def b16_20 : SCode := .block 0 b16_19
def b16_21 : SCode := .seq b16_6 b16_20
abbrev t16_22 : LTree := (.quiet ⟨(some 88), .fieldAddr 24 (.t 2), none⟩ 0
  (.quiet ⟨(some 89), .load1 (.t 88), none⟩ 1
  (.quiet ⟨(some 91), .fieldAddr 24 (.t 3), none⟩ 3
  (.quiet ⟨(some 92), .load1 (.t 91), none⟩ 4
  (.loud ⟨(some 90), .call 45 [(.t 89)], none⟩ [4]
  (.loud ⟨(some 93), .call 45 [(.t 92)], none⟩ []
  (.loud ⟨(some 94), .call 44 [(.t 90), (.t 93)], none⟩ []
  (.quiet ⟨(some 95), .move (.t 94), none⟩ 7
  (.quiet ⟨(some 96), .fieldAddr 25 (.t 2), (some (95, true))⟩ 8
  (.quiet ⟨(some 97), .loadN 2 (.t 96), (some (95, true))⟩ 9
  (.quiet ⟨(some 99), .fieldAddr 25 (.t 3), (some (95, true))⟩ 11
  (.quiet ⟨(some 100), .loadN 2 (.t 99), (some (95, true))⟩ 12
  (.loud ⟨(some 98), .call 47 [(.t 97)], (some (95, true))⟩ [12]
  (.loud ⟨(some 101), .call 47 [(.t 100)], (some (95, true))⟩ []
  (.loud ⟨(some 102), .call 46 [(.t 98), (.t 101)], (some (95, true))⟩ []
  (.quiet ⟨(some 103), .pick (.t 95) (.t 102) (.c (.bool false)), none⟩ 15
  (.quiet ⟨(some 4), .move (.t 103), none⟩ 16
  .leaf)) .stop) .stop) .stop)))))) .stop) .stop) .stop)))))
def b16_22 : SCode := .draw t16_22
def b16_23 : SCode := .seq b16_22 .ret
def b16_24 : SCode := .seq b16_21 b16_23
def b16_25 : SCode := .seq b16_5 b16_24
def b16_26 : SCode := .seq b16_0 b16_25
def s16 : SFunc := ⟨104, [.t 4], b16_26⟩
theorem c16 : sFn Try.prog 16 = some s16 := by kernel_rfl
theorem x16_20 : XB b16_20 0 b16_19 := rfl
theorem Z16 : XR b16_0 r16_0 ∧ XR b16_1 r16_1 ∧ XR b16_2 r16_2 ∧ XS b16_3 b16_2 .ret ∧ XC b16_4 (.t 69) b16_3 .skip ∧ XS b16_5 b16_1 b16_4 ∧ XR b16_6 r16_6 ∧ XR b16_7 r16_7 ∧ XC b16_8 (.t 74) .skip (.exit 0) ∧ XS b16_9 b16_7 b16_8 ∧ XT b16_10 t16_10 ∧ XR b16_11 r16_11 ∧ XS b16_12 b16_11 .ret ∧ XC b16_13 (.t 87) b16_12 .skip ∧ XS b16_14 b16_10 b16_13 ∧ XB b16_15 1 b16_14 ∧ XR b16_16 r16_16 ∧ XS b16_17 b16_15 b16_16 ∧ XS b16_18 b16_9 b16_17 ∧ XS b16_21 b16_6 b16_20 ∧ XT b16_22 t16_22 ∧ XS b16_23 b16_22 .ret ∧ XS b16_24 b16_21 b16_23 ∧ XS b16_25 b16_5 b16_24 ∧ XS b16_26 b16_0 b16_25 ∧ XY s16 104 b16_26 [.t 4] := ⟨rfl, rfl, rfl, rfl, sC_cond, rfl, rfl, rfl, sC_cond, rfl, rfl, rfl, rfl, sC_cond, rfl, rfl, rfl, rfl, rfl, rfl, rfl, rfl, rfl, rfl, rfl, rfl⟩

end
set_option maxHeartbeats 4000000
set_option maxRecDepth 10000

def backLD (args : List AV) (σ : AHeap) (K : AV → AHeap → Prop) : Prop := ∃ l : List LaV, args = [.imm (l.map LaV.cells) false false] ∧ l.length ≤ 1000000 ∧ K (.imm (l.map LaV.cells) false false) σ
theorem backLD_ok (args : List AV) (σ : AHeap) (K : AV → AHeap → Prop) (h : backLD args σ K) : Tri Try.prog 45 args σ K := by
  obtain ⟨l, rfl, hl, h⟩ := h
  exact (Tri.pureD (by simp only [pureL, AV.pure, rowsLa_pure, Bool.and_self]) (backL_ok l hl) σ).mono fun r σ' hr => by rw [hr.1, hr.2]; exact h
def back14D (args : List AV) (σ : AHeap) (K : AV → AHeap → Prop) : Prop := ∃ (ep : Int) (sh : List ShV), args = [.agg [.int .i64 ep, .imm (sh.map ShV.cells) false false]] ∧ sh.length ≤ 1000000 ∧ K (.agg [.int .i64 ep, .imm (sh.map ShV.cells) false false]) σ
theorem back14D_ok (args : List AV) (σ : AHeap) (K : AV → AHeap → Prop) (h : back14D args σ K) : Tri Try.prog 47 args σ K := by
  obtain ⟨ep, sh, rfl, hl, h⟩ := h
  exact (Tri.pureD (by simp only [pureL, AV.pure, rowsSh_pure, Bool.and_self]) (back14_ok ep sh hl) σ).mono fun r σ' hr => by rw [hr.1, hr.2]; exact h
def sameLaD (args : List AV) (σ : AHeap) (K : AV → AHeap → Prop) : Prop := ∃ a b : List LaV, args = [.imm (a.map LaV.cells) false false, .imm (b.map LaV.cells) false false] ∧ a.length ≤ 1000000 ∧ (∀ x ∈ a, x.rep.l.length ≤ 1000000000000000) ∧ ∀ t, (t = true ↔ a = b) → K (.bool t) σ
theorem sameLaD_ok (args : List AV) (σ : AHeap) (K : AV → AHeap → Prop) (h : sameLaD args σ K) : Tri Try.prog 44 args σ K := by
  obtain ⟨a, b, rfl, hl, hr, h⟩ := h
  exact (Tri.pureD (by simp only [pureL, AV.pure, rowsLa_pure, Bool.and_self]) (sameLa_ok a b hl hr) σ).mono fun r σ' ⟨⟨t, h1, h2⟩, h3⟩ => by rw [h1, h3]; exact h t h2
def sameAtD (args : List AV) (σ : AHeap) (K : AV → AHeap → Prop) : Prop := ∃ (ea : Int) (a : List ShV) (eb : Int) (b : List ShV), args = [.agg [.int .i64 ea, .imm (a.map ShV.cells) false false], .agg [.int .i64 eb, .imm (b.map ShV.cells) false false]] ∧ a.length ≤ 1000000 ∧ ∀ t, (t = true ↔ (ea, a) = (eb, b)) → K (.bool t) σ
theorem sameAtD_ok (args : List AV) (σ : AHeap) (K : AV → AHeap → Prop) (h : sameAtD args σ K) : Tri Try.prog 46 args σ K := by
  obtain ⟨ea, a, eb, b, rfl, hl, h⟩ := h
  exact (Tri.pureD (by simp only [pureL, AV.pure, rowsSh_pure, Bool.and_self]) (sameAt_ok ea a eb b hl) σ).mono fun r σ' ⟨⟨t, h1, h2⟩, h3⟩ => by rw [h1, h3]; exact h t h2
def TS : PCall := rowQ 43 sameRepD (rowQ 44 sameLaD (rowQ 45 backLD (rowQ 46 sameAtD (rowQ 47 back14D noCall))))
theorem TS_app {f : FuncId} {args : List AV} {σ : AHeap} {K : AV → AHeap → Prop} : TS f args σ K = rowQ 43 sameRepD (rowQ 44 sameLaD (rowQ 45 backLD (rowQ 46 sameAtD (rowQ 47 back14D noCall)))) f args σ K := _root_.id rfl
theorem TS_sound : Sound Try.prog TS := rowQ_sound sameRepD_ok (rowQ_sound sameLaD_ok (rowQ_sound backLD_ok (rowQ_sound sameAtD_ok (rowQ_sound back14D_ok (noCall_sound _)))))
def askEqB (a b : AskV) : Bool := decide (a.do_ = b.do_) && (decide (a.client = b.client) && (decide (a.seq = b.seq) && (decide (a.text = b.text) && (decide (a.val = b.val) && (decide (a.from_ = b.from_) && (decide (a.to = b.to) && decide (a.limit = b.limit)))))))
theorem askEq_iff (a b : AskV) : askEqB a b = true ↔ a = b := by
  refine ⟨fun h => ?_, fun h => by subst h; simp [askEqB]⟩
  simp only [askEqB, Bool.and_eq_true, decide_eq_true_eq] at h
  obtain ⟨h1, h2, h3, h4, h5, h6, h7, h8⟩ := h
  cases a; cases b
  simp only at h1 h2 h3 h4 h5 h6 h7 h8
  subst h1 h2 h3 h4 h5 h6 h7 h8
  rfl
/-- What must be the same besides the records. -/
structure Rest (a b : NoteV) : Prop where
  kind : a.kind = b.kind
  from_ : a.from_ = b.from_
  to : a.to = b.to
  epoch : a.epoch = b.epoch
  tick : a.tick = b.tick
  ask : a.ask = b.ask
  rep : a.rep = b.rep
  sf : a.sf = b.sf
  st : a.st = b.st
theorem rest_all {a b : NoteV} (h : Rest a b) (hl : a.l = b.l) (hla : a.last = b.last) (hat : (a.aep, a.sh) = (b.aep, b.sh)) : a = b := by
  obtain ⟨p1, p2, p3, p4, p5, p6, p7, p8, p9⟩ := h
  have q1 := (Prod.mk.inj hat).1
  have q2 := (Prod.mk.inj hat).2
  cases a; cases b
  simp only at p1 p2 p3 p4 p5 p6 p7 p8 p9 hl hla q1 q2
  subst p1 p2 p3 p4 p5 p6 p7 p8 p9 hl hla q1 q2
  rfl
structure NoteV.cmp (n : NoteV) : Prop where
  l : n.l.length ≤ 1000000
  last : n.last.length ≤ 1000000
  sh : n.sh.length ≤ 1000000
  rep : n.rep.l.length ≤ 1000000000000000
  la : ∀ x ∈ n.last, x.rep.l.length ≤ 1000000000000000
def snI (a b : NoteV) (n : Nat) (e : Env) (σ : AHeap) : Prop :=
  ∃ i : Nat, i ≤ a.l.length ∧ n = a.l.length - i ∧ σ = [some a.cells, some b.cells] ∧ a.l.take i = b.l.take i ∧ e 2 = .ptr 0 0 ∧ e 3 = .ptr 1 0 ∧ e 5 = .int .i64 (i : Int)
theorem sn_step (a b : NoteV) (ca : a.cmp) (cb : b.cmp) (hll : a.l.length = b.l.length) (hr : Rest a b) (n : Nat) (e : Env) (σ : AHeap) (h : snI a b n e σ) :
    sC TS 0 b16_18 (unw TS 0 (loopR TS 0 (RetQ [MRes.t 4] (SmB a b)) (.block 0 (.seq b16_23 .fin)) (snI a b) n) .fin) e σ := by
  obtain ⟨i, hi, hn, rfl, ht, e2, e3, e5⟩ := h
  have hl := ca.l
  have hma : (a.l.map recC).length = a.l.length := by simp
  have hmb : (b.l.map recC).length = b.l.length := by simp
  rcases Nat.lt_or_ge i a.l.length with hlt | hge
  · have hlt' : (i : Int) < (a.l.length : Int) := by omega
    have hge0 : (0 : Int) ≤ (i : Int) := by omega
    have hltb' : (i : Int) < (b.l.length : Int) := by omega
    have hltb : i < b.l.length := by omega
    obtain ⟨x, hx⟩ : ∃ x, a.l[i]? = some x := ⟨_, List.getElem?_eq_getElem hlt⟩
    obtain ⟨y, hy⟩ : ∃ y, b.l[i]? = some y := ⟨_, List.getElem?_eq_getElem (by omega)⟩
    have hxx : (a.l.map recC)[i]? = some [.str x.1, .str x.2] := by simp [recC, hx]
    have hyy : (b.l.map recC)[i]? = some [.str y.1, .str y.2] := by simp [recC, hy]
    have hw : IntKind.wrap .i64 ((i : Int) + 1) = ((i + 1 : Nat) : Int) := by rw [Gz.wrap64 (by omega)]; omega
    cases h1 : decide (x.1 = y.1) with
    | false =>
      simp only [NoteV.cells, TS_app, Z16, x16_20, base1, baseE, ↓reduceIte, Nat.reduceAdd, Nat.reduceSub, Nat.reduceMul, Nat.reduceEqDiff, Nat.reduceLeDiff, Nat.reduceLT, Int.reduceLT, Int.reduceLE, Int.reduceEq, Int.reduceNe, Int.reduceToNat, Int.reduceAdd, Int.reduceSub, reduceCtorEq, Nat.reduceBEq, Nat.reduceBNe, loopR_exit, loopR_ret, e2, e3, e5, hlt', hltb', hlt, hltb, hge0, hxx, hyy, hma, hmb, Int.toNat_natCast, h1]
      exact ⟨false, rfl, ⟨fun h => (by cases h), fun h => by
        have := same_at hx hy (by rw [h]); rw [this] at h1; simp at h1⟩⟩
    | true =>
      cases h2 : decide (x.2 = y.2) with
      | false =>
        simp only [NoteV.cells, TS_app, Z16, x16_20, base1, baseE, ↓reduceIte, Nat.reduceAdd, Nat.reduceSub, Nat.reduceMul, Nat.reduceEqDiff, Nat.reduceLeDiff, Nat.reduceLT, Int.reduceLT, Int.reduceLE, Int.reduceEq, Int.reduceNe, Int.reduceToNat, Int.reduceAdd, Int.reduceSub, reduceCtorEq, Nat.reduceBEq, Nat.reduceBNe, loopR_exit, loopR_ret, e2, e3, e5, hlt', hltb', hlt, hltb, hge0, hxx, hyy, hma, hmb, Int.toNat_natCast, h1, h2]
        exact ⟨false, rfl, ⟨fun h => (by cases h), fun h => by
          have := same_at hx hy (by rw [h]); rw [this] at h2; simp at h2⟩⟩
      | true =>
        simp only [NoteV.cells, TS_app, Z16, x16_20, base1, baseE, ↓reduceIte, Nat.reduceAdd, Nat.reduceSub, Nat.reduceMul, Nat.reduceEqDiff, Nat.reduceLeDiff, Nat.reduceLT, Int.reduceLT, Int.reduceLE, Int.reduceEq, Int.reduceNe, Int.reduceToNat, Int.reduceAdd, Int.reduceSub, reduceCtorEq, Nat.reduceBEq, Nat.reduceBNe, loopR_exit, loopR_ret, e2, e3, e5, hlt', hltb', hlt, hltb, hge0, hxx, hyy, hma, hmb, Int.toNat_natCast, h1, h2, hw]
        rw [loopR_normal]
        refine ⟨a.l.length - (i + 1), _, _, by omega, .refl _ _ _, i + 1, hlt, rfl, rfl, take_eq ht hx hy (Prod.ext (of_decide_eq_true h1) (of_decide_eq_true h2)), ?_, ?_, ?_⟩
        all_goals simp only [putD_some, putD_none, Nat.reduceEqDiff, ↓reduceIte, e2, e3, e5, hw]
  · have hlt' : ¬ (i : Int) < (a.l.length : Int) := by omega
    have hie : i = a.l.length := by omega
    subst hie
    rw [List.take_length, hll, List.take_length] at ht
    simp only [NoteV.cells, TS_app, Z16, x16_20, base1, baseE, ↓reduceIte, Nat.reduceAdd, Nat.reduceSub, Nat.reduceMul, Nat.reduceEqDiff, Nat.reduceLeDiff, Nat.reduceLT, Int.reduceLT, Int.reduceLE, Int.reduceEq, Int.reduceNe, Int.reduceToNat, Int.reduceAdd, Int.reduceSub, reduceCtorEq, Nat.reduceBEq, Nat.reduceBNe, loopR_exit, loopR_ret, e2, e3, e5, hlt', hma]
    refine ⟨a.last, rfl, ca.last, ?_⟩
    simp only [NoteV.cells, TS_app, Z16, x16_20, base1, baseE, ↓reduceIte, Nat.reduceAdd, Nat.reduceSub, Nat.reduceMul, Nat.reduceEqDiff, Nat.reduceLeDiff, Nat.reduceLT, Int.reduceLT, Int.reduceLE, Int.reduceEq, Int.reduceNe, Int.reduceToNat, Int.reduceAdd, Int.reduceSub, reduceCtorEq, Nat.reduceBEq, Nat.reduceBNe, e2, e3, e5]
    refine ⟨b.last, rfl, cb.last, ?_⟩
    simp only [NoteV.cells, TS_app, Z16, x16_20, base1, baseE, ↓reduceIte, Nat.reduceAdd, Nat.reduceSub, Nat.reduceMul, Nat.reduceEqDiff, Nat.reduceLeDiff, Nat.reduceLT, Int.reduceLT, Int.reduceLE, Int.reduceEq, Int.reduceNe, Int.reduceToNat, Int.reduceAdd, Int.reduceSub, reduceCtorEq, Nat.reduceBEq, Nat.reduceBNe, e2, e3, e5]
    refine ⟨a.last, b.last, rfl, ca.last, ca.la, fun t htt => ?_⟩
    cases t with
    | false =>
      simp only [NoteV.cells, TS_app, Z16, x16_20, base1, baseE, ↓reduceIte, Nat.reduceAdd, Nat.reduceSub, Nat.reduceMul, Nat.reduceEqDiff, Nat.reduceLeDiff, Nat.reduceLT, Int.reduceLT, Int.reduceLE, Int.reduceEq, Int.reduceNe, Int.reduceToNat, Int.reduceAdd, Int.reduceSub, reduceCtorEq, Nat.reduceBEq, Nat.reduceBNe, e2, e3, e5]
      exact ⟨false, rfl, ⟨fun h => (by cases h), fun h => htt.2 (by rw [h])⟩⟩
    | true =>
      simp only [NoteV.cells, TS_app, Z16, x16_20, base1, baseE, ↓reduceIte, Nat.reduceAdd, Nat.reduceSub, Nat.reduceMul, Nat.reduceEqDiff, Nat.reduceLeDiff, Nat.reduceLT, Int.reduceLT, Int.reduceLE, Int.reduceEq, Int.reduceNe, Int.reduceToNat, Int.reduceAdd, Int.reduceSub, reduceCtorEq, Nat.reduceBEq, Nat.reduceBNe, e2, e3, e5]
      refine ⟨a.aep, a.sh, rfl, ca.sh, ?_⟩
      simp only [NoteV.cells, TS_app, Z16, x16_20, base1, baseE, ↓reduceIte, Nat.reduceAdd, Nat.reduceSub, Nat.reduceMul, Nat.reduceEqDiff, Nat.reduceLeDiff, Nat.reduceLT, Int.reduceLT, Int.reduceLE, Int.reduceEq, Int.reduceNe, Int.reduceToNat, Int.reduceAdd, Int.reduceSub, reduceCtorEq, Nat.reduceBEq, Nat.reduceBNe, e2, e3, e5]
      refine ⟨b.aep, b.sh, rfl, cb.sh, ?_⟩
      simp only [NoteV.cells, TS_app, Z16, x16_20, base1, baseE, ↓reduceIte, Nat.reduceAdd, Nat.reduceSub, Nat.reduceMul, Nat.reduceEqDiff, Nat.reduceLeDiff, Nat.reduceLT, Int.reduceLT, Int.reduceLE, Int.reduceEq, Int.reduceNe, Int.reduceToNat, Int.reduceAdd, Int.reduceSub, reduceCtorEq, Nat.reduceBEq, Nat.reduceBNe, e2, e3, e5]
      refine ⟨a.aep, a.sh, b.aep, b.sh, rfl, ca.sh, fun u huu => ?_⟩
      simp only [NoteV.cells, TS_app, Z16, x16_20, base1, baseE, ↓reduceIte, Nat.reduceAdd, Nat.reduceSub, Nat.reduceMul, Nat.reduceEqDiff, Nat.reduceLeDiff, Nat.reduceLT, Int.reduceLT, Int.reduceLE, Int.reduceEq, Int.reduceNe, Int.reduceToNat, Int.reduceAdd, Int.reduceSub, reduceCtorEq, Nat.reduceBEq, Nat.reduceBNe, e2, e3, e5]
      exact ⟨u, rfl, ⟨fun h => rest_all hr ht (htt.1 rfl) (huu.1 h), fun h => huu.2 (by rw [h])⟩⟩
theorem same_ok (a b : NoteV) (ca : a.cmp) (cb : b.cmp) : Tri Try.prog 16 [.agg a.cells, .agg b.cells] [] fun r _ => r.pure = true ∧ ∃ t, r = .bool t ∧ (t = true ↔ a = b) := by
  refine smB_pure (Tri.of_s c16 TS_sound ?_)
  have hask : (decide (a.ask.do_ = b.ask.do_) && (decide (a.ask.client = b.ask.client) && (decide (a.ask.seq = b.ask.seq) && (decide (a.ask.text = b.ask.text) && (decide (a.ask.val = b.ask.val) && (decide (a.ask.from_ = b.ask.from_) && (decide (a.ask.to = b.ask.to) && decide (a.ask.limit = b.ask.limit)))))))) = askEqB a.ask b.ask := rfl
  have hma : (a.l.map recC).length = a.l.length := by simp
  have hmb : (b.l.map recC).length = b.l.length := by simp
  cases h1 : decide (a.kind ≠ b.kind) with
  | true =>
    simp only [NoteV.cells, TS_app, Z16, x16_20, base1, baseE, ↓reduceIte, Nat.reduceAdd, Nat.reduceSub, Nat.reduceMul, Nat.reduceEqDiff, Nat.reduceLeDiff, Nat.reduceLT, Int.reduceLT, Int.reduceLE, Int.reduceEq, Int.reduceNe, Int.reduceToNat, Int.reduceAdd, Int.reduceSub, reduceCtorEq, Nat.reduceBEq, Nat.reduceBNe, hask, hma, hmb, h1]
    exact ⟨false, rfl, ⟨fun h => (by cases h), fun h => by rw [h] at h1; simp at h1⟩⟩
  | false =>
  cases h2 : decide (a.from_ ≠ b.from_) with
  | true =>
    simp only [NoteV.cells, TS_app, Z16, x16_20, base1, baseE, ↓reduceIte, Nat.reduceAdd, Nat.reduceSub, Nat.reduceMul, Nat.reduceEqDiff, Nat.reduceLeDiff, Nat.reduceLT, Int.reduceLT, Int.reduceLE, Int.reduceEq, Int.reduceNe, Int.reduceToNat, Int.reduceAdd, Int.reduceSub, reduceCtorEq, Nat.reduceBEq, Nat.reduceBNe, hask, hma, hmb, h1, h2]
    exact ⟨false, rfl, ⟨fun h => (by cases h), fun h => by rw [h] at h2; simp at h2⟩⟩
  | false =>
  cases h3 : decide (a.to ≠ b.to) with
  | true =>
    simp only [NoteV.cells, TS_app, Z16, x16_20, base1, baseE, ↓reduceIte, Nat.reduceAdd, Nat.reduceSub, Nat.reduceMul, Nat.reduceEqDiff, Nat.reduceLeDiff, Nat.reduceLT, Int.reduceLT, Int.reduceLE, Int.reduceEq, Int.reduceNe, Int.reduceToNat, Int.reduceAdd, Int.reduceSub, reduceCtorEq, Nat.reduceBEq, Nat.reduceBNe, hask, hma, hmb, h1, h2, h3]
    exact ⟨false, rfl, ⟨fun h => (by cases h), fun h => by rw [h] at h3; simp at h3⟩⟩
  | false =>
  cases h4 : decide (a.epoch ≠ b.epoch) with
  | true =>
    simp only [NoteV.cells, TS_app, Z16, x16_20, base1, baseE, ↓reduceIte, Nat.reduceAdd, Nat.reduceSub, Nat.reduceMul, Nat.reduceEqDiff, Nat.reduceLeDiff, Nat.reduceLT, Int.reduceLT, Int.reduceLE, Int.reduceEq, Int.reduceNe, Int.reduceToNat, Int.reduceAdd, Int.reduceSub, reduceCtorEq, Nat.reduceBEq, Nat.reduceBNe, hask, hma, hmb, h1, h2, h3, h4]
    exact ⟨false, rfl, ⟨fun h => (by cases h), fun h => by rw [h] at h4; simp at h4⟩⟩
  | false =>
  cases h5 : decide (a.tick ≠ b.tick) with
  | true =>
    simp only [NoteV.cells, TS_app, Z16, x16_20, base1, baseE, ↓reduceIte, Nat.reduceAdd, Nat.reduceSub, Nat.reduceMul, Nat.reduceEqDiff, Nat.reduceLeDiff, Nat.reduceLT, Int.reduceLT, Int.reduceLE, Int.reduceEq, Int.reduceNe, Int.reduceToNat, Int.reduceAdd, Int.reduceSub, reduceCtorEq, Nat.reduceBEq, Nat.reduceBNe, hask, hma, hmb, h1, h2, h3, h4, h5]
    exact ⟨false, rfl, ⟨fun h => (by cases h), fun h => by rw [h] at h5; simp at h5⟩⟩
  | false =>
  cases h6 : askEqB a.ask b.ask with
  | false =>
    simp only [NoteV.cells, TS_app, Z16, x16_20, base1, baseE, ↓reduceIte, Nat.reduceAdd, Nat.reduceSub, Nat.reduceMul, Nat.reduceEqDiff, Nat.reduceLeDiff, Nat.reduceLT, Int.reduceLT, Int.reduceLE, Int.reduceEq, Int.reduceNe, Int.reduceToNat, Int.reduceAdd, Int.reduceSub, reduceCtorEq, Nat.reduceBEq, Nat.reduceBNe, hask, hma, hmb, h1, h2, h3, h4, h5, h6]
    exact ⟨false, rfl, ⟨fun h => (by cases h), fun h => by rw [h] at h6; rw [(askEq_iff _ _).2 rfl] at h6; cases h6⟩⟩
  | true =>
  simp only [NoteV.cells, TS_app, Z16, x16_20, base1, baseE, ↓reduceIte, Nat.reduceAdd, Nat.reduceSub, Nat.reduceMul, Nat.reduceEqDiff, Nat.reduceLeDiff, Nat.reduceLT, Int.reduceLT, Int.reduceLE, Int.reduceEq, Int.reduceNe, Int.reduceToNat, Int.reduceAdd, Int.reduceSub, reduceCtorEq, Nat.reduceBEq, Nat.reduceBNe, hask, hma, hmb, h1, h2, h3, h4, h5, h6]
  refine ⟨a.rep, b.rep, rfl, ca.rep, fun t htt => ?_⟩
  cases t with
  | false =>
    simp only [NoteV.cells, TS_app, Z16, x16_20, base1, baseE, ↓reduceIte, Nat.reduceAdd, Nat.reduceSub, Nat.reduceMul, Nat.reduceEqDiff, Nat.reduceLeDiff, Nat.reduceLT, Int.reduceLT, Int.reduceLE, Int.reduceEq, Int.reduceNe, Int.reduceToNat, Int.reduceAdd, Int.reduceSub, reduceCtorEq, Nat.reduceBEq, Nat.reduceBNe, hask, hma, hmb]
    exact ⟨false, rfl, ⟨fun h => (by cases h), fun h => htt.2 (by rw [h])⟩⟩
  | true =>
  cases h7 : decide (a.sf = b.sf) with
  | false =>
    simp only [NoteV.cells, TS_app, Z16, x16_20, base1, baseE, ↓reduceIte, Nat.reduceAdd, Nat.reduceSub, Nat.reduceMul, Nat.reduceEqDiff, Nat.reduceLeDiff, Nat.reduceLT, Int.reduceLT, Int.reduceLE, Int.reduceEq, Int.reduceNe, Int.reduceToNat, Int.reduceAdd, Int.reduceSub, reduceCtorEq, Nat.reduceBEq, Nat.reduceBNe, hask, hma, hmb, h7]
    exact ⟨false, rfl, ⟨fun h => (by cases h), fun h => by rw [h] at h7; simp at h7⟩⟩
  | true =>
  cases h8 : decide (a.st = b.st) with
  | false =>
    simp only [NoteV.cells, TS_app, Z16, x16_20, base1, baseE, ↓reduceIte, Nat.reduceAdd, Nat.reduceSub, Nat.reduceMul, Nat.reduceEqDiff, Nat.reduceLeDiff, Nat.reduceLT, Int.reduceLT, Int.reduceLE, Int.reduceEq, Int.reduceNe, Int.reduceToNat, Int.reduceAdd, Int.reduceSub, reduceCtorEq, Nat.reduceBEq, Nat.reduceBNe, hask, hma, hmb, h7, h8]
    exact ⟨false, rfl, ⟨fun h => (by cases h), fun h => by rw [h] at h8; simp at h8⟩⟩
  | true =>
  cases h9 : decide ((a.l.length : Int) ≠ (b.l.length : Int)) with
  | true =>
    simp only [NoteV.cells, TS_app, Z16, x16_20, base1, baseE, ↓reduceIte, Nat.reduceAdd, Nat.reduceSub, Nat.reduceMul, Nat.reduceEqDiff, Nat.reduceLeDiff, Nat.reduceLT, Int.reduceLT, Int.reduceLE, Int.reduceEq, Int.reduceNe, Int.reduceToNat, Int.reduceAdd, Int.reduceSub, reduceCtorEq, Nat.reduceBEq, Nat.reduceBNe, hask, hma, hmb, h7, h8, h9]
    exact ⟨false, rfl, ⟨fun h => (by cases h), fun h => by rw [h] at h9; simp at h9⟩⟩
  | false =>
  have hll : a.l.length = b.l.length := by have := ne_false h9; omega
  have hr : Rest a b := ⟨ne_false h1, ne_false h2, ne_false h3, ne_false h4, ne_false h5, (askEq_iff _ _).1 h6, htt.1 rfl, of_decide_eq_true h7, of_decide_eq_true h8⟩
  simp only [NoteV.cells, TS_app, Z16, x16_20, base1, baseE, ↓reduceIte, Nat.reduceAdd, Nat.reduceSub, Nat.reduceMul, Nat.reduceEqDiff, Nat.reduceLeDiff, Nat.reduceLT, Int.reduceLT, Int.reduceLE, Int.reduceEq, Int.reduceNe, Int.reduceToNat, Int.reduceAdd, Int.reduceSub, reduceCtorEq, Nat.reduceBEq, Nat.reduceBNe, hask, hma, hmb, h7, h8, h9]
  exact sC_inv (a := b16_18) (snI a b) a.l.length _ _ (.refl _ _ _) ⟨0, Nat.zero_le _, rfl, rfl, rfl, rfl, rfl, rfl⟩ (sn_step a b ca cb hll hr)
def sameD (args : List AV) (σ : AHeap) (K : AV → AHeap → Prop) : Prop := ∃ a b : NoteV, args = [.agg a.cells, .agg b.cells] ∧ a.cmp ∧ b.cmp ∧ ∀ t, (t = true ↔ a = b) → K (.bool t) σ
theorem sameD_ok (args : List AV) (σ : AHeap) (K : AV → AHeap → Prop) (h : sameD args σ K) : Tri Try.prog 16 args σ K := by
  obtain ⟨a, b, rfl, ha, hb, h⟩ := h
  exact (Tri.pureD (by simp only [pureL, note_pure, Bool.and_self]) (same_ok a b ha hb) σ).mono fun r σ' ⟨⟨t, h1, h2⟩, h3⟩ => by rw [h1, h3]; exact h t h2
end Go.Proofs.Ytndlgmciplckjaa.note
