/- Which notes may be: what May answers, as a truth that is counted from the note. No condition. -/
import Derived.Test.YtndlgmciplckjaaNMay1
set_option linter.unusedVariables false
set_option linter.unusedSimpArgs false
namespace Go.Proofs.Ytndlgmciplckjaa.note
open Go.ChangeShapes Go.WideShapes Go.ChangeAt Go.RowKit Go.Gz
section
variable {C : PCall} {n0 : Nat} {R : MExit → Env → AHeap → Prop} {k : Cont} {e : Env} {σ : AHeap}
abbrev r38_0 : List MOper := [⟨(some 1), .box (.t 0), none⟩,
  ⟨(some 2), .move (.c (.bool false)), none⟩]
def b38_0 : SCode := .region r38_0
abbrev r38_1 : List MOper := [⟨(some 8), .fieldAddr 5 (.t 1), none⟩,
  ⟨(some 9), .loadN 8 (.t 8), none⟩,
  ⟨(some 10), .call 30 [(.t 9)], none⟩,
  ⟨(some 7), .move (.t 10), none⟩,
  ⟨(some 11), .extract (.t 7) 0, none⟩,
  ⟨(some 12), .extract (.t 7) 1, none⟩,
  ⟨(some 3), .move (.t 11), none⟩,
  ⟨(some 4), .move (.t 12), none⟩]
def b38_1 : SCode := .region r38_1
abbrev r38_2 : List MOper := [⟨(some 14), .fieldAddr 13 (.t 1), none⟩,
  ⟨(some 15), .loadN 8 (.t 14), none⟩,
  ⟨(some 16), .call 32 [(.t 15)], none⟩,
  ⟨(some 13), .move (.t 16), none⟩,
  ⟨(some 17), .extract (.t 13) 0, none⟩,
  ⟨(some 18), .extract (.t 13) 1, none⟩,
  ⟨(some 5), .move (.t 17), none⟩,
  ⟨(some 6), .move (.t 18), none⟩]
def b38_2 : SCode := .region r38_2
abbrev r38_3 : List MOper := [⟨(some 19), .move (.t 4), none⟩,
  ⟨(some 20), .bin .eql .num (.t 19) (.c (.int .i64 0)), none⟩,
  ⟨(some 21), .move (.t 20), none⟩,
  ⟨(some 22), .move (.t 6), (some (21, true))⟩,
  ⟨(some 23), .bin .eql .num (.t 22) (.c (.int .i64 0)), (some (21, true))⟩,
  ⟨(some 24), .pick (.t 21) (.t 23) (.c (.bool false)), none⟩,
  ⟨(some 25), .move (.t 24), none⟩,
  ⟨(some 26), .fieldAddr 0 (.t 1), (some (25, true))⟩,
  ⟨(some 27), .load1 (.t 26), (some (25, true))⟩,
  ⟨(some 28), .bin .eql .num (.t 27) (.c (.int .i64 1)), (some (25, true))⟩,
  ⟨(some 29), .move (.t 28), (some (25, true))⟩,
  ⟨(some 30), .fieldAddr 5 (.t 1), (some (29, false))⟩,
  ⟨(some 31), .loadN 8 (.t 30), (some (29, false))⟩,
  ⟨(some 32), .call 73 [(.t 31)], (some (29, false))⟩,
  ⟨(some 33), .pick (.t 29) (.c (.bool true)) (.t 32), (some (25, true))⟩,
  ⟨(some 34), .pick (.t 25) (.t 33) (.c (.bool false)), none⟩,
  ⟨(some 35), .move (.t 34), none⟩,
  ⟨(some 36), .fieldAddr 0 (.t 1), (some (35, true))⟩,
  ⟨(some 37), .load1 (.t 36), (some (35, true))⟩,
  ⟨(some 38), .bin .eql .num (.t 37) (.c (.int .i64 2)), (some (35, true))⟩,
  ⟨(some 39), .move (.t 38), (some (35, true))⟩,
  ⟨(some 40), .fieldAddr 13 (.t 1), (some (39, false))⟩,
  ⟨(some 41), .loadN 8 (.t 40), (some (39, false))⟩,
  ⟨(some 42), .call 74 [(.t 41)], (some (39, false))⟩,
  ⟨(some 43), .pick (.t 39) (.c (.bool true)) (.t 42), (some (35, true))⟩,
  ⟨(some 44), .pick (.t 35) (.t 43) (.c (.bool false)), none⟩,
  ⟨(some 2), .move (.t 44), none⟩]
def b38_3 : SCode := .region r38_3
def b38_4 : SCode := .seq b38_3 .ret
def b38_5 : SCode := .seq b38_2 b38_4
def b38_6 : SCode := .seq b38_1 b38_5
def b38_7 : SCode := .seq b38_0 b38_6
def s38 : SFunc := ⟨45, [.t 2], b38_7⟩
theorem c38 : sFn Try.prog 38 = some s38 := by kernel_rfl
theorem Z38 : XR b38_0 r38_0 ∧ XR b38_1 r38_1 ∧ XR b38_2 r38_2 ∧ XR b38_3 r38_3 ∧ XS b38_4 b38_3 .ret ∧ XS b38_5 b38_2 b38_4 ∧ XS b38_6 b38_1 b38_5 ∧ XS b38_7 b38_0 b38_6 ∧ XY s38 45 b38_7 [.t 2] := ⟨rfl, rfl, rfl, rfl, rfl, rfl, rfl, rfl, rfl⟩

end
set_option maxHeartbeats 4000000
set_option maxRecDepth 10000
structure NoteV where
  kind : Int
  from_ : Int
  to : Int
  epoch : Int
  tick : Int
  ask : AskV
  rep : RepV
  sf : List UInt8
  st : List UInt8
  l : List (List UInt8 × List UInt8)
  last : List LaV
  aep : Int
  sh : List ShV
def NoteV.cells (n : NoteV) : List AV := [.int .i64 n.kind, .int .i64 n.from_, .int .i64 n.to, .int .i64 n.epoch, .int .i64 n.tick,
  .int .i64 n.ask.do_, .int .i64 n.ask.client, .int .i64 n.ask.seq, .str n.ask.text, .str n.ask.val, .str n.ask.from_, .str n.ask.to, .int .i64 n.ask.limit,
  .int .i64 n.rep.client, .int .i64 n.rep.seq, .int .i64 n.rep.err, .bool n.rep.found, .str n.rep.val, .imm (recs n.rep.l) false false, .str n.rep.next, .bool n.rep.more,
  .str n.sf, .str n.st, .imm (n.l.map recC) false false, .imm (n.last.map LaV.cells) false false, .int .i64 n.aep, .imm (n.sh.map ShV.cells) false false]
theorem note_pure (n : NoteV) : (AV.agg n.cells).pure = true := by
  have h1 := recs_pure n.rep.l
  have h2 := rowsRec_pure n.l
  have h3 := rowsLa_pure n.last
  have h4 := rowsSh_pure n.sh
  simp only [AV.pure, NoteV.cells, pureL, h1, h2, h3, h4, Bool.and_self]
/-- What is not too great to be packed. -/
structure NoteV.sz (n : NoteV) : Prop where
  ask : total n.ask.texts ≤ 900000000
  rep : n.rep.bytes.length ≤ 900000000
  span : total [n.sf, n.st] ≤ 100000000
  l : n.l.length ≤ 1000000
  last : n.last.length ≤ 1000000
  sh : n.sh.length ≤ 1000000
  recz : ∀ x ∈ n.l, (txt2 x).length ≤ 900000000
  la : ∀ x ∈ n.last, x.rep.bytes.length ≤ 900000000
  shs : ∀ x ∈ n.sh, x.bytes.length ≤ 900000000
  recs : (n.l.flatMap fun x => txt (txt2 x)).length ≤ 100000000
  las : (n.last.flatMap fun x => txt x.bytes).length ≤ 100000000
  shsum : (n.sh.flatMap fun x => txt x.bytes).length ≤ 100000000
/-! Asks. -/
theorem packR_t {bs : List UInt8} : packR true bs = .tuple [.nilslice, .int .i64 1] := _root_.id rfl
theorem packR_f {bs : List UInt8} : packR false bs = .tuple [.imm (rws bs) false false, .int .i64 0] := _root_.id rfl
def askPD : List AV → AHeap → (AV → AHeap → Prop) → Prop
  | [.agg [.int .i64 a, .int .i64 b, .int .i64 c, .str t, .str v, .str f, .str o, .int .i64 l]], σ, K => total (AskV.texts ⟨a, b, c, t, v, f, o, l⟩) ≤ 900000000 ∧ K (packR (AskV.bad ⟨a, b, c, t, v, f, o, l⟩) (AskV.bytes ⟨a, b, c, t, v, f, o, l⟩)) σ
  | _, _, _ => False
theorem askPD_eq {a : AskV} {σ : AHeap} {K : AV → AHeap → Prop} : askPD [.agg [.int .i64 a.do_, .int .i64 a.client, .int .i64 a.seq, .str a.text, .str a.val, .str a.from_, .str a.to, .int .i64 a.limit]] σ K = (total a.texts ≤ 900000000 ∧ K (packR a.bad a.bytes) σ) := _root_.id rfl
theorem askPD_ok (args : List AV) (σ : AHeap) (K : AV → AHeap → Prop) (h : askPD args σ K) : Tri Try.prog 30 args σ K := by
  unfold askPD at h
  split at h
  · rename_i a b c t v f o l
    have := Tri.pureD (σ := σ) (Q := fun r => r = packR (AskV.bad ⟨a, b, c, t, v, f, o, l⟩) (AskV.bytes ⟨a, b, c, t, v, f, o, l⟩)) rfl ((ask_ok ⟨a, b, c, t, v, f, o, l⟩ h.1).mono fun r _ hr => ⟨by rw [hr.2]; exact packR_pure _ _, hr.2⟩)
    exact this.mono fun r σ' hr => by rw [hr.1, hr.2]; exact h.2
  · exact h.elim
def repPD : List AV → AHeap → (AV → AHeap → Prop) → Prop
  | [.agg [.int .i64 a, .int .i64 b, .int .i64 c, .bool t, .str v, .imm rs false false, .str o, .bool l]], σ, K => ∃ r : RepV, AV.agg r.cells = .agg [.int .i64 a, .int .i64 b, .int .i64 c, .bool t, .str v, .imm rs false false, .str o, .bool l] ∧ r.bytes.length ≤ 900000000 ∧ K (packR r.bad r.bytes) σ
  | _, _, _ => False
theorem recs_inj : ∀ {l m : List (List UInt8 × List UInt8)}, recs l = recs m → l = m
  | [], [], _ => rfl
  | [], _ :: _, h => by simp [recs] at h
  | _ :: _, [], h => by simp [recs] at h
  | p :: l, q :: m, h => by
    simp only [recs, List.map_cons, List.cons.injEq, AV.str.injEq, and_true] at h
    obtain ⟨⟨h1, h2⟩, h3⟩ := h
    rw [recs_inj (l := l) (m := m) h3, show p = q from Prod.ext h1 h2]
theorem rep_inj {r s : RepV} (h : AV.agg r.cells = .agg s.cells) : r = s := by
  cases r; cases s
  simp only [RepV.cells, AV.agg.injEq, List.cons.injEq, AV.int.injEq, AV.bool.injEq, AV.str.injEq, AV.imm.injEq, and_true, true_and] at h
  obtain ⟨h1, h2, h3, h4, h5, h6, h7, h8⟩ := h
  have h6 := recs_inj h6
  subst h1; subst h2; subst h3; subst h4; subst h5; subst h6; subst h7; subst h8
  rfl
theorem repPD_eq {a : RepV} {σ : AHeap} {K : AV → AHeap → Prop} : repPD [.agg [.int .i64 a.client, .int .i64 a.seq, .int .i64 a.err, .bool a.found, .str a.val, .imm (recs a.l) false false, .str a.next, .bool a.more]] σ K = (a.bytes.length ≤ 900000000 ∧ K (packR a.bad a.bytes) σ) := by
  apply propext
  refine ⟨fun ⟨r, h1, h2, h3⟩ => ?_, fun h => ⟨a, rfl, h.1, h.2⟩⟩
  have : r = a := rep_inj h1
  subst this
  exact ⟨h2, h3⟩
theorem repPD_ok (args : List AV) (σ : AHeap) (K : AV → AHeap → Prop) (h : repPD args σ K) : Tri Try.prog 32 args σ K := by
  unfold repPD at h
  split at h
  · obtain ⟨r, h1, h2, h3⟩ := h
    refine replyPD_ok _ _ _ ⟨r, by rw [h1], h2, h3⟩
  · exact h.elim
def noAskD : List AV → AHeap → (AV → AHeap → Prop) → Prop
  | [.agg [.int .i64 a, .int .i64 b, .int .i64 c, .str t, .str v, .str f, .str o, .int .i64 l]], σ, K => K (.bool (noAskB ⟨a, b, c, t, v, f, o, l⟩)) σ
  | _, _, _ => False
theorem noAskD_eq {a : AskV} {σ : AHeap} {K : AV → AHeap → Prop} : noAskD [.agg [.int .i64 a.do_, .int .i64 a.client, .int .i64 a.seq, .str a.text, .str a.val, .str a.from_, .str a.to, .int .i64 a.limit]] σ K = K (.bool (noAskB a)) σ := _root_.id rfl
theorem noAskD_ok (args : List AV) (σ : AHeap) (K : AV → AHeap → Prop) (h : noAskD args σ K) : Tri Try.prog 73 args σ K := by
  unfold noAskD at h
  split at h
  · rename_i a b c t v f o l
    exact (Tri.pureD rfl (noAsk_ok ⟨a, b, c, t, v, f, o, l⟩) σ).mono fun r σ' hr => by rw [hr.1, hr.2]; exact h
  · exact h.elim
def noRepD (args : List AV) (σ : AHeap) (K : AV → AHeap → Prop) : Prop := ∃ r : RepV, args = [.agg r.cells] ∧ K (.bool (noRepB r)) σ
theorem noRepD_eq {a : RepV} {σ : AHeap} {K : AV → AHeap → Prop} : noRepD [.agg [.int .i64 a.client, .int .i64 a.seq, .int .i64 a.err, .bool a.found, .str a.val, .imm (recs a.l) false false, .str a.next, .bool a.more]] σ K = K (.bool (noRepB a)) σ := by
  apply propext
  refine ⟨fun ⟨r, h1, h2⟩ => ?_, fun h => ⟨a, rfl, h⟩⟩
  have : a = r := rep_inj (List.cons.inj h1).1
  subst this
  exact h2
theorem noRepD_ok (args : List AV) (σ : AHeap) (K : AV → AHeap → Prop) (h : noRepD args σ K) : Tri Try.prog 74 args σ K := by
  obtain ⟨r, rfl, h⟩ := h
  exact (Tri.pureD (by simp only [pureL, rep_pure, Bool.and_self]) (noReply_ok r) σ).mono fun r σ' hr => by rw [hr.1, hr.2]; exact h
def asksB (n : NoteV) : Bool := !n.ask.bad && !n.rep.bad && (decide (n.kind = 1) || noAskB n.ask) && (decide (n.kind = 2) || noRepB n.rep)
def M1 : PCall := rowQ 30 askPD (rowQ 32 repPD (rowQ 73 noAskD (rowQ 74 noRepD noCall)))
theorem M1_app {f : FuncId} {args : List AV} {σ : AHeap} {K : AV → AHeap → Prop} : M1 f args σ K = rowQ 30 askPD (rowQ 32 repPD (rowQ 73 noAskD (rowQ 74 noRepD noCall))) f args σ K := _root_.id rfl
theorem M1_sound : Sound Try.prog M1 := rowQ_sound askPD_ok (rowQ_sound repPD_ok (rowQ_sound noAskD_ok (rowQ_sound noRepD_ok (noCall_sound _))))
theorem asks_ok (n : NoteV) (hs : n.sz) : Tri Try.prog 38 [.agg n.cells] [] fun r _ => r.pure = true ∧ r = .bool (asksB n) := by
  refine Tri.of_s c38 M1_sound ?_
  have s1 := hs.ask
  have s2 := hs.rep
  cases h1 : n.ask.bad <;> cases h2 : n.rep.bad <;> cases h3 : decide (n.kind = 1) <;> cases h4 : noAskB n.ask <;> cases h5 : decide (n.kind = 2) <;> cases h6 : noRepB n.rep <;>
    (simp only [NoteV.cells, M1_app, Z38, base1, baseE, ↓reduceIte, Nat.reduceAdd, Nat.reduceSub, Nat.reduceMul, Nat.reduceEqDiff, Nat.reduceLeDiff, Nat.reduceLT, Int.reduceLT, Int.reduceLE, Int.reduceEq, Int.reduceNe, Int.reduceToNat, Int.reduceAdd, Int.reduceSub, reduceCtorEq, Nat.reduceBEq, Nat.reduceBNe, askPD_eq, repPD_eq, noAskD_eq, noRepD_eq, s1, s2, h1, h2, h3, h4, h5, h6, packR_t, packR_f]; exact ⟨rfl, by simp only [asksB, h1, h2, h3, h4, h5, h6]; rfl⟩)
end Go.Proofs.Ytndlgmciplckjaa.note
