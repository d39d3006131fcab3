/- awake: yes. Rows of Read and Text. -/
import Derived.Test.YtbamlhgjpggihaaDoorTD
import Derived.Test.YtbamlhgjpggihaaDoorTC
import Derived.Test.YtbamlhgjpggihaaDoorK22
import Derived.Test.YtbamlhgjpggihaaDoorRows
import Derived.Test.YtbamlhgjpggihaaDoorShelf
import Derived.ProofKit
import Derived.LaidMore
import Derived.OpenShut
import Derived.Stop.Joined
import Derived.Stop.LaidErr
import Derived.HandedShaped
set_option linter.unusedVariables false
set_option linter.unusedSimpArgs false
namespace Go.Proofs.YtbamlhgjpggihaaDoor.tale
open Go.RowKit Go.Gz Go.Gz.H
abbrev r6_0 : List MOper := [⟨(some 0), .move (.c (.bool false)), none⟩]
def b6_0 : SCode := .region r6_0
abbrev r6_1 : List MOper := [⟨(some 4), .build [.int .i64 0, .int .i64 0, .int .i64 0, .str [], .str [], .str []] [(0, 1, (.c (.int .i64 4))), (1, 1, (.c (.int .i64 2)))], none⟩,
  ⟨(some 5), .buildSlice [.int .i64 0, .int .i64 0, .int .i64 0, .str [], .str [], .str []] 6 1 [(0, 6, (.t 4))], none⟩,
  ⟨(some 1), .move (.t 5), none⟩]
def b6_1 : SCode := .region r6_1
abbrev r6_2 : List MOper := [⟨(some 7), .call 11 [(.c (.str [116, 105, 99, 107, 32, 50, 32, 48, 32, 46, 32, 46, 32, 46, 10]))], none⟩,
  ⟨(some 6), .move (.t 7), none⟩,
  ⟨(some 8), .extract (.t 6) 0, none⟩,
  ⟨(some 9), .extract (.t 6) 1, none⟩,
  ⟨(some 2), .move (.t 8), none⟩,
  ⟨(some 3), .move (.t 9), none⟩]
def b6_2 : SCode := .region r6_2
abbrev t6_3 : LTree := (.quiet ⟨(some 10), .move (.t 1), none⟩ 0
  (.loud ⟨(some 11), .call 9 [(.t 10)], none⟩ []
  (.quiet ⟨(some 12), .bin .eql .num (.t 11) (.c (.str [116, 105, 99, 107, 32, 50, 32, 48, 32, 46, 32, 46, 32, 46, 10])), none⟩ 2
  (.quiet ⟨(some 13), .move (.t 12), none⟩ 3
  (.quiet ⟨(some 14), .move (.t 3), (some (13, true))⟩ 4
  (.quiet ⟨(some 15), .bin .eql .num (.t 14) (.c (.int .i64 0)), (some (13, true))⟩ 5
  (.quiet ⟨(some 16), .pick (.t 13) (.t 15) (.c (.bool false)), none⟩ 6
  (.quiet ⟨(some 17), .move (.t 16), none⟩ 7
  (.quiet ⟨(some 18), .move (.t 2), (some (17, true))⟩ 8
  (.quiet ⟨(some 19), .lenSl (.t 18), (some (17, true))⟩ 9
  (.quiet ⟨(some 20), .bin .eql .num (.t 19) (.c (.int .i64 1)), (some (17, true))⟩ 10
  (.quiet ⟨(some 21), .pick (.t 17) (.t 20) (.c (.bool false)), none⟩ 11
  (.quiet ⟨(some 22), .move (.t 21), none⟩ 12
  (.quiet ⟨(some 23), .move (.t 2), (some (22, true))⟩ 13
  (.quiet ⟨(some 24), .indexAddr 6 (.t 23) (.c (.int .i64 0)), (some (22, true))⟩ 14
  (.quiet ⟨(some 25), .loadN 6 (.t 24), (some (22, true))⟩ 15
  (.quiet ⟨(some 26), .move (.t 1), (some (22, true))⟩ 16
  (.quiet ⟨(some 27), .indexAddr 6 (.t 26) (.c (.int .i64 0)), (some (22, true))⟩ 17
  (.quiet ⟨(some 28), .loadN 6 (.t 27), (some (22, true))⟩ 18
  (.quiet ⟨(some 29), .bin .eql (.flat [.i, .i, .i, .s, .s, .s]) (.t 25) (.t 28), (some (22, true))⟩ 19
  (.quiet ⟨(some 30), .pick (.t 22) (.t 29) (.c (.bool false)), none⟩ 20
  (.quiet ⟨(some 0), .move (.t 30), none⟩ 21
  .leaf)))))))))))))))))))) .stop))
def b6_3 : SCode := .draw t6_3
def b6_4 : SCode := .seq b6_3 .ret
def b6_5 : SCode := .seq b6_2 b6_4
def b6_6 : SCode := .seq b6_1 b6_5
def b6_7 : SCode := .seq b6_0 b6_6
def s6 : SFunc := ⟨31, [.t 0], b6_7⟩
theorem c6 : sFn Tryd.prog 6 = some s6 := by kernel_rfl
theorem Z6 : XR b6_0 r6_0 ∧ XR b6_1 r6_1 ∧ XR b6_2 r6_2 ∧ XT b6_3 t6_3 ∧ XS b6_4 b6_3 .ret ∧ XS b6_5 b6_2 b6_4 ∧ XS b6_6 b6_1 b6_5 ∧ XS b6_7 b6_0 b6_6 ∧ XY s6 31 b6_7 [.t 0] := ⟨rfl, rfl, rfl, rfl, rfl, rfl, rfl, rfl, rfl⟩

set_option maxHeartbeats 4000000
set_option maxRecDepth 10000
theorem rowsE_flat (l : List Ev) : flatLL (rowsE l) := by
  intro r hr x hx
  obtain ⟨e, _, rfl⟩ := List.mem_map.1 hr
  simp only [Ev.cells, List.mem_cons, List.not_mem_nil, or_false] at hx
  rcases hx with rfl | rfl | rfl | rfl | rfl | rfl <;> rfl
theorem rowsE_six (l : List Ev) : ∀ r ∈ rowsE l, r.length = 6 := by
  intro r hr
  obtain ⟨e, _, rfl⟩ := List.mem_map.1 hr
  rfl
def textD (args : List AV) (σ : AHeap) (K : AV → AHeap → Prop) : Prop := ∃ (l : List Ev) (v : AV), args = [v] ∧ wv σ [] v (.imm (rowsE l) false false) ∧ l.length ≤ 20000 ∧ (∀ e ∈ l, EvOk e) ∧ K (.str (textS l)) σ
theorem textD_ok (args : List AV) (σ : AHeap) (K : AV → AHeap → Prop) (h : textD args σ K) : Tri Tryd.prog 9 args σ K := by
  obtain ⟨l, v, rfl, hv, h1, h2, h⟩ := h
  refine (Tri.view (args1 := [.imm (rowsE l) false false]) ?_ ((text_ok l h1 h2).mono fun r σ' hr => (⟨by rw [hr.2]; rfl, hr.2⟩ : r.flatD = true ∧ r = .str (textS l)))).mono fun r σ' hr => by rw [hr.1, hr.2]; exact h
  simp only [wvs, and_true]; exact hv
theorem wv_imm {σ : AHeap} (l : List Ev) : wv σ [] (.imm (rowsE l) false false) (.imm (rowsE l) false false) := by
  unfold wv; exact ⟨rfl, rfl, rfl, rowsE_flat l⟩
def ev1 : Ev := ⟨4, 2, 0, [], [], []⟩
theorem text1 : textS [ev1] = [116, 105, 99, 107, 32, 50, 32, 48, 32, 46, 32, 46, 32, 46, 10] := by
  have h1 : wordS 4 = [116, 105, 99, 107] := rfl
  have h2 : Lib.itoa 2 = [50] := by
    have := Lib.itoa_nonneg 2
    rw [Lib.decDigits_one (by decide)] at this
    exact this
  have h3 : Lib.itoa 0 = [48] := by
    have := Lib.itoa_nonneg 0
    rw [Lib.decDigits_one (by decide)] at this
    exact this
  have hl : hasL ev1 := by unfold hasL ev1; simp [h1]
  show lineS ev1 ++ [] = _
  rw [line_yes hl]
  unfold bodyS partsS ev1
  simp only [h1, h2, h3, join6, bytesS, hexOf]
  rfl
theorem ev1_ok : EvOk ev1 := ⟨by decide, by decide, by decide, by decide, by decide⟩
theorem read1 : readR [116, 105, 99, 107, 32, 50, 32, 48, 32, 46, 32, 46, 32, 46, 10] = .tuple [.imm (rowsE [ev1]) false false, .int .i64 0] := by
  have hl : hasL ev1 := by
    unfold hasL ev1
    have h1 : wordS 4 = [116, 105, 99, 107] := rfl
    simp [h1]
  have h := read_text [ev1] (textS [ev1]).length (by intro e he; simp at he; subst he; exact ⟨by decide, by decide⟩) (Nat.le_refl _)
  simp only [text1] at h
  unfold readR
  rw [h]
  simp [hl]
def U6 : PCall := rowQ 9 textD (rowQ 11 readD noCall)
theorem U6_app {f : FuncId} {args : List AV} {σ : AHeap} {K : AV → AHeap → Prop} : U6 f args σ K = rowQ 9 textD (rowQ 11 readD noCall) f args σ K := _root_.id rfl
theorem U6_sound : Sound Tryd.prog U6 := rowQ_sound textD_ok (rowQ_sound readD_ok (noCall_sound _))
theorem awake_ok : Tri Tryd.prog 6 [] [] fun r _ => r.pure = true ∧ r = .bool true := by
  refine Tri.of_s c6 U6_sound ?_
  simp only [U6_app, Z6, base1, baseX, baseY, ↓reduceIte, Nat.reduceAdd, Nat.reduceSub, Nat.reduceMul, Nat.reduceEqDiff, Nat.reduceLeDiff, Nat.reduceLT, Int.reduceLT, Int.reduceLE, Int.reduceEq, Int.reduceNe, Int.reduceToNat, Int.reduceAdd, Int.reduceSub, reduceCtorEq, Nat.reduceBEq, Nat.reduceBNe]
  refine ⟨_, rfl, by decide, ?_⟩
  rw [read1]
  simp only [U6_app, Z6, base1, baseX, baseY, ↓reduceIte, Nat.reduceAdd, Nat.reduceSub, Nat.reduceMul, Nat.reduceEqDiff, Nat.reduceLeDiff, Nat.reduceLT, Int.reduceLT, Int.reduceLE, Int.reduceEq, Int.reduceNe, Int.reduceToNat, Int.reduceAdd, Int.reduceSub, reduceCtorEq, Nat.reduceBEq, Nat.reduceBNe]
  refine ⟨[ev1], _, rfl, ?_, by simp, by intro e he; simp at he; subst he; exact ev1_ok, ?_⟩
  · unfold wv
    exact ⟨by simp, ⟨_, rfl, rfl⟩, rfl, rowsE_six [ev1], by simp, by simp, rowsE_flat [ev1]⟩
  rw [text1]
  simp only [U6_app, Z6, base1, baseX, baseY, ↓reduceIte, Nat.reduceAdd, Nat.reduceSub, Nat.reduceMul, Nat.reduceEqDiff, Nat.reduceLeDiff, Nat.reduceLT, Int.reduceLT, Int.reduceLE, Int.reduceEq, Int.reduceNe, Int.reduceToNat, Int.reduceAdd, Int.reduceSub, reduceCtorEq, Nat.reduceBEq, Nat.reduceBNe, lenOf_imm, rowsE, ev1, Ev.cells, List.map_cons, List.map_nil, List.length_cons, List.length_nil, decide_true, Bool.and_self]
  first | exact rfl | exact ⟨rfl, rfl⟩
def awakeD (args : List AV) (σ : AHeap) (K : AV → AHeap → Prop) : Prop := args = [] ∧ K (.bool true) σ
theorem awakeD_ok (args : List AV) (σ : AHeap) (K : AV → AHeap → Prop) (h : awakeD args σ K) : Tri Tryd.prog 6 args σ K := by
  obtain ⟨rfl, h⟩ := h
  exact (Tri.pureD rfl awake_ok σ).mono fun r σ' hr => by rw [hr.1, hr.2]; exact h
end Go.Proofs.YtbamlhgjpggihaaDoor.tale

/- Rows of Small, line, made, same; how events are read. -/
set_option linter.unusedVariables false
set_option linter.unusedSimpArgs false
namespace Go.Proofs.YtbamlhgjpggihaaDoor.tale
open Go.ChangeShapes Go.WideShapes Go.ChangeAt Go.RowKit Go.Gz Go.Gz.H
set_option maxHeartbeats 4000000
set_option maxRecDepth 10000
def lineD (args : List AV) (σ : AHeap) (K : AV → AHeap → Prop) : Prop := ∃ x : Ev, args = [.agg x.cells] ∧ EvOk x ∧ K (.str (lineS x)) σ
theorem lineD_ok (args : List AV) (σ : AHeap) (K : AV → AHeap → Prop) (h : lineD args σ K) : Tri Tryd.prog 8 args σ K := by
  obtain ⟨x, rfl, hx, h⟩ := h
  exact (Tri.pureD rfl (line_ok x hx) σ).mono fun r σ' hr => by rw [hr.1, hr.2]; exact h
/-- What may come in. -/
structure EvIn (e : Ev) : Prop where
  w0 : -9223372036854775808 ≤ e.who
  w1 : e.who ≤ 9223372036854775807
  n0 : -9223372036854775808 ≤ e.n
  n1 : e.n ≤ 9223372036854775807
  t : e.text.length ≤ reachBytes
  v : e.val.length ≤ reachBytes
  i : e.into.length ≤ reachBytes
theorem in_ok {l : List Ev} {m : Nat} (h : ∀ e ∈ l, EvIn e) (hs : SmallE l m) : ∀ e ∈ l, EvOk e := fun e he =>
  ⟨(h e he).w0, (h e he).w1, (h e he).n0, (h e he).n1, by have := hs.2 e he; omega⟩
def smallD (args : List AV) (σ : AHeap) (K : AV → AHeap → Prop) : Prop := ∃ (l : List Ev) (m : Nat), args = [.imm (rowsE l) false false, .int .i64 (m : Int)] ∧ l.length ≤ reachBytes ∧ (∀ e ∈ l, EvIn e) ∧ ∀ b, (b = true → SmallE l m) → K (.bool b) σ
theorem smallD_ok (args : List AV) (σ : AHeap) (K : AV → AHeap → Prop) (h : smallD args σ K) : Tri Tryd.prog 7 args σ K := by
  obtain ⟨l, m, rfl, h1, h2, h⟩ := h
  have hp : pureL [.imm (rowsE l) false false, .int .i64 (m : Int)] = true := by simp only [pureL, AV.pure, rowsE_pure, Bool.and_self]
  exact (Tri.pureD hp (small_ok l m h1 fun e he => ⟨(h2 e he).t, (h2 e he).v, (h2 e he).i⟩) σ).mono fun r σ' hr => by
    obtain ⟨⟨b, rfl, hb⟩, rfl⟩ := hr
    exact h b hb
def madeD (args : List AV) (σ : AHeap) (K : AV → AHeap → Prop) : Prop := ∃ l : List Ev, args = [.imm (rowsE l) false false] ∧ l.length ≤ 1000000 ∧ K (.imm (rowsE l) false false) σ
theorem madeD_ok (args : List AV) (σ : AHeap) (K : AV → AHeap → Prop) (h : madeD args σ K) : Tri Tryd.prog 10 args σ K := by
  obtain ⟨l, rfl, h1, h⟩ := h
  have hp : pureL [.imm (rowsE l) false false] = true := by simp only [pureL, AV.pure, rowsE_pure, Bool.and_self]
  exact (Tri.pureD hp (made_ok l h1) σ).mono fun r σ' hr => by rw [hr.1, hr.2]; exact h
def sameD (args : List AV) (σ : AHeap) (K : AV → AHeap → Prop) : Prop := ∃ (l : List Ev) (v : AV), args = [.imm (rowsE l) false false, v] ∧ wv σ [] v (.imm (rowsE l) false false) ∧ l.length ≤ 1000000 ∧ K (.bool true) σ
theorem sameD_ok (args : List AV) (σ : AHeap) (K : AV → AHeap → Prop) (h : sameD args σ K) : Tri Tryd.prog 12 args σ K := by
  obtain ⟨l, v, rfl, hv, h1, h⟩ := h
  refine (Tri.view (args1 := [.imm (rowsE l) false false, .imm (rowsE l) false false]) ?_ (same_ok l h1)).mono fun r σ' hr => by rw [hr.1, hr.2]; exact h
  simp only [wvs, and_true]; exact ⟨wv_imm l, hv⟩
theorem wv_grow {σ : AHeap} {v : AV} {l : List Ev} (h : Grow σ v 6 (rowsE l)) : wv σ [] v (.imm (rowsE l) false false) := by
  rcases h with ⟨rfl, h0⟩ | ⟨d, rfl, hd, h3, _⟩
  · unfold wv; exact ⟨h0, rfl⟩
  · unfold wv
    refine ⟨by simp, ⟨_, hd, ?_⟩, rfl, h3, by simp, by simp, rowsE_flat l⟩
    exact sub_all (flat_len h3).symm
/-! How events come in. -/
theorem rdEv : Rd Tryd.prog 27 Ev.cells EvIn := by
  have hu : Tryd.prog.underlying 27 = some (.struct (Tryd.prog.fieldsOf 27)) := by kernel_rfl
  have hf : (Tryd.prog.fieldsOf 27).toList = [⟨ "Do", 3, 0, false, "", "", 0⟩, ⟨ "Who", 3, 1, false, "", "", 8⟩, ⟨ "N", 3, 2, false, "", "", 16⟩, ⟨ "Text", 9, 3, false, "", "", 24⟩, ⟨ "Val", 9, 4, false, "", "", 40⟩, ⟨ "To", 9, 5, false, "", "", 56⟩] := by kernel_rfl
  have h := rdf_cons (P := Tryd.prog) (f := ⟨ "Do", 3, 0, false, "", "", 0⟩) (o := 0) rfl (rd_int (k := .i64) (by kernel_rfl))
    (rdf_cons (f := ⟨ "Who", 3, 1, false, "", "", 8⟩) (by kernel_rfl) (rd_int (k := .i64) (by kernel_rfl)) (rdf_cons (f := ⟨ "N", 3, 2, false, "", "", 16⟩) (by kernel_rfl) (rd_int (k := .i64) (by kernel_rfl)) (rdf_cons (f := ⟨ "Text", 9, 3, false, "", "", 24⟩) (by kernel_rfl) (rd_str (by kernel_rfl)) (rdf_cons (f := ⟨ "Val", 9, 4, false, "", "", 40⟩) (by kernel_rfl) (rd_str (by kernel_rfl)) (rdf_cons (f := ⟨ "To", 9, 5, false, "", "", 56⟩) (by kernel_rfl) (rd_str (by kernel_rfl)) (rdf_nil _))))))
  rw [← hf] at h
  exact (rd_struct hu (by kernel_rfl) h).map (fun x => (⟨x.1, x.2.1, x.2.2.1, x.2.2.2.1, x.2.2.2.2.1, x.2.2.2.2.2.1⟩ : Ev)) (fun x => rfl)
    (fun x hx => ⟨hx.2.1.1, hx.2.1.2, hx.2.2.1.1, hx.2.2.1.2, hx.2.2.2.1, hx.2.2.2.2.1, hx.2.2.2.2.2.1⟩)
theorem argEvs : Arg Tryd.prog 22 (fun l : List Ev => .imm (l.map Ev.cells) false false) (fun l => l.length * Tryd.prog.bytesOf 27 ≤ reachBytes ∧ ∀ y ∈ l, EvIn y) :=
  arg_slice (e := 27) (by kernel_rfl) (by decide +kernel) rdEv
theorem len_in {l : List Ev} (h : l.length * Tryd.prog.bytesOf 27 ≤ reachBytes) : l.length ≤ reachBytes := by
  have hb : Tryd.prog.bytesOf 27 = 72 := by kernel_rfl
  rw [hb] at h; omega
end Go.Proofs.YtbamlhgjpggihaaDoor.tale

/- The law of TaleJoins, walked: yes, whatever the events and the cut. Condition: what comes in as such a law's arguments. -/
set_option linter.unusedVariables false
set_option linter.unusedSimpArgs false
namespace Go.Proofs.YtbamlhgjpggihaaDoor.tale
open Go.RowKit Go.Gz Go.Gz.H
abbrev r5_0 : List MOper := [⟨(some 6), .move (.c (.bool false)), none⟩]
def b5_0 : SCode := .region r5_0
abbrev r5_1 : List MOper := [⟨(some 15), .call 6 [], none⟩,
  ⟨(some 16), .un .not (.t 15), none⟩]
def b5_1 : SCode := .region r5_1
abbrev r5_2 : List MOper := [⟨(some 6), .move (.c (.bool false)), none⟩]
def b5_2 : SCode := .region r5_2
def b5_3 : SCode := .seq b5_2 .ret
def b5_4 : SCode := .cond (.t 16) b5_3 .skip
def b5_5 : SCode := .seq b5_1 b5_4
abbrev r5_6 : List MOper := [⟨(some 17), .move (.t 0), none⟩,
  ⟨(some 18), .call 7 [(.t 17), (.c (.int .i64 60))], none⟩,
  ⟨(some 19), .un .not (.t 18), none⟩,
  ⟨(some 20), .move (.t 19), none⟩,
  ⟨(some 21), .move (.t 1), (some (20, false))⟩,
  ⟨(some 22), .call 7 [(.t 21), (.c (.int .i64 60))], (some (20, false))⟩,
  ⟨(some 23), .un .not (.t 22), (some (20, false))⟩,
  ⟨(some 24), .pick (.t 20) (.c (.bool true)) (.t 23), none⟩]
def b5_6 : SCode := .region r5_6
abbrev r5_7 : List MOper := [⟨(some 6), .move (.c (.bool true)), none⟩]
def b5_7 : SCode := .region r5_7
def b5_8 : SCode := .seq b5_7 .ret
def b5_9 : SCode := .cond (.t 24) b5_8 .skip
def b5_10 : SCode := .seq b5_6 b5_9
abbrev r5_11 : List MOper := [⟨(some 25), .move (.t 0), none⟩,
  ⟨(some 26), .call 10 [(.t 25)], none⟩,
  ⟨(some 27), .call 9 [(.t 26)], none⟩,
  ⟨(some 28), .move (.t 1), none⟩,
  ⟨(some 29), .call 10 [(.t 28)], none⟩,
  ⟨(some 30), .call 9 [(.t 29)], none⟩,
  ⟨(some 7), .move (.t 27), none⟩,
  ⟨(some 8), .move (.t 30), none⟩]
def b5_11 : SCode := .region r5_11
abbrev r5_12 : List MOper := [⟨(some 31), .buildSlice [.int .i64 0, .int .i64 0, .int .i64 0, .str [], .str [], .str []] 6 0 [], none⟩,
  ⟨(some 32), .move (.t 0), none⟩,
  ⟨(some 33), .append 6 72 (.t 31) (.t 32), none⟩,
  ⟨(some 34), .move (.t 1), none⟩,
  ⟨(some 35), .append 6 72 (.t 33) (.t 34), none⟩,
  ⟨(some 9), .move (.t 35), none⟩]
def b5_12 : SCode := .region r5_12
abbrev r5_13 : List MOper := [⟨(some 36), .move (.t 9), none⟩,
  ⟨(some 37), .call 10 [(.t 36)], none⟩,
  ⟨(some 38), .call 9 [(.t 37)], none⟩,
  ⟨(some 39), .move (.t 7), none⟩,
  ⟨(some 40), .move (.t 8), none⟩,
  ⟨(some 41), .bin .add .num (.t 39) (.t 40), none⟩,
  ⟨(some 42), .bin .neq .num (.t 38) (.t 41), none⟩]
def b5_13 : SCode := .region r5_13
abbrev r5_14 : List MOper := [⟨(some 6), .move (.c (.bool false)), none⟩]
def b5_14 : SCode := .region r5_14
def b5_15 : SCode := .seq b5_14 .ret
def b5_16 : SCode := .cond (.t 42) b5_15 .skip
def b5_17 : SCode := .seq b5_13 b5_16
abbrev r5_18 : List MOper := [⟨(some 43), .move (.t 2), none⟩,
  ⟨(some 44), .convInt .i64 (.t 43), none⟩,
  ⟨(some 45), .move (.t 7), none⟩,
  ⟨(some 46), .lenStr (.t 45), none⟩,
  ⟨(some 47), .bin .add .num (.t 46) (.c (.int .i64 1)), none⟩,
  ⟨(some 48), .bin .rem .num (.t 44) (.t 47), none⟩,
  ⟨(some 10), .move (.t 48), none⟩]
def b5_18 : SCode := .region r5_18
abbrev r5_19 : List MOper := [⟨(some 50), .move (.t 7), none⟩,
  ⟨(some 51), .move (.t 10), none⟩,
  ⟨(some 52), .sliceStr (.t 50) none (some (.t 51)), none⟩,
  ⟨(some 53), .call 11 [(.t 52)], none⟩,
  ⟨(some 49), .move (.t 53), none⟩,
  ⟨(some 54), .extract (.t 49) 0, none⟩,
  ⟨(some 55), .extract (.t 49) 1, none⟩,
  ⟨(some 11), .move (.t 54), none⟩,
  ⟨(some 12), .move (.t 55), none⟩]
def b5_19 : SCode := .region r5_19
abbrev r5_20 : List MOper := [⟨(some 56), .move (.t 10), none⟩,
  ⟨(some 57), .bin .eql .num (.t 56) (.c (.int .i64 0)), none⟩,
  ⟨(some 58), .move (.t 57), none⟩,
  ⟨(some 59), .move (.t 7), (some (58, false))⟩,
  ⟨(some 60), .move (.t 10), (some (58, false))⟩,
  ⟨(some 61), .bin .sub .num (.t 60) (.c (.int .i64 1)), (some (58, false))⟩,
  ⟨(some 62), .indexStr (.t 59) (.t 61), (some (58, false))⟩,
  ⟨(some 63), .bin .eql .num (.t 62) (.c (.int .u8 10)), (some (58, false))⟩,
  ⟨(some 64), .pick (.t 58) (.c (.bool true)) (.t 63), none⟩,
  ⟨(some 13), .move (.t 64), none⟩]
def b5_20 : SCode := .region r5_20
abbrev r5_21 : List MOper := [⟨(some 14), .move (.c (.int .i64 0)), none⟩]
def b5_21 : SCode := .region r5_21
abbrev r5_22 : List MOper := [⟨(some 65), .move (.t 14), none⟩,
  ⟨(some 66), .move (.t 0), none⟩,
  ⟨(some 67), .lenSl (.t 66), none⟩,
  ⟨(some 68), .bin .lss .num (.t 65) (.t 67), none⟩]
def b5_22 : SCode := .region r5_22
def b5_23 : SCode := .cond (.t 68) .skip (.exit 0)
def b5_24 : SCode := .seq b5_22 b5_23
abbrev r5_25 : List MOper := [⟨(some 71), .move (.t 0), none⟩,
  ⟨(some 72), .move (.t 14), none⟩,
  ⟨(some 73), .indexAddr 6 (.t 71) (.t 72), none⟩,
  ⟨(some 74), .fieldAddr 1 (.t 73), none⟩,
  ⟨(some 75), .load1 (.t 74), none⟩,
  ⟨(some 76), .bin .geq .num (.t 75) (.c (.int .i64 100000000000000000)), none⟩,
  ⟨(some 77), .move (.t 76), none⟩,
  ⟨(some 78), .move (.t 0), (some (77, false))⟩,
  ⟨(some 79), .move (.t 14), (some (77, false))⟩,
  ⟨(some 80), .indexAddr 6 (.t 78) (.t 79), (some (77, false))⟩,
  ⟨(some 81), .fieldAddr 2 (.t 80), (some (77, false))⟩,
  ⟨(some 82), .load1 (.t 81), (some (77, false))⟩,
  ⟨(some 83), .bin .geq .num (.t 82) (.c (.int .i64 100000000000000000)), (some (77, false))⟩,
  ⟨(some 84), .pick (.t 77) (.c (.bool true)) (.t 83), none⟩]
def b5_25 : SCode := .region r5_25
abbrev r5_26 : List MOper := [⟨(some 6), .move (.c (.bool true)), none⟩]
def b5_26 : SCode := .region r5_26
def b5_27 : SCode := .seq b5_26 .ret
def b5_28 : SCode := .cond (.t 84) b5_27 .skip
def b5_29 : SCode := .seq b5_25 b5_28
def b5_30 : SCode := .block 1 b5_29
abbrev r5_31 : List MOper := [⟨(some 69), .move (.t 14), none⟩,
  ⟨(some 70), .bin .add .num (.t 69) (.c (.int .i64 1)), none⟩,
  ⟨(some 14), .move (.t 70), none⟩]
def b5_31 : SCode := .region r5_31
def b5_32 : SCode := .seq b5_30 b5_31
def b5_33 : SCode := .seq b5_24 b5_32
def b5_34 : SCode := .loop b5_33
def b5_35 : SCode := .block 0 b5_34
def b5_36 : SCode := .seq b5_21 b5_35
abbrev r5_37 : List MOper := [⟨(some 85), .move (.t 12), none⟩,
  ⟨(some 86), .bin .eql .num (.t 85) (.c (.int .i64 0)), none⟩,
  ⟨(some 87), .move (.t 13), none⟩,
  ⟨(some 88), .bin .eql .bool (.t 86) (.t 87), none⟩,
  ⟨(some 89), .move (.t 88), none⟩,
  ⟨(some 90), .move (.t 13), (some (89, true))⟩,
  ⟨(some 91), .move (.t 90), (some (89, true))⟩,
  ⟨(some 92), .move (.t 12), (some (91, false))⟩,
  ⟨(some 93), .bin .eql .num (.t 92) (.c (.int .i64 5)), (some (91, false))⟩,
  ⟨(some 94), .pick (.t 91) (.c (.bool true)) (.t 93), (some (89, true))⟩,
  ⟨(some 95), .pick (.t 89) (.t 94) (.c (.bool false)), none⟩,
  ⟨(some 6), .move (.t 95), none⟩]
def b5_37 : SCode := .region r5_37
def b5_38 : SCode := .seq b5_37 .ret
def b5_39 : SCode := .seq b5_36 b5_38
def b5_40 : SCode := .seq b5_20 b5_39
def b5_41 : SCode := .seq b5_19 b5_40
def b5_42 : SCode := .seq b5_18 b5_41
def b5_43 : SCode := .seq b5_17 b5_42
def b5_44 : SCode := .seq b5_12 b5_43
def b5_45 : SCode := .seq b5_11 b5_44
def b5_46 : SCode := .seq b5_10 b5_45
def b5_47 : SCode := .seq b5_5 b5_46
def b5_48 : SCode := .seq b5_0 b5_47
def s5 : SFunc := ⟨96, [.t 6], b5_48⟩
theorem c5 : sFn Tryd.prog 5 = some s5 := by kernel_rfl
theorem x5_39 : XS b5_39 b5_36 b5_38 := rfl
theorem Z5 : XR b5_0 r5_0 ∧ XR b5_1 r5_1 ∧ XR b5_2 r5_2 ∧ XS b5_3 b5_2 .ret ∧ XC b5_4 (.t 16) b5_3 .skip ∧ XS b5_5 b5_1 b5_4 ∧ XR b5_6 r5_6 ∧ XR b5_7 r5_7 ∧ XS b5_8 b5_7 .ret ∧ XC b5_9 (.t 24) b5_8 .skip ∧ XS b5_10 b5_6 b5_9 ∧ XR b5_11 r5_11 ∧ XR b5_12 r5_12 ∧ XR b5_13 r5_13 ∧ XR b5_14 r5_14 ∧ XS b5_15 b5_14 .ret ∧ XC b5_16 (.t 42) b5_15 .skip ∧ XS b5_17 b5_13 b5_16 ∧ XR b5_18 r5_18 ∧ XR b5_19 r5_19 ∧ XR b5_20 r5_20 ∧ XR b5_21 r5_21 ∧ XR b5_22 r5_22 ∧ XC b5_23 (.t 68) .skip (.exit 0) ∧ XS b5_24 b5_22 b5_23 ∧ XR b5_25 r5_25 ∧ XR b5_26 r5_26 ∧ XS b5_27 b5_26 .ret ∧ XC b5_28 (.t 84) b5_27 .skip ∧ XS b5_29 b5_25 b5_28 ∧ XB b5_30 1 b5_29 ∧ XR b5_31 r5_31 ∧ XS b5_32 b5_30 b5_31 ∧ XS b5_33 b5_24 b5_32 ∧ XB b5_35 0 b5_34 ∧ XS b5_36 b5_21 b5_35 ∧ XR b5_37 r5_37 ∧ XS b5_38 b5_37 .ret ∧ XS b5_40 b5_20 b5_39 ∧ XS b5_41 b5_19 b5_40 ∧ XS b5_42 b5_18 b5_41 ∧ XS b5_43 b5_17 b5_42 ∧ XS b5_44 b5_12 b5_43 ∧ XS b5_45 b5_11 b5_44 ∧ XS b5_46 b5_10 b5_45 ∧ XS b5_47 b5_5 b5_46 ∧ XS b5_48 b5_0 b5_47 ∧ XY s5 96 b5_48 [.t 6] := ⟨rfl, rfl, rfl, rfl, sC_cond, rfl, rfl, rfl, rfl, sC_cond, rfl, rfl, rfl, rfl, rfl, rfl, sC_cond, rfl, rfl, rfl, rfl, rfl, rfl, sC_cond, rfl, rfl, rfl, rfl, sC_cond, rfl, rfl, rfl, rfl, rfl, rfl, rfl, rfl, rfl, rfl, rfl, rfl, rfl, rfl, rfl, rfl, rfl, rfl, rfl⟩

set_option maxHeartbeats 4000000
set_option maxRecDepth 10000
def madeG (args : List AV) (σ : AHeap) (K : AV → AHeap → Prop) : Prop :=
  (∃ l : List Ev, args = [.imm (rowsE l) false false] ∧ l.length ≤ 1000000 ∧ K (.imm (rowsE l) false false) σ) ∨
  (∃ (l : List Ev) (d : Nat), args = [.slice d 0 l.length none 6] ∧ hget σ d = some (rowsE l).flatten ∧ l.length ≤ 1000000 ∧ K (.imm (rowsE l) false false) (hkill σ d))
theorem madeG_ok (args : List AV) (σ : AHeap) (K : AV → AHeap → Prop) (h : madeG args σ K) : Tri Tryd.prog 10 args σ K := by
  rcases h with h | ⟨l, d, rfl, hd, hl, h⟩
  · exact madeD_ok args σ K h
  · refine (Tri.give (args := [.slice d 0 l.length none 6]) (args1 := [.imm (rowsE l) false false]) (σ := σ) d rfl (given1 (x := .slice d 0 l.length none 6) (y := .imm (rowsE l) false false) (.inr (.inr ⟨0, l.length, none, 6, _, rowsE l, rfl, rfl, hd, ?_, by simp, rowsE_six l, rowsE_pure l⟩))) (made_ok l hl)).mono fun r σ' hr => by rw [hr.1, hr.2]; exact h
    exact sub_all (by rw [flat_len (rowsE_six l)]; simp)
def U5 : PCall := rowQ 6 awakeD (rowQ 7 smallD (rowQ 10 madeG (rowQ 9 textD (rowQ 11 readD noCall))))
theorem U5_app {f : FuncId} {args : List AV} {σ : AHeap} {K : AV → AHeap → Prop} : U5 f args σ K = rowQ 6 awakeD (rowQ 7 smallD (rowQ 10 madeG (rowQ 9 textD (rowQ 11 readD noCall)))) f args σ K := _root_.id rfl
theorem U5_sound : Sound Tryd.prog U5 := rowQ_sound awakeD_ok (rowQ_sound smallD_ok (rowQ_sound madeG_ok (rowQ_sound textD_ok (rowQ_sound readD_ok (noCall_sound _)))))
theorem sl_to {s : List UInt8} {k : Nat} (h : k ≤ s.length) : evSliceStr (.str s) none (some (.int .i64 (k : Int))) = some (.str (s.take k)) := by
  have h1 : bound? (some (.int .i64 (k : Int))) s.length s.length = some k := by
    simp only [bound?, ofInt?]
    rw [if_pos ⟨by omega, by omega⟩]; simp
  have h2 : bound? none 0 k = some 0 := rfl
  simp only [evSliceStr, h1, h2, List.drop_zero]
theorem rowsE_cell (l : List Ev) : ((rowsE l).flatten.all fun x => x.isCell) = true := by
  rw [List.all_eq_true]
  intro x hx
  obtain ⟨r, hr, hx⟩ := List.mem_flatten.1 hx
  obtain ⟨e, _, rfl⟩ := List.mem_map.1 hr
  simp only [Ev.cells, List.mem_cons, List.not_mem_nil, or_false] at hx
  rcases hx with rfl | rfl | rfl | rfl | rfl | rfl <;> rfl
theorem rowsE_elems (σ : AHeap) (l : List Ev) : elemsOf σ 6 (.imm (rowsE l) false false) = some (rowsE l).flatten := by
  have : ((rowsE l).all fun r => r.length == 6) = true := by
    rw [List.all_eq_true]
    intro r hr
    rw [rowsE_six l r hr]; rfl
  simp only [elemsOf, this, if_true]
theorem app1 (a : List Ev) (ha : a.length ≤ 1000) : evAppend 6 72 (.slice 0 0 0 (some 0) 6) (.imm (rowsE a) false false) [some []] = some (.slice 1 0 a.length none 6, [some [], some (rowsE a).flatten]) := by
  have hg : mayGrow (0 + a.length) 72 = true := by simp only [mayGrow, decide_eq_true_eq]; omega
  unfold evAppend
  rw [rowsE_elems, lenOf_imm, lenOf_sl]
  simp only [List.length_map, hg, rowsE_cell, Bool.and_self, if_true, grown]
  rfl
theorem app2 (a b : List Ev) (ha : a.length ≤ 1000) (hb : b.length ≤ 1000) : evAppend 6 72 (.slice 1 0 a.length none 6) (.imm (rowsE b) false false) [some [], some (rowsE a).flatten] = some (.slice 2 0 (a ++ b).length none 6, [some [], none, some (rowsE (a ++ b)).flatten]) := by
  have hg : mayGrow (a.length + b.length) 72 = true := by simp only [mayGrow, decide_eq_true_eq]; omega
  have he : elemsOf [some [], some (rowsE a).flatten] 6 (.slice 1 0 a.length none 6) = some (rowsE a).flatten := by
    have h1 : hget [some [], some (rowsE a).flatten] 1 = some (rowsE a).flatten := rfl
    simp only [elemsOf, if_true, h1, Option.bind_some]
    exact sub_all (by rw [flat_len (rowsE_six a)]; simp)
  unfold evAppend
  rw [rowsE_elems, lenOf_imm, lenOf_sl]
  simp only [List.length_map, hg, rowsE_cell, Bool.and_self, if_true, he, Option.map_some, grown, List.length_append]
  have : (rowsE (a ++ b)).flatten = (rowsE a).flatten ++ (rowsE b).flatten := by simp [rowsE]
  rw [this]; rfl
def tjI (a : List Ev) (c : Int) (w : Bool) (m : Nat) (e : Env) (σ : AHeap) : Prop := ∃ i : Nat, i ≤ a.length ∧ m = a.length - i ∧ e 0 = .imm (rowsE a) false false ∧ e 12 = .int .i64 c ∧ e 13 = .bool w ∧ e 14 = .int .i64 (i : Int) ∧ ∀ x ∈ a.take i, EvLow x
theorem tj_loop (a : List Ev) (ha : a.length ≤ 60) (c : Int) (w : Bool) (hcw : (∀ x ∈ a, EvLow x) → (c = 0 ∧ w = true) ∨ (c = 5 ∧ w = false)) (e : Env) (σ : AHeap) (e0 : e 0 = .imm (rowsE a) false false) (e12 : e 12 = .int .i64 c) (e13 : e 13 = .bool w) :
    sC U5 0 b5_39 (unw U5 0 (RetQ [.t 6] Yes) .fin) e σ := by
  simp only [U5_app, Z5, x5_39, base1, baseX, baseY, ↓reduceIte, Nat.reduceAdd, Nat.reduceSub, Nat.reduceMul, Nat.reduceEqDiff, Nat.reduceLeDiff, Nat.reduceLT, Int.reduceLT, Int.reduceLE, Int.reduceEq, Int.reduceNe, Int.reduceToNat, Int.reduceAdd, Int.reduceSub, reduceCtorEq, Nat.reduceBEq, Nat.reduceBNe, e0, e12, e13]
  refine sC_inv (a := b5_33) (tjI a c w) a.length _ _ (.refl _ _ _) ?_ ?_
  · exact ⟨0, by omega, by omega, e0, e12, e13, rfl, by simp⟩
  rintro m e σ ⟨i, hi, hm, e0, e12, e13, e14, hlow⟩
  by_cases hlt : (i : Int) < (a.length : Int)
  · have k1 : i < a.length := by omega
    have k0 : (0 : Int) ≤ (i : Int) := by omega
    have hwr : IntKind.wrap .i64 ((i : Int) + 1) = ((i + 1 : Nat) : Int) := by rw [Gz.wrap64 (by omega)]; omega
    obtain ⟨x, hx⟩ : ∃ x, a[i]? = some x := ⟨_, List.getElem?_eq_getElem k1⟩
    have hrow : (rowsE a)[i]? = some x.cells := by rw [rowsE, List.getElem?_map, hx]; rfl
    have htk : a.take (i + 1) = a.take i ++ [x] := by rw [List.take_add_one, hx]; rfl
    have low : x.who < 100000000000000000 → x.n < 100000000000000000 → ∀ y ∈ a.take (i + 1), EvLow y := fun q1 q2 y hy => by
      rw [htk] at hy
      rcases List.mem_append.1 hy with hy | hy
      · exact hlow y hy
      · simp at hy; subst hy; exact ⟨q1, q2⟩
    have hq1 : decide (100000000000000000 ≤ x.who) = false → x.who < 100000000000000000 := fun h => by have := of_decide_eq_false h; omega
    have hq2 : decide (100000000000000000 ≤ x.n) = false → x.n < 100000000000000000 := fun h => by have := of_decide_eq_false h; omega
    obtain ⟨act, who, n, text, val, into⟩ := x
    simp only [Ev.cells] at hrow
    simp only at hq1 hq2 low
    cases c1 : decide (100000000000000000 ≤ who) with
    | true =>
      simp only [U5_app, Z5, x5_39, base1, baseX, baseY, ↓reduceIte, Nat.reduceAdd, Nat.reduceSub, Nat.reduceMul, Nat.reduceEqDiff, Nat.reduceLeDiff, Nat.reduceLT, Int.reduceLT, Int.reduceLE, Int.reduceEq, Int.reduceNe, Int.reduceToNat, Int.reduceAdd, Int.reduceSub, reduceCtorEq, Nat.reduceBEq, Nat.reduceBNe, lenOf_imm, loopR_exit, loopR_ret, e0, e12, e13, e14, hlt, List.length_map, k0, k1, Int.toNat_natCast, hrow, c1]
      exact rfl
    | false =>
      cases c2 : decide (100000000000000000 ≤ n) with
      | true =>
        simp only [U5_app, Z5, x5_39, base1, baseX, baseY, ↓reduceIte, Nat.reduceAdd, Nat.reduceSub, Nat.reduceMul, Nat.reduceEqDiff, Nat.reduceLeDiff, Nat.reduceLT, Int.reduceLT, Int.reduceLE, Int.reduceEq, Int.reduceNe, Int.reduceToNat, Int.reduceAdd, Int.reduceSub, reduceCtorEq, Nat.reduceBEq, Nat.reduceBNe, lenOf_imm, loopR_exit, loopR_ret, e0, e12, e13, e14, hlt, List.length_map, k0, k1, Int.toNat_natCast, hrow, c1, c2]
        exact rfl
      | false =>
        simp only [U5_app, Z5, x5_39, base1, baseX, baseY, ↓reduceIte, Nat.reduceAdd, Nat.reduceSub, Nat.reduceMul, Nat.reduceEqDiff, Nat.reduceLeDiff, Nat.reduceLT, Int.reduceLT, Int.reduceLE, Int.reduceEq, Int.reduceNe, Int.reduceToNat, Int.reduceAdd, Int.reduceSub, reduceCtorEq, Nat.reduceBEq, Nat.reduceBNe, lenOf_imm, loopR_exit, loopR_ret, e0, e12, e13, e14, hlt, List.length_map, k0, k1, Int.toNat_natCast, hrow, c1, c2, hwr]
        rw [loopR_normal]
        exact ⟨a.length - (i + 1), _, _, by omega, .refl _ _ _, i + 1, k1, rfl, e0, e12, e13, rfl, low (hq1 c1) (hq2 c2)⟩
  · have hi' : i = a.length := by omega
    subst hi'
    rw [List.take_length] at hlow
    rcases hcw hlow with ⟨rfl, rfl⟩ | ⟨rfl, rfl⟩
    · simp only [U5_app, Z5, x5_39, base1, baseX, baseY, ↓reduceIte, Nat.reduceAdd, Nat.reduceSub, Nat.reduceMul, Nat.reduceEqDiff, Nat.reduceLeDiff, Nat.reduceLT, Int.reduceLT, Int.reduceLE, Int.reduceEq, Int.reduceNe, Int.reduceToNat, Int.reduceAdd, Int.reduceSub, reduceCtorEq, Nat.reduceBEq, Nat.reduceBNe, lenOf_imm, loopR_exit, loopR_ret, e0, e12, e13, e14, hlt, List.length_map, beq_self_eq_true]
      exact rfl
    · simp only [U5_app, Z5, x5_39, base1, baseX, baseY, ↓reduceIte, Nat.reduceAdd, Nat.reduceSub, Nat.reduceMul, Nat.reduceEqDiff, Nat.reduceLeDiff, Nat.reduceLT, Int.reduceLT, Int.reduceLE, Int.reduceEq, Int.reduceNe, Int.reduceToNat, Int.reduceAdd, Int.reduceSub, reduceCtorEq, Nat.reduceBEq, Nat.reduceBNe, lenOf_imm, loopR_exit, loopR_ret, e0, e12, e13, e14, hlt, List.length_map, beq_self_eq_true]
      exact rfl
theorem eq10 (c : UInt8) : abin .eql .num (byteAV c) (.int .u8 10) = some (.bool (decide (c = 10))) := by
  have : abin .eql .num (byteAV c) (.int .u8 10) = some (.bool (decide ((c.toNat : Int) = 10))) := abin_eql
  rw [this]
  congr 3
  simp only [eq_iff_iff]
  constructor
  · intro h
    have h' : c.toNat = 10 := by omega
    exact UInt8.toNat_inj.1 h'
  · intro h; subst h; rfl
theorem tj_ok (a b : List Ev) (cut : Nat) (h1 : a.length ≤ reachBytes) (h2 : ∀ x ∈ a, EvIn x) (h3 : b.length ≤ reachBytes) (h4 : ∀ x ∈ b, EvIn x) (hc : cut ≤ 65535) :
    Tri Tryd.prog 5 [.imm (rowsE a) false false, .imm (rowsE b) false false, .int .u16 (cut : Int)] [] Yes := by
  refine Tri.of_s c5 U5_sound ?_
  simp only [U5_app, Z5, x5_39, base1, baseX, baseY, ↓reduceIte, Nat.reduceAdd, Nat.reduceSub, Nat.reduceMul, Nat.reduceEqDiff, Nat.reduceLeDiff, Nat.reduceLT, Int.reduceLT, Int.reduceLE, Int.reduceEq, Int.reduceNe, Int.reduceToNat, Int.reduceAdd, Int.reduceSub, reduceCtorEq, Nat.reduceBEq, Nat.reduceBNe]
  refine ⟨rfl, ?_⟩
  simp only [U5_app, Z5, x5_39, base1, baseX, baseY, ↓reduceIte, Nat.reduceAdd, Nat.reduceSub, Nat.reduceMul, Nat.reduceEqDiff, Nat.reduceLeDiff, Nat.reduceLT, Int.reduceLT, Int.reduceLE, Int.reduceEq, Int.reduceNe, Int.reduceToNat, Int.reduceAdd, Int.reduceSub, reduceCtorEq, Nat.reduceBEq, Nat.reduceBNe, Bool.not_true]
  refine ⟨a, 60, rfl, h1, h2, fun p hp => ?_⟩
  cases p with
  | false =>
    simp only [U5_app, Z5, x5_39, base1, baseX, baseY, ↓reduceIte, Nat.reduceAdd, Nat.reduceSub, Nat.reduceMul, Nat.reduceEqDiff, Nat.reduceLeDiff, Nat.reduceLT, Int.reduceLT, Int.reduceLE, Int.reduceEq, Int.reduceNe, Int.reduceToNat, Int.reduceAdd, Int.reduceSub, reduceCtorEq, Nat.reduceBEq, Nat.reduceBNe, Bool.not_false]
    exact rfl
  | true =>
    simp only [U5_app, Z5, x5_39, base1, baseX, baseY, ↓reduceIte, Nat.reduceAdd, Nat.reduceSub, Nat.reduceMul, Nat.reduceEqDiff, Nat.reduceLeDiff, Nat.reduceLT, Int.reduceLT, Int.reduceLE, Int.reduceEq, Int.reduceNe, Int.reduceToNat, Int.reduceAdd, Int.reduceSub, reduceCtorEq, Nat.reduceBEq, Nat.reduceBNe, Bool.not_true]
    refine ⟨b, 60, rfl, h3, h4, fun q hq => ?_⟩
    cases q with
    | false =>
      simp only [U5_app, Z5, x5_39, base1, baseX, baseY, ↓reduceIte, Nat.reduceAdd, Nat.reduceSub, Nat.reduceMul, Nat.reduceEqDiff, Nat.reduceLeDiff, Nat.reduceLT, Int.reduceLT, Int.reduceLE, Int.reduceEq, Int.reduceNe, Int.reduceToNat, Int.reduceAdd, Int.reduceSub, reduceCtorEq, Nat.reduceBEq, Nat.reduceBNe, Bool.not_false, Bool.not_true]
      exact rfl
    | true =>
      have sa := hp rfl
      have sb := hq rfl
      have oka := in_ok h2 sa
      have okb := in_ok h4 sb
      have la := sa.1
      have lb := sb.1
      simp only [U5_app, Z5, x5_39, base1, baseX, baseY, ↓reduceIte, Nat.reduceAdd, Nat.reduceSub, Nat.reduceMul, Nat.reduceEqDiff, Nat.reduceLeDiff, Nat.reduceLT, Int.reduceLT, Int.reduceLE, Int.reduceEq, Int.reduceNe, Int.reduceToNat, Int.reduceAdd, Int.reduceSub, reduceCtorEq, Nat.reduceBEq, Nat.reduceBNe, Bool.not_true]
      refine .inl ⟨a, rfl, by omega, ?_⟩
      simp only [U5_app, Z5, x5_39, base1, baseX, baseY, ↓reduceIte, Nat.reduceAdd, Nat.reduceSub, Nat.reduceMul, Nat.reduceEqDiff, Nat.reduceLeDiff, Nat.reduceLT, Int.reduceLT, Int.reduceLE, Int.reduceEq, Int.reduceNe, Int.reduceToNat, Int.reduceAdd, Int.reduceSub, reduceCtorEq, Nat.reduceBEq, Nat.reduceBNe]
      refine ⟨a, _, rfl, wv_imm a, by omega, oka, ?_⟩
      simp only [U5_app, Z5, x5_39, base1, baseX, baseY, ↓reduceIte, Nat.reduceAdd, Nat.reduceSub, Nat.reduceMul, Nat.reduceEqDiff, Nat.reduceLeDiff, Nat.reduceLT, Int.reduceLT, Int.reduceLE, Int.reduceEq, Int.reduceNe, Int.reduceToNat, Int.reduceAdd, Int.reduceSub, reduceCtorEq, Nat.reduceBEq, Nat.reduceBNe]
      refine .inl ⟨b, rfl, by omega, ?_⟩
      simp only [U5_app, Z5, x5_39, base1, baseX, baseY, ↓reduceIte, Nat.reduceAdd, Nat.reduceSub, Nat.reduceMul, Nat.reduceEqDiff, Nat.reduceLeDiff, Nat.reduceLT, Int.reduceLT, Int.reduceLE, Int.reduceEq, Int.reduceNe, Int.reduceToNat, Int.reduceAdd, Int.reduceSub, reduceCtorEq, Nat.reduceBEq, Nat.reduceBNe]
      refine ⟨b, _, rfl, wv_imm b, by omega, okb, ?_⟩
      simp only [U5_app, Z5, x5_39, base1, baseX, baseY, ↓reduceIte, Nat.reduceAdd, Nat.reduceSub, Nat.reduceMul, Nat.reduceEqDiff, Nat.reduceLeDiff, Nat.reduceLT, Int.reduceLT, Int.reduceLE, Int.reduceEq, Int.reduceNe, Int.reduceToNat, Int.reduceAdd, Int.reduceSub, reduceCtorEq, Nat.reduceBEq, Nat.reduceBNe, app1 a (by omega), app2 a b (by omega) (by omega), List.replicate_zero, List.flatten_nil]
      refine .inr ⟨a ++ b, 2, by rw [List.length_append], rfl, by rw [List.length_append]; omega, ?_⟩
      simp only [U5_app, Z5, base1, baseX, baseY, ↓reduceIte, Nat.reduceAdd, Nat.reduceSub, Nat.reduceMul, Nat.reduceEqDiff, Nat.reduceLeDiff, Nat.reduceLT, Int.reduceLT, Int.reduceLE, Int.reduceEq, Int.reduceNe, Int.reduceToNat, Int.reduceAdd, Int.reduceSub, reduceCtorEq, Nat.reduceBEq, Nat.reduceBNe]
      refine ⟨a ++ b, _, rfl, wv_imm (a ++ b), by rw [List.length_append]; omega, fun x hx => (List.mem_append.1 hx).elim (oka x) (okb x), ?_⟩
      have hta := textS_len oka
      have htb := textS_len okb
      have hmx : (textS a).length + (textS b).length ≤ maxInt := by unfold maxInt; omega
      rw [text_append]
      obtain ⟨k, hk, hkm⟩ : ∃ k : Nat, k ≤ (textS a).length ∧ (cut : Int).tmod (((textS a).length : Int) + 1) = (k : Int) := ⟨cut % ((textS a).length + 1), by have := Nat.mod_lt cut (show 0 < (textS a).length + 1 by omega); omega, by
        rw [Int.tmod_eq_emod_of_nonneg (by omega)]; exact (Int.natCast_emod cut ((textS a).length + 1)).symm⟩
      have w1 : IntKind.wrap .i64 (cut : Int) = (cut : Int) := Gz.wrap64 (by omega)
      have w2 : IntKind.wrap .i64 (((textS a).length : Int) + 1) = ((textS a).length : Int) + 1 := Gz.wrap64 (by omega)
      have w3 : ¬ (((textS a).length : Int) + 1 = 0) := by omega
      have hto := sl_to hk
      simp only [U5_app, Z5, base1, baseX, baseY, ↓reduceIte, Nat.reduceAdd, Nat.reduceSub, Nat.reduceMul, Nat.reduceEqDiff, Nat.reduceLeDiff, Nat.reduceLT, Int.reduceLT, Int.reduceLE, Int.reduceEq, Int.reduceNe, Int.reduceToNat, Int.reduceAdd, Int.reduceSub, reduceCtorEq, Nat.reduceBEq, Nat.reduceBNe, hmx, ne_eq, not_true, decide_false, w1, w2, w3, hkm, hto]
      refine ⟨_, rfl, by rw [List.length_take]; omega, ?_⟩
      have rel : (∀ x ∈ a, EvLow x) → ((∃ m, readN ((textS a).take k).length ((textS a).take k) = some m) ↔ Whole (textS a) k) := fun h => read_pre h hk
      unfold readR
      cases hr : readN ((textS a).take k).length ((textS a).take k) with
      | none =>
        have noW : (∀ x ∈ a, EvLow x) → ¬ Whole (textS a) k := fun h hw => by
          obtain ⟨m, hm⟩ := (rel h).2 hw
          rw [hr] at hm; cases hm
        by_cases hk0 : k = 0
        · subst hk0
          simp only [U5_app, Z5, base1, baseX, baseY, ↓reduceIte, Nat.reduceAdd, Nat.reduceSub, Nat.reduceMul, Nat.reduceEqDiff, Nat.reduceLeDiff, Nat.reduceLT, Int.reduceLT, Int.reduceLE, Int.reduceEq, Int.reduceNe, Int.reduceToNat, Int.reduceAdd, Int.reduceSub, reduceCtorEq, Nat.reduceBEq, Nat.reduceBNe, Int.natCast_zero, decide_true]
          exact tj_loop a la 5 true (fun h => absurd (.inl rfl) (noW h)) _ _ rfl rfl rfl
        · have hkz : ¬ (k : Int) = 0 := by omega
          have w4 : IntKind.wrap .i64 ((k : Int) - 1) = ((k - 1 : Nat) : Int) := by rw [Gz.wrap64 (by omega)]; omega
          have k1 : k - 1 < (textS a).length := by omega
          have k2 : (0 : Int) ≤ ((k - 1 : Nat) : Int) := by omega
          obtain ⟨ch, hch⟩ : ∃ ch, (textS a)[k - 1]? = some ch := ⟨_, List.getElem?_eq_getElem k1⟩
          simp only [U5_app, Z5, base1, baseX, baseY, ↓reduceIte, Nat.reduceAdd, Nat.reduceSub, Nat.reduceMul, Nat.reduceEqDiff, Nat.reduceLeDiff, Nat.reduceLT, Int.reduceLT, Int.reduceLE, Int.reduceEq, Int.reduceNe, Int.reduceToNat, Int.reduceAdd, Int.reduceSub, reduceCtorEq, Nat.reduceBEq, Nat.reduceBNe, hkz, w4, k1, k2, Int.toNat_natCast, hch, eq10]
          refine tj_loop a la 5 (decide (ch = 10)) (fun h => .inr ⟨rfl, ?_⟩) _ _ rfl rfl rfl
          rw [decide_eq_false_iff_not]
          intro h10
          exact noW h (.inr (by rw [hch, h10]))
      | some m =>
        have yesW : (∀ x ∈ a, EvLow x) → Whole (textS a) k := fun h => (rel h).1 ⟨m, hr⟩
        by_cases hk0 : k = 0
        · subst hk0
          simp only [U5_app, Z5, base1, baseX, baseY, ↓reduceIte, Nat.reduceAdd, Nat.reduceSub, Nat.reduceMul, Nat.reduceEqDiff, Nat.reduceLeDiff, Nat.reduceLT, Int.reduceLT, Int.reduceLE, Int.reduceEq, Int.reduceNe, Int.reduceToNat, Int.reduceAdd, Int.reduceSub, reduceCtorEq, Nat.reduceBEq, Nat.reduceBNe, Int.natCast_zero, decide_true]
          exact tj_loop a la 0 true (fun h => .inl ⟨rfl, rfl⟩) _ _ rfl rfl rfl
        · have hkz : ¬ (k : Int) = 0 := by omega
          have w4 : IntKind.wrap .i64 ((k : Int) - 1) = ((k - 1 : Nat) : Int) := by rw [Gz.wrap64 (by omega)]; omega
          have k1 : k - 1 < (textS a).length := by omega
          have k2 : (0 : Int) ≤ ((k - 1 : Nat) : Int) := by omega
          obtain ⟨ch, hch⟩ : ∃ ch, (textS a)[k - 1]? = some ch := ⟨_, List.getElem?_eq_getElem k1⟩
          simp only [U5_app, Z5, base1, baseX, baseY, ↓reduceIte, Nat.reduceAdd, Nat.reduceSub, Nat.reduceMul, Nat.reduceEqDiff, Nat.reduceLeDiff, Nat.reduceLT, Int.reduceLT, Int.reduceLE, Int.reduceEq, Int.reduceNe, Int.reduceToNat, Int.reduceAdd, Int.reduceSub, reduceCtorEq, Nat.reduceBEq, Nat.reduceBNe, hkz, w4, k1, k2, Int.toNat_natCast, hch, eq10]
          refine tj_loop a la 0 (decide (ch = 10)) (fun h => .inl ⟨rfl, ?_⟩) _ _ rfl rfl rfl
          rw [decide_eq_true_iff]
          rcases yesW h with h0 | h0
          · exact absurd h0 hk0
          · rw [hch] at h0; exact Option.some.inj h0
end Go.Proofs.YtbamlhgjpggihaaDoor.tale

/- From the rows' condition to what the package variables hold; a state that meets it; the wrap that hands on shape and condition. No condition. -/
set_option linter.unusedVariables false
set_option linter.unusedSimpArgs false
namespace Go.Proofs.YtbamlhgjpggihaaDoor.tale
open Go.ChangeShapes Go.WideShapes Go.ChangeAt Go.RowKit Go.Gz

theorem own : ownKnob Tryd.prog.godebug = none := by kernel_rfl
theorem laidOut : laidOutB Tryd.prog = true := by kernel_rfl
theorem gPow : Tryd.prog.globalNamed "internal/strconv.uint64pow10" = some 1 := by kernel_rfl
theorem tPow : (Tryd.prog.globals[1]?).map (·.type) = some 88 := by kernel_rfl
theorem gErr : Tryd.prog.globalNamed "strconv.ErrSyntax" = some 2 := by kernel_rfl
theorem tErr : (Tryd.prog.globals[2]?).map (·.type) = some 48 := by kernel_rfl
theorem star : "*" ++ "errors.errorString" = "*errors.errorString" := by decide
theorem row116 (u : TypeId) (h : Tryd.prog.typeName? 3 u = some "*errors.errorString") : u = 116 :=
  typeName_ptr_named (nm := "errors.errorString") (by rw [star]; kernel_rfl) (by kernel_rfl) (by decide) u (by rw [star]; exact h)

abbrev laidL : List (String × DataW Unit) := Rows.taleReadsRow.laid

theorem laid_plain {W : World} (h : laidMetH Tryd.prog laidL W) : laidMet Tryd.prog laidL W := by
  rw [MakeChecks.laidMetH_plain _ _ _ (by kernel_rfl)] at h
  exact h

/-- What the row's condition says of the variables that the library reads. -/
theorem laid_of {W : World} (h : laidMetH Tryd.prog laidL W) (hsh : W.ShapedOpen Tryd.prog) : Laid W := by
  have h0 := laid_plain h
  refine ⟨Tryd.laysM145.s1_3 W hsh, ?_, ?_⟩
  · have h3 : laidMet Tryd.prog (("internal/strconv.uint64pow10", Lib.tabData .u64 ((List.range 20).map fun i => ((10 ^ i : Nat) : Int))) :: laidL.drop 3) W := h0.tail.tail
    exact Lib.tabIs_of_head gPow tPow Tryd.underlying88 Tryd.underlying79 (by kernel_rfl) (by kernel_rfl) h3
  · have h6 : laidMet Tryd.prog (("strconv.ErrSyntax", .iface "*errors.errorString" (.ptr (.agg [.lit (.string [105, 110, 118, 97, 108, 105, 100, 32, 115, 121, 110, 116, 97, 120])]))) :: laidL.drop 6) W := h0.tail.tail.tail.tail.tail
    obtain ⟨a, s, hv, _⟩ := laid_sentinel h6 gErr tErr Tryd.underlying48 row116 Tryd.underlying116 Tryd.underlying118 rfl rfl Tryd.underlying9 (by kernel_rfl) (by kernel_rfl)
    exact ⟨_, _, hv⟩

/-- A state that meets the condition: the door's own, and Go's own table where the row says. -/
noncomputable def wit (os : Os) : World :=
  let w0 := World.doorLaid Tryd.prog 72 os
  { w0 with heap := w0.heap.modify 6 fun
      | .cells _ t fr => .cells ((Go.Pinned.utf8FirstZ.map fun (n : Nat) => Value.int .u8 ((n : Nat) : Int)).toArray) t fr
      | o => o }

theorem wit_met (os : Os) (args : Array Value) : laidMetH Tryd.prog laidL ((wit os).forCall (fun _ _ => 0) ⟨#[], args, []⟩).memory :=
  laidMetH_of_parts3 (fuel := 8) (laidMet_of_run' 8 (by kernel_rfl) (by kernel_rfl)) (by kernel_rfl) (by kernel_rfl)

theorem wit_shaped (os : Os) (args : Array Value) : ((wit os).forCall (fun _ _ => 0) ⟨#[], args, []⟩).Shaped Tryd.prog :=
  World.shaped_of_RefB (by kernel_rfl) (by kernel_rfl)

section
variable {H : Type} {enc : TypeId × Value → H}
/-- The wrap that hands on the world's shape, and a condition on the world. -/
theorem returns_shaped_and {a : Assume} {C : Checked} {os : Os} {f : FuncId} {fn : Func} {s : ChangeSpec} {conds : List PathCond} {apart fresh handsOn again : Bool} {X : World → Array Value → Prop}
    (hX : ∀ (w w' : World) (args : Array Value), w.heap = w'.heap → X w args → X w' args)
    (own : ownKnob C.prog.godebug = none) (started : os.Started) (noInit : C.prog.inits.idxOf? f = none) (hfn : C.prog.funcs[f]? = some fn)
    (witness : ∃ (w : World) (tape : Tape) (i : Input), w.os = os ∧ (w.forCall tape i).Shaped C.prog ∧ i.vars = [] ∧ Input.okWide C.prog (w.forCall tape i) .any w.heap.size f i ∧
      ((s.pre enc C.prog fn conds apart (w.forCall tape i).memory i.args ∧ X (w.forCall tape i).memory i.args) ∧ sizedMet enc C.prog fn (OpenSpec.ofChange s) apart (w.forCall tape i).memory i.args) ∧ a.holds C.prog (lone (Frame.enter C.prog f i.args .normal) [] (w.forCall tape i)))
    (contract : ∀ (W : World) (base : Nat) (args : Array Value) (ds gs : List (DataW H)) (before : List MemPlace),
      (∀ (j : Nat) t v, fn.params[j]? = some t → args[j]? = some v → Value.okWide C.prog W .any base t v) →
      DataW.Whole enc C.prog fn.params.toList s.vars apart W args.toList ds gs before →
      (DataW.weightsEach C.prog (fn.params.toList ++ s.plain.varTypes C.prog) (ds ++ gs)).all (· ≤ reachBytes) = true → X W args → W.ShapedOpen C.prog →
      Calls C.prog f args W fun e W' => ∃ v, e = .returned v ∧ s.post enc C.prog fn apart fresh handsOn again W args v W') :
    ReturnsInHanded a C os f .any (fun w args => (s.pre enc C.prog fn conds apart w args ∧ X w args) ∧ sizedMet enc C.prog fn (OpenSpec.ofChange s) apart w args) (s.post enc C.prog fn apart fresh handsOn again) := by
  refine returnsInHanded_of_calls own started noInit witness ?_
  intro w tape i _ hsh _ hok hpre _
  obtain ⟨_, _, _, fn', hfn', _, _, _, _, hval⟩ := hok
  obtain rfl : fn' = fn := Option.some.inj (hfn'.symm.trans hfn)
  obtain ⟨⟨⟨ds, gs, before, hw, _⟩, hx⟩, hz⟩ := hpre
  have hw' := DataW.Whole.of_heap (w' := w.forCall tape i) (by rfl) hw
  refine (contract (w.forCall tape i) w.heap.size i.args ds gs before hval hw' (hz.weights hw) (hX _ _ _ (by rfl) hx) hsh).mono fun e W' ⟨v, he, hp⟩ => ?_
  subst he
  exact ChangeSpec.post_blind hp
end
end Go.Proofs.YtbamlhgjpggihaaDoor.tale
