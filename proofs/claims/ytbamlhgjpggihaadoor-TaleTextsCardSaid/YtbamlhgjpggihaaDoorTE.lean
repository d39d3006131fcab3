/- awake: yes. Rows of Read and Text. -/
import Derived.Test.YtbamlhgjpggihaaDoorTD
import Derived.Test.YtbamlhgjpggihaaDoorTC
import Derived.Test.YtbamlhgjpggihaaDoorK22
import Derived.Test.YtbamlhgjpggihaaDoorRows
import Derived.Test.YtbamlhgjpggihaaDoorShelf
import Derived.ProofKit
import Derived.LaidMore
import Derived.OpenShut
import Derived.Stop.Joined
import Derived.Stop.LaidErr
import Derived.HandedShaped
set_option linter.unusedVariables false
set_option linter.unusedSimpArgs false
namespace Go.Proofs.YtbamlhgjpggihaaDoor.tale
open Go.RowKit Go.Gz Go.Gz.H
abbrev r6_0 : List MOper := [⟨(some 0), .move (.c (.bool false)), none⟩]
def b6_0 : SCode := .region r6_0
abbrev r6_1 : List MOper := [⟨(some 4), .build [.int .i64 0, .int .i64 0, .int .i64 0, .str [], .str [], .str []] [(0, 1, (.c (.int .i64 4))), (1, 1, (.c (.int .i64 2)))], none⟩,
  ⟨(some 5), .buildSlice [.int .i64 0, .int .i64 0, .int .i64 0, .str [], .str [], .str []] 6 1 [(0, 6, (.t 4))], none⟩,
  ⟨(some 1), .move (.t 5), none⟩]
def b6_1 : SCode := .region r6_1
abbrev r6_2 : List MOper := [⟨(some 7), .call 11 [(.c (.str [116, 105, 99, 107, 32, 50, 32, 48, 32, 46, 32, 46, 32, 46, 10]))], none⟩,
  ⟨(some 6), .move (.t 7), none⟩,
  ⟨(some 8), .extract (.t 6) 0, none⟩,
  ⟨(some 9), .extract (.t 6) 1, none⟩,
  ⟨(some 2), .move (.t 8), none⟩,
  ⟨(some 3), .move (.t 9), none⟩]
def b6_2 : SCode := .region r6_2
abbrev t6_3 : LTree := (.quiet ⟨(some 10), .move (.t 1), none⟩ 0
  (.loud ⟨(some 11), .call 9 [(.t 10)], none⟩ []
  (.quiet ⟨(some 12), .bin .eql .num (.t 11) (.c (.str [116, 105, 99, 107, 32, 50, 32, 48, 32, 46, 32, 46, 32, 46, 10])), none⟩ 2
  (.quiet ⟨(some 13), .move (.t 12), none⟩ 3
  (.quiet ⟨(some 14), .move (.t 3), (some (13, true))⟩ 4
  (.quiet ⟨(some 15), .bin .eql .num (.t 14) (.c (.int .i64 0)), (some (13, true))⟩ 5
  (.quiet ⟨(some 16), .pick (.t 13) (.t 15) (.c (.bool false)), none⟩ 6
  (.quiet ⟨(some 17), .move (.t 16), none⟩ 7
  (.quiet ⟨(some 18), .move (.t 2), (some (17, true))⟩ 8
  (.quiet ⟨(some 19), .lenSl (.t 18), (some (17, true))⟩ 9
  (.quiet ⟨(some 20), .bin .eql .num (.t 19) (.c (.int .i64 1)), (some (17, true))⟩ 10
  (.quiet ⟨(some 21), .pick (.t 17) (.t 20) (.c (.bool false)), none⟩ 11
  (.quiet ⟨(some 22), .move (.t 21), none⟩ 12
  (.quiet ⟨(some 23), .move (.t 2), (some (22, true))⟩ 13
  (.quiet ⟨(some 24), .indexAddr 6 (.t 23) (.c (.int .i64 0)), (some (22, true))⟩ 14
  (.quiet ⟨(some 25), .loadN 6 (.t 24), (some (22, true))⟩ 15
  (.quiet ⟨(some 26), .move (.t 1), (some (22, true))⟩ 16
  (.quiet ⟨(some 27), .indexAddr 6 (.t 26) (.c (.int .i64 0)), (some (22, true))⟩ 17
  (.quiet ⟨(some 28), .loadN 6 (.t 27), (some (22, true))⟩ 18
  (.quiet ⟨(some 29), .bin .eql (.flat [.i, .i, .i, .s, .s, .s]) (.t 25) (.t 28), (some (22, true))⟩ 19
  (.quiet ⟨(some 30), .pick (.t 22) (.t 29) (.c (.bool false)), none⟩ 20
  (.quiet ⟨(some 0), .move (.t 30), none⟩ 21
  .leaf)))))))))))))))))))) .stop))
def b6_3 : SCode := .draw t6_3
def b6_4 : SCode := .seq b6_3 .ret
def b6_5 : SCode := .seq b6_2 b6_4
def b6_6 : SCode := .seq b6_1 b6_5
def b6_7 : SCode := .seq b6_0 b6_6
def s6 : SFunc := ⟨31, [.t 0], b6_7⟩
theorem c6 : sFn Tryd.prog 6 = some s6 := by kernel_rfl
theorem Z6 : XR b6_0 r6_0 ∧ XR b6_1 r6_1 ∧ XR b6_2 r6_2 ∧ XT b6_3 t6_3 ∧ XS b6_4 b6_3 .ret ∧ XS b6_5 b6_2 b6_4 ∧ XS b6_6 b6_1 b6_5 ∧ XS b6_7 b6_0 b6_6 ∧ XY s6 31 b6_7 [.t 0] := ⟨rfl, rfl, rfl, rfl, rfl, rfl, rfl, rfl, rfl⟩

set_option maxHeartbeats 4000000
set_option maxRecDepth 10000
theorem rowsE_flat (l : List Ev) : flatLL (rowsE l) := by
  intro r hr x hx
  obtain ⟨e, _, rfl⟩ := List.mem_map.1 hr
  simp only [Ev.cells, List.mem_cons, List.not_mem_nil, or_false] at hx
  rcases hx with rfl | rfl | rfl | rfl | rfl | rfl <;> rfl
theorem rowsE_six (l : List Ev) : ∀ r ∈ rowsE l, r.length = 6 := by
  intro r hr
  obtain ⟨e, _, rfl⟩ := List.mem_map.1 hr
  rfl
def textD (args : List AV) (σ : AHeap) (K : AV → AHeap → Prop) : Prop := ∃ (l : List Ev) (v : AV), args = [v] ∧ wv σ [] v (.imm (rowsE l) false false) ∧ l.length ≤ 20000 ∧ (∀ e ∈ l, EvOk e) ∧ K (.str (textS l)) σ
theorem textD_ok (args : List AV) (σ : AHeap) (K : AV → AHeap → Prop) (h : textD args σ K) : Tri Tryd.prog 9 args σ K := by
  obtain ⟨l, v, rfl, hv, h1, h2, h⟩ := h
  refine (Tri.view (args1 := [.imm (rowsE l) false false]) ?_ ((text_ok l h1 h2).mono fun r σ' hr => (⟨by rw [hr.2]; rfl, hr.2⟩ : r.flatD = true ∧ r = .str (textS l)))).mono fun r σ' hr => by rw [hr.1, hr.2]; exact h
  simp only [wvs, and_true]; exact hv
theorem wv_imm {σ : AHeap} (l : List Ev) : wv σ [] (.imm (rowsE l) false false) (.imm (rowsE l) false false) := by
  unfold wv; exact ⟨rfl, rfl, rfl, rowsE_flat l⟩
def ev1 : Ev := ⟨4, 2, 0, [], [], []⟩
theorem text1 : textS [ev1] = [116, 105, 99, 107, 32, 50, 32, 48, 32, 46, 32, 46, 32, 46, 10] := by
  have h1 : wordS 4 = [116, 105, 99, 107] := rfl
  have h2 : Lib.itoa 2 = [50] := by
    have := Lib.itoa_nonneg 2
    rw [Lib.decDigits_one (by decide)] at this
    exact this
  have h3 : Lib.itoa 0 = [48] := by
    have := Lib.itoa_nonneg 0
    rw [Lib.decDigits_one (by decide)] at this
    exact this
  have hl : hasL ev1 := by unfold hasL ev1; simp [h1]
  show lineS ev1 ++ [] = _
  rw [line_yes hl]
  unfold bodyS partsS ev1
  simp only [h1, h2, h3, join6, bytesS, hexOf]
  rfl
theorem ev1_ok : EvOk ev1 := ⟨by decide, by decide, by decide, by decide, by decide⟩
theorem read1 : readR [116, 105, 99, 107, 32, 50, 32, 48, 32, 46, 32, 46, 32, 46, 10] = .tuple [.imm (rowsE [ev1]) false false, .int .i64 0] := by
  have hl : hasL ev1 := by
    unfold hasL ev1
    have h1 : wordS 4 = [116, 105, 99, 107] := rfl
    simp [h1]
  have h := read_text [ev1] (textS [ev1]).length (by intro e he; simp at he; subst he; exact ⟨by decide, by decide⟩) (Nat.le_refl _)
  simp only [text1] at h
  unfold readR
  rw [h]
  simp [hl]
def U6 : PCall := rowQ 9 textD (rowQ 11 readD noCall)
theorem U6_app {f : FuncId} {args : List AV} {σ : AHeap} {K : AV → AHeap → Prop} : U6 f args σ K = rowQ 9 textD (rowQ 11 readD noCall) f args σ K := _root_.id rfl
theorem U6_sound : Sound Tryd.prog U6 := rowQ_sound textD_ok (rowQ_sound readD_ok (noCall_sound _))
theorem awake_ok : Tri Tryd.prog 6 [] [] fun r _ => r.pure = true ∧ r = .bool true := by
  refine Tri.of_s c6 U6_sound ?_
  simp only [U6_app, Z6, base1, baseX, baseY, ↓reduceIte, Nat.reduceAdd, Nat.reduceSub, Nat.reduceMul, Nat.reduceEqDiff, Nat.reduceLeDiff, Nat.reduceLT, Int.reduceLT, Int.reduceLE, Int.reduceEq, Int.reduceNe, Int.reduceToNat, Int.reduceAdd, Int.reduceSub, reduceCtorEq, Nat.reduceBEq, Nat.reduceBNe]
  refine ⟨_, rfl, by decide, ?_⟩
  rw [read1]
  simp only [U6_app, Z6, base1, baseX, baseY, ↓reduceIte, Nat.reduceAdd, Nat.reduceSub, Nat.reduceMul, Nat.reduceEqDiff, Nat.reduceLeDiff, Nat.reduceLT, Int.reduceLT, Int.reduceLE, Int.reduceEq, Int.reduceNe, Int.reduceToNat, Int.reduceAdd, Int.reduceSub, reduceCtorEq, Nat.reduceBEq, Nat.reduceBNe]
  refine ⟨[ev1], _, rfl, ?_, by simp, by intro e he; simp at he; subst he; exact ev1_ok, ?_⟩
  · unfold wv
    exact ⟨by simp, ⟨_, rfl, rfl⟩, rfl, rowsE_six [ev1], by simp, by simp, rowsE_flat [ev1]⟩
  rw [text1]
  simp only [U6_app, Z6, base1, baseX, baseY, ↓reduceIte, Nat.reduceAdd, Nat.reduceSub, Nat.reduceMul, Nat.reduceEqDiff, Nat.reduceLeDiff, Nat.reduceLT, Int.reduceLT, Int.reduceLE, Int.reduceEq, Int.reduceNe, Int.reduceToNat, Int.reduceAdd, Int.reduceSub, reduceCtorEq, Nat.reduceBEq, Nat.reduceBNe, lenOf_imm, rowsE, ev1, Ev.cells, List.map_cons, List.map_nil, List.length_cons, List.length_nil, decide_true, Bool.and_self]
  first | exact rfl | exact ⟨rfl, rfl⟩
def awakeD (args : List AV) (σ : AHeap) (K : AV → AHeap → Prop) : Prop := args = [] ∧ K (.bool true) σ
theorem awakeD_ok (args : List AV) (σ : AHeap) (K : AV → AHeap → Prop) (h : awakeD args σ K) : Tri Tryd.prog 6 args σ K := by
  obtain ⟨rfl, h⟩ := h
  exact (Tri.pureD rfl awake_ok σ).mono fun r σ' hr => by rw [hr.1, hr.2]; exact h
end Go.Proofs.YtbamlhgjpggihaaDoor.tale

/- Rows of Small, line, made, same; how events are read. -/
set_option linter.unusedVariables false
set_option linter.unusedSimpArgs false
namespace Go.Proofs.YtbamlhgjpggihaaDoor.tale
open Go.ChangeShapes Go.WideShapes Go.ChangeAt Go.RowKit Go.Gz Go.Gz.H
set_option maxHeartbeats 4000000
set_option maxRecDepth 10000
def lineD (args : List AV) (σ : AHeap) (K : AV → AHeap → Prop) : Prop := ∃ x : Ev, args = [.agg x.cells] ∧ EvOk x ∧ K (.str (lineS x)) σ
theorem lineD_ok (args : List AV) (σ : AHeap) (K : AV → AHeap → Prop) (h : lineD args σ K) : Tri Tryd.prog 8 args σ K := by
  obtain ⟨x, rfl, hx, h⟩ := h
  exact (Tri.pureD rfl (line_ok x hx) σ).mono fun r σ' hr => by rw [hr.1, hr.2]; exact h
/-- What may come in. -/
structure EvIn (e : Ev) : Prop where
  w0 : -9223372036854775808 ≤ e.who
  w1 : e.who ≤ 9223372036854775807
  n0 : -9223372036854775808 ≤ e.n
  n1 : e.n ≤ 9223372036854775807
  t : e.text.length ≤ reachBytes
  v : e.val.length ≤ reachBytes
  i : e.into.length ≤ reachBytes
theorem in_ok {l : List Ev} {m : Nat} (h : ∀ e ∈ l, EvIn e) (hs : SmallE l m) : ∀ e ∈ l, EvOk e := fun e he =>
  ⟨(h e he).w0, (h e he).w1, (h e he).n0, (h e he).n1, by have := hs.2 e he; omega⟩
def smallD (args : List AV) (σ : AHeap) (K : AV → AHeap → Prop) : Prop := ∃ (l : List Ev) (m : Nat), args = [.imm (rowsE l) false false, .int .i64 (m : Int)] ∧ l.length ≤ reachBytes ∧ (∀ e ∈ l, EvIn e) ∧ ∀ b, (b = true → SmallE l m) → K (.bool b) σ
theorem smallD_ok (args : List AV) (σ : AHeap) (K : AV → AHeap → Prop) (h : smallD args σ K) : Tri Tryd.prog 7 args σ K := by
  obtain ⟨l, m, rfl, h1, h2, h⟩ := h
  have hp : pureL [.imm (rowsE l) false false, .int .i64 (m : Int)] = true := by simp only [pureL, AV.pure, rowsE_pure, Bool.and_self]
  exact (Tri.pureD hp (small_ok l m h1 fun e he => ⟨(h2 e he).t, (h2 e he).v, (h2 e he).i⟩) σ).mono fun r σ' hr => by
    obtain ⟨⟨b, rfl, hb⟩, rfl⟩ := hr
    exact h b hb
def madeD (args : List AV) (σ : AHeap) (K : AV → AHeap → Prop) : Prop := ∃ l : List Ev, args = [.imm (rowsE l) false false] ∧ l.length ≤ 1000000 ∧ K (.imm (rowsE l) false false) σ
theorem madeD_ok (args : List AV) (σ : AHeap) (K : AV → AHeap → Prop) (h : madeD args σ K) : Tri Tryd.prog 10 args σ K := by
  obtain ⟨l, rfl, h1, h⟩ := h
  have hp : pureL [.imm (rowsE l) false false] = true := by simp only [pureL, AV.pure, rowsE_pure, Bool.and_self]
  exact (Tri.pureD hp (made_ok l h1) σ).mono fun r σ' hr => by rw [hr.1, hr.2]; exact h
def sameD (args : List AV) (σ : AHeap) (K : AV → AHeap → Prop) : Prop := ∃ (l : List Ev) (v : AV), args = [.imm (rowsE l) false false, v] ∧ wv σ [] v (.imm (rowsE l) false false) ∧ l.length ≤ 1000000 ∧ K (.bool true) σ
theorem sameD_ok (args : List AV) (σ : AHeap) (K : AV → AHeap → Prop) (h : sameD args σ K) : Tri Tryd.prog 12 args σ K := by
  obtain ⟨l, v, rfl, hv, h1, h⟩ := h
  refine (Tri.view (args1 := [.imm (rowsE l) false false, .imm (rowsE l) false false]) ?_ (same_ok l h1)).mono fun r σ' hr => by rw [hr.1, hr.2]; exact h
  simp only [wvs, and_true]; exact ⟨wv_imm l, hv⟩
theorem wv_grow {σ : AHeap} {v : AV} {l : List Ev} (h : Grow σ v 6 (rowsE l)) : wv σ [] v (.imm (rowsE l) false false) := by
  rcases h with ⟨rfl, h0⟩ | ⟨d, rfl, hd, h3, _⟩
  · unfold wv; exact ⟨h0, rfl⟩
  · unfold wv
    refine ⟨by simp, ⟨_, hd, ?_⟩, rfl, h3, by simp, by simp, rowsE_flat l⟩
    exact sub_all (flat_len h3).symm
/-! How events come in. -/
theorem rdEv : Rd Tryd.prog 27 Ev.cells EvIn := by
  have hu : Tryd.prog.underlying 27 = some (.struct (Tryd.prog.fieldsOf 27)) := by kernel_rfl
  have hf : (Tryd.prog.fieldsOf 27).toList = [⟨ "Do", 3, 0, false, "", "", 0⟩, ⟨ "Who", 3, 1, false, "", "", 8⟩, ⟨ "N", 3, 2, false, "", "", 16⟩, ⟨ "Text", 9, 3, false, "", "", 24⟩, ⟨ "Val", 9, 4, false, "", "", 40⟩, ⟨ "To", 9, 5, false, "", "", 56⟩] := by kernel_rfl
  have h := rdf_cons (P := Tryd.prog) (f := ⟨ "Do", 3, 0, false, "", "", 0⟩) (o := 0) rfl (rd_int (k := .i64) (by kernel_rfl))
    (rdf_cons (f := ⟨ "Who", 3, 1, false, "", "", 8⟩) (by kernel_rfl) (rd_int (k := .i64) (by kernel_rfl)) (rdf_cons (f := ⟨ "N", 3, 2, false, "", "", 16⟩) (by kernel_rfl) (rd_int (k := .i64) (by kernel_rfl)) (rdf_cons (f := ⟨ "Text", 9, 3, false, "", "", 24⟩) (by kernel_rfl) (rd_str (by kernel_rfl)) (rdf_cons (f := ⟨ "Val", 9, 4, false, "", "", 40⟩) (by kernel_rfl) (rd_str (by kernel_rfl)) (rdf_cons (f := ⟨ "To", 9, 5, false, "", "", 56⟩) (by kernel_rfl) (rd_str (by kernel_rfl)) (rdf_nil _))))))
  rw [← hf] at h
  exact (rd_struct hu (by kernel_rfl) h).map (fun x => (⟨x.1, x.2.1, x.2.2.1, x.2.2.2.1, x.2.2.2.2.1, x.2.2.2.2.2.1⟩ : Ev)) (fun x => rfl)
    (fun x hx => ⟨hx.2.1.1, hx.2.1.2, hx.2.2.1.1, hx.2.2.1.2, hx.2.2.2.1, hx.2.2.2.2.1, hx.2.2.2.2.2.1⟩)
theorem argEvs : Arg Tryd.prog 22 (fun l : List Ev => .imm (l.map Ev.cells) false false) (fun l => l.length * Tryd.prog.bytesOf 27 ≤ reachBytes ∧ ∀ y ∈ l, EvIn y) :=
  arg_slice (e := 27) (by kernel_rfl) (by decide +kernel) rdEv
theorem len_in {l : List Ev} (h : l.length * Tryd.prog.bytesOf 27 ≤ reachBytes) : l.length ≤ reachBytes := by
  have hb : Tryd.prog.bytesOf 27 = 72 := by kernel_rfl
  rw [hb] at h; omega
end Go.Proofs.YtbamlhgjpggihaaDoor.tale

/- The law of TaleTexts, walked: yes, whatever the events. Condition: what comes in as such a law's arguments. -/
set_option linter.unusedVariables false
set_option linter.unusedSimpArgs false
namespace Go.Proofs.YtbamlhgjpggihaaDoor.tale
open Go.RowKit Go.Gz Go.Gz.H
abbrev r3_0 : List MOper := [⟨(some 2), .move (.c (.bool false)), none⟩]
def b3_0 : SCode := .region r3_0
abbrev r3_1 : List MOper := [⟨(some 10), .call 6 [], none⟩,
  ⟨(some 11), .un .not (.t 10), none⟩]
def b3_1 : SCode := .region r3_1
abbrev r3_2 : List MOper := [⟨(some 2), .move (.c (.bool false)), none⟩]
def b3_2 : SCode := .region r3_2
def b3_3 : SCode := .seq b3_2 .ret
def b3_4 : SCode := .cond (.t 11) b3_3 .skip
def b3_5 : SCode := .seq b3_1 b3_4
abbrev r3_6 : List MOper := [⟨(some 12), .move (.t 0), none⟩,
  ⟨(some 13), .call 7 [(.t 12), (.c (.int .i64 100))], none⟩,
  ⟨(some 14), .un .not (.t 13), none⟩]
def b3_6 : SCode := .region r3_6
abbrev r3_7 : List MOper := [⟨(some 2), .move (.c (.bool true)), none⟩]
def b3_7 : SCode := .region r3_7
def b3_8 : SCode := .seq b3_7 .ret
def b3_9 : SCode := .cond (.t 14) b3_8 .skip
def b3_10 : SCode := .seq b3_6 b3_9
abbrev r3_11 : List MOper := [⟨(some 3), .move (.c (.str [])), none⟩]
def b3_11 : SCode := .region r3_11
abbrev r3_12 : List MOper := [⟨(some 4), .move (.c (.nilslice)), none⟩]
def b3_12 : SCode := .region r3_12
abbrev r3_13 : List MOper := [⟨(some 5), .move (.c (.int .i64 0)), none⟩]
def b3_13 : SCode := .region r3_13
abbrev r3_14 : List MOper := [⟨(some 15), .move (.t 5), none⟩,
  ⟨(some 16), .move (.t 0), none⟩,
  ⟨(some 17), .lenSl (.t 16), none⟩,
  ⟨(some 18), .bin .lss .num (.t 15) (.t 17), none⟩]
def b3_14 : SCode := .region r3_14
def b3_15 : SCode := .cond (.t 18) .skip (.exit 0)
def b3_16 : SCode := .seq b3_14 b3_15
abbrev r3_17 : List MOper := [⟨(some 21), .move (.t 0), none⟩,
  ⟨(some 22), .move (.t 5), none⟩,
  ⟨(some 23), .indexAddr 6 (.t 21) (.t 22), none⟩,
  ⟨(some 24), .loadN 6 (.t 23), none⟩,
  ⟨(some 25), .call 8 [(.t 24)], none⟩,
  ⟨(some 6), .move (.t 25), none⟩]
def b3_17 : SCode := .region r3_17
abbrev r3_18 : List MOper := [⟨(some 26), .move (.t 3), none⟩,
  ⟨(some 27), .move (.t 6), none⟩,
  ⟨(some 28), .bin .add .num (.t 26) (.t 27), none⟩,
  ⟨(some 3), .move (.t 28), none⟩]
def b3_18 : SCode := .region r3_18
abbrev r3_19 : List MOper := [⟨(some 29), .move (.t 6), none⟩,
  ⟨(some 30), .bin .neq .num (.t 29) (.c (.str [])), none⟩]
def b3_19 : SCode := .region r3_19
abbrev r3_20 : List MOper := [⟨(some 31), .move (.t 4), none⟩,
  ⟨(some 32), .move (.t 0), none⟩,
  ⟨(some 33), .move (.t 5), none⟩,
  ⟨(some 34), .indexAddr 6 (.t 32) (.t 33), none⟩,
  ⟨(some 35), .loadN 6 (.t 34), none⟩,
  ⟨(some 36), .buildSlice [.int .i64 0, .int .i64 0, .int .i64 0, .str [], .str [], .str []] 6 1 [(0, 6, (.t 35))], none⟩,
  ⟨(some 37), .append 6 72 (.t 31) (.t 36), none⟩,
  ⟨(some 4), .move (.t 37), none⟩]
def b3_20 : SCode := .region r3_20
def b3_21 : SCode := .cond (.t 30) b3_20 .skip
def b3_22 : SCode := .seq b3_19 b3_21
abbrev r3_23 : List MOper := [⟨(some 38), .move (.t 0), none⟩,
  ⟨(some 39), .move (.t 5), none⟩,
  ⟨(some 40), .indexAddr 6 (.t 38) (.t 39), none⟩,
  ⟨(some 41), .fieldAddr 1 (.t 40), none⟩,
  ⟨(some 42), .load1 (.t 41), none⟩,
  ⟨(some 43), .bin .geq .num (.t 42) (.c (.int .i64 100000000000000000)), none⟩,
  ⟨(some 44), .move (.t 43), none⟩,
  ⟨(some 45), .move (.t 0), (some (44, false))⟩,
  ⟨(some 46), .move (.t 5), (some (44, false))⟩,
  ⟨(some 47), .indexAddr 6 (.t 45) (.t 46), (some (44, false))⟩,
  ⟨(some 48), .fieldAddr 2 (.t 47), (some (44, false))⟩,
  ⟨(some 49), .load1 (.t 48), (some (44, false))⟩,
  ⟨(some 50), .bin .geq .num (.t 49) (.c (.int .i64 100000000000000000)), (some (44, false))⟩,
  ⟨(some 51), .pick (.t 44) (.c (.bool true)) (.t 50), none⟩]
def b3_23 : SCode := .region r3_23
abbrev r3_24 : List MOper := [⟨(some 2), .move (.c (.bool true)), none⟩]
def b3_24 : SCode := .region r3_24
def b3_25 : SCode := .seq b3_24 .ret
def b3_26 : SCode := .cond (.t 51) b3_25 .skip
def b3_27 : SCode := .seq b3_23 b3_26
def b3_28 : SCode := .seq b3_22 b3_27
def b3_29 : SCode := .seq b3_18 b3_28
def b3_30 : SCode := .seq b3_17 b3_29
def b3_31 : SCode := .block 1 b3_30
abbrev r3_32 : List MOper := [⟨(some 19), .move (.t 5), none⟩,
  ⟨(some 20), .bin .add .num (.t 19) (.c (.int .i64 1)), none⟩,
  ⟨(some 5), .move (.t 20), none⟩]
def b3_32 : SCode := .region r3_32
def b3_33 : SCode := .seq b3_31 b3_32
def b3_34 : SCode := .seq b3_16 b3_33
def b3_35 : SCode := .loop b3_34
def b3_36 : SCode := .block 0 b3_35
def b3_37 : SCode := .seq b3_13 b3_36
abbrev r3_38 : List MOper := [⟨(some 52), .move (.t 0), none⟩,
  ⟨(some 53), .call 10 [(.t 52)], none⟩,
  ⟨(some 54), .call 9 [(.t 53)], none⟩,
  ⟨(some 7), .move (.t 54), none⟩]
def b3_38 : SCode := .region r3_38
abbrev r3_39 : List MOper := [⟨(some 56), .move (.t 7), none⟩,
  ⟨(some 57), .call 11 [(.t 56)], none⟩,
  ⟨(some 55), .move (.t 57), none⟩,
  ⟨(some 58), .extract (.t 55) 0, none⟩,
  ⟨(some 59), .extract (.t 55) 1, none⟩,
  ⟨(some 8), .move (.t 58), none⟩,
  ⟨(some 9), .move (.t 59), none⟩]
def b3_39 : SCode := .region r3_39
abbrev r3_40 : List MOper := [⟨(some 60), .move (.t 7), none⟩,
  ⟨(some 61), .move (.t 3), none⟩,
  ⟨(some 62), .bin .eql .num (.t 60) (.t 61), none⟩,
  ⟨(some 63), .move (.t 62), none⟩,
  ⟨(some 64), .move (.t 9), (some (63, true))⟩,
  ⟨(some 65), .bin .eql .num (.t 64) (.c (.int .i64 0)), (some (63, true))⟩,
  ⟨(some 66), .pick (.t 63) (.t 65) (.c (.bool false)), none⟩,
  ⟨(some 67), .move (.t 66), none⟩,
  ⟨(some 68), .move (.t 8), (some (67, true))⟩,
  ⟨(some 69), .move (.t 4), (some (67, true))⟩,
  ⟨(some 70), .call 12 [(.t 68), (.t 69)], (some (67, true))⟩,
  ⟨(some 71), .pick (.t 67) (.t 70) (.c (.bool false)), none⟩,
  ⟨(some 2), .move (.t 71), none⟩]
def b3_40 : SCode := .region r3_40
def b3_41 : SCode := .seq b3_40 .ret
def b3_42 : SCode := .seq b3_39 b3_41
def b3_43 : SCode := .seq b3_38 b3_42
def b3_44 : SCode := .seq b3_37 b3_43
def b3_45 : SCode := .seq b3_12 b3_44
def b3_46 : SCode := .seq b3_11 b3_45
def b3_47 : SCode := .seq b3_10 b3_46
def b3_48 : SCode := .seq b3_5 b3_47
def b3_49 : SCode := .seq b3_0 b3_48
def s3 : SFunc := ⟨72, [.t 2], b3_49⟩
theorem c3 : sFn Tryd.prog 3 = some s3 := by kernel_rfl
theorem x3_43 : XS b3_43 b3_38 b3_42 := rfl
theorem Z3 : XR b3_0 r3_0 ∧ XR b3_1 r3_1 ∧ XR b3_2 r3_2 ∧ XS b3_3 b3_2 .ret ∧ XC b3_4 (.t 11) b3_3 .skip ∧ XS b3_5 b3_1 b3_4 ∧ XR b3_6 r3_6 ∧ XR b3_7 r3_7 ∧ XS b3_8 b3_7 .ret ∧ XC b3_9 (.t 14) b3_8 .skip ∧ XS b3_10 b3_6 b3_9 ∧ XR b3_11 r3_11 ∧ XR b3_12 r3_12 ∧ XR b3_13 r3_13 ∧ XR b3_14 r3_14 ∧ XC b3_15 (.t 18) .skip (.exit 0) ∧ XS b3_16 b3_14 b3_15 ∧ XR b3_17 r3_17 ∧ XR b3_18 r3_18 ∧ XR b3_19 r3_19 ∧ XR b3_20 r3_20 ∧ XC b3_21 (.t 30) b3_20 .skip ∧ XS b3_22 b3_19 b3_21 ∧ XR b3_23 r3_23 ∧ XR b3_24 r3_24 ∧ XS b3_25 b3_24 .ret ∧ XC b3_26 (.t 51) b3_25 .skip ∧ XS b3_27 b3_23 b3_26 ∧ XS b3_28 b3_22 b3_27 ∧ XS b3_29 b3_18 b3_28 ∧ XS b3_30 b3_17 b3_29 ∧ XB b3_31 1 b3_30 ∧ XR b3_32 r3_32 ∧ XS b3_33 b3_31 b3_32 ∧ XS b3_34 b3_16 b3_33 ∧ XB b3_36 0 b3_35 ∧ XS b3_37 b3_13 b3_36 ∧ XR b3_38 r3_38 ∧ XR b3_39 r3_39 ∧ XR b3_40 r3_40 ∧ XS b3_41 b3_40 .ret ∧ XS b3_42 b3_39 b3_41 ∧ XS b3_44 b3_37 b3_43 ∧ XS b3_45 b3_12 b3_44 ∧ XS b3_46 b3_11 b3_45 ∧ XS b3_47 b3_10 b3_46 ∧ XS b3_48 b3_5 b3_47 ∧ XS b3_49 b3_0 b3_48 ∧ XY s3 72 b3_49 [.t 2] := ⟨rfl, rfl, rfl, rfl, sC_cond, rfl, rfl, rfl, rfl, sC_cond, rfl, rfl, rfl, rfl, rfl, sC_cond, rfl, rfl, rfl, rfl, rfl, sC_cond, rfl, rfl, rfl, rfl, sC_cond, rfl, rfl, rfl, rfl, rfl, rfl, rfl, rfl, rfl, rfl, rfl, rfl, rfl, rfl, rfl, rfl, rfl, rfl, rfl, rfl, rfl, rfl⟩

set_option maxHeartbeats 4000000
set_option maxRecDepth 10000
def U3 : PCall := rowQ 6 awakeD (rowQ 7 smallD (rowQ 8 lineD (rowQ 10 madeD (rowQ 9 textD (rowQ 11 readD (rowQ 12 sameD noCall))))))
theorem U3_app {f : FuncId} {args : List AV} {σ : AHeap} {K : AV → AHeap → Prop} : U3 f args σ K = rowQ 6 awakeD (rowQ 7 smallD (rowQ 8 lineD (rowQ 10 madeD (rowQ 9 textD (rowQ 11 readD (rowQ 12 sameD noCall)))))) f args σ K := _root_.id rfl
theorem U3_sound : Sound Tryd.prog U3 := rowQ_sound awakeD_ok (rowQ_sound smallD_ok (rowQ_sound lineD_ok (rowQ_sound madeD_ok (rowQ_sound textD_ok (rowQ_sound readD_ok (rowQ_sound sameD_ok (noCall_sound _)))))))
def hasB (e : Ev) : Bool := decide (hasL e)
def ttI (l : List Ev) (m : Nat) (e : Env) (σ : AHeap) : Prop := ∃ i : Nat, i ≤ l.length ∧ m = l.length - i ∧ e 0 = .imm (rowsE l) false false ∧ e 3 = .str (textS (l.take i)) ∧ e 5 = .int .i64 (i : Int) ∧ Grow σ (e 4) 6 (rowsE ((l.take i).filter hasB)) ∧ ∀ x ∈ l.take i, EvLow x
theorem line_nil {x : Ev} : lineS x = [] ↔ ¬ hasL x := by
  constructor
  · intro h hl
    have := congrArg List.length h
    rw [line_yes hl] at this; simp at this
  · exact line_no
theorem tt_end (l : List Ev) (hl : l.length ≤ 100) (hok : ∀ x ∈ l, EvOk x) (hlow : ∀ x ∈ l, EvLow x) (e : Env) (σ : AHeap) (e0 : e 0 = .imm (rowsE l) false false) (e3 : e 3 = .str (textS l)) (hg : Grow σ (e 4) 6 (rowsE (l.filter hasB))) :
    sC U3 0 b3_43 (unw U3 0 (RetQ [.t 2] Yes) .fin) e σ := by
  have htl := textS_len hok
  have htl2 : (textS l).length ≤ 100000000 := by
    have : 24101 * l.length ≤ 24101 * 100 := Nat.mul_le_mul_left _ hl
    omega
  generalize hv : e 4 = v at hg
  simp only [U3_app, Z3, x3_43, base1, baseX, baseY, ↓reduceIte, Nat.reduceAdd, Nat.reduceSub, Nat.reduceMul, Nat.reduceEqDiff, Nat.reduceLeDiff, Nat.reduceLT, Int.reduceLT, Int.reduceLE, Int.reduceEq, Int.reduceNe, Int.reduceToNat, Int.reduceAdd, Int.reduceSub, reduceCtorEq, Nat.reduceBEq, Nat.reduceBNe, e0, e3, hv]
  refine ⟨l, rfl, by omega, ?_⟩
  simp only [U3_app, Z3, x3_43, base1, baseX, baseY, ↓reduceIte, Nat.reduceAdd, Nat.reduceSub, Nat.reduceMul, Nat.reduceEqDiff, Nat.reduceLeDiff, Nat.reduceLT, Int.reduceLT, Int.reduceLE, Int.reduceEq, Int.reduceNe, Int.reduceToNat, Int.reduceAdd, Int.reduceSub, reduceCtorEq, Nat.reduceBEq, Nat.reduceBNe, e0, e3, hv]
  refine ⟨l, _, rfl, wv_imm l, by omega, hok, ?_⟩
  simp only [U3_app, Z3, x3_43, base1, baseX, baseY, ↓reduceIte, Nat.reduceAdd, Nat.reduceSub, Nat.reduceMul, Nat.reduceEqDiff, Nat.reduceLeDiff, Nat.reduceLT, Int.reduceLT, Int.reduceLE, Int.reduceEq, Int.reduceNe, Int.reduceToNat, Int.reduceAdd, Int.reduceSub, reduceCtorEq, Nat.reduceBEq, Nat.reduceBNe, e0, e3, hv]
  refine ⟨_, rfl, htl2, ?_⟩
  have hrd : readR (textS l) = .tuple [.imm (rowsE (l.filter hasB)) false false, .int .i64 0] := by
    unfold readR
    rw [read_text l _ hlow (Nat.le_refl _)]; rfl
  rw [hrd]
  simp only [U3_app, Z3, x3_43, base1, baseX, baseY, ↓reduceIte, Nat.reduceAdd, Nat.reduceSub, Nat.reduceMul, Nat.reduceEqDiff, Nat.reduceLeDiff, Nat.reduceLT, Int.reduceLT, Int.reduceLE, Int.reduceEq, Int.reduceNe, Int.reduceToNat, Int.reduceAdd, Int.reduceSub, reduceCtorEq, Nat.reduceBEq, Nat.reduceBNe, e0, e3, hv, decide_true]
  refine ⟨l.filter hasB, v, rfl, wv_grow hg, ?_, ?_⟩
  · have := List.length_filter_le hasB l; omega
  simp only [U3_app, Z3, x3_43, base1, baseX, baseY, ↓reduceIte, Nat.reduceAdd, Nat.reduceSub, Nat.reduceMul, Nat.reduceEqDiff, Nat.reduceLeDiff, Nat.reduceLT, Int.reduceLT, Int.reduceLE, Int.reduceEq, Int.reduceNe, Int.reduceToNat, Int.reduceAdd, Int.reduceSub, reduceCtorEq, Nat.reduceBEq, Nat.reduceBNe, e0, e3, hv]
  exact rfl
theorem tt_step (l : List Ev) (hl : l.length ≤ 100) (hok : ∀ x ∈ l, EvOk x) (m : Nat) (e : Env) (σ : AHeap) (h : ttI l m e σ) : sC U3 0 b3_34 (unw U3 0 (loopR U3 0 (RetQ [.t 2] Yes) (.block 0 (.seq b3_43 .fin)) (ttI l) m) .fin) e σ := by
  obtain ⟨i, hi, hm, e0, e3, e5, hg, hlow⟩ := h
  by_cases hlt : (i : Int) < (l.length : Int)
  · have k1 : i < l.length := by omega
    have k0 : (0 : Int) ≤ (i : Int) := by omega
    have hwr : IntKind.wrap .i64 ((i : Int) + 1) = ((i + 1 : Nat) : Int) := by rw [Gz.wrap64 (by omega)]; omega
    obtain ⟨x, hx⟩ : ∃ x, l[i]? = some x := ⟨_, List.getElem?_eq_getElem k1⟩
    have hxok := hok x (List.mem_of_getElem? hx)
    have hrow : (rowsE l)[i]? = some x.cells := by rw [rowsE, List.getElem?_map, hx]; rfl
    have htk : l.take (i + 1) = l.take i ++ [x] := by rw [List.take_add_one, hx]; rfl
    have hts : textS (l.take (i + 1)) = textS (l.take i) ++ lineS x := by rw [htk]; simp [textS]
    have hbl : (textS (l.take i)).length + (lineS x).length ≤ maxInt := by
      have h1 := textS_len (l := l.take i) fun y hy => hok y (List.mem_of_mem_take hy)
      have h2 : (l.take i).length ≤ 100 := by simp; omega
      have h3 : 24101 * (l.take i).length ≤ 24101 * 100 := Nat.mul_le_mul_left _ h2
      have h4 := lineS_len hxok
      unfold maxInt; omega
    generalize hv : e 4 = v at hg
    have hfl : (rowsE ((l.take i).filter hasB)).length < 1000000000 := by
      have h1 := List.length_filter_le hasB (l.take i)
      have h2 : (l.take i).length ≤ 100 := by simp; omega
      simp only [List.length_map]; omega
    obtain ⟨w, τ, a1, a2, a3, a4, a5⟩ := grow_one (b := 72) (by decide) hg hfl x.cells rfl rfl
    have low : x.who < 100000000000000000 → x.n < 100000000000000000 → ∀ y ∈ l.take (i + 1), EvLow y := fun q1 q2 y hy => by
      rw [htk] at hy
      rcases List.mem_append.1 hy with hy | hy
      · exact hlow y hy
      · simp at hy; subst hy; exact ⟨q1, q2⟩
    have hf1 : hasL x → rowsE ((l.take (i + 1)).filter hasB) = rowsE ((l.take i).filter hasB) ++ [x.cells] := fun hh => by
      rw [htk, List.filter_append]; simp [hasB, hh, rowsE]
    have hf0 : ¬ hasL x → rowsE ((l.take (i + 1)).filter hasB) = rowsE ((l.take i).filter hasB) := fun hh => by
      rw [htk, List.filter_append]; simp [hasB, hh, rowsE]
    have hln := @line_nil x
    have hq1 : decide (100000000000000000 ≤ x.who) = false → x.who < 100000000000000000 := fun h => by have := of_decide_eq_false h; omega
    have hq2 : decide (100000000000000000 ≤ x.n) = false → x.n < 100000000000000000 := fun h => by have := of_decide_eq_false h; omega
    obtain ⟨act, who, n, text, val, into⟩ := x
    simp only [Ev.cells] at hrow a1
    simp only [U3_app, Z3, x3_43, base1, baseX, baseY, ↓reduceIte, Nat.reduceAdd, Nat.reduceSub, Nat.reduceMul, Nat.reduceEqDiff, Nat.reduceLeDiff, Nat.reduceLT, Int.reduceLT, Int.reduceLE, Int.reduceEq, Int.reduceNe, Int.reduceToNat, Int.reduceAdd, Int.reduceSub, reduceCtorEq, Nat.reduceBEq, Nat.reduceBNe, lenOf_imm, loopR_exit, loopR_ret, e0, e3, e5, hv, hlt, List.length_map, k0, k1, Int.toNat_natCast, hrow]
    refine ⟨⟨act, who, n, text, val, into⟩, rfl, hxok, ?_⟩
    simp only at hq1 hq2 low
    by_cases hh : hasL ⟨act, who, n, text, val, into⟩
    · have hne : ¬ lineS ⟨act, who, n, text, val, into⟩ = [] := fun h => hln.1 h hh
      rw [← hf1 hh] at a5
      cases c1 : decide (100000000000000000 ≤ who) with
      | true =>
        simp only [U3_app, Z3, x3_43, base1, baseX, baseY, ↓reduceIte, Nat.reduceAdd, Nat.reduceSub, Nat.reduceMul, Nat.reduceEqDiff, Nat.reduceLeDiff, Nat.reduceLT, Int.reduceLT, Int.reduceLE, Int.reduceEq, Int.reduceNe, Int.reduceToNat, Int.reduceAdd, Int.reduceSub, reduceCtorEq, Nat.reduceBEq, Nat.reduceBNe, loopR_exit, loopR_ret, e0, e3, e5, hv, k0, k1, Int.toNat_natCast, hrow, hbl, lenOf_imm, List.length_map, ne_eq, hne, not_false_eq_true, decide_true, a1, c1]
        exact rfl
      | false =>
        cases c2 : decide (100000000000000000 ≤ n) with
        | true =>
          simp only [U3_app, Z3, x3_43, base1, baseX, baseY, ↓reduceIte, Nat.reduceAdd, Nat.reduceSub, Nat.reduceMul, Nat.reduceEqDiff, Nat.reduceLeDiff, Nat.reduceLT, Int.reduceLT, Int.reduceLE, Int.reduceEq, Int.reduceNe, Int.reduceToNat, Int.reduceAdd, Int.reduceSub, reduceCtorEq, Nat.reduceBEq, Nat.reduceBNe, loopR_exit, loopR_ret, e0, e3, e5, hv, k0, k1, Int.toNat_natCast, hrow, hbl, lenOf_imm, List.length_map, ne_eq, hne, not_false_eq_true, decide_true, a1, c1, c2]
          exact rfl
        | false =>
          simp only [U3_app, Z3, x3_43, base1, baseX, baseY, ↓reduceIte, Nat.reduceAdd, Nat.reduceSub, Nat.reduceMul, Nat.reduceEqDiff, Nat.reduceLeDiff, Nat.reduceLT, Int.reduceLT, Int.reduceLE, Int.reduceEq, Int.reduceNe, Int.reduceToNat, Int.reduceAdd, Int.reduceSub, reduceCtorEq, Nat.reduceBEq, Nat.reduceBNe, loopR_exit, loopR_ret, e0, e3, e5, hv, k0, k1, Int.toNat_natCast, hrow, hbl, lenOf_imm, List.length_map, ne_eq, hne, not_false_eq_true, decide_true, a1, c1, c2, hwr]
          rw [loopR_normal]
          exact ⟨l.length - (i + 1), _, _, by omega, .refl _ _ _, i + 1, k1, rfl, e0, by rw [hts]; rfl, rfl, a5, low (hq1 c1) (hq2 c2)⟩
    · have hne : lineS ⟨act, who, n, text, val, into⟩ = [] := hln.2 hh
      rw [← hf0 hh] at hg
      rw [hne, List.append_nil] at hts
      rw [hne] at hbl ⊢
      simp only [List.length_nil, Nat.add_zero] at hbl
      cases c1 : decide (100000000000000000 ≤ who) with
      | true =>
        simp only [U3_app, Z3, x3_43, base1, baseX, baseY, ↓reduceIte, Nat.reduceAdd, Nat.reduceSub, Nat.reduceMul, Nat.reduceEqDiff, Nat.reduceLeDiff, Nat.reduceLT, Int.reduceLT, Int.reduceLE, Int.reduceEq, Int.reduceNe, Int.reduceToNat, Int.reduceAdd, Int.reduceSub, reduceCtorEq, Nat.reduceBEq, Nat.reduceBNe, loopR_exit, loopR_ret, e0, e3, e5, hv, k0, k1, Int.toNat_natCast, hrow, hbl, List.length_nil, Nat.add_zero, List.append_nil, lenOf_imm, List.length_map, ne_eq, not_true, decide_false, c1]
        exact rfl
      | false =>
        cases c2 : decide (100000000000000000 ≤ n) with
        | true =>
          simp only [U3_app, Z3, x3_43, base1, baseX, baseY, ↓reduceIte, Nat.reduceAdd, Nat.reduceSub, Nat.reduceMul, Nat.reduceEqDiff, Nat.reduceLeDiff, Nat.reduceLT, Int.reduceLT, Int.reduceLE, Int.reduceEq, Int.reduceNe, Int.reduceToNat, Int.reduceAdd, Int.reduceSub, reduceCtorEq, Nat.reduceBEq, Nat.reduceBNe, loopR_exit, loopR_ret, e0, e3, e5, hv, k0, k1, Int.toNat_natCast, hrow, hbl, List.length_nil, Nat.add_zero, List.append_nil, lenOf_imm, List.length_map, ne_eq, not_true, decide_false, c1, c2]
          exact rfl
        | false =>
          simp only [U3_app, Z3, x3_43, base1, baseX, baseY, ↓reduceIte, Nat.reduceAdd, Nat.reduceSub, Nat.reduceMul, Nat.reduceEqDiff, Nat.reduceLeDiff, Nat.reduceLT, Int.reduceLT, Int.reduceLE, Int.reduceEq, Int.reduceNe, Int.reduceToNat, Int.reduceAdd, Int.reduceSub, reduceCtorEq, Nat.reduceBEq, Nat.reduceBNe, loopR_exit, loopR_ret, e0, e3, e5, hv, k0, k1, Int.toNat_natCast, hrow, hbl, List.length_nil, Nat.add_zero, List.append_nil, lenOf_imm, List.length_map, ne_eq, not_true, decide_false, c1, c2, hwr]
          rw [loopR_normal]
          exact ⟨l.length - (i + 1), _, _, by omega, .refl _ _ _, i + 1, k1, rfl, e0, by rw [hts]; rfl, rfl, by rw [← hv] at hg; exact hg, low (hq1 c1) (hq2 c2)⟩
  · have hi' : i = l.length := by omega
    subst hi'
    rw [List.take_length] at e3 hg hlow
    simp only [U3_app, Z3, base1, baseX, baseY, ↓reduceIte, Nat.reduceAdd, Nat.reduceSub, Nat.reduceMul, Nat.reduceEqDiff, Nat.reduceLeDiff, Nat.reduceLT, Int.reduceLT, Int.reduceLE, Int.reduceEq, Int.reduceNe, Int.reduceToNat, Int.reduceAdd, Int.reduceSub, reduceCtorEq, Nat.reduceBEq, Nat.reduceBNe, lenOf_imm, loopR_exit, loopR_ret, e0, e3, e5, hlt, List.length_map]
    exact tt_end l hl hok hlow _ σ e0 e3 hg
theorem tt_ok (l : List Ev) (h1 : l.length ≤ reachBytes) (h2 : ∀ x ∈ l, EvIn x) : Tri Tryd.prog 3 [.imm (rowsE l) false false] [] Yes := by
  refine Tri.of_s c3 U3_sound ?_
  simp only [U3_app, Z3, x3_43, base1, baseX, baseY, ↓reduceIte, Nat.reduceAdd, Nat.reduceSub, Nat.reduceMul, Nat.reduceEqDiff, Nat.reduceLeDiff, Nat.reduceLT, Int.reduceLT, Int.reduceLE, Int.reduceEq, Int.reduceNe, Int.reduceToNat, Int.reduceAdd, Int.reduceSub, reduceCtorEq, Nat.reduceBEq, Nat.reduceBNe]
  refine ⟨rfl, ?_⟩
  simp only [U3_app, Z3, x3_43, base1, baseX, baseY, ↓reduceIte, Nat.reduceAdd, Nat.reduceSub, Nat.reduceMul, Nat.reduceEqDiff, Nat.reduceLeDiff, Nat.reduceLT, Int.reduceLT, Int.reduceLE, Int.reduceEq, Int.reduceNe, Int.reduceToNat, Int.reduceAdd, Int.reduceSub, reduceCtorEq, Nat.reduceBEq, Nat.reduceBNe, Bool.not_true]
  refine ⟨l, 100, rfl, h1, h2, fun b hb => ?_⟩
  cases b with
  | false =>
    simp only [U3_app, Z3, x3_43, base1, baseX, baseY, ↓reduceIte, Nat.reduceAdd, Nat.reduceSub, Nat.reduceMul, Nat.reduceEqDiff, Nat.reduceLeDiff, Nat.reduceLT, Int.reduceLT, Int.reduceLE, Int.reduceEq, Int.reduceNe, Int.reduceToNat, Int.reduceAdd, Int.reduceSub, reduceCtorEq, Nat.reduceBEq, Nat.reduceBNe, Bool.not_false]
    exact rfl
  | true =>
    have hs := hb rfl
    have hok := in_ok h2 hs
    simp only [U3_app, Z3, base1, baseX, baseY, ↓reduceIte, Nat.reduceAdd, Nat.reduceSub, Nat.reduceMul, Nat.reduceEqDiff, Nat.reduceLeDiff, Nat.reduceLT, Int.reduceLT, Int.reduceLE, Int.reduceEq, Int.reduceNe, Int.reduceToNat, Int.reduceAdd, Int.reduceSub, reduceCtorEq, Nat.reduceBEq, Nat.reduceBNe, Bool.not_true]
    refine sC_inv (a := b3_34) (ttI l) l.length _ _ (.refl _ _ _) ?_ (tt_step l hs.1 hok)
    exact ⟨0, by omega, by omega, rfl, rfl, rfl, .inl ⟨rfl, rfl⟩, by simp⟩
end Go.Proofs.YtbamlhgjpggihaaDoor.tale

/- From the rows' condition to what the package variables hold; a state that meets it; the wrap that hands on shape and condition. No condition. -/
set_option linter.unusedVariables false
set_option linter.unusedSimpArgs false
namespace Go.Proofs.YtbamlhgjpggihaaDoor.tale
open Go.ChangeShapes Go.WideShapes Go.ChangeAt Go.RowKit Go.Gz

theorem own : ownKnob Tryd.prog.godebug = none := by kernel_rfl
theorem laidOut : laidOutB Tryd.prog = true := by kernel_rfl
theorem gPow : Tryd.prog.globalNamed "internal/strconv.uint64pow10" = some 1 := by kernel_rfl
theorem tPow : (Tryd.prog.globals[1]?).map (·.type) = some 88 := by kernel_rfl
theorem gErr : Tryd.prog.globalNamed "strconv.ErrSyntax" = some 2 := by kernel_rfl
theorem tErr : (Tryd.prog.globals[2]?).map (·.type) = some 48 := by kernel_rfl
theorem star : "*" ++ "errors.errorString" = "*errors.errorString" := by decide
theorem row116 (u : TypeId) (h : Tryd.prog.typeName? 3 u = some "*errors.errorString") : u = 116 :=
  typeName_ptr_named (nm := "errors.errorString") (by rw [star]; kernel_rfl) (by kernel_rfl) (by decide) u (by rw [star]; exact h)

abbrev laidL : List (String × DataW Unit) := Rows.taleReadsRow.laid

theorem laid_plain {W : World} (h : laidMetH Tryd.prog laidL W) : laidMet Tryd.prog laidL W := by
  rw [MakeChecks.laidMetH_plain _ _ _ (by kernel_rfl)] at h
  exact h

/-- What the row's condition says of the variables that the library reads. -/
theorem laid_of {W : World} (h : laidMetH Tryd.prog laidL W) (hsh : W.ShapedOpen Tryd.prog) : Laid W := by
  have h0 := laid_plain h
  refine ⟨Tryd.laysM145.s1_3 W hsh, ?_, ?_⟩
  · have h3 : laidMet Tryd.prog (("internal/strconv.uint64pow10", Lib.tabData .u64 ((List.range 20).map fun i => ((10 ^ i : Nat) : Int))) :: laidL.drop 3) W := h0.tail.tail
    exact Lib.tabIs_of_head gPow tPow Tryd.underlying88 Tryd.underlying79 (by kernel_rfl) (by kernel_rfl) h3
  · have h6 : laidMet Tryd.prog (("strconv.ErrSyntax", .iface "*errors.errorString" (.ptr (.agg [.lit (.string [105, 110, 118, 97, 108, 105, 100, 32, 115, 121, 110, 116, 97, 120])]))) :: laidL.drop 6) W := h0.tail.tail.tail.tail.tail
    obtain ⟨a, s, hv, _⟩ := laid_sentinel h6 gErr tErr Tryd.underlying48 row116 Tryd.underlying116 Tryd.underlying118 rfl rfl Tryd.underlying9 (by kernel_rfl) (by kernel_rfl)
    exact ⟨_, _, hv⟩

/-- A state that meets the condition: the door's own, and Go's own table where the row says. -/
noncomputable def wit (os : Os) : World :=
  let w0 := World.doorLaid Tryd.prog 72 os
  { w0 with heap := w0.heap.modify 6 fun
      | .cells _ t fr => .cells ((Go.Pinned.utf8FirstZ.map fun (n : Nat) => Value.int .u8 ((n : Nat) : Int)).toArray) t fr
      | o => o }

theorem wit_met (os : Os) (args : Array Value) : laidMetH Tryd.prog laidL ((wit os).forCall (fun _ _ => 0) ⟨#[], args, []⟩).memory :=
  laidMetH_of_parts3 (fuel := 8) (laidMet_of_run' 8 (by kernel_rfl) (by kernel_rfl)) (by kernel_rfl) (by kernel_rfl)

theorem wit_shaped (os : Os) (args : Array Value) : ((wit os).forCall (fun _ _ => 0) ⟨#[], args, []⟩).Shaped Tryd.prog :=
  World.shaped_of_RefB (by kernel_rfl) (by kernel_rfl)

section
variable {H : Type} {enc : TypeId × Value → H}
/-- The wrap that hands on the world's shape, and a condition on the world. -/
theorem returns_shaped_and {a : Assume} {C : Checked} {os : Os} {f : FuncId} {fn : Func} {s : ChangeSpec} {conds : List PathCond} {apart fresh handsOn again : Bool} {X : World → Array Value → Prop}
    (hX : ∀ (w w' : World) (args : Array Value), w.heap = w'.heap → X w args → X w' args)
    (own : ownKnob C.prog.godebug = none) (started : os.Started) (noInit : C.prog.inits.idxOf? f = none) (hfn : C.prog.funcs[f]? = some fn)
    (witness : ∃ (w : World) (tape : Tape) (i : Input), w.os = os ∧ (w.forCall tape i).Shaped C.prog ∧ i.vars = [] ∧ Input.okWide C.prog (w.forCall tape i) .any w.heap.size f i ∧
      ((s.pre enc C.prog fn conds apart (w.forCall tape i).memory i.args ∧ X (w.forCall tape i).memory i.args) ∧ sizedMet enc C.prog fn (OpenSpec.ofChange s) apart (w.forCall tape i).memory i.args) ∧ a.holds C.prog (lone (Frame.enter C.prog f i.args .normal) [] (w.forCall tape i)))
    (contract : ∀ (W : World) (base : Nat) (args : Array Value) (ds gs : List (DataW H)) (before : List MemPlace),
      (∀ (j : Nat) t v, fn.params[j]? = some t → args[j]? = some v → Value.okWide C.prog W .any base t v) →
      DataW.Whole enc C.prog fn.params.toList s.vars apart W args.toList ds gs before →
      (DataW.weightsEach C.prog (fn.params.toList ++ s.plain.varTypes C.prog) (ds ++ gs)).all (· ≤ reachBytes) = true → X W args → W.ShapedOpen C.prog →
      Calls C.prog f args W fun e W' => ∃ v, e = .returned v ∧ s.post enc C.prog fn apart fresh handsOn again W args v W') :
    ReturnsInHanded a C os f .any (fun w args => (s.pre enc C.prog fn conds apart w args ∧ X w args) ∧ sizedMet enc C.prog fn (OpenSpec.ofChange s) apart w args) (s.post enc C.prog fn apart fresh handsOn again) := by
  refine returnsInHanded_of_calls own started noInit witness ?_
  intro w tape i _ hsh _ hok hpre _
  obtain ⟨_, _, _, fn', hfn', _, _, _, _, hval⟩ := hok
  obtain rfl : fn' = fn := Option.some.inj (hfn'.symm.trans hfn)
  obtain ⟨⟨⟨ds, gs, before, hw, _⟩, hx⟩, hz⟩ := hpre
  have hw' := DataW.Whole.of_heap (w' := w.forCall tape i) (by rfl) hw
  refine (contract (w.forCall tape i) w.heap.size i.args ds gs before hval hw' (hz.weights hw) (hX _ _ _ (by rfl) hx) hsh).mono fun e W' ⟨v, he, hp⟩ => ?_
  subst he
  exact ChangeSpec.post_blind hp
end
end Go.Proofs.YtbamlhgjpggihaaDoor.tale
