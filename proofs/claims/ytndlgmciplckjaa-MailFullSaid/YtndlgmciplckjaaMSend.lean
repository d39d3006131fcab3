/- What is sent. No condition. -/
import Derived.Test.YtndlgmciplckjaaMMail
import Derived.Test.YtndlgmciplckjaaNPackN
set_option linter.unusedVariables false
set_option linter.unusedSimpArgs false
namespace Go.Proofs.Ytndlgmciplckjaa.note
open Go.ChangeShapes Go.WideShapes Go.ChangeAt Go.RowKit Go.Gz
abbrev r20_0 : List MOper := [⟨(some 4), .move (.c (.int .i64 0)), none⟩]
def b20_0 : SCode := .region r20_0
abbrev r20_1 : List MOper := [⟨(some 10), .move (.t 0), none⟩,
  ⟨(some 11), .bin .eql .nilp (.t 10) (.c (.nilptr)), none⟩]
def b20_1 : SCode := .region r20_1
abbrev r20_2 : List MOper := [⟨(some 4), .move (.c (.int .i64 0)), none⟩]
def b20_2 : SCode := .region r20_2
def b20_3 : SCode := .seq b20_2 .ret
def b20_4 : SCode := .cond (.t 11) b20_3 .skip
def b20_5 : SCode := .seq b20_1 b20_4
abbrev r20_6 : List MOper := [⟨(some 5), .move (.c (.int .i64 0)), none⟩]
def b20_6 : SCode := .region r20_6
abbrev r20_7 : List MOper := [⟨(some 12), .move (.t 1), none⟩,
  ⟨(some 13), .lenSl (.t 12), none⟩,
  ⟨(some 14), .move (.c (.int .i64 0)), none⟩]
def b20_7 : SCode := .region r20_7
abbrev r20_8 : List MOper := [⟨(some 15), .bin .lss .num (.t 14) (.t 13), none⟩]
def b20_8 : SCode := .region r20_8
def b20_9 : SCode := .cond (.t 15) .skip (.exit 0)
abbrev r20_10 : List MOper := [⟨(some 16), .indexAddr 27 (.t 12) (.t 14), none⟩,
  ⟨(some 17), .loadN 27 (.t 16), none⟩,
  ⟨(some 7), .alloc [.int .i64 0, .int .i64 0, .int .i64 0, .int .i64 0, .int .i64 0, .int .i64 0, .int .i64 0, .int .i64 0, .str [], .str [], .str [], .str [], .int .i64 0, .int .i64 0, .int .i64 0, .int .i64 0, .bool false, .str [], .nilslice, .str [], .bool false, .str [], .str [], .nilslice, .nilslice, .int .i64 0, .nilslice], none⟩,
  ⟨none, .store 27 (.t 7) (.t 17), none⟩]
def b20_10 : SCode := .region r20_10
abbrev r20_11 : List MOper := [⟨(some 19), .loadN 27 (.t 7), none⟩,
  ⟨(some 20), .call 12 [(.t 19)], none⟩,
  ⟨(some 18), .move (.t 20), none⟩,
  ⟨(some 21), .extract (.t 18) 0, none⟩,
  ⟨(some 22), .extract (.t 18) 1, none⟩,
  ⟨(some 8), .move (.t 21), none⟩,
  ⟨(some 9), .move (.t 22), none⟩]
def b20_11 : SCode := .region r20_11
abbrev t20_12 : LTree := (.quiet ⟨(some 23), .move (.t 9), none⟩ 0
  (.quiet ⟨(some 24), .bin .eql .num (.t 23) (.c (.int .i64 0)), none⟩ 1
  (.quiet ⟨(some 25), .move (.t 24), none⟩ 2
  (.quiet ⟨(some 26), .move (.t 0), (some (25, true))⟩ 3
  (.quiet ⟨(some 27), .nilCheck (.t 26), (some (25, true))⟩ 4
  (.quiet ⟨(some 28), .fieldAddr 0 (.t 27), (some (25, true))⟩ 5
  (.quiet ⟨(some 29), .load1 (.t 28), (some (25, true))⟩ 6
  (.quiet ⟨(some 30), .move (.t 8), (some (25, true))⟩ 7
  (.quiet ⟨(some 31), .ofBytes (.t 30), (some (25, true))⟩ 8
  (.loud ⟨(some 32), .call 53 [(.t 29), (.t 31)], (some (25, true))⟩ []
  (.quiet ⟨(some 33), .pick (.t 25) (.t 32) (.c (.bool false)), none⟩ 10
  .leaf) .stop))))))))))
def b20_12 : SCode := .draw t20_12
abbrev r20_13 : List MOper := [⟨(some 34), .move (.t 5), none⟩,
  ⟨(some 35), .bin .add .num (.t 34) (.c (.int .i64 1)), none⟩,
  ⟨(some 5), .move (.t 35), none⟩]
def b20_13 : SCode := .region r20_13
def b20_14 : SCode := .cond (.t 33) b20_13 .skip
def b20_15 : SCode := .seq b20_12 b20_14
def b20_16 : SCode := .seq b20_11 b20_15
def b20_17 : SCode := .seq b20_10 b20_16
def b20_18 : SCode := .block 1 b20_17
abbrev r20_19 : List MOper := [⟨(some 36), .bin .add .num (.t 14) (.c (.int .i64 1)), none⟩,
  ⟨(some 14), .move (.t 36), none⟩]
def b20_19 : SCode := .region r20_19
def b20_20 : SCode := .seq b20_18 b20_19
def b20_21 : SCode := .seq b20_9 b20_20
def b20_22 : SCode := .seq b20_8 b20_21
def b20_23 : SCode := .loop b20_22
def b20_24 : SCode := .block 0 b20_23
def b20_25 : SCode := .seq b20_7 b20_24
abbrev r20_26 : List MOper := [⟨(some 37), .move (.t 5), none⟩,
  ⟨(some 4), .move (.t 37), none⟩]
def b20_26 : SCode := .region r20_26
def b20_27 : SCode := .seq b20_26 .ret
def b20_28 : SCode := .seq b20_25 b20_27
def b20_29 : SCode := .seq b20_6 b20_28
def b20_30 : SCode := .seq b20_5 b20_29
def b20_31 : SCode := .seq b20_0 b20_30
def s20 : SFunc := ⟨38, [.t 4], b20_31⟩
theorem c20 : sFn Try.prog 20 = some s20 := by kernel_rfl
theorem Z20 : XR b20_0 r20_0 ∧ XR b20_1 r20_1 ∧ XR b20_2 r20_2 ∧ XS b20_3 b20_2 .ret ∧ XC b20_4 (.t 11) b20_3 .skip ∧ XS b20_5 b20_1 b20_4 ∧ XR b20_6 r20_6 ∧ XR b20_7 r20_7 ∧ XR b20_8 r20_8 ∧ XC b20_9 (.t 15) .skip (.exit 0) ∧ XR b20_10 r20_10 ∧ XR b20_11 r20_11 ∧ XT b20_12 t20_12 ∧ XR b20_13 r20_13 ∧ XC b20_14 (.t 33) b20_13 .skip ∧ XS b20_15 b20_12 b20_14 ∧ XS b20_16 b20_11 b20_15 ∧ XS b20_17 b20_10 b20_16 ∧ XB b20_18 1 b20_17 ∧ XR b20_19 r20_19 ∧ XS b20_20 b20_18 b20_19 ∧ XS b20_21 b20_9 b20_20 ∧ XS b20_22 b20_8 b20_21 ∧ XB b20_24 0 b20_23 ∧ XS b20_25 b20_7 b20_24 ∧ XR b20_26 r20_26 ∧ XS b20_27 b20_26 .ret ∧ XS b20_28 b20_25 b20_27 ∧ XS b20_29 b20_6 b20_28 ∧ XS b20_30 b20_5 b20_29 ∧ XS b20_31 b20_0 b20_30 ∧ XY s20 38 b20_31 [.t 4] := ⟨rfl, rfl, rfl, rfl, sC_cond, rfl, rfl, rfl, rfl, sC_cond, rfl, rfl, rfl, rfl, sC_cond, rfl, rfl, rfl, rfl, rfl, rfl, rfl, rfl, rfl, rfl, rfl, rfl, rfl, rfl, rfl, rfl, rfl⟩

set_option maxHeartbeats 4000000
set_option maxRecDepth 10000
def packZD (args : List AV) (σ : AHeap) (K : AV → AHeap → Prop) : Prop := ∃ (cs : List AV) (n : NoteV), args = [.agg cs] ∧ cs.map nz1 = n.cells ∧ n.sz ∧ K (packN n) σ
theorem packZD_ok (args : List AV) (σ : AHeap) (K : AV → AHeap → Prop) (h : packZD args σ K) : Tri Try.prog 12 args σ K := by
  obtain ⟨cs, n, rfl, hc, hs, h⟩ := h
  refine Tri.nz ?_
  rw [hc]
  exact packD_ok _ _ _ ⟨n, rfl, hs, h⟩
def U4 : PCall := rowQ 12 packZD (rowQ 53 pushD noCall)
theorem U4_app {f : FuncId} {args : List AV} {σ : AHeap} {K : AV → AHeap → Prop} : U4 f args σ K = rowQ 12 packZD (rowQ 53 pushD noCall) f args σ K := _root_.id rfl
theorem U4_sound : Sound Try.prog U4 := rowQ_sound packZD_ok (rowQ_sound pushD_ok (noCall_sound _))
def send1 (p : Nat × List (List UInt8)) (n : NoteV) : Nat × List (List UInt8) := if mayB n = true ∧ p.2.length < 512 then (p.1 + 1, p.2 ++ [n.bytes]) else p
def sendS (ss : List (List UInt8)) (l : List NoteV) : Nat × List (List UInt8) := l.foldl send1 (0, ss)
theorem sendS_take {ss : List (List UInt8)} {l : List NoteV} {i : Nat} {n : NoteV} (h : l[i]? = some n) : sendS ss (l.take (i + 1)) = send1 (sendS ss (l.take i)) n := by
  rw [List.take_add_one, h, sendS, List.foldl_append]; rfl
theorem sub_row27 {css : List (List AV)} {J cs : List AV} {i : Nat} (hl : ∀ r ∈ css, r.length = 27) (hi : css[i]? = some cs) : sub (css.flatten ++ J) (i * 27) 27 = some cs := by
  have key : ∀ (css : List (List AV)) (i : Nat), (∀ r ∈ css, r.length = 27) → css[i]? = some cs → (css.flatten ++ J).drop (i * 27) = cs ++ (css.drop (i + 1)).flatten ++ J := by
    intro css
    induction css with
    | nil => intro i _ h; simp at h
    | cons r rs ih =>
      intro i hl hi
      cases i with
      | zero => simp at hi; subst hi; simp
      | succ i =>
        have hr := hl r (by simp)
        have := ih i (fun x hx => hl x (by simp [hx])) (by simpa using hi)
        rw [List.flatten_cons, List.append_assoc, show (i + 1) * 27 = r.length + i * 27 by omega, List.drop_append, List.drop_eq_nil_of_le (by omega), List.nil_append, Nat.add_sub_cancel_left, this]
        simp
  have hc := hl cs (List.mem_of_getElem? hi)
  have hd := key css i hl hi
  unfold sub
  have hle : i * 27 + 27 ≤ (css.flatten ++ J).length := by
    have := congrArg List.length hd
    simp only [List.length_drop, List.length_append] at this
    rw [List.length_append]; omega
  rw [if_pos hle, hd, List.append_assoc, List.take_append_of_le_length (by omega), List.take_of_length_le (by omega)]
def sdI (σ0 : AHeap) (M S d : Nat) (cap : Option Nat) (ns : List NoteV) (ss : List (List UInt8)) (D : Option Nat) (m : Nat) (e : Env) (σ : AHeap) : Prop :=
  ∃ (i : Nat) (D' : Option Nat), i ≤ ns.length ∧ m = ns.length - i ∧ (sendS ss (ns.take i)).1 ≤ i ∧ Ml σ M S (sendS ss (ns.take i)).2 D' ∧ FrS σ0 σ S D D' ∧ e 0 = .ptr M 0 ∧ e 5 = .int .i64 ((sendS ss (ns.take i)).1 : Int) ∧ e 12 = .slice d 0 ns.length cap 27 ∧ e 13 = .int .i64 (ns.length : Int) ∧ e 14 = .int .i64 (i : Int)
theorem sd_step (σ0 : AHeap) (M S d : Nat) (cap : Option Nat) (ns : List NoteV) (css : List (List AV)) (J : List AV) (ss : List (List UInt8)) (D : Option Nat) (hd : hget σ0 d = some (css.flatten ++ J)) (hdS : d ≠ S) (hdD : D ≠ some d) (hcl : css.length = ns.length) (hc : ∀ (i : Nat) cs n, css[i]? = some cs → ns[i]? = some n → cs.map nz1 = n.cells)
    (hsz : ∀ n ∈ ns, n.sz) (hl : ns.length ≤ 100000) (Q : AV → AHeap → Prop) (hQ : ∀ σ' D', Ml σ' M S (sendS ss ns).2 D' → FrS σ0 σ' S D D' → Q (.int .i64 ((sendS ss ns).1 : Int)) σ') (n0 m : Nat) (e : Env) (σ : AHeap) (h : sdI σ0 M S d cap ns ss D m e σ) :
    sC U4 n0 b20_22 (unw U4 n0 (loopR U4 n0 (RetQ [.t 4] Q) (.block 0 (.seq b20_27 .fin)) (sdI σ0 M S d cap ns ss D) m) .fin) e σ := by
  obtain ⟨i, D', hi, hm, hcnt, hml, hfr, e0, e5, e12, e13, e14⟩ := h
  rcases Nat.lt_or_ge i ns.length with hlt | hge
  · have hlt' : (i : Int) < (ns.length : Int) := by omega
    have hge0 : (0 : Int) ≤ (i : Int) := by omega
    obtain ⟨n, hn⟩ : ∃ n, ns[i]? = some n := ⟨_, List.getElem?_eq_getElem hlt⟩
    obtain ⟨cs, hcs⟩ : ∃ cs, css[i]? = some cs := ⟨_, List.getElem?_eq_getElem (by omega)⟩
    have hcc := hc i cs n hcs hn
    have hlen : cs.length = 27 := by have := congrArg List.length hcc; rw [List.length_map] at this; rw [this]; rfl
    have hl27 : ∀ r ∈ css, r.length = 27 := fun r hr => by
      obtain ⟨j, hj⟩ := List.getElem?_of_mem hr
      obtain ⟨n', hn'⟩ : ∃ n', ns[j]? = some n' := ⟨_, List.getElem?_eq_getElem (by have := (List.getElem?_eq_some_iff.1 hj).1; omega)⟩
      have := congrArg List.length (hc j r n' hj hn')
      rw [List.length_map] at this; rw [this]; rfl
    have hcell : (cs.all fun x => x.isCell) = true := nz_cells (by rw [hcc]; rfl)
    obtain ⟨gd, gD⟩ := hfr d _ hd hdS hdD
    have hsub := sub_row27 (J := J) hl27 hcs
    have hput : put (bareC 0 0 0 0 0) 0 cs = some cs := put_all (by rw [hlen]; rfl)
    have hs27 : sub cs 0 27 = some cs := sub_all (by omega)
    have hw : IntKind.wrap .i64 ((i : Int) + 1) = ((i + 1 : Nat) : Int) := by rw [Gz.wrap64 (by omega)]; omega
    have hwc : IntKind.wrap .i64 (((sendS ss (ns.take i)).1 : Int) + 1) = (((sendS ss (ns.take i)).1 + 1 : Nat) : Int) := by rw [Gz.wrap64 (by omega)]; omega
    have hst := sendS_take (ss := ss) hn
    have pn : ∀ c : List AV, hget (hpush σ c) σ.length = some c := fun c => push_new rfl
    have sn : ∀ c c' : List AV, hget (hset (hpush σ c) σ.length c') σ.length = some c' := fun c c' => set_same (pn c)
    have al : ∀ (c c' : List AV) {j : Nat} {y : List AV}, hget σ j = some y → hget (hset (hpush σ c) σ.length c') j = some y := fun c c' {j y} hj => al_frame hj
    have fr1 : ∀ c c' : List AV, FrS σ (hset (hpush σ c) σ.length c') S D' D' := fun c c' j y hj _ h2 => ⟨al c c' hj, h2⟩
    have sp1 : ∀ c c' : List AV, Sp (hset (hpush σ c) σ.length c') S (sendS ss (ns.take i)).2 D' := fun c c' => sp_frame hml.sp fun j y hj _ => al c c' hj
    have ml1 : ∀ c c' : List AV, Ml (hset (hpush σ c) σ.length c') M S (sendS ss (ns.take i)).2 D' := fun c c' => hml.next (sp1 c c') (fr1 c c') hml.few
    have gm1 : ∀ c c' : List AV, hget (hset (hpush σ c) σ.length c') M = some [.ptr S 0] := fun c c' => (ml1 c c').m
    simp only [U4_app, Z20, base1, baseE, ↓reduceIte, Nat.reduceAdd, Nat.reduceSub, Nat.reduceMul, Nat.reduceEqDiff, Nat.reduceLeDiff, Nat.reduceLT, Int.reduceLT, Int.reduceLE, Int.reduceEq, Int.reduceNe, Int.reduceToNat, Int.reduceAdd, Int.reduceSub, reduceCtorEq, Nat.reduceBEq, Nat.reduceBNe, loopR_exit, loopR_ret, e0, e5, e12, e13, e14, hlt', hlt, hge0, gd, hsub, hput, hs27, hlen, hcell, pn, sn, Int.toNat_natCast]
    refine ⟨cs, n, rfl, hcc, hsz n (List.mem_of_getElem? hn), ?_⟩
    cases hmay : mayB n with
    | false =>
      have hs1 : sendS ss (ns.take (i + 1)) = sendS ss (ns.take i) := by rw [hst]; unfold send1; rw [if_neg (by rw [hmay]; simp)]
      simp only [U4_app, Z20, base1, baseE, ↓reduceIte, Nat.reduceAdd, Nat.reduceSub, Nat.reduceMul, Nat.reduceEqDiff, Nat.reduceLeDiff, Nat.reduceLT, Int.reduceLT, Int.reduceLE, Int.reduceEq, Int.reduceNe, Int.reduceToNat, Int.reduceAdd, Int.reduceSub, reduceCtorEq, Nat.reduceBEq, Nat.reduceBNe, packN, hmay, e0, e5, e12, e13, e14, hw]
      rw [loopR_normal]
      exact ⟨ns.length - (i + 1), _, _, by omega, .refl _ _ _, i + 1, D', hlt, rfl, by rw [hs1]; omega, by rw [hs1]; exact ml1 _ _, hfr.trans (fr1 _ _), e0, by rw [hs1]; exact e5, e12, e13, rfl⟩
    | true =>
      simp only [U4_app, Z20, base1, baseE, ↓reduceIte, Nat.reduceAdd, Nat.reduceSub, Nat.reduceMul, Nat.reduceEqDiff, Nat.reduceLeDiff, Nat.reduceLT, Int.reduceLT, Int.reduceLE, Int.reduceEq, Int.reduceNe, Int.reduceToNat, Int.reduceAdd, Int.reduceSub, reduceCtorEq, Nat.reduceBEq, Nat.reduceBNe, packN, hmay, e0, e5, e12, e13, e14, gm1, ofRws]
      refine ⟨S, n.bytes, _, D', rfl, sp1 _ _, fun hf => ?_, fun hf σ2 D2 hs2 hf2 => ?_⟩
      · have hs1 : sendS ss (ns.take (i + 1)) = sendS ss (ns.take i) := by rw [hst]; unfold send1; rw [if_neg (by omega)]
        simp only [U4_app, Z20, base1, baseE, ↓reduceIte, Nat.reduceAdd, Nat.reduceSub, Nat.reduceMul, Nat.reduceEqDiff, Nat.reduceLeDiff, Nat.reduceLT, Int.reduceLT, Int.reduceLE, Int.reduceEq, Int.reduceNe, Int.reduceToNat, Int.reduceAdd, Int.reduceSub, reduceCtorEq, Nat.reduceBEq, Nat.reduceBNe, e0, e5, e12, e13, e14, hw, gm1, ofRws]
        rw [loopR_normal]
        exact ⟨ns.length - (i + 1), _, _, by omega, .refl _ _ _, i + 1, D', hlt, rfl, by rw [hs1]; omega, by rw [hs1]; exact ml1 _ _, hfr.trans (fr1 _ _), e0, by rw [hs1]; exact e5, e12, e13, rfl⟩
      · have hs1 : sendS ss (ns.take (i + 1)) = ((sendS ss (ns.take i)).1 + 1, (sendS ss (ns.take i)).2 ++ [n.bytes]) := by rw [hst]; unfold send1; rw [if_pos ⟨hmay, hf⟩]
        have ml2 := (ml1 _ _).next hs2 hf2 (by simp; omega)
        have gm2 := ml2.m
        simp only [U4_app, Z20, base1, baseE, ↓reduceIte, Nat.reduceAdd, Nat.reduceSub, Nat.reduceMul, Nat.reduceEqDiff, Nat.reduceLeDiff, Nat.reduceLT, Int.reduceLT, Int.reduceLE, Int.reduceEq, Int.reduceNe, Int.reduceToNat, Int.reduceAdd, Int.reduceSub, reduceCtorEq, Nat.reduceBEq, Nat.reduceBNe, e0, e5, e12, e13, e14, hw, hwc, gm2, ofRws]
        rw [loopR_normal]
        exact ⟨ns.length - (i + 1), _, _, by omega, .refl _ _ _, i + 1, D2, hlt, rfl, by rw [hs1]; simp; omega, by rw [hs1]; exact ml2, (hfr.trans (fr1 _ _)).trans hf2, e0, by rw [hs1]; rfl, e12, e13, rfl⟩
  · have hlt' : ¬ (i : Int) < (ns.length : Int) := by omega
    have hie : i = ns.length := by omega
    subst hie
    rw [List.take_length] at hml e5
    simp only [U4_app, Z20, base1, baseE, ↓reduceIte, Nat.reduceAdd, Nat.reduceSub, Nat.reduceMul, Nat.reduceEqDiff, Nat.reduceLeDiff, Nat.reduceLT, Int.reduceLT, Int.reduceLE, Int.reduceEq, Int.reduceNe, Int.reduceToNat, Int.reduceAdd, Int.reduceSub, reduceCtorEq, Nat.reduceBEq, Nat.reduceBNe, loopR_exit, loopR_ret, e0, e5, e12, e13, e14, hlt']
    exact hQ _ _ hml hfr
def msendD (args : List AV) (σ : AHeap) (K : AV → AHeap → Prop) : Prop := ∃ (M S d : Nat) (cap : Option Nat) (ns : List NoteV) (css : List (List AV)) (J : List AV) (ss : List (List UInt8)) (D : Option Nat), args = [.ptr M 0, .slice d 0 ns.length cap 27] ∧ hget σ d = some (css.flatten ++ J) ∧ d ≠ S ∧ D ≠ some d ∧ css.length = ns.length ∧
  (∀ (i : Nat) cs n, css[i]? = some cs → ns[i]? = some n → cs.map nz1 = n.cells) ∧ (∀ n ∈ ns, n.sz) ∧ ns.length ≤ 100000 ∧ Ml σ M S ss D ∧ (∀ σ' D', Ml σ' M S (sendS ss ns).2 D' → FrS σ σ' S D D' → K (.int .i64 ((sendS ss ns).1 : Int)) σ')
theorem msendD_ok (args : List AV) (σ : AHeap) (K : AV → AHeap → Prop) (h : msendD args σ K) : Tri Try.prog 20 args σ K := by
  obtain ⟨M, S, d, cap, ns, css, J, ss, D, rfl, hd, hdS, hdD, hcl, hc, hsz, hl, hm, hK⟩ := h
  refine Tri.of_s c20 U4_sound ?_
  have l0 : lenOf (.slice d 0 ns.length cap 27) = some ns.length := rfl
  simp only [U4_app, Z20, base1, baseE, ↓reduceIte, Nat.reduceAdd, Nat.reduceSub, Nat.reduceMul, Nat.reduceEqDiff, Nat.reduceLeDiff, Nat.reduceLT, Int.reduceLT, Int.reduceLE, Int.reduceEq, Int.reduceNe, Int.reduceToNat, Int.reduceAdd, Int.reduceSub, reduceCtorEq, Nat.reduceBEq, Nat.reduceBNe, l0]
  exact sC_inv (a := b20_22) (sdI σ M S d cap ns ss D) ns.length _ _ (.refl _ _ _) ⟨0, D, Nat.zero_le _, rfl, Nat.le_refl _, hm, FrS.refl _ _ _, rfl, rfl, rfl, rfl, rfl⟩ (sd_step σ M S d cap ns css J ss D hd hdS hdD hcl hc hsz hl K hK σ.length)
end Go.Proofs.Ytndlgmciplckjaa.note
