/- What reading makes of an atlas, of records and last answers. No condition. -/
import Derived.Test.YtndlgmciplckjabK34
import Derived.Test.YtndlgmciplckjabND
set_option linter.unusedVariables false
set_option linter.unusedSimpArgs false
namespace Go.Proofs.Ytndlgmciplckjab.note
open Go.ChangeShapes Go.WideShapes Go.ChangeAt Go.RowKit Go.Gz
abbrev r66_0 : List MOper := [⟨(some 2), .alloc [.int .i64 0, .nilslice], none⟩]
def b66_0 : SCode := .region r66_0
abbrev r66_1 : List MOper := [⟨(some 7), .move (.t 0), none⟩,
  ⟨(some 8), .call 51 [(.t 7)], none⟩,
  ⟨(some 9), .build [.int .i64 0, .nilslice] [(0, 1, (.t 8))], none⟩,
  ⟨(some 3), .alloc [.int .i64 0, .nilslice], none⟩,
  ⟨none, .store 2 (.t 3) (.t 9), none⟩]
def b66_1 : SCode := .region r66_1
abbrev r66_2 : List MOper := [⟨(some 10), .move (.t 0), none⟩,
  ⟨(some 11), .call 64 [(.t 10)], none⟩,
  ⟨(some 4), .move (.t 11), none⟩]
def b66_2 : SCode := .region r66_2
abbrev r66_3 : List MOper := [⟨(some 12), .move (.t 0), none⟩,
  ⟨(some 13), .nilCheck (.t 12), none⟩,
  ⟨(some 14), .fieldAddr 1 (.t 13), none⟩,
  ⟨(some 15), .load1 (.t 14), none⟩,
  ⟨(some 16), .bin .neq .num (.t 15) (.c (.int .i64 0)), none⟩]
def b66_3 : SCode := .region r66_3
abbrev r66_4 : List MOper := [⟨(some 17), .build [.int .i64 0, .nilslice] [], none⟩,
  ⟨none, .store 2 (.t 2) (.t 17), none⟩]
def b66_4 : SCode := .region r66_4
def b66_5 : SCode := .seq b66_4 .ret
def b66_6 : SCode := .cond (.t 16) b66_5 .skip
def b66_7 : SCode := .seq b66_3 b66_6
abbrev r66_8 : List MOper := [⟨(some 19), .move (.t 4), none⟩,
  ⟨(some 20), .toBytes (.t 19), none⟩,
  ⟨(some 21), .call 71 [(.t 20), (.c (.func 72 []))], none⟩,
  ⟨(some 18), .move (.t 21), none⟩,
  ⟨(some 22), .extract (.t 18) 0, none⟩,
  ⟨(some 23), .extract (.t 18) 1, none⟩,
  ⟨(some 5), .move (.t 22), none⟩,
  ⟨(some 6), .move (.t 23), none⟩]
def b66_8 : SCode := .region r66_8
abbrev r66_9 : List MOper := [⟨(some 24), .move (.t 6), none⟩,
  ⟨(some 25), .bin .neq .num (.t 24) (.c (.int .i64 0)), none⟩]
def b66_9 : SCode := .region r66_9
abbrev r66_10 : List MOper := [⟨(some 26), .move (.t 0), none⟩,
  ⟨(some 27), .nilCheck (.t 26), none⟩,
  ⟨(some 28), .fieldAddr 1 (.t 27), none⟩,
  ⟨none, .store 1 (.t 28) (.c (.int .i64 5)), none⟩]
def b66_10 : SCode := .region r66_10
abbrev r66_11 : List MOper := [⟨(some 29), .build [.int .i64 0, .nilslice] [], none⟩,
  ⟨none, .store 2 (.t 2) (.t 29), none⟩]
def b66_11 : SCode := .region r66_11
def b66_12 : SCode := .seq b66_11 .ret
def b66_13 : SCode := .seq b66_10 b66_12
def b66_14 : SCode := .cond (.t 25) b66_13 .skip
def b66_15 : SCode := .seq b66_9 b66_14
abbrev r66_16 : List MOper := [⟨(some 30), .move (.t 5), none⟩,
  ⟨(some 31), .fieldAddr 1 (.t 3), none⟩,
  ⟨none, .store 1 (.t 31) (.t 30), none⟩]
def b66_16 : SCode := .region r66_16
abbrev r66_17 : List MOper := [⟨(some 32), .loadN 2 (.t 3), none⟩,
  ⟨none, .store 2 (.t 2) (.t 32), none⟩]
def b66_17 : SCode := .region r66_17
def b66_18 : SCode := .seq b66_17 .ret
def b66_19 : SCode := .seq b66_16 b66_18
def b66_20 : SCode := .seq b66_15 b66_19
def b66_21 : SCode := .seq b66_8 b66_20
def b66_22 : SCode := .seq b66_7 b66_21
def b66_23 : SCode := .seq b66_2 b66_22
def b66_24 : SCode := .seq b66_1 b66_23
def b66_25 : SCode := .seq b66_0 b66_24
def s66 : SFunc := ⟨33, [.cN 2 2], b66_25⟩
theorem c66 : sFn Try.prog 66 = some s66 := by kernel_rfl
theorem Z66 : XR b66_0 r66_0 ∧ XR b66_1 r66_1 ∧ XR b66_2 r66_2 ∧ XR b66_3 r66_3 ∧ XR b66_4 r66_4 ∧ XS b66_5 b66_4 .ret ∧ XC b66_6 (.t 16) b66_5 .skip ∧ XS b66_7 b66_3 b66_6 ∧ XR b66_8 r66_8 ∧ XR b66_9 r66_9 ∧ XR b66_10 r66_10 ∧ XR b66_11 r66_11 ∧ XS b66_12 b66_11 .ret ∧ XS b66_13 b66_10 b66_12 ∧ XC b66_14 (.t 25) b66_13 .skip ∧ XS b66_15 b66_9 b66_14 ∧ XR b66_16 r66_16 ∧ XR b66_17 r66_17 ∧ XS b66_18 b66_17 .ret ∧ XS b66_19 b66_16 b66_18 ∧ XS b66_20 b66_15 b66_19 ∧ XS b66_21 b66_8 b66_20 ∧ XS b66_22 b66_7 b66_21 ∧ XS b66_23 b66_2 b66_22 ∧ XS b66_24 b66_1 b66_23 ∧ XS b66_25 b66_0 b66_24 ∧ XY s66 33 b66_25 [.cN 2 2] := ⟨rfl, rfl, rfl, rfl, rfl, rfl, sC_cond, rfl, rfl, rfl, rfl, rfl, rfl, rfl, sC_cond, rfl, rfl, rfl, rfl, rfl, rfl, rfl, rfl, rfl, rfl, rfl, rfl⟩
abbrev r67_0 : List MOper := [⟨(some 2), .move (.c (.nilslice)), none⟩,
  ⟨(some 3), .move (.c (.nilslice)), none⟩]
def b67_0 : SCode := .region r67_0
abbrev r67_1 : List MOper := [⟨(some 10), .move (.t 0), none⟩,
  ⟨(some 11), .call 64 [(.t 10)], none⟩,
  ⟨(some 12), .move (.t 0), none⟩,
  ⟨(some 13), .call 64 [(.t 12)], none⟩,
  ⟨(some 4), .move (.t 11), none⟩,
  ⟨(some 5), .move (.t 13), none⟩]
def b67_1 : SCode := .region r67_1
abbrev r67_2 : List MOper := [⟨(some 14), .move (.t 0), none⟩,
  ⟨(some 15), .nilCheck (.t 14), none⟩,
  ⟨(some 16), .fieldAddr 1 (.t 15), none⟩,
  ⟨(some 17), .load1 (.t 16), none⟩,
  ⟨(some 18), .bin .neq .num (.t 17) (.c (.int .i64 0)), none⟩]
def b67_2 : SCode := .region r67_2
abbrev r67_3 : List MOper := [⟨(some 2), .move (.c (.nilslice)), none⟩,
  ⟨(some 3), .move (.c (.nilslice)), none⟩]
def b67_3 : SCode := .region r67_3
def b67_4 : SCode := .seq b67_3 .ret
def b67_5 : SCode := .cond (.t 18) b67_4 .skip
def b67_6 : SCode := .seq b67_2 b67_5
abbrev r67_7 : List MOper := [⟨(some 20), .move (.t 4), none⟩,
  ⟨(some 21), .toBytes (.t 20), none⟩,
  ⟨(some 22), .call 73 [(.t 21), (.c (.func 74 []))], none⟩,
  ⟨(some 19), .move (.t 22), none⟩,
  ⟨(some 23), .extract (.t 19) 0, none⟩,
  ⟨(some 24), .extract (.t 19) 1, none⟩,
  ⟨(some 6), .move (.t 23), none⟩,
  ⟨(some 7), .move (.t 24), none⟩]
def b67_7 : SCode := .region r67_7
abbrev r67_8 : List MOper := [⟨(some 26), .move (.t 5), none⟩,
  ⟨(some 27), .toBytes (.t 26), none⟩,
  ⟨(some 28), .call 75 [(.t 27), (.c (.func 76 []))], none⟩,
  ⟨(some 25), .move (.t 28), none⟩,
  ⟨(some 29), .extract (.t 25) 0, none⟩,
  ⟨(some 30), .extract (.t 25) 1, none⟩,
  ⟨(some 8), .move (.t 29), none⟩,
  ⟨(some 9), .move (.t 30), none⟩]
def b67_8 : SCode := .region r67_8
abbrev r67_9 : List MOper := [⟨(some 31), .move (.t 7), none⟩,
  ⟨(some 32), .bin .neq .num (.t 31) (.c (.int .i64 0)), none⟩,
  ⟨(some 33), .move (.t 32), none⟩,
  ⟨(some 34), .move (.t 9), (some (33, false))⟩,
  ⟨(some 35), .bin .neq .num (.t 34) (.c (.int .i64 0)), (some (33, false))⟩,
  ⟨(some 36), .pick (.t 33) (.c (.bool true)) (.t 35), none⟩]
def b67_9 : SCode := .region r67_9
abbrev r67_10 : List MOper := [⟨(some 37), .move (.t 0), none⟩,
  ⟨(some 38), .nilCheck (.t 37), none⟩,
  ⟨(some 39), .fieldAddr 1 (.t 38), none⟩,
  ⟨none, .store 1 (.t 39) (.c (.int .i64 5)), none⟩]
def b67_10 : SCode := .region r67_10
abbrev r67_11 : List MOper := [⟨(some 2), .move (.c (.nilslice)), none⟩,
  ⟨(some 3), .move (.c (.nilslice)), none⟩]
def b67_11 : SCode := .region r67_11
def b67_12 : SCode := .seq b67_11 .ret
def b67_13 : SCode := .seq b67_10 b67_12
def b67_14 : SCode := .cond (.t 36) b67_13 .skip
def b67_15 : SCode := .seq b67_9 b67_14
abbrev r67_16 : List MOper := [⟨(some 40), .move (.t 6), none⟩,
  ⟨(some 41), .move (.t 8), none⟩,
  ⟨(some 2), .move (.t 40), none⟩,
  ⟨(some 3), .move (.t 41), none⟩]
def b67_16 : SCode := .region r67_16
def b67_17 : SCode := .seq b67_16 .ret
def b67_18 : SCode := .seq b67_15 b67_17
def b67_19 : SCode := .seq b67_8 b67_18
def b67_20 : SCode := .seq b67_7 b67_19
def b67_21 : SCode := .seq b67_6 b67_20
def b67_22 : SCode := .seq b67_1 b67_21
def b67_23 : SCode := .seq b67_0 b67_22
def s67 : SFunc := ⟨42, [.t 2, .t 3], b67_23⟩
theorem c67 : sFn Try.prog 67 = some s67 := by kernel_rfl
theorem Z67 : XR b67_0 r67_0 ∧ XR b67_1 r67_1 ∧ XR b67_2 r67_2 ∧ XR b67_3 r67_3 ∧ XS b67_4 b67_3 .ret ∧ XC b67_5 (.t 18) b67_4 .skip ∧ XS b67_6 b67_2 b67_5 ∧ XR b67_7 r67_7 ∧ XR b67_8 r67_8 ∧ XR b67_9 r67_9 ∧ XR b67_10 r67_10 ∧ XR b67_11 r67_11 ∧ XS b67_12 b67_11 .ret ∧ XS b67_13 b67_10 b67_12 ∧ XC b67_14 (.t 36) b67_13 .skip ∧ XS b67_15 b67_9 b67_14 ∧ XR b67_16 r67_16 ∧ XS b67_17 b67_16 .ret ∧ XS b67_18 b67_15 b67_17 ∧ XS b67_19 b67_8 b67_18 ∧ XS b67_20 b67_7 b67_19 ∧ XS b67_21 b67_6 b67_20 ∧ XS b67_22 b67_1 b67_21 ∧ XS b67_23 b67_0 b67_22 ∧ XY s67 42 b67_23 [.t 2, .t 3] := ⟨rfl, rfl, rfl, rfl, rfl, sC_cond, rfl, rfl, rfl, rfl, rfl, rfl, rfl, rfl, sC_cond, rfl, rfl, rfl, rfl, rfl, rfl, rfl, rfl, rfl, rfl⟩

set_option maxHeartbeats 4000000
set_option maxRecDepth 10000
def listShRD (args : List AV) (σ : AHeap) (K : AV → AHeap → Prop) : Prop := ∃ (d : Nat) (bs : List UInt8), args = [.slice d 0 bs.length none 1, .func 72 []] ∧ hget σ d = some (bs.map byteAV) ∧ K (ansLSh (readSh bs)) (hkill σ d)
theorem listShRD_ok (args : List AV) (σ : AHeap) (K : AV → AHeap → Prop) (h : listShRD args σ K) : Tri Try.prog 71 args σ K := by
  obtain ⟨d, bs, rfl, hd, h⟩ := h
  exact (give_bytes2 hd rfl (readSh_ok bs)).mono fun r σ' hr => by rw [hr.1, hr.2]; exact h
def listRecRD (args : List AV) (σ : AHeap) (K : AV → AHeap → Prop) : Prop := ∃ (d : Nat) (bs : List UInt8), args = [.slice d 0 bs.length none 1, .func 74 []] ∧ hget σ d = some (bs.map byteAV) ∧ K (ansLRec (readRec bs)) (hkill σ d)
theorem listRecRD_ok (args : List AV) (σ : AHeap) (K : AV → AHeap → Prop) (h : listRecRD args σ K) : Tri Try.prog 73 args σ K := by
  obtain ⟨d, bs, rfl, hd, h⟩ := h
  exact (give_bytes2 hd rfl (readRec_ok bs)).mono fun r σ' hr => by rw [hr.1, hr.2]; exact h
def listLaRD (args : List AV) (σ : AHeap) (K : AV → AHeap → Prop) : Prop := ∃ (d : Nat) (bs : List UInt8), args = [.slice d 0 bs.length none 1, .func 76 []] ∧ hget σ d = some (bs.map byteAV) ∧ K (ansLLa (readLa bs)) (hkill σ d)
theorem listLaRD_ok (args : List AV) (σ : AHeap) (K : AV → AHeap → Prop) (h : listLaRD args σ K) : Tri Try.prog 75 args σ K := by
  obtain ⟨d, bs, rfl, hd, h⟩ := h
  exact (give_bytes2 hd rfl (readLa_ok bs)).mono fun r σ' hr => by rw [hr.1, hr.2]; exact h
def askRD (args : List AV) (σ : AHeap) (K : AV → AHeap → Prop) : Prop := ∃ (d : Nat) (bs : List UInt8), args = [.slice d 0 bs.length none 1] ∧ hget σ d = some (bs.map byteAV) ∧ K (ansA (readAsk bs)) (hkill σ d)
theorem askRD_ok (args : List AV) (σ : AHeap) (K : AV → AHeap → Prop) (h : askRD args σ K) : Tri Try.prog 63 args σ K := by
  obtain ⟨d, bs, rfl, hd, h⟩ := h
  exact (give_bytes hd (readAsk_ok bs)).mono fun r σ' hr => by rw [hr.1, hr.2]; exact h
def F5 : PCall := rowQ 63 askRD (rowQ 65 replyRD (rowQ 71 listShRD (rowQ 73 listRecRD (rowQ 75 listLaRD (rowQ 51 numRD (rowQ 64 textRD (rowQ 52 endRD noCall)))))))
theorem F5_app {f : FuncId} {args : List AV} {σ : AHeap} {K : AV → AHeap → Prop} : F5 f args σ K = rowQ 63 askRD (rowQ 65 replyRD (rowQ 71 listShRD (rowQ 73 listRecRD (rowQ 75 listLaRD (rowQ 51 numRD (rowQ 64 textRD (rowQ 52 endRD noCall))))))) f args σ K := _root_.id rfl
theorem F5_sound : Sound Try.prog F5 := rowQ_sound askRD_ok (rowQ_sound replyRD_ok (rowQ_sound listShRD_ok (rowQ_sound listRecRD_ok (rowQ_sound listLaRD_ok (rowQ_sound numRD_ok (rowQ_sound textRD_ok (rowQ_sound endRD_ok (noCall_sound _))))))))
theorem kp {σ : AHeap} {j : Nat} {c d : List AV} (h : hget σ j = some d) : hget (hkill (hpush σ c) σ.length) j = some d := Fr1.kill (id := σ.length) j _ h (by have := hget_lt h; omega)
def chartRD (args : List AV) (σ : AHeap) (K : AV → AHeap → Prop) : Prop := ∃ (id : Nat) (s : St), args = [.ptr id 0] ∧ RdS σ id s.1 s.2 ∧ ∀ σ' x, RdS σ' id (readChart s).2.1 (readChart s).2.2 → Fr1 σ σ' id → x.pure = true → nz1 x = .imm ((readChart s).1.2.map ShV.cells) false false → K (.agg [.int .i64 (readChart s).1.1, x]) σ'
theorem chartRD_ok (args : List AV) (σ : AHeap) (K : AV → AHeap → Prop) (h : chartRD args σ K) : Tri Try.prog 66 args σ K := by
  obtain ⟨id, s, rfl, hr, hK⟩ := h
  refine Tri.of_s c66 F5_sound ?_
  have hid : id < σ.length := by obtain ⟨f, nn, hg⟩ := hr; exact hget_lt hg
  simp only [F5_app, Z66, base1, baseE, ↓reduceIte, Nat.reduceAdd, Nat.reduceSub, Nat.reduceMul, Nat.reduceEqDiff, Nat.reduceLeDiff, Nat.reduceLT, Int.reduceLT, Int.reduceLE, Int.reduceEq, Int.reduceNe, Int.reduceToNat, Int.reduceAdd, Int.reduceSub, reduceCtorEq, Nat.reduceBEq, Nat.reduceBNe]
  refine ⟨id, s.1, s.2, rfl, rd_push hr, fun σ1 r1 f1 => ?_⟩
  have b1 := f1 σ.length _ (push_new rfl) (by omega)
  have g1 : Fr1 σ σ1 id := Fr1.push.trans f1
  have r1 : RdS σ1 id (stN s).1 (stN s).2 := r1
  have l1 := hget_lt b1
  unfold readChart at hK
  have v0 : (rdNum s.1 s.2).1 = vN s := rfl
  rw [v0]
  generalize stN s = s1 at r1 hK ⊢
  generalize vN s = n at hK ⊢
  have pn : ∀ c : List AV, hget (hpush σ1 c) σ1.length = some c := fun c => push_new rfl
  have sn : ∀ c c' : List AV, hget (hset (hpush σ1 c) σ1.length c') σ1.length = some c' := fun c c' => set_same (pn c)
  simp only [F5_app, Z66, base1, baseE, ↓reduceIte, Nat.reduceAdd, Nat.reduceSub, Nat.reduceMul, Nat.reduceEqDiff, Nat.reduceLeDiff, Nat.reduceLT, Int.reduceLT, Int.reduceLE, Int.reduceEq, Int.reduceNe, Int.reduceToNat, Int.reduceAdd, Int.reduceSub, reduceCtorEq, Nat.reduceBEq, Nat.reduceBNe, pn, sn]
  refine ⟨id, s1.1, s1.2, rfl, rd_alloc r1, fun σ2 r2 f2 => ?_⟩
  have b2 := f2 σ.length _ (al_frame b1) (by omega)
  have c2 := f2 σ1.length _ (sn _ _) (by omega)
  have g2 : Fr1 σ σ2 id := fun j c hj hne => f2 j c (al_frame (g1 j c hj hne)) hne
  have r2 : RdS σ2 id (stT s1).1 (stT s1).2 := r2
  have v1 : (rdText s1.1 s1.2).1 = vT s1 := rfl
  rw [v1]
  generalize stT s1 = s2 at r2 hK ⊢
  generalize vT s1 = t at hK ⊢
  obtain ⟨f, nn, hg2⟩ := r2
  have l2 := hget_lt c2
  have sb2 : ∀ d : List AV, hget (hset σ2 σ.length d) σ.length = some d := fun d => set_same b2
  by_cases he : s2.2 = 0
  · rw [he] at hg2
    simp only [he, if_true] at hK
    simp only [F5_app, Z66, base1, baseE, ↓reduceIte, Nat.reduceAdd, Nat.reduceSub, Nat.reduceMul, Nat.reduceEqDiff, Nat.reduceLeDiff, Nat.reduceLT, Int.reduceLT, Int.reduceLE, Int.reduceEq, Int.reduceNe, Int.reduceToNat, Int.reduceAdd, Int.reduceSub, reduceCtorEq, Nat.reduceBEq, Nat.reduceBNe, hg2, c2, b2]
    refine ⟨σ2.length, t, rfl, push_new rfl, ?_⟩
    have b3 := kp (c := t.map byteAV) b2
    have c3 := kp (c := t.map byteAV) c2
    have hg3 := kp (c := t.map byteAV) hg2
    have g3 : Fr1 σ (hkill (hpush σ2 (t.map byteAV)) σ2.length) id := fun j c hj hne => kp (g2 j c hj hne)
    generalize hkill (hpush σ2 (t.map byteAV)) σ2.length = σ3 at b3 c3 hg3 g3 ⊢
    generalize readSh t = w at hK ⊢
    obtain ⟨sh, e⟩ := w
    have sb : ∀ d : List AV, hget (hset σ3 σ.length d) σ.length = some d := fun d => set_same b3
    have hL : σ1.length ≠ σ.length := by omega
    have sc : ∀ d : List AV, hget (hset σ3 σ1.length d) σ1.length = some d := fun d => set_same c3
    have sbc : ∀ d c : List AV, hget (hset (hset σ3 σ1.length d) σ.length c) σ.length = some c := fun d c => set_same ((set_other hL).trans b3)
    have si : ∀ d : List AV, hget (hset σ3 id d) id = some d := fun d => set_same hg3
    have sib : ∀ d c : List AV, hget (hset (hset σ3 id d) σ.length c) σ.length = some c := fun d c => set_same ((set_other (by omega)).trans b3)
    by_cases he2 : e = 0
    · subst he2
      simp only [if_true] at hK
      have bsc : ∀ d : List AV, hget (hset σ3 σ1.length d) σ.length = _ := fun d => (set_other hL).trans b3
      simp only [F5_app, Z66, base1, baseE, ↓reduceIte, Nat.reduceAdd, Nat.reduceSub, Nat.reduceMul, Nat.reduceEqDiff, Nat.reduceLeDiff, Nat.reduceLT, Int.reduceLT, Int.reduceLE, Int.reduceEq, Int.reduceNe, Int.reduceToNat, Int.reduceAdd, Int.reduceSub, reduceCtorEq, Nat.reduceBEq, Nat.reduceBNe, ansLSh, hg3, c3, b3, sb, sc, sbc, bsc]
      refine hK _ _ ⟨f, nn, ?_⟩ (fun j c hj hne => ?_) (by simp only [AV.pure, rowsSh_pure]) rfl
      · rw [set_other (by omega), set_other (by omega), he]; exact hg3
      · have := hget_lt hj
        rw [set_other (by omega), set_other (by omega)]; exact g3 j c hj hne
    · simp only [if_neg he2] at hK
      have bsi : ∀ d : List AV, hget (hset σ3 id d) σ.length = _ := fun d => (set_other (by omega)).trans b3
      simp only [F5_app, Z66, base1, baseE, ↓reduceIte, Nat.reduceAdd, Nat.reduceSub, Nat.reduceMul, Nat.reduceEqDiff, Nat.reduceLeDiff, Nat.reduceLT, Int.reduceLT, Int.reduceLE, Int.reduceEq, Int.reduceNe, Int.reduceToNat, Int.reduceAdd, Int.reduceSub, reduceCtorEq, Nat.reduceBEq, Nat.reduceBNe, ansLSh, hg3, c3, b3, sb, si, sib, bsi, he2]
      refine hK _ _ ⟨f, nn, ?_⟩ (fun j c hj hne => ?_) rfl rfl
      · rw [set_other (by omega)]; exact si _
      · have := hget_lt hj
        rw [set_other (by omega), set_other (by omega)]; exact g3 j c hj hne
  · simp only [if_neg he] at hK
    simp only [F5_app, Z66, base1, baseE, ↓reduceIte, Nat.reduceAdd, Nat.reduceSub, Nat.reduceMul, Nat.reduceEqDiff, Nat.reduceLeDiff, Nat.reduceLT, Int.reduceLT, Int.reduceLE, Int.reduceEq, Int.reduceNe, Int.reduceToNat, Int.reduceAdd, Int.reduceSub, reduceCtorEq, Nat.reduceBEq, Nat.reduceBNe, hg2, c2, b2, sb2, he]
    refine hK _ _ ⟨f, nn, ?_⟩ (fun j c hj hne => ?_) rfl rfl
    · rw [set_other (by omega)]; exact hg2
    · have := hget_lt hj
      rw [set_other (by omega)]; exact g2 j c hj hne
def rowsRD (args : List AV) (σ : AHeap) (K : AV → AHeap → Prop) : Prop := ∃ (id : Nat) (s : St), args = [.ptr id 0] ∧ RdS σ id s.1 s.2 ∧ ∀ σ' x y, RdS σ' id (readRows s).2.1 (readRows s).2.2 → Fr1 σ σ' id → x.pure = true → nz1 x = .imm ((readRows s).1.1.map recC) false false → y.pure = true → nz1 y = .imm ((readRows s).1.2.map LaV.cells) false false → K (.tuple [x, y]) σ'
theorem rowsRD_ok (args : List AV) (σ : AHeap) (K : AV → AHeap → Prop) (h : rowsRD args σ K) : Tri Try.prog 67 args σ K := by
  obtain ⟨id, s, rfl, hr, hK⟩ := h
  refine Tri.of_s c67 F5_sound ?_
  simp only [F5_app, Z67, base1, baseE, ↓reduceIte, Nat.reduceAdd, Nat.reduceSub, Nat.reduceMul, Nat.reduceEqDiff, Nat.reduceLeDiff, Nat.reduceLT, Int.reduceLT, Int.reduceLE, Int.reduceEq, Int.reduceNe, Int.reduceToNat, Int.reduceAdd, Int.reduceSub, reduceCtorEq, Nat.reduceBEq, Nat.reduceBNe]
  refine ⟨id, s.1, s.2, rfl, hr, fun σ1 r1 f1 => ?_⟩
  have r1 : RdS σ1 id (stT s).1 (stT s).2 := r1
  unfold readRows at hK
  have v0 : (rdText s.1 s.2).1 = vT s := rfl
  rw [v0]
  generalize stT s = s1 at r1 hK ⊢
  generalize vT s = a at hK ⊢
  simp only [F5_app, Z67, base1, baseE, ↓reduceIte, Nat.reduceAdd, Nat.reduceSub, Nat.reduceMul, Nat.reduceEqDiff, Nat.reduceLeDiff, Nat.reduceLT, Int.reduceLT, Int.reduceLE, Int.reduceEq, Int.reduceNe, Int.reduceToNat, Int.reduceAdd, Int.reduceSub, reduceCtorEq, Nat.reduceBEq, Nat.reduceBNe]
  refine ⟨id, s1.1, s1.2, rfl, r1, fun σ2 r2 f2 => ?_⟩
  have g2 : Fr1 σ σ2 id := f1.trans f2
  have r2 : RdS σ2 id (stT s1).1 (stT s1).2 := r2
  have v1 : (rdText s1.1 s1.2).1 = vT s1 := rfl
  rw [v1]
  generalize stT s1 = s2 at r2 hK ⊢
  generalize vT s1 = b at hK ⊢
  obtain ⟨f, nn, hg2⟩ := r2
  by_cases he : s2.2 = 0
  · rw [he] at hg2
    simp only [he, if_true] at hK
    simp only [F5_app, Z67, base1, baseE, ↓reduceIte, Nat.reduceAdd, Nat.reduceSub, Nat.reduceMul, Nat.reduceEqDiff, Nat.reduceLeDiff, Nat.reduceLT, Int.reduceLT, Int.reduceLE, Int.reduceEq, Int.reduceNe, Int.reduceToNat, Int.reduceAdd, Int.reduceSub, reduceCtorEq, Nat.reduceBEq, Nat.reduceBNe, hg2]
    refine ⟨σ2.length, a, rfl, push_new rfl, ?_⟩
    have hg3 := kp (c := a.map byteAV) hg2
    have g3 : Fr1 σ (hkill (hpush σ2 (a.map byteAV)) σ2.length) id := fun j c hj hne => kp (g2 j c hj hne)
    generalize hkill (hpush σ2 (a.map byteAV)) σ2.length = σ3 at hg3 g3 ⊢
    simp only [F5_app, Z67, base1, baseE, ↓reduceIte, Nat.reduceAdd, Nat.reduceSub, Nat.reduceMul, Nat.reduceEqDiff, Nat.reduceLeDiff, Nat.reduceLT, Int.reduceLT, Int.reduceLE, Int.reduceEq, Int.reduceNe, Int.reduceToNat, Int.reduceAdd, Int.reduceSub, reduceCtorEq, Nat.reduceBEq, Nat.reduceBNe, ansLRec, hg3]
    refine ⟨σ3.length, b, rfl, push_new rfl, ?_⟩
    have hg4 := kp (c := b.map byteAV) hg3
    have g4 : Fr1 σ (hkill (hpush σ3 (b.map byteAV)) σ3.length) id := fun j c hj hne => kp (g3 j c hj hne)
    generalize hkill (hpush σ3 (b.map byteAV)) σ3.length = σ4 at hg4 g4 ⊢
    generalize readRec a = w at hK ⊢
    generalize readLa b = w' at hK ⊢
    obtain ⟨l, e⟩ := w
    obtain ⟨m, e'⟩ := w'
    have si : ∀ d : List AV, hget (hset σ4 id d) id = some d := fun d => set_same hg4
    by_cases he2 : e = 0
    · subst he2
      by_cases he3 : e' = 0
      · subst he3
        simp only [and_self, if_true] at hK
        simp only [F5_app, Z67, base1, baseE, ↓reduceIte, Nat.reduceAdd, Nat.reduceSub, Nat.reduceMul, Nat.reduceEqDiff, Nat.reduceLeDiff, Nat.reduceLT, Int.reduceLT, Int.reduceLE, Int.reduceEq, Int.reduceNe, Int.reduceToNat, Int.reduceAdd, Int.reduceSub, reduceCtorEq, Nat.reduceBEq, Nat.reduceBNe, ansLLa, hg4]
        exact hK _ _ _ ⟨f, nn, by rw [he]; exact hg4⟩ g4 (by simp only [AV.pure, rowsRec_pure]) rfl (by simp only [AV.pure, rowsLa_pure]) rfl
      · simp only [he3, and_false, if_false] at hK
        simp only [F5_app, Z67, base1, baseE, ↓reduceIte, Nat.reduceAdd, Nat.reduceSub, Nat.reduceMul, Nat.reduceEqDiff, Nat.reduceLeDiff, Nat.reduceLT, Int.reduceLT, Int.reduceLE, Int.reduceEq, Int.reduceNe, Int.reduceToNat, Int.reduceAdd, Int.reduceSub, reduceCtorEq, Nat.reduceBEq, Nat.reduceBNe, ansLLa, hg4, si, he3]
        exact hK _ _ _ ⟨f, nn, si _⟩ (g4.trans Fr1.set) rfl rfl rfl rfl
    · simp only [he2, false_and, if_false] at hK
      simp only [F5_app, Z67, base1, baseE, ↓reduceIte, Nat.reduceAdd, Nat.reduceSub, Nat.reduceMul, Nat.reduceEqDiff, Nat.reduceLeDiff, Nat.reduceLT, Int.reduceLT, Int.reduceLE, Int.reduceEq, Int.reduceNe, Int.reduceToNat, Int.reduceAdd, Int.reduceSub, reduceCtorEq, Nat.reduceBEq, Nat.reduceBNe, ansLLa, hg4, si, he2]
      exact hK _ _ _ ⟨f, nn, si _⟩ (g4.trans Fr1.set) rfl rfl rfl rfl
  · simp only [if_neg he] at hK
    simp only [F5_app, Z67, base1, baseE, ↓reduceIte, Nat.reduceAdd, Nat.reduceSub, Nat.reduceMul, Nat.reduceEqDiff, Nat.reduceLeDiff, Nat.reduceLT, Int.reduceLT, Int.reduceLE, Int.reduceEq, Int.reduceNe, Int.reduceToNat, Int.reduceAdd, Int.reduceSub, reduceCtorEq, Nat.reduceBEq, Nat.reduceBNe, hg2, he]
    exact hK _ _ _ ⟨f, nn, hg2⟩ g2 rfl rfl rfl rfl
end Go.Proofs.Ytndlgmciplckjab.note

/- What Read makes of any bytes. No condition. -/
set_option linter.unusedVariables false
set_option linter.unusedSimpArgs false
namespace Go.Proofs.Ytndlgmciplckjab.note
open Go.ChangeShapes Go.WideShapes Go.ChangeAt Go.RowKit Go.Gz
abbrev r50_0 : List MOper := [⟨(some 3), .box (.t 1), none⟩,
  ⟨(some 4), .alloc [.int .i64 0, .int .i64 0, .int .i64 0, .int .i64 0, .int .i64 0, .int .i64 0, .int .i64 0, .int .i64 0, .str [], .str [], .str [], .str [], .int .i64 0, .int .i64 0, .int .i64 0, .int .i64 0, .bool false, .str [], .nilslice, .str [], .bool false, .str [], .str [], .nilslice, .nilslice, .int .i64 0, .nilslice], none⟩]
def b50_0 : SCode := .region r50_0
abbrev r50_1 : List MOper := [⟨(some 5), .move (.c (.int .i64 0)), none⟩]
def b50_1 : SCode := .region r50_1
abbrev r50_2 : List MOper := [⟨(some 6), .fieldAddr 0 (.t 3), none⟩,
  ⟨(some 7), .load1 (.t 6), none⟩]
def b50_2 : SCode := .region r50_2
abbrev r50_3 : List MOper := [⟨(some 9), .bin .eql .num (.t 7) (.c (.int .i64 1)), none⟩,
  ⟨(some 8), .move (.t 9), none⟩]
def b50_3 : SCode := .region r50_3
abbrev r50_4 : List MOper := [⟨(some 11), .move (.t 0), none⟩,
  ⟨(some 12), .call 64 [(.t 11)], none⟩,
  ⟨(some 13), .toBytes (.t 12), none⟩,
  ⟨(some 14), .call 63 [(.t 13)], none⟩,
  ⟨(some 10), .move (.t 14), none⟩,
  ⟨(some 15), .extract (.t 10) 0, none⟩,
  ⟨(some 16), .extract (.t 10) 1, none⟩,
  ⟨(some 17), .fieldAddr 5 (.t 3), none⟩,
  ⟨none, .store 8 (.t 17) (.t 15), none⟩,
  ⟨(some 5), .move (.t 16), none⟩]
def b50_4 : SCode := .region r50_4
abbrev r50_5 : List MOper := [⟨(some 19), .bin .eql .num (.t 7) (.c (.int .i64 2)), none⟩,
  ⟨(some 18), .move (.t 19), none⟩]
def b50_5 : SCode := .region r50_5
abbrev r50_6 : List MOper := [⟨(some 21), .move (.t 0), none⟩,
  ⟨(some 22), .call 64 [(.t 21)], none⟩,
  ⟨(some 23), .toBytes (.t 22), none⟩,
  ⟨(some 24), .call 65 [(.t 23)], none⟩,
  ⟨(some 20), .move (.t 24), none⟩,
  ⟨(some 25), .extract (.t 20) 0, none⟩,
  ⟨(some 26), .extract (.t 20) 1, none⟩,
  ⟨(some 27), .fieldAddr 13 (.t 3), none⟩,
  ⟨none, .store 8 (.t 27) (.t 25), none⟩,
  ⟨(some 5), .move (.t 26), none⟩]
def b50_6 : SCode := .region r50_6
abbrev r50_7 : List MOper := [⟨(some 29), .bin .eql .num (.t 7) (.c (.int .i64 4)), none⟩,
  ⟨(some 28), .move (.t 29), none⟩]
def b50_7 : SCode := .region r50_7
abbrev r50_8 : List MOper := [⟨(some 30), .bin .eql .num (.t 7) (.c (.int .i64 6)), none⟩,
  ⟨(some 28), .move (.t 30), none⟩]
def b50_8 : SCode := .region r50_8
def b50_9 : SCode := .cond (.t 28) .skip b50_8
def b50_10 : SCode := .seq b50_7 b50_9
abbrev r50_11 : List MOper := [⟨(some 31), .move (.t 0), none⟩,
  ⟨(some 32), .call 66 [(.t 31)], none⟩,
  ⟨(some 33), .fieldAddr 25 (.t 3), none⟩,
  ⟨none, .store 2 (.t 33) (.t 32), none⟩]
def b50_11 : SCode := .region r50_11
abbrev r50_12 : List MOper := [⟨(some 35), .bin .eql .num (.t 7) (.c (.int .i64 7)), none⟩,
  ⟨(some 34), .move (.t 35), none⟩]
def b50_12 : SCode := .region r50_12
abbrev r50_13 : List MOper := [⟨(some 36), .bin .eql .num (.t 7) (.c (.int .i64 11)), none⟩,
  ⟨(some 34), .move (.t 36), none⟩]
def b50_13 : SCode := .region r50_13
abbrev r50_14 : List MOper := [⟨(some 37), .bin .eql .num (.t 7) (.c (.int .i64 10)), none⟩,
  ⟨(some 34), .move (.t 37), none⟩]
def b50_14 : SCode := .region r50_14
abbrev r50_15 : List MOper := [⟨(some 38), .bin .eql .num (.t 7) (.c (.int .i64 12)), none⟩,
  ⟨(some 34), .move (.t 38), none⟩]
def b50_15 : SCode := .region r50_15
abbrev r50_16 : List MOper := [⟨(some 39), .bin .eql .num (.t 7) (.c (.int .i64 8)), none⟩,
  ⟨(some 34), .move (.t 39), none⟩]
def b50_16 : SCode := .region r50_16
abbrev r50_17 : List MOper := [⟨(some 40), .bin .eql .num (.t 7) (.c (.int .i64 9)), none⟩,
  ⟨(some 34), .move (.t 40), none⟩]
def b50_17 : SCode := .region r50_17
def b50_18 : SCode := .cond (.t 34) .skip b50_17
def b50_19 : SCode := .seq b50_16 b50_18
def b50_20 : SCode := .cond (.t 34) .skip b50_19
def b50_21 : SCode := .seq b50_15 b50_20
def b50_22 : SCode := .cond (.t 34) .skip b50_21
def b50_23 : SCode := .seq b50_14 b50_22
def b50_24 : SCode := .cond (.t 34) .skip b50_23
def b50_25 : SCode := .seq b50_13 b50_24
def b50_26 : SCode := .cond (.t 34) .skip b50_25
def b50_27 : SCode := .seq b50_12 b50_26
abbrev r50_28 : List MOper := [⟨(some 41), .move (.t 0), none⟩,
  ⟨(some 42), .call 64 [(.t 41)], none⟩,
  ⟨(some 43), .move (.t 0), none⟩,
  ⟨(some 44), .call 64 [(.t 43)], none⟩,
  ⟨(some 45), .build [.str [], .str []] [(0, 1, (.t 42)), (1, 1, (.t 44))], none⟩,
  ⟨(some 46), .fieldAddr 21 (.t 3), none⟩,
  ⟨none, .store 2 (.t 46) (.t 45), none⟩]
def b50_28 : SCode := .region r50_28
abbrev r50_29 : List MOper := [⟨(some 48), .move (.t 0), none⟩,
  ⟨(some 49), .call 67 [(.t 48)], none⟩,
  ⟨(some 47), .move (.t 49), none⟩,
  ⟨(some 50), .extract (.t 47) 0, none⟩,
  ⟨(some 51), .extract (.t 47) 1, none⟩,
  ⟨(some 52), .fieldAddr 23 (.t 3), none⟩,
  ⟨none, .store 1 (.t 52) (.t 50), none⟩,
  ⟨(some 53), .fieldAddr 24 (.t 3), none⟩,
  ⟨none, .store 1 (.t 53) (.t 51), none⟩]
def b50_29 : SCode := .region r50_29
def b50_30 : SCode := .seq b50_28 b50_29
def b50_31 : SCode := .cond (.t 34) b50_30 .skip
def b50_32 : SCode := .seq b50_27 b50_31
def b50_33 : SCode := .cond (.t 28) b50_11 b50_32
def b50_34 : SCode := .seq b50_10 b50_33
def b50_35 : SCode := .cond (.t 18) b50_6 b50_34
def b50_36 : SCode := .seq b50_5 b50_35
def b50_37 : SCode := .cond (.t 8) b50_4 b50_36
def b50_38 : SCode := .seq b50_3 b50_37
def b50_39 : SCode := .block 0 b50_38
def b50_40 : SCode := .seq b50_2 b50_39
abbrev r50_41 : List MOper := [⟨(some 54), .move (.t 0), none⟩,
  ⟨(some 55), .nilCheck (.t 54), none⟩,
  ⟨(some 56), .fieldAddr 1 (.t 55), none⟩,
  ⟨(some 57), .load1 (.t 56), none⟩,
  ⟨(some 58), .bin .eql .num (.t 57) (.c (.int .i64 0)), none⟩]
def b50_41 : SCode := .region r50_41
abbrev r50_42 : List MOper := [⟨(some 59), .move (.t 0), none⟩,
  ⟨(some 60), .move (.t 5), none⟩,
  ⟨(some 61), .nilCheck (.t 59), none⟩,
  ⟨(some 62), .fieldAddr 1 (.t 61), none⟩,
  ⟨none, .store 1 (.t 62) (.t 60), none⟩]
def b50_42 : SCode := .region r50_42
def b50_43 : SCode := .cond (.t 58) b50_42 .skip
def b50_44 : SCode := .seq b50_41 b50_43
abbrev r50_45 : List MOper := [⟨(some 63), .loadN 27 (.t 3), none⟩,
  ⟨none, .store 27 (.t 4) (.t 63), none⟩]
def b50_45 : SCode := .region r50_45
def b50_46 : SCode := .seq b50_45 .ret
def b50_47 : SCode := .seq b50_44 b50_46
def b50_48 : SCode := .seq b50_40 b50_47
def b50_49 : SCode := .seq b50_1 b50_48
def b50_50 : SCode := .seq b50_0 b50_49
def s50 : SFunc := ⟨64, [.cN 4 27], b50_50⟩
theorem c50 : sFn Try.prog 50 = some s50 := by kernel_rfl
theorem x50_47 : XS b50_47 b50_44 b50_46 := rfl
theorem Z50 : XR b50_0 r50_0 ∧ XR b50_1 r50_1 ∧ XR b50_2 r50_2 ∧ XR b50_3 r50_3 ∧ XR b50_4 r50_4 ∧ XR b50_5 r50_5 ∧ XR b50_6 r50_6 ∧ XR b50_7 r50_7 ∧ XR b50_8 r50_8 ∧ XC b50_9 (.t 28) .skip b50_8 ∧ XS b50_10 b50_7 b50_9 ∧ XR b50_11 r50_11 ∧ XR b50_12 r50_12 ∧ XR b50_13 r50_13 ∧ XR b50_14 r50_14 ∧ XR b50_15 r50_15 ∧ XR b50_16 r50_16 ∧ XR b50_17 r50_17 ∧ XC b50_18 (.t 34) .skip b50_17 ∧ XS b50_19 b50_16 b50_18 ∧ XC b50_20 (.t 34) .skip b50_19 ∧ XS b50_21 b50_15 b50_20 ∧ XC b50_22 (.t 34) .skip b50_21 ∧ XS b50_23 b50_14 b50_22 ∧ XC b50_24 (.t 34) .skip b50_23 ∧ XS b50_25 b50_13 b50_24 ∧ XC b50_26 (.t 34) .skip b50_25 ∧ XS b50_27 b50_12 b50_26 ∧ XR b50_28 r50_28 ∧ XR b50_29 r50_29 ∧ XS b50_30 b50_28 b50_29 ∧ XC b50_31 (.t 34) b50_30 .skip ∧ XS b50_32 b50_27 b50_31 ∧ XC b50_33 (.t 28) b50_11 b50_32 ∧ XS b50_34 b50_10 b50_33 ∧ XC b50_35 (.t 18) b50_6 b50_34 ∧ XS b50_36 b50_5 b50_35 ∧ XC b50_37 (.t 8) b50_4 b50_36 ∧ XS b50_38 b50_3 b50_37 ∧ XB b50_39 0 b50_38 ∧ XS b50_40 b50_2 b50_39 ∧ XR b50_41 r50_41 ∧ XR b50_42 r50_42 ∧ XC b50_43 (.t 58) b50_42 .skip ∧ XS b50_44 b50_41 b50_43 ∧ XR b50_45 r50_45 ∧ XS b50_46 b50_45 .ret ∧ XS b50_48 b50_40 b50_47 ∧ XS b50_49 b50_1 b50_48 ∧ XS b50_50 b50_0 b50_49 ∧ XY s50 64 b50_50 [.cN 4 27] := ⟨rfl, rfl, rfl, rfl, rfl, rfl, rfl, rfl, rfl, sC_cond, rfl, rfl, rfl, rfl, rfl, rfl, rfl, rfl, sC_cond, rfl, sC_cond, rfl, sC_cond, rfl, sC_cond, rfl, sC_cond, rfl, rfl, rfl, rfl, sC_cond, rfl, sC_cond, rfl, sC_cond, rfl, sC_cond, rfl, rfl, rfl, rfl, rfl, sC_cond, rfl, rfl, rfl, rfl, rfl, rfl, rfl⟩
abbrev r30_0 : List MOper := [⟨(some 2), .alloc [.int .i64 0, .int .i64 0, .int .i64 0, .int .i64 0, .int .i64 0, .int .i64 0, .int .i64 0, .int .i64 0, .str [], .str [], .str [], .str [], .int .i64 0, .int .i64 0, .int .i64 0, .int .i64 0, .bool false, .str [], .nilslice, .str [], .bool false, .str [], .str [], .nilslice, .nilslice, .int .i64 0, .nilslice], none⟩,
  ⟨(some 3), .move (.c (.int .i64 0)), none⟩]
def b30_0 : SCode := .region r30_0
abbrev r30_1 : List MOper := [⟨(some 6), .move (.t 0), none⟩,
  ⟨(some 7), .build [.nilslice, .int .i64 0] [(0, 1, (.t 6))], none⟩,
  ⟨(some 8), .box (.t 7), none⟩,
  ⟨(some 4), .move (.t 8), none⟩]
def b30_1 : SCode := .region r30_1
abbrev r30_2 : List MOper := [⟨(some 9), .move (.t 4), none⟩,
  ⟨(some 10), .move (.t 4), none⟩,
  ⟨(some 11), .call 51 [(.t 10)], none⟩,
  ⟨(some 12), .move (.t 4), none⟩,
  ⟨(some 13), .call 51 [(.t 12)], none⟩,
  ⟨(some 14), .move (.t 4), none⟩,
  ⟨(some 15), .call 51 [(.t 14)], none⟩,
  ⟨(some 16), .move (.t 4), none⟩,
  ⟨(some 17), .call 51 [(.t 16)], none⟩,
  ⟨(some 18), .move (.t 4), none⟩,
  ⟨(some 19), .call 51 [(.t 18)], none⟩,
  ⟨(some 20), .build [.int .i64 0, .int .i64 0, .int .i64 0, .int .i64 0, .int .i64 0, .int .i64 0, .int .i64 0, .int .i64 0, .str [], .str [], .str [], .str [], .int .i64 0, .int .i64 0, .int .i64 0, .int .i64 0, .bool false, .str [], .nilslice, .str [], .bool false, .str [], .str [], .nilslice, .nilslice, .int .i64 0, .nilslice] [(0, 1, (.t 11)), (1, 1, (.t 13)), (2, 1, (.t 15)), (3, 1, (.t 17)), (4, 1, (.t 19))], none⟩,
  ⟨(some 21), .call 50 [(.t 9), (.t 20)], none⟩,
  ⟨(some 5), .alloc [.int .i64 0, .int .i64 0, .int .i64 0, .int .i64 0, .int .i64 0, .int .i64 0, .int .i64 0, .int .i64 0, .str [], .str [], .str [], .str [], .int .i64 0, .int .i64 0, .int .i64 0, .int .i64 0, .bool false, .str [], .nilslice, .str [], .bool false, .str [], .str [], .nilslice, .nilslice, .int .i64 0, .nilslice], none⟩,
  ⟨none, .store 27 (.t 5) (.t 21), none⟩]
def b30_2 : SCode := .region r30_2
abbrev r30_3 : List MOper := [⟨(some 22), .move (.t 4), none⟩,
  ⟨(some 23), .call 52 [(.t 22)], none⟩,
  ⟨(some 24), .bin .neq .num (.t 23) (.c (.int .i64 0)), none⟩,
  ⟨(some 25), .move (.t 24), none⟩,
  ⟨(some 26), .loadN 27 (.t 5), (some (25, false))⟩,
  ⟨(some 27), .call 9 [(.t 26)], (some (25, false))⟩,
  ⟨(some 28), .un .not (.t 27), (some (25, false))⟩,
  ⟨(some 29), .pick (.t 25) (.c (.bool true)) (.t 28), none⟩]
def b30_3 : SCode := .region r30_3
abbrev r30_4 : List MOper := [⟨(some 30), .build [.int .i64 0, .int .i64 0, .int .i64 0, .int .i64 0, .int .i64 0, .int .i64 0, .int .i64 0, .int .i64 0, .str [], .str [], .str [], .str [], .int .i64 0, .int .i64 0, .int .i64 0, .int .i64 0, .bool false, .str [], .nilslice, .str [], .bool false, .str [], .str [], .nilslice, .nilslice, .int .i64 0, .nilslice] [], none⟩,
  ⟨none, .store 27 (.t 2) (.t 30), none⟩,
  ⟨(some 3), .move (.c (.int .i64 5)), none⟩]
def b30_4 : SCode := .region r30_4
def b30_5 : SCode := .seq b30_4 .ret
def b30_6 : SCode := .cond (.t 29) b30_5 .skip
def b30_7 : SCode := .seq b30_3 b30_6
abbrev r30_8 : List MOper := [⟨(some 31), .loadN 27 (.t 5), none⟩,
  ⟨none, .store 27 (.t 2) (.t 31), none⟩,
  ⟨(some 3), .move (.c (.int .i64 0)), none⟩]
def b30_8 : SCode := .region r30_8
def b30_9 : SCode := .seq b30_8 .ret
def b30_10 : SCode := .seq b30_7 b30_9
def b30_11 : SCode := .seq b30_2 b30_10
def b30_12 : SCode := .seq b30_1 b30_11
def b30_13 : SCode := .seq b30_0 b30_12
def s30 : SFunc := ⟨32, [.cN 2 27, .t 3], b30_13⟩
theorem c30 : sFn Try.prog 30 = some s30 := by kernel_rfl
theorem Z30 : XR b30_0 r30_0 ∧ XR b30_1 r30_1 ∧ XR b30_2 r30_2 ∧ XR b30_3 r30_3 ∧ XR b30_4 r30_4 ∧ XS b30_5 b30_4 .ret ∧ XC b30_6 (.t 29) b30_5 .skip ∧ XS b30_7 b30_3 b30_6 ∧ XR b30_8 r30_8 ∧ XS b30_9 b30_8 .ret ∧ XS b30_10 b30_7 b30_9 ∧ XS b30_11 b30_2 b30_10 ∧ XS b30_12 b30_1 b30_11 ∧ XS b30_13 b30_0 b30_12 ∧ XY s30 32 b30_13 [.cN 2 27, .t 3] := ⟨rfl, rfl, rfl, rfl, rfl, rfl, sC_cond, rfl, rfl, rfl, rfl, rfl, rfl, rfl, rfl⟩

set_option maxHeartbeats 4000000
set_option maxRecDepth 10000
def F6 : PCall := rowQ 66 chartRD (rowQ 67 rowsRD F5)
theorem F6_app {f : FuncId} {args : List AV} {σ : AHeap} {K : AV → AHeap → Prop} : F6 f args σ K = rowQ 66 chartRD (rowQ 67 rowsRD (rowQ 63 askRD (rowQ 65 replyRD (rowQ 71 listShRD (rowQ 73 listRecRD (rowQ 75 listLaRD (rowQ 51 numRD (rowQ 64 textRD (rowQ 52 endRD noCall))))))))) f args σ K := _root_.id rfl
theorem F6_sound : Sound Try.prog F6 := rowQ_sound chartRD_ok (rowQ_sound rowsRD_ok F5_sound)
theorem put_all {z cs : List AV} (h : z.length = cs.length) : put z 0 cs = some cs := by
  unfold put
  rw [if_pos (by omega)]
  simp [h]
theorem nz_imm {x : AV} {rows : List (List AV)} (h : nz1 x = .imm rows false false) : (x = .nilslice ∧ rows = []) ∨ x = .imm rows false false := by
  cases x <;> simp only [nz1] at h <;> first | exact .inr h | cases h
  exact .inl ⟨rfl, rfl⟩
theorem nz_cell {x : AV} (h : (nz1 x).isCell = true) : x.isCell = true := by cases x <;> simp_all [nz1, AV.isCell]
theorem nz_cells {cs : List AV} (h : (cs.map nz1).all (fun x => x.isCell) = true) : cs.all (fun x => x.isCell) = true := by
  rw [List.all_eq_true] at h ⊢
  exact fun x hx => nz_cell (h _ (List.mem_map_of_mem hx))
abbrev bareC (k f t e i : Int) : List AV := [.int .i64 k, .int .i64 f, .int .i64 t, .int .i64 e, .int .i64 i, .int .i64 0, .int .i64 0, .int .i64 0, .str [], .str [], .str [], .str [], .int .i64 0, .int .i64 0, .int .i64 0, .int .i64 0, .bool false, .str [], .nilslice, .str [], .bool false, .str [], .str [], .nilslice, .nilslice, .int .i64 0, .nilslice]
theorem fin26 (id B n0 : Nat) (f : Bool) (nn : Bool) (rem : List UInt8) (s1 : Int) (ev : Int) (cs z : List AV) (K : AV → AHeap → Prop) (e : Env) (σ : AHeap)
    (e0 : e 0 = .ptr id 0) (e3 : e 3 = .ptr B 0) (e4 : e 4 = .ptr (B + 1) 0) (e5 : e 5 = .int .i64 ev) (hB : id ≠ B) (hB1 : id ≠ B + 1) (gB : hget σ B = some cs) (gz : hget σ (B + 1) = some z) (gr : hget σ id = some [.imm (rws rem) f nn, .int .i64 s1])
    (hl : cs.length = 27) (hz : z.length = 27) (hc : cs.all (fun x => x.isCell) = true)
    (hK : ∀ σ', RdS σ' id rem (if s1 = 0 then ev else s1) → (∀ j c, hget σ j = some c → j ≠ id → j ≠ B + 1 → hget σ' j = some c) → K (.agg cs) σ') :
    sC F6 n0 b50_47 (unw F6 n0 (RetQ [.cN 4 27] K) .fin) e σ := by
  have si : ∀ d : List AV, hget (hset σ id d) id = some d := fun d => set_same gr
  have siB : ∀ d : List AV, hget (hset σ id d) B = some cs := fun d => (set_other hB).trans gB
  have siz : ∀ d : List AV, hget (hset σ id d) (B + 1) = some z := fun d => (set_other hB1).trans gz
  have sz : ∀ d : List AV, hget (hset σ (B + 1) d) (B + 1) = some d := fun d => set_same gz
  have szz : ∀ c d : List AV, hget (hset (hset σ id c) (B + 1) d) (B + 1) = some d := fun c d => set_same (siz c)
  have sp : put z 0 cs = some cs := put_all (by omega)
  have sa : sub cs 0 27 = some cs := sub_all (by omega)
  by_cases he : s1 = 0
  · simp only [F6_app, Z50, x50_47, base1, baseE, ↓reduceIte, Nat.reduceAdd, Nat.reduceSub, Nat.reduceMul, Nat.reduceEqDiff, Nat.reduceLeDiff, Nat.reduceLT, Int.reduceLT, Int.reduceLE, Int.reduceEq, Int.reduceNe, Int.reduceToNat, Int.reduceAdd, Int.reduceSub, reduceCtorEq, Nat.reduceBEq, Nat.reduceBNe, e0, e3, e4, e5, gr, he, gB, gz, sp, sa, hl, hc, si, siB, siz, sz, szz]
    refine hK _ ⟨f, nn, ?_⟩ (fun j c hj h1 h2 => ?_)
    · rw [set_other (fun h => hB1 h.symm), if_pos he]; exact si _
    · rw [set_other (fun h => h2 h.symm), set_other (fun h => h1 h.symm)]; exact hj
  · simp only [F6_app, Z50, x50_47, base1, baseE, ↓reduceIte, Nat.reduceAdd, Nat.reduceSub, Nat.reduceMul, Nat.reduceEqDiff, Nat.reduceLeDiff, Nat.reduceLT, Int.reduceLT, Int.reduceLE, Int.reduceEq, Int.reduceNe, Int.reduceToNat, Int.reduceAdd, Int.reduceSub, reduceCtorEq, Nat.reduceBEq, Nat.reduceBNe, e0, e3, e4, e5, gr, he, gB, gz, sp, sa, hl, hc, si, siB, siz, sz, szz]
    refine hK _ ⟨f, nn, ?_⟩ (fun j c hj h1 h2 => ?_)
    · rw [set_other (fun h => hB1 h.symm), if_neg he]; exact gr
    · rw [set_other (fun h => h2 h.symm)]; exact hj
def bodyRD (args : List AV) (σ : AHeap) (K : AV → AHeap → Prop) : Prop := ∃ (id : Nat) (s : St) (k f t e i : Int), args = [.ptr id 0, .agg (bareC k f t e i)] ∧ RdS σ id s.1 s.2 ∧ ∀ σ' cs, RdS σ' id (readBody (bare k f t e i) s).2.1 (readBody (bare k f t e i) s).2.2 → Fr1 σ σ' id → pureL cs = true → cs.map nz1 = (readBody (bare k f t e i) s).1.cells → K (.agg cs) σ'
theorem body1 (id : Nat) (s : St) (k f t e i : Int) (hk : k = 1) (σ : AHeap) (K : AV → AHeap → Prop) (hr : RdS σ id s.1 s.2)
    (hK : ∀ σ' cs, RdS σ' id (readBody (bare k f t e i) s).2.1 (readBody (bare k f t e i) s).2.2 → Fr1 σ σ' id → pureL cs = true → cs.map nz1 = (readBody (bare k f t e i) s).1.cells → K (.agg cs) σ') :
    sF F6 s50 [.ptr id 0, .agg (bareC k f t e i)] σ K := by
  have hid : id < σ.length := by obtain ⟨f, nn, hg⟩ := hr; exact hget_lt hg
  have pB : hget (hpush (hpush σ (bareC k f t e i)) (bareC 0 0 0 0 0)) σ.length = some (bareC k f t e i) := push_old (push_new rfl)
  have pz : hget (hpush (hpush σ (bareC k f t e i)) (bareC 0 0 0 0 0)) (σ.length + 1) = some (bareC 0 0 0 0 0) := push_new (by simp [push_len])
  have g0 : Fr1 σ (hpush (hpush σ (bareC k f t e i)) (bareC 0 0 0 0 0)) id := Fr1.push.trans Fr1.push
  have r0 : RdS (hpush (hpush σ (bareC k f t e i)) (bareC 0 0 0 0 0)) id s.1 s.2 := rd_push (rd_push hr)
  subst hk
  have hb : readBody (bare 1 f t e i) s = ({ bare 1 f t e i with ask := (readAsk (vT s)).1 }, orE (stT s) (readAsk (vT s)).2) := by simp [readBody, bare]
  rw [hb] at hK
  simp only [F6_app, Z50, base1, baseE, ↓reduceIte, Nat.reduceAdd, Nat.reduceSub, Nat.reduceMul, Nat.reduceEqDiff, Nat.reduceLeDiff, Nat.reduceLT, Int.reduceLT, Int.reduceLE, Int.reduceEq, Int.reduceNe, Int.reduceToNat, Int.reduceAdd, Int.reduceSub, reduceCtorEq, Nat.reduceBEq, Nat.reduceBNe, push_len]
  generalize hpush (hpush σ (bareC 1 f t e i)) (bareC 0 0 0 0 0) = σ0 at pB pz g0 r0 ⊢
  simp only [F6_app, Z50, base1, baseE, ↓reduceIte, Nat.reduceAdd, Nat.reduceSub, Nat.reduceMul, Nat.reduceEqDiff, Nat.reduceLeDiff, Nat.reduceLT, Int.reduceLT, Int.reduceLE, Int.reduceEq, Int.reduceNe, Int.reduceToNat, Int.reduceAdd, Int.reduceSub, reduceCtorEq, Nat.reduceBEq, Nat.reduceBNe, pB]
  refine ⟨id, s.1, s.2, rfl, r0, fun σ1 r1 f1 => ?_⟩
  have b1 := f1 _ _ pB (by omega)
  have z1 := f1 _ _ pz (by omega)
  have g1 : Fr1 σ σ1 id := g0.trans f1
  have r1 : RdS σ1 id (stT s).1 (stT s).2 := r1
  have v0 : (rdText s.1 s.2).1 = vT s := rfl
  rw [v0]
  generalize stT s = s1 at r1 hK ⊢
  generalize vT s = a at hK ⊢
  simp only [F6_app, Z50, base1, baseE, ↓reduceIte, Nat.reduceAdd, Nat.reduceSub, Nat.reduceMul, Nat.reduceEqDiff, Nat.reduceLeDiff, Nat.reduceLT, Int.reduceLT, Int.reduceLE, Int.reduceEq, Int.reduceNe, Int.reduceToNat, Int.reduceAdd, Int.reduceSub, reduceCtorEq, Nat.reduceBEq, Nat.reduceBNe]
  refine ⟨σ1.length, a, rfl, push_new rfl, ?_⟩
  have b2 := kp (c := a.map byteAV) b1
  have z2 := kp (c := a.map byteAV) z1
  have g2 : Fr1 σ (hkill (hpush σ1 (a.map byteAV)) σ1.length) id := fun j c hj hne => kp (g1 j c hj hne)
  obtain ⟨f', nn, hg⟩ := r1
  have r2 := kp (c := a.map byteAV) hg
  generalize hkill (hpush σ1 (a.map byteAV)) σ1.length = σ2 at b2 z2 g2 r2 ⊢
  generalize readAsk a = w at hK ⊢
  obtain ⟨⟨c1, c2, c3, c4, c5, c6, c7, c8⟩, ev⟩ := w
  have sB : ∀ d : List AV, hget (hset σ2 σ.length d) σ.length = some d := fun d => set_same b2
  simp only [F6_app, Z50, base1, baseE, ↓reduceIte, Nat.reduceAdd, Nat.reduceSub, Nat.reduceMul, Nat.reduceEqDiff, Nat.reduceLeDiff, Nat.reduceLT, Int.reduceLT, Int.reduceLE, Int.reduceEq, Int.reduceNe, Int.reduceToNat, Int.reduceAdd, Int.reduceSub, reduceCtorEq, Nat.reduceBEq, Nat.reduceBNe, ansA, AskV.cells, b2, sB]
  refine fin26 id σ.length _ f' nn s1.1 s1.2 ev _ _ K _ _ rfl rfl rfl rfl (by omega) (by omega) (sB _) ((set_other (by omega)).trans z2) ((set_other (by omega)).trans r2) rfl rfl rfl fun σ' hr' hf => ?_
  exact hK _ _ hr' (fun j c hj hne => hf j c ((set_other (by have := hget_lt hj; omega)).trans (g2 j c hj hne)) hne (by have := hget_lt hj; omega)) rfl rfl
theorem body2 (id : Nat) (s : St) (k f t e i : Int) (hk : k = 2) (σ : AHeap) (K : AV → AHeap → Prop) (hr : RdS σ id s.1 s.2)
    (hK : ∀ σ' cs, RdS σ' id (readBody (bare k f t e i) s).2.1 (readBody (bare k f t e i) s).2.2 → Fr1 σ σ' id → pureL cs = true → cs.map nz1 = (readBody (bare k f t e i) s).1.cells → K (.agg cs) σ') :
    sF F6 s50 [.ptr id 0, .agg (bareC k f t e i)] σ K := by
  have hid : id < σ.length := by obtain ⟨f, nn, hg⟩ := hr; exact hget_lt hg
  have pB : hget (hpush (hpush σ (bareC k f t e i)) (bareC 0 0 0 0 0)) σ.length = some (bareC k f t e i) := push_old (push_new rfl)
  have pz : hget (hpush (hpush σ (bareC k f t e i)) (bareC 0 0 0 0 0)) (σ.length + 1) = some (bareC 0 0 0 0 0) := push_new (by simp [push_len])
  have g0 : Fr1 σ (hpush (hpush σ (bareC k f t e i)) (bareC 0 0 0 0 0)) id := Fr1.push.trans Fr1.push
  have r0 : RdS (hpush (hpush σ (bareC k f t e i)) (bareC 0 0 0 0 0)) id s.1 s.2 := rd_push (rd_push hr)
  subst hk
  have hb : readBody (bare 2 f t e i) s = ({ bare 2 f t e i with rep := (readReply (vT s)).1 }, orE (stT s) (readReply (vT s)).2) := by simp [readBody, bare]
  rw [hb] at hK
  simp only [F6_app, Z50, base1, baseE, ↓reduceIte, Nat.reduceAdd, Nat.reduceSub, Nat.reduceMul, Nat.reduceEqDiff, Nat.reduceLeDiff, Nat.reduceLT, Int.reduceLT, Int.reduceLE, Int.reduceEq, Int.reduceNe, Int.reduceToNat, Int.reduceAdd, Int.reduceSub, reduceCtorEq, Nat.reduceBEq, Nat.reduceBNe, push_len]
  generalize hpush (hpush σ (bareC 2 f t e i)) (bareC 0 0 0 0 0) = σ0 at pB pz g0 r0 ⊢
  simp only [F6_app, Z50, base1, baseE, ↓reduceIte, Nat.reduceAdd, Nat.reduceSub, Nat.reduceMul, Nat.reduceEqDiff, Nat.reduceLeDiff, Nat.reduceLT, Int.reduceLT, Int.reduceLE, Int.reduceEq, Int.reduceNe, Int.reduceToNat, Int.reduceAdd, Int.reduceSub, reduceCtorEq, Nat.reduceBEq, Nat.reduceBNe, pB]
  refine ⟨id, s.1, s.2, rfl, r0, fun σ1 r1 f1 => ?_⟩
  have b1 := f1 _ _ pB (by omega)
  have z1 := f1 _ _ pz (by omega)
  have g1 : Fr1 σ σ1 id := g0.trans f1
  have r1 : RdS σ1 id (stT s).1 (stT s).2 := r1
  have v0 : (rdText s.1 s.2).1 = vT s := rfl
  rw [v0]
  generalize stT s = s1 at r1 hK ⊢
  generalize vT s = a at hK ⊢
  simp only [F6_app, Z50, base1, baseE, ↓reduceIte, Nat.reduceAdd, Nat.reduceSub, Nat.reduceMul, Nat.reduceEqDiff, Nat.reduceLeDiff, Nat.reduceLT, Int.reduceLT, Int.reduceLE, Int.reduceEq, Int.reduceNe, Int.reduceToNat, Int.reduceAdd, Int.reduceSub, reduceCtorEq, Nat.reduceBEq, Nat.reduceBNe]
  refine ⟨σ1.length, a, rfl, push_new rfl, ?_⟩
  have b2 := kp (c := a.map byteAV) b1
  have z2 := kp (c := a.map byteAV) z1
  have g2 : Fr1 σ (hkill (hpush σ1 (a.map byteAV)) σ1.length) id := fun j c hj hne => kp (g1 j c hj hne)
  obtain ⟨f', nn, hg⟩ := r1
  have r2 := kp (c := a.map byteAV) hg
  generalize hkill (hpush σ1 (a.map byteAV)) σ1.length = σ2 at b2 z2 g2 r2 ⊢
  generalize readReply a = w at hK ⊢
  obtain ⟨⟨c1, c2, c3, c4, c5, c6, c7, c8⟩, ev⟩ := w
  have sB : ∀ d : List AV, hget (hset σ2 σ.length d) σ.length = some d := fun d => set_same b2
  simp only [F6_app, Z50, base1, baseE, ↓reduceIte, Nat.reduceAdd, Nat.reduceSub, Nat.reduceMul, Nat.reduceEqDiff, Nat.reduceLeDiff, Nat.reduceLT, Int.reduceLT, Int.reduceLE, Int.reduceEq, Int.reduceNe, Int.reduceToNat, Int.reduceAdd, Int.reduceSub, reduceCtorEq, Nat.reduceBEq, Nat.reduceBNe, ansR, RepV.cells, b2, sB]
  refine fin26 id σ.length _ f' nn s1.1 s1.2 ev _ _ K _ _ rfl rfl rfl rfl (by omega) (by omega) (sB _) ((set_other (by omega)).trans z2) ((set_other (by omega)).trans r2) rfl rfl rfl fun σ' hr' hf => ?_
  exact hK _ _ hr' (fun j c hj hne => hf j c ((set_other (by have := hget_lt hj; omega)).trans (g2 j c hj hne)) hne (by have := hget_lt hj; omega)) (by simp only [pureL, AV.pure, recs_pure, Bool.and_self]) rfl
theorem body4 (id : Nat) (s : St) (k f t e i : Int) (hk : k = 4) (σ : AHeap) (K : AV → AHeap → Prop) (hr : RdS σ id s.1 s.2)
    (hK : ∀ σ' cs, RdS σ' id (readBody (bare k f t e i) s).2.1 (readBody (bare k f t e i) s).2.2 → Fr1 σ σ' id → pureL cs = true → cs.map nz1 = (readBody (bare k f t e i) s).1.cells → K (.agg cs) σ') :
    sF F6 s50 [.ptr id 0, .agg (bareC k f t e i)] σ K := by
  have hid : id < σ.length := by obtain ⟨f, nn, hg⟩ := hr; exact hget_lt hg
  have pB : hget (hpush (hpush σ (bareC k f t e i)) (bareC 0 0 0 0 0)) σ.length = some (bareC k f t e i) := push_old (push_new rfl)
  have pz : hget (hpush (hpush σ (bareC k f t e i)) (bareC 0 0 0 0 0)) (σ.length + 1) = some (bareC 0 0 0 0 0) := push_new (by simp [push_len])
  have g0 : Fr1 σ (hpush (hpush σ (bareC k f t e i)) (bareC 0 0 0 0 0)) id := Fr1.push.trans Fr1.push
  have r0 : RdS (hpush (hpush σ (bareC k f t e i)) (bareC 0 0 0 0 0)) id s.1 s.2 := rd_push (rd_push hr)
  subst hk
  have hb : readBody (bare 4 f t e i) s = ({ bare 4 f t e i with aep := (readChart s).1.1, sh := (readChart s).1.2 }, (readChart s).2) := by simp [readBody, bare]
  rw [hb] at hK
  simp only [F6_app, Z50, base1, baseE, ↓reduceIte, Nat.reduceAdd, Nat.reduceSub, Nat.reduceMul, Nat.reduceEqDiff, Nat.reduceLeDiff, Nat.reduceLT, Int.reduceLT, Int.reduceLE, Int.reduceEq, Int.reduceNe, Int.reduceToNat, Int.reduceAdd, Int.reduceSub, reduceCtorEq, Nat.reduceBEq, Nat.reduceBNe, push_len]
  generalize hpush (hpush σ (bareC 4 f t e i)) (bareC 0 0 0 0 0) = σ0 at pB pz g0 r0 ⊢
  simp only [F6_app, Z50, base1, baseE, ↓reduceIte, Nat.reduceAdd, Nat.reduceSub, Nat.reduceMul, Nat.reduceEqDiff, Nat.reduceLeDiff, Nat.reduceLT, Int.reduceLT, Int.reduceLE, Int.reduceEq, Int.reduceNe, Int.reduceToNat, Int.reduceAdd, Int.reduceSub, reduceCtorEq, Nat.reduceBEq, Nat.reduceBNe, pB]
  refine ⟨id, s, rfl, r0, fun σ2 x r1 f1 hx1 hx2 => ?_⟩
  have b2 := f1 _ _ pB (by omega)
  have z2 := f1 _ _ pz (by omega)
  have g2 : Fr1 σ σ2 id := g0.trans f1
  generalize readChart s = w at hK r1 hx2 ⊢
  obtain ⟨⟨ae, sh⟩, s1⟩ := w
  obtain ⟨f', nn, r2⟩ := r1
  have sB : ∀ d : List AV, hget (hset σ2 σ.length d) σ.length = some d := fun d => set_same b2
  have cx : x.isCell = true := nz_cell (by rw [hx2]; rfl)
  simp only [F6_app, Z50, base1, baseE, ↓reduceIte, Nat.reduceAdd, Nat.reduceSub, Nat.reduceMul, Nat.reduceEqDiff, Nat.reduceLeDiff, Nat.reduceLT, Int.reduceLT, Int.reduceLE, Int.reduceEq, Int.reduceNe, Int.reduceToNat, Int.reduceAdd, Int.reduceSub, reduceCtorEq, Nat.reduceBEq, Nat.reduceBNe, b2, sB, cx]
  refine fin26 id σ.length _ f' nn s1.1 s1.2 0 _ _ K _ _ rfl rfl rfl rfl (by omega) (by omega) (sB _) ((set_other (by omega)).trans z2) ((set_other (by omega)).trans r2) rfl rfl (nz_cells (by simp only [List.map_cons, List.map_nil, hx2]; rfl)) fun σ' hr' hf => ?_
  refine hK _ _ (by have : (if s1.2 = 0 then 0 else s1.2) = s1.2 := by split <;> omega
                    rw [this] at hr'; exact hr') (fun j c hj hne => hf j c ((set_other (by have := hget_lt hj; omega)).trans (g2 j c hj hne)) hne (by have := hget_lt hj; omega)) (by simp only [pureL, AV.pure, hx1, Bool.and_self]) ?_
  simp only [List.map_cons, List.map_nil, hx2]
  rfl
theorem body6 (id : Nat) (s : St) (k f t e i : Int) (hk : k = 6) (σ : AHeap) (K : AV → AHeap → Prop) (hr : RdS σ id s.1 s.2)
    (hK : ∀ σ' cs, RdS σ' id (readBody (bare k f t e i) s).2.1 (readBody (bare k f t e i) s).2.2 → Fr1 σ σ' id → pureL cs = true → cs.map nz1 = (readBody (bare k f t e i) s).1.cells → K (.agg cs) σ') :
    sF F6 s50 [.ptr id 0, .agg (bareC k f t e i)] σ K := by
  have hid : id < σ.length := by obtain ⟨f, nn, hg⟩ := hr; exact hget_lt hg
  have pB : hget (hpush (hpush σ (bareC k f t e i)) (bareC 0 0 0 0 0)) σ.length = some (bareC k f t e i) := push_old (push_new rfl)
  have pz : hget (hpush (hpush σ (bareC k f t e i)) (bareC 0 0 0 0 0)) (σ.length + 1) = some (bareC 0 0 0 0 0) := push_new (by simp [push_len])
  have g0 : Fr1 σ (hpush (hpush σ (bareC k f t e i)) (bareC 0 0 0 0 0)) id := Fr1.push.trans Fr1.push
  have r0 : RdS (hpush (hpush σ (bareC k f t e i)) (bareC 0 0 0 0 0)) id s.1 s.2 := rd_push (rd_push hr)
  subst hk
  have hb : readBody (bare 6 f t e i) s = ({ bare 6 f t e i with aep := (readChart s).1.1, sh := (readChart s).1.2 }, (readChart s).2) := by simp [readBody, bare]
  rw [hb] at hK
  simp only [F6_app, Z50, base1, baseE, ↓reduceIte, Nat.reduceAdd, Nat.reduceSub, Nat.reduceMul, Nat.reduceEqDiff, Nat.reduceLeDiff, Nat.reduceLT, Int.reduceLT, Int.reduceLE, Int.reduceEq, Int.reduceNe, Int.reduceToNat, Int.reduceAdd, Int.reduceSub, reduceCtorEq, Nat.reduceBEq, Nat.reduceBNe, push_len]
  generalize hpush (hpush σ (bareC 6 f t e i)) (bareC 0 0 0 0 0) = σ0 at pB pz g0 r0 ⊢
  simp only [F6_app, Z50, base1, baseE, ↓reduceIte, Nat.reduceAdd, Nat.reduceSub, Nat.reduceMul, Nat.reduceEqDiff, Nat.reduceLeDiff, Nat.reduceLT, Int.reduceLT, Int.reduceLE, Int.reduceEq, Int.reduceNe, Int.reduceToNat, Int.reduceAdd, Int.reduceSub, reduceCtorEq, Nat.reduceBEq, Nat.reduceBNe, pB]
  refine ⟨id, s, rfl, r0, fun σ2 x r1 f1 hx1 hx2 => ?_⟩
  have b2 := f1 _ _ pB (by omega)
  have z2 := f1 _ _ pz (by omega)
  have g2 : Fr1 σ σ2 id := g0.trans f1
  generalize readChart s = w at hK r1 hx2 ⊢
  obtain ⟨⟨ae, sh⟩, s1⟩ := w
  obtain ⟨f', nn, r2⟩ := r1
  have sB : ∀ d : List AV, hget (hset σ2 σ.length d) σ.length = some d := fun d => set_same b2
  have cx : x.isCell = true := nz_cell (by rw [hx2]; rfl)
  simp only [F6_app, Z50, base1, baseE, ↓reduceIte, Nat.reduceAdd, Nat.reduceSub, Nat.reduceMul, Nat.reduceEqDiff, Nat.reduceLeDiff, Nat.reduceLT, Int.reduceLT, Int.reduceLE, Int.reduceEq, Int.reduceNe, Int.reduceToNat, Int.reduceAdd, Int.reduceSub, reduceCtorEq, Nat.reduceBEq, Nat.reduceBNe, b2, sB, cx]
  refine fin26 id σ.length _ f' nn s1.1 s1.2 0 _ _ K _ _ rfl rfl rfl rfl (by omega) (by omega) (sB _) ((set_other (by omega)).trans z2) ((set_other (by omega)).trans r2) rfl rfl (nz_cells (by simp only [List.map_cons, List.map_nil, hx2]; rfl)) fun σ' hr' hf => ?_
  refine hK _ _ (by have : (if s1.2 = 0 then 0 else s1.2) = s1.2 := by split <;> omega
                    rw [this] at hr'; exact hr') (fun j c hj hne => hf j c ((set_other (by have := hget_lt hj; omega)).trans (g2 j c hj hne)) hne (by have := hget_lt hj; omega)) (by simp only [pureL, AV.pure, hx1, Bool.and_self]) ?_
  simp only [List.map_cons, List.map_nil, hx2]
  rfl
theorem body7 (id : Nat) (s : St) (k f t e i : Int) (hk : k = 7) (σ : AHeap) (K : AV → AHeap → Prop) (hr : RdS σ id s.1 s.2)
    (hK : ∀ σ' cs, RdS σ' id (readBody (bare k f t e i) s).2.1 (readBody (bare k f t e i) s).2.2 → Fr1 σ σ' id → pureL cs = true → cs.map nz1 = (readBody (bare k f t e i) s).1.cells → K (.agg cs) σ') :
    sF F6 s50 [.ptr id 0, .agg (bareC k f t e i)] σ K := by
  have hid : id < σ.length := by obtain ⟨f, nn, hg⟩ := hr; exact hget_lt hg
  have pB : hget (hpush (hpush σ (bareC k f t e i)) (bareC 0 0 0 0 0)) σ.length = some (bareC k f t e i) := push_old (push_new rfl)
  have pz : hget (hpush (hpush σ (bareC k f t e i)) (bareC 0 0 0 0 0)) (σ.length + 1) = some (bareC 0 0 0 0 0) := push_new (by simp [push_len])
  have g0 : Fr1 σ (hpush (hpush σ (bareC k f t e i)) (bareC 0 0 0 0 0)) id := Fr1.push.trans Fr1.push
  have r0 : RdS (hpush (hpush σ (bareC k f t e i)) (bareC 0 0 0 0 0)) id s.1 s.2 := rd_push (rd_push hr)
  subst hk
  have hb : readBody (bare 7 f t e i) s = ({ bare 7 f t e i with sf := vT s, st := vT (stT s), l := (readRows (stT (stT s))).1.1, last := (readRows (stT (stT s))).1.2 }, (readRows (stT (stT s))).2) := by simp [readBody, bare]
  rw [hb] at hK
  simp only [F6_app, Z50, base1, baseE, ↓reduceIte, Nat.reduceAdd, Nat.reduceSub, Nat.reduceMul, Nat.reduceEqDiff, Nat.reduceLeDiff, Nat.reduceLT, Int.reduceLT, Int.reduceLE, Int.reduceEq, Int.reduceNe, Int.reduceToNat, Int.reduceAdd, Int.reduceSub, reduceCtorEq, Nat.reduceBEq, Nat.reduceBNe, push_len]
  generalize hpush (hpush σ (bareC 7 f t e i)) (bareC 0 0 0 0 0) = σ0 at pB pz g0 r0 ⊢
  simp only [F6_app, Z50, base1, baseE, ↓reduceIte, Nat.reduceAdd, Nat.reduceSub, Nat.reduceMul, Nat.reduceEqDiff, Nat.reduceLeDiff, Nat.reduceLT, Int.reduceLT, Int.reduceLE, Int.reduceEq, Int.reduceNe, Int.reduceToNat, Int.reduceAdd, Int.reduceSub, reduceCtorEq, Nat.reduceBEq, Nat.reduceBNe, pB]
  refine ⟨id, s.1, s.2, rfl, r0, fun σ1 r1 f1 => ?_⟩
  have b1 := f1 _ _ pB (by omega)
  have z1 := f1 _ _ pz (by omega)
  have g1 : Fr1 σ σ1 id := g0.trans f1
  have r1 : RdS σ1 id (stT s).1 (stT s).2 := r1
  have v0 : (rdText s.1 s.2).1 = vT s := rfl
  rw [v0]
  generalize stT s = s1 at r1 hK ⊢
  generalize vT s = a at hK ⊢
  simp only [F6_app, Z50, base1, baseE, ↓reduceIte, Nat.reduceAdd, Nat.reduceSub, Nat.reduceMul, Nat.reduceEqDiff, Nat.reduceLeDiff, Nat.reduceLT, Int.reduceLT, Int.reduceLE, Int.reduceEq, Int.reduceNe, Int.reduceToNat, Int.reduceAdd, Int.reduceSub, reduceCtorEq, Nat.reduceBEq, Nat.reduceBNe]
  refine ⟨id, s1.1, s1.2, rfl, r1, fun σ2 r2 f2 => ?_⟩
  have b2 := f2 _ _ b1 (by omega)
  have z2 := f2 _ _ z1 (by omega)
  have g2 : Fr1 σ σ2 id := g1.trans f2
  have r2 : RdS σ2 id (stT s1).1 (stT s1).2 := r2
  have v1 : (rdText s1.1 s1.2).1 = vT s1 := rfl
  rw [v1]
  generalize stT s1 = s2 at r2 hK ⊢
  generalize vT s1 = b at hK ⊢
  have sB : ∀ d : List AV, hget (hset σ2 σ.length d) σ.length = some d := fun d => set_same b2
  simp only [F6_app, Z50, base1, baseE, ↓reduceIte, Nat.reduceAdd, Nat.reduceSub, Nat.reduceMul, Nat.reduceEqDiff, Nat.reduceLeDiff, Nat.reduceLT, Int.reduceLT, Int.reduceLE, Int.reduceEq, Int.reduceNe, Int.reduceToNat, Int.reduceAdd, Int.reduceSub, reduceCtorEq, Nat.reduceBEq, Nat.reduceBNe, b2, sB]
  refine ⟨id, s2, rfl, rd_set r2 (by omega), fun σ3 x y r3 f3 hx1 hx2 hy1 hy2 => ?_⟩
  have b3 := f3 _ _ (sB _) (by omega)
  have z3 := f3 _ _ ((set_other (by omega)).trans z2) (by omega)
  have g3 : Fr1 σ σ3 id := fun j c hj hne => f3 j c ((set_other (by have := hget_lt hj; omega)).trans (g2 j c hj hne)) hne
  generalize readRows s2 = w at hK r3 hx2 hy2 ⊢
  obtain ⟨⟨l, m⟩, s3⟩ := w
  obtain ⟨f', nn, r4⟩ := r3
  have sC : ∀ d : List AV, hget (hset σ3 σ.length d) σ.length = some d := fun d => set_same b3
  have sD : ∀ c d : List AV, hget (hset (hset σ3 σ.length c) σ.length d) σ.length = some d := fun c d => set_same (sC c)
  have cx : x.isCell = true := nz_cell (by rw [hx2]; rfl)
  have cy : y.isCell = true := nz_cell (by rw [hy2]; rfl)
  have kx := cell_cells cx
  have ky := cell_cells cy
  simp only [F6_app, Z50, base1, baseE, ↓reduceIte, Nat.reduceAdd, Nat.reduceSub, Nat.reduceMul, Nat.reduceEqDiff, Nat.reduceLeDiff, Nat.reduceLT, Int.reduceLT, Int.reduceLE, Int.reduceEq, Int.reduceNe, Int.reduceToNat, Int.reduceAdd, Int.reduceSub, reduceCtorEq, Nat.reduceBEq, Nat.reduceBNe, b3, sC, sD, cx, cy, kx, ky]
  refine fin26 id σ.length _ f' nn s3.1 s3.2 0 [.int .i64 7, .int .i64 f, .int .i64 t, .int .i64 e, .int .i64 i, .int .i64 0, .int .i64 0, .int .i64 0, .str [], .str [], .str [], .str [], .int .i64 0, .int .i64 0, .int .i64 0, .int .i64 0, .bool false, .str [], .nilslice, .str [], .bool false, .str a, .str b, x, y, .int .i64 0, .nilslice] (bareC 0 0 0 0 0) K _ _ ?_ ?_ ?_ ?_ ?_ ?_ ?_ ?_ ?_ ?_ ?_ ?_ fun σ' hr' hf => ?_
  rotate_right
  · have hz : (if s3.2 = 0 then 0 else s3.2) = s3.2 := by split <;> omega
    rw [hz] at hr'
    refine hK _ _ hr' (fun j c hj hne => hf j c ((set_other (by have := hget_lt hj; omega)).trans ((set_other (by have := hget_lt hj; omega)).trans (g3 j c hj hne))) hne (by have := hget_lt hj; omega)) (by simp only [pureL, AV.pure, hx1, hy1, Bool.and_self]) ?_
    simp only [List.map_cons, List.map_nil, hx2, hy2]
    rfl
  · rfl
  · rfl
  · rfl
  · rfl
  · omega
  · omega
  · first | exact sD _ _ | exact sC _
  · first | exact (set_other (by omega)).trans ((set_other (by omega)).trans z3) | exact (set_other (by omega)).trans z3
  · first | exact (set_other (by omega)).trans ((set_other (by omega)).trans r4) | exact (set_other (by omega)).trans r4
  · rfl
  · rfl
  · exact nz_cells (by simp only [List.map_cons, List.map_nil, hx2, hy2]; rfl)
theorem body8 (id : Nat) (s : St) (k f t e i : Int) (hk : k = 8) (σ : AHeap) (K : AV → AHeap → Prop) (hr : RdS σ id s.1 s.2)
    (hK : ∀ σ' cs, RdS σ' id (readBody (bare k f t e i) s).2.1 (readBody (bare k f t e i) s).2.2 → Fr1 σ σ' id → pureL cs = true → cs.map nz1 = (readBody (bare k f t e i) s).1.cells → K (.agg cs) σ') :
    sF F6 s50 [.ptr id 0, .agg (bareC k f t e i)] σ K := by
  have hid : id < σ.length := by obtain ⟨f, nn, hg⟩ := hr; exact hget_lt hg
  have pB : hget (hpush (hpush σ (bareC k f t e i)) (bareC 0 0 0 0 0)) σ.length = some (bareC k f t e i) := push_old (push_new rfl)
  have pz : hget (hpush (hpush σ (bareC k f t e i)) (bareC 0 0 0 0 0)) (σ.length + 1) = some (bareC 0 0 0 0 0) := push_new (by simp [push_len])
  have g0 : Fr1 σ (hpush (hpush σ (bareC k f t e i)) (bareC 0 0 0 0 0)) id := Fr1.push.trans Fr1.push
  have r0 : RdS (hpush (hpush σ (bareC k f t e i)) (bareC 0 0 0 0 0)) id s.1 s.2 := rd_push (rd_push hr)
  subst hk
  have hb : readBody (bare 8 f t e i) s = ({ bare 8 f t e i with sf := vT s, st := vT (stT s), l := (readRows (stT (stT s))).1.1, last := (readRows (stT (stT s))).1.2 }, (readRows (stT (stT s))).2) := by simp [readBody, bare]
  rw [hb] at hK
  simp only [F6_app, Z50, base1, baseE, ↓reduceIte, Nat.reduceAdd, Nat.reduceSub, Nat.reduceMul, Nat.reduceEqDiff, Nat.reduceLeDiff, Nat.reduceLT, Int.reduceLT, Int.reduceLE, Int.reduceEq, Int.reduceNe, Int.reduceToNat, Int.reduceAdd, Int.reduceSub, reduceCtorEq, Nat.reduceBEq, Nat.reduceBNe, push_len]
  generalize hpush (hpush σ (bareC 8 f t e i)) (bareC 0 0 0 0 0) = σ0 at pB pz g0 r0 ⊢
  simp only [F6_app, Z50, base1, baseE, ↓reduceIte, Nat.reduceAdd, Nat.reduceSub, Nat.reduceMul, Nat.reduceEqDiff, Nat.reduceLeDiff, Nat.reduceLT, Int.reduceLT, Int.reduceLE, Int.reduceEq, Int.reduceNe, Int.reduceToNat, Int.reduceAdd, Int.reduceSub, reduceCtorEq, Nat.reduceBEq, Nat.reduceBNe, pB]
  refine ⟨id, s.1, s.2, rfl, r0, fun σ1 r1 f1 => ?_⟩
  have b1 := f1 _ _ pB (by omega)
  have z1 := f1 _ _ pz (by omega)
  have g1 : Fr1 σ σ1 id := g0.trans f1
  have r1 : RdS σ1 id (stT s).1 (stT s).2 := r1
  have v0 : (rdText s.1 s.2).1 = vT s := rfl
  rw [v0]
  generalize stT s = s1 at r1 hK ⊢
  generalize vT s = a at hK ⊢
  simp only [F6_app, Z50, base1, baseE, ↓reduceIte, Nat.reduceAdd, Nat.reduceSub, Nat.reduceMul, Nat.reduceEqDiff, Nat.reduceLeDiff, Nat.reduceLT, Int.reduceLT, Int.reduceLE, Int.reduceEq, Int.reduceNe, Int.reduceToNat, Int.reduceAdd, Int.reduceSub, reduceCtorEq, Nat.reduceBEq, Nat.reduceBNe]
  refine ⟨id, s1.1, s1.2, rfl, r1, fun σ2 r2 f2 => ?_⟩
  have b2 := f2 _ _ b1 (by omega)
  have z2 := f2 _ _ z1 (by omega)
  have g2 : Fr1 σ σ2 id := g1.trans f2
  have r2 : RdS σ2 id (stT s1).1 (stT s1).2 := r2
  have v1 : (rdText s1.1 s1.2).1 = vT s1 := rfl
  rw [v1]
  generalize stT s1 = s2 at r2 hK ⊢
  generalize vT s1 = b at hK ⊢
  have sB : ∀ d : List AV, hget (hset σ2 σ.length d) σ.length = some d := fun d => set_same b2
  simp only [F6_app, Z50, base1, baseE, ↓reduceIte, Nat.reduceAdd, Nat.reduceSub, Nat.reduceMul, Nat.reduceEqDiff, Nat.reduceLeDiff, Nat.reduceLT, Int.reduceLT, Int.reduceLE, Int.reduceEq, Int.reduceNe, Int.reduceToNat, Int.reduceAdd, Int.reduceSub, reduceCtorEq, Nat.reduceBEq, Nat.reduceBNe, b2, sB]
  refine ⟨id, s2, rfl, rd_set r2 (by omega), fun σ3 x y r3 f3 hx1 hx2 hy1 hy2 => ?_⟩
  have b3 := f3 _ _ (sB _) (by omega)
  have z3 := f3 _ _ ((set_other (by omega)).trans z2) (by omega)
  have g3 : Fr1 σ σ3 id := fun j c hj hne => f3 j c ((set_other (by have := hget_lt hj; omega)).trans (g2 j c hj hne)) hne
  generalize readRows s2 = w at hK r3 hx2 hy2 ⊢
  obtain ⟨⟨l, m⟩, s3⟩ := w
  obtain ⟨f', nn, r4⟩ := r3
  have sC : ∀ d : List AV, hget (hset σ3 σ.length d) σ.length = some d := fun d => set_same b3
  have sD : ∀ c d : List AV, hget (hset (hset σ3 σ.length c) σ.length d) σ.length = some d := fun c d => set_same (sC c)
  have cx : x.isCell = true := nz_cell (by rw [hx2]; rfl)
  have cy : y.isCell = true := nz_cell (by rw [hy2]; rfl)
  have kx := cell_cells cx
  have ky := cell_cells cy
  simp only [F6_app, Z50, base1, baseE, ↓reduceIte, Nat.reduceAdd, Nat.reduceSub, Nat.reduceMul, Nat.reduceEqDiff, Nat.reduceLeDiff, Nat.reduceLT, Int.reduceLT, Int.reduceLE, Int.reduceEq, Int.reduceNe, Int.reduceToNat, Int.reduceAdd, Int.reduceSub, reduceCtorEq, Nat.reduceBEq, Nat.reduceBNe, b3, sC, sD, cx, cy, kx, ky]
  refine fin26 id σ.length _ f' nn s3.1 s3.2 0 [.int .i64 8, .int .i64 f, .int .i64 t, .int .i64 e, .int .i64 i, .int .i64 0, .int .i64 0, .int .i64 0, .str [], .str [], .str [], .str [], .int .i64 0, .int .i64 0, .int .i64 0, .int .i64 0, .bool false, .str [], .nilslice, .str [], .bool false, .str a, .str b, x, y, .int .i64 0, .nilslice] (bareC 0 0 0 0 0) K _ _ ?_ ?_ ?_ ?_ ?_ ?_ ?_ ?_ ?_ ?_ ?_ ?_ fun σ' hr' hf => ?_
  rotate_right
  · have hz : (if s3.2 = 0 then 0 else s3.2) = s3.2 := by split <;> omega
    rw [hz] at hr'
    refine hK _ _ hr' (fun j c hj hne => hf j c ((set_other (by have := hget_lt hj; omega)).trans ((set_other (by have := hget_lt hj; omega)).trans (g3 j c hj hne))) hne (by have := hget_lt hj; omega)) (by simp only [pureL, AV.pure, hx1, hy1, Bool.and_self]) ?_
    simp only [List.map_cons, List.map_nil, hx2, hy2]
    rfl
  · rfl
  · rfl
  · rfl
  · rfl
  · omega
  · omega
  · first | exact sD _ _ | exact sC _
  · first | exact (set_other (by omega)).trans ((set_other (by omega)).trans z3) | exact (set_other (by omega)).trans z3
  · first | exact (set_other (by omega)).trans ((set_other (by omega)).trans r4) | exact (set_other (by omega)).trans r4
  · rfl
  · rfl
  · exact nz_cells (by simp only [List.map_cons, List.map_nil, hx2, hy2]; rfl)
theorem body9 (id : Nat) (s : St) (k f t e i : Int) (hk : k = 9) (σ : AHeap) (K : AV → AHeap → Prop) (hr : RdS σ id s.1 s.2)
    (hK : ∀ σ' cs, RdS σ' id (readBody (bare k f t e i) s).2.1 (readBody (bare k f t e i) s).2.2 → Fr1 σ σ' id → pureL cs = true → cs.map nz1 = (readBody (bare k f t e i) s).1.cells → K (.agg cs) σ') :
    sF F6 s50 [.ptr id 0, .agg (bareC k f t e i)] σ K := by
  have hid : id < σ.length := by obtain ⟨f, nn, hg⟩ := hr; exact hget_lt hg
  have pB : hget (hpush (hpush σ (bareC k f t e i)) (bareC 0 0 0 0 0)) σ.length = some (bareC k f t e i) := push_old (push_new rfl)
  have pz : hget (hpush (hpush σ (bareC k f t e i)) (bareC 0 0 0 0 0)) (σ.length + 1) = some (bareC 0 0 0 0 0) := push_new (by simp [push_len])
  have g0 : Fr1 σ (hpush (hpush σ (bareC k f t e i)) (bareC 0 0 0 0 0)) id := Fr1.push.trans Fr1.push
  have r0 : RdS (hpush (hpush σ (bareC k f t e i)) (bareC 0 0 0 0 0)) id s.1 s.2 := rd_push (rd_push hr)
  subst hk
  have hb : readBody (bare 9 f t e i) s = ({ bare 9 f t e i with sf := vT s, st := vT (stT s), l := (readRows (stT (stT s))).1.1, last := (readRows (stT (stT s))).1.2 }, (readRows (stT (stT s))).2) := by simp [readBody, bare]
  rw [hb] at hK
  simp only [F6_app, Z50, base1, baseE, ↓reduceIte, Nat.reduceAdd, Nat.reduceSub, Nat.reduceMul, Nat.reduceEqDiff, Nat.reduceLeDiff, Nat.reduceLT, Int.reduceLT, Int.reduceLE, Int.reduceEq, Int.reduceNe, Int.reduceToNat, Int.reduceAdd, Int.reduceSub, reduceCtorEq, Nat.reduceBEq, Nat.reduceBNe, push_len]
  generalize hpush (hpush σ (bareC 9 f t e i)) (bareC 0 0 0 0 0) = σ0 at pB pz g0 r0 ⊢
  simp only [F6_app, Z50, base1, baseE, ↓reduceIte, Nat.reduceAdd, Nat.reduceSub, Nat.reduceMul, Nat.reduceEqDiff, Nat.reduceLeDiff, Nat.reduceLT, Int.reduceLT, Int.reduceLE, Int.reduceEq, Int.reduceNe, Int.reduceToNat, Int.reduceAdd, Int.reduceSub, reduceCtorEq, Nat.reduceBEq, Nat.reduceBNe, pB]
  refine ⟨id, s.1, s.2, rfl, r0, fun σ1 r1 f1 => ?_⟩
  have b1 := f1 _ _ pB (by omega)
  have z1 := f1 _ _ pz (by omega)
  have g1 : Fr1 σ σ1 id := g0.trans f1
  have r1 : RdS σ1 id (stT s).1 (stT s).2 := r1
  have v0 : (rdText s.1 s.2).1 = vT s := rfl
  rw [v0]
  generalize stT s = s1 at r1 hK ⊢
  generalize vT s = a at hK ⊢
  simp only [F6_app, Z50, base1, baseE, ↓reduceIte, Nat.reduceAdd, Nat.reduceSub, Nat.reduceMul, Nat.reduceEqDiff, Nat.reduceLeDiff, Nat.reduceLT, Int.reduceLT, Int.reduceLE, Int.reduceEq, Int.reduceNe, Int.reduceToNat, Int.reduceAdd, Int.reduceSub, reduceCtorEq, Nat.reduceBEq, Nat.reduceBNe]
  refine ⟨id, s1.1, s1.2, rfl, r1, fun σ2 r2 f2 => ?_⟩
  have b2 := f2 _ _ b1 (by omega)
  have z2 := f2 _ _ z1 (by omega)
  have g2 : Fr1 σ σ2 id := g1.trans f2
  have r2 : RdS σ2 id (stT s1).1 (stT s1).2 := r2
  have v1 : (rdText s1.1 s1.2).1 = vT s1 := rfl
  rw [v1]
  generalize stT s1 = s2 at r2 hK ⊢
  generalize vT s1 = b at hK ⊢
  have sB : ∀ d : List AV, hget (hset σ2 σ.length d) σ.length = some d := fun d => set_same b2
  simp only [F6_app, Z50, base1, baseE, ↓reduceIte, Nat.reduceAdd, Nat.reduceSub, Nat.reduceMul, Nat.reduceEqDiff, Nat.reduceLeDiff, Nat.reduceLT, Int.reduceLT, Int.reduceLE, Int.reduceEq, Int.reduceNe, Int.reduceToNat, Int.reduceAdd, Int.reduceSub, reduceCtorEq, Nat.reduceBEq, Nat.reduceBNe, b2, sB]
  refine ⟨id, s2, rfl, rd_set r2 (by omega), fun σ3 x y r3 f3 hx1 hx2 hy1 hy2 => ?_⟩
  have b3 := f3 _ _ (sB _) (by omega)
  have z3 := f3 _ _ ((set_other (by omega)).trans z2) (by omega)
  have g3 : Fr1 σ σ3 id := fun j c hj hne => f3 j c ((set_other (by have := hget_lt hj; omega)).trans (g2 j c hj hne)) hne
  generalize readRows s2 = w at hK r3 hx2 hy2 ⊢
  obtain ⟨⟨l, m⟩, s3⟩ := w
  obtain ⟨f', nn, r4⟩ := r3
  have sC : ∀ d : List AV, hget (hset σ3 σ.length d) σ.length = some d := fun d => set_same b3
  have sD : ∀ c d : List AV, hget (hset (hset σ3 σ.length c) σ.length d) σ.length = some d := fun c d => set_same (sC c)
  have cx : x.isCell = true := nz_cell (by rw [hx2]; rfl)
  have cy : y.isCell = true := nz_cell (by rw [hy2]; rfl)
  have kx := cell_cells cx
  have ky := cell_cells cy
  simp only [F6_app, Z50, base1, baseE, ↓reduceIte, Nat.reduceAdd, Nat.reduceSub, Nat.reduceMul, Nat.reduceEqDiff, Nat.reduceLeDiff, Nat.reduceLT, Int.reduceLT, Int.reduceLE, Int.reduceEq, Int.reduceNe, Int.reduceToNat, Int.reduceAdd, Int.reduceSub, reduceCtorEq, Nat.reduceBEq, Nat.reduceBNe, b3, sC, sD, cx, cy, kx, ky]
  refine fin26 id σ.length _ f' nn s3.1 s3.2 0 [.int .i64 9, .int .i64 f, .int .i64 t, .int .i64 e, .int .i64 i, .int .i64 0, .int .i64 0, .int .i64 0, .str [], .str [], .str [], .str [], .int .i64 0, .int .i64 0, .int .i64 0, .int .i64 0, .bool false, .str [], .nilslice, .str [], .bool false, .str a, .str b, x, y, .int .i64 0, .nilslice] (bareC 0 0 0 0 0) K _ _ ?_ ?_ ?_ ?_ ?_ ?_ ?_ ?_ ?_ ?_ ?_ ?_ fun σ' hr' hf => ?_
  rotate_right
  · have hz : (if s3.2 = 0 then 0 else s3.2) = s3.2 := by split <;> omega
    rw [hz] at hr'
    refine hK _ _ hr' (fun j c hj hne => hf j c ((set_other (by have := hget_lt hj; omega)).trans ((set_other (by have := hget_lt hj; omega)).trans (g3 j c hj hne))) hne (by have := hget_lt hj; omega)) (by simp only [pureL, AV.pure, hx1, hy1, Bool.and_self]) ?_
    simp only [List.map_cons, List.map_nil, hx2, hy2]
    rfl
  · rfl
  · rfl
  · rfl
  · rfl
  · omega
  · omega
  · first | exact sD _ _ | exact sC _
  · first | exact (set_other (by omega)).trans ((set_other (by omega)).trans z3) | exact (set_other (by omega)).trans z3
  · first | exact (set_other (by omega)).trans ((set_other (by omega)).trans r4) | exact (set_other (by omega)).trans r4
  · rfl
  · rfl
  · exact nz_cells (by simp only [List.map_cons, List.map_nil, hx2, hy2]; rfl)
theorem body10 (id : Nat) (s : St) (k f t e i : Int) (hk : k = 10) (σ : AHeap) (K : AV → AHeap → Prop) (hr : RdS σ id s.1 s.2)
    (hK : ∀ σ' cs, RdS σ' id (readBody (bare k f t e i) s).2.1 (readBody (bare k f t e i) s).2.2 → Fr1 σ σ' id → pureL cs = true → cs.map nz1 = (readBody (bare k f t e i) s).1.cells → K (.agg cs) σ') :
    sF F6 s50 [.ptr id 0, .agg (bareC k f t e i)] σ K := by
  have hid : id < σ.length := by obtain ⟨f, nn, hg⟩ := hr; exact hget_lt hg
  have pB : hget (hpush (hpush σ (bareC k f t e i)) (bareC 0 0 0 0 0)) σ.length = some (bareC k f t e i) := push_old (push_new rfl)
  have pz : hget (hpush (hpush σ (bareC k f t e i)) (bareC 0 0 0 0 0)) (σ.length + 1) = some (bareC 0 0 0 0 0) := push_new (by simp [push_len])
  have g0 : Fr1 σ (hpush (hpush σ (bareC k f t e i)) (bareC 0 0 0 0 0)) id := Fr1.push.trans Fr1.push
  have r0 : RdS (hpush (hpush σ (bareC k f t e i)) (bareC 0 0 0 0 0)) id s.1 s.2 := rd_push (rd_push hr)
  subst hk
  have hb : readBody (bare 10 f t e i) s = ({ bare 10 f t e i with sf := vT s, st := vT (stT s), l := (readRows (stT (stT s))).1.1, last := (readRows (stT (stT s))).1.2 }, (readRows (stT (stT s))).2) := by simp [readBody, bare]
  rw [hb] at hK
  simp only [F6_app, Z50, base1, baseE, ↓reduceIte, Nat.reduceAdd, Nat.reduceSub, Nat.reduceMul, Nat.reduceEqDiff, Nat.reduceLeDiff, Nat.reduceLT, Int.reduceLT, Int.reduceLE, Int.reduceEq, Int.reduceNe, Int.reduceToNat, Int.reduceAdd, Int.reduceSub, reduceCtorEq, Nat.reduceBEq, Nat.reduceBNe, push_len]
  generalize hpush (hpush σ (bareC 10 f t e i)) (bareC 0 0 0 0 0) = σ0 at pB pz g0 r0 ⊢
  simp only [F6_app, Z50, base1, baseE, ↓reduceIte, Nat.reduceAdd, Nat.reduceSub, Nat.reduceMul, Nat.reduceEqDiff, Nat.reduceLeDiff, Nat.reduceLT, Int.reduceLT, Int.reduceLE, Int.reduceEq, Int.reduceNe, Int.reduceToNat, Int.reduceAdd, Int.reduceSub, reduceCtorEq, Nat.reduceBEq, Nat.reduceBNe, pB]
  refine ⟨id, s.1, s.2, rfl, r0, fun σ1 r1 f1 => ?_⟩
  have b1 := f1 _ _ pB (by omega)
  have z1 := f1 _ _ pz (by omega)
  have g1 : Fr1 σ σ1 id := g0.trans f1
  have r1 : RdS σ1 id (stT s).1 (stT s).2 := r1
  have v0 : (rdText s.1 s.2).1 = vT s := rfl
  rw [v0]
  generalize stT s = s1 at r1 hK ⊢
  generalize vT s = a at hK ⊢
  simp only [F6_app, Z50, base1, baseE, ↓reduceIte, Nat.reduceAdd, Nat.reduceSub, Nat.reduceMul, Nat.reduceEqDiff, Nat.reduceLeDiff, Nat.reduceLT, Int.reduceLT, Int.reduceLE, Int.reduceEq, Int.reduceNe, Int.reduceToNat, Int.reduceAdd, Int.reduceSub, reduceCtorEq, Nat.reduceBEq, Nat.reduceBNe]
  refine ⟨id, s1.1, s1.2, rfl, r1, fun σ2 r2 f2 => ?_⟩
  have b2 := f2 _ _ b1 (by omega)
  have z2 := f2 _ _ z1 (by omega)
  have g2 : Fr1 σ σ2 id := g1.trans f2
  have r2 : RdS σ2 id (stT s1).1 (stT s1).2 := r2
  have v1 : (rdText s1.1 s1.2).1 = vT s1 := rfl
  rw [v1]
  generalize stT s1 = s2 at r2 hK ⊢
  generalize vT s1 = b at hK ⊢
  have sB : ∀ d : List AV, hget (hset σ2 σ.length d) σ.length = some d := fun d => set_same b2
  simp only [F6_app, Z50, base1, baseE, ↓reduceIte, Nat.reduceAdd, Nat.reduceSub, Nat.reduceMul, Nat.reduceEqDiff, Nat.reduceLeDiff, Nat.reduceLT, Int.reduceLT, Int.reduceLE, Int.reduceEq, Int.reduceNe, Int.reduceToNat, Int.reduceAdd, Int.reduceSub, reduceCtorEq, Nat.reduceBEq, Nat.reduceBNe, b2, sB]
  refine ⟨id, s2, rfl, rd_set r2 (by omega), fun σ3 x y r3 f3 hx1 hx2 hy1 hy2 => ?_⟩
  have b3 := f3 _ _ (sB _) (by omega)
  have z3 := f3 _ _ ((set_other (by omega)).trans z2) (by omega)
  have g3 : Fr1 σ σ3 id := fun j c hj hne => f3 j c ((set_other (by have := hget_lt hj; omega)).trans (g2 j c hj hne)) hne
  generalize readRows s2 = w at hK r3 hx2 hy2 ⊢
  obtain ⟨⟨l, m⟩, s3⟩ := w
  obtain ⟨f', nn, r4⟩ := r3
  have sC : ∀ d : List AV, hget (hset σ3 σ.length d) σ.length = some d := fun d => set_same b3
  have sD : ∀ c d : List AV, hget (hset (hset σ3 σ.length c) σ.length d) σ.length = some d := fun c d => set_same (sC c)
  have cx : x.isCell = true := nz_cell (by rw [hx2]; rfl)
  have cy : y.isCell = true := nz_cell (by rw [hy2]; rfl)
  have kx := cell_cells cx
  have ky := cell_cells cy
  simp only [F6_app, Z50, base1, baseE, ↓reduceIte, Nat.reduceAdd, Nat.reduceSub, Nat.reduceMul, Nat.reduceEqDiff, Nat.reduceLeDiff, Nat.reduceLT, Int.reduceLT, Int.reduceLE, Int.reduceEq, Int.reduceNe, Int.reduceToNat, Int.reduceAdd, Int.reduceSub, reduceCtorEq, Nat.reduceBEq, Nat.reduceBNe, b3, sC, sD, cx, cy, kx, ky]
  refine fin26 id σ.length _ f' nn s3.1 s3.2 0 [.int .i64 10, .int .i64 f, .int .i64 t, .int .i64 e, .int .i64 i, .int .i64 0, .int .i64 0, .int .i64 0, .str [], .str [], .str [], .str [], .int .i64 0, .int .i64 0, .int .i64 0, .int .i64 0, .bool false, .str [], .nilslice, .str [], .bool false, .str a, .str b, x, y, .int .i64 0, .nilslice] (bareC 0 0 0 0 0) K _ _ ?_ ?_ ?_ ?_ ?_ ?_ ?_ ?_ ?_ ?_ ?_ ?_ fun σ' hr' hf => ?_
  rotate_right
  · have hz : (if s3.2 = 0 then 0 else s3.2) = s3.2 := by split <;> omega
    rw [hz] at hr'
    refine hK _ _ hr' (fun j c hj hne => hf j c ((set_other (by have := hget_lt hj; omega)).trans ((set_other (by have := hget_lt hj; omega)).trans (g3 j c hj hne))) hne (by have := hget_lt hj; omega)) (by simp only [pureL, AV.pure, hx1, hy1, Bool.and_self]) ?_
    simp only [List.map_cons, List.map_nil, hx2, hy2]
    rfl
  · rfl
  · rfl
  · rfl
  · rfl
  · omega
  · omega
  · first | exact sD _ _ | exact sC _
  · first | exact (set_other (by omega)).trans ((set_other (by omega)).trans z3) | exact (set_other (by omega)).trans z3
  · first | exact (set_other (by omega)).trans ((set_other (by omega)).trans r4) | exact (set_other (by omega)).trans r4
  · rfl
  · rfl
  · exact nz_cells (by simp only [List.map_cons, List.map_nil, hx2, hy2]; rfl)
theorem body11 (id : Nat) (s : St) (k f t e i : Int) (hk : k = 11) (σ : AHeap) (K : AV → AHeap → Prop) (hr : RdS σ id s.1 s.2)
    (hK : ∀ σ' cs, RdS σ' id (readBody (bare k f t e i) s).2.1 (readBody (bare k f t e i) s).2.2 → Fr1 σ σ' id → pureL cs = true → cs.map nz1 = (readBody (bare k f t e i) s).1.cells → K (.agg cs) σ') :
    sF F6 s50 [.ptr id 0, .agg (bareC k f t e i)] σ K := by
  have hid : id < σ.length := by obtain ⟨f, nn, hg⟩ := hr; exact hget_lt hg
  have pB : hget (hpush (hpush σ (bareC k f t e i)) (bareC 0 0 0 0 0)) σ.length = some (bareC k f t e i) := push_old (push_new rfl)
  have pz : hget (hpush (hpush σ (bareC k f t e i)) (bareC 0 0 0 0 0)) (σ.length + 1) = some (bareC 0 0 0 0 0) := push_new (by simp [push_len])
  have g0 : Fr1 σ (hpush (hpush σ (bareC k f t e i)) (bareC 0 0 0 0 0)) id := Fr1.push.trans Fr1.push
  have r0 : RdS (hpush (hpush σ (bareC k f t e i)) (bareC 0 0 0 0 0)) id s.1 s.2 := rd_push (rd_push hr)
  subst hk
  have hb : readBody (bare 11 f t e i) s = ({ bare 11 f t e i with sf := vT s, st := vT (stT s), l := (readRows (stT (stT s))).1.1, last := (readRows (stT (stT s))).1.2 }, (readRows (stT (stT s))).2) := by simp [readBody, bare]
  rw [hb] at hK
  simp only [F6_app, Z50, base1, baseE, ↓reduceIte, Nat.reduceAdd, Nat.reduceSub, Nat.reduceMul, Nat.reduceEqDiff, Nat.reduceLeDiff, Nat.reduceLT, Int.reduceLT, Int.reduceLE, Int.reduceEq, Int.reduceNe, Int.reduceToNat, Int.reduceAdd, Int.reduceSub, reduceCtorEq, Nat.reduceBEq, Nat.reduceBNe, push_len]
  generalize hpush (hpush σ (bareC 11 f t e i)) (bareC 0 0 0 0 0) = σ0 at pB pz g0 r0 ⊢
  simp only [F6_app, Z50, base1, baseE, ↓reduceIte, Nat.reduceAdd, Nat.reduceSub, Nat.reduceMul, Nat.reduceEqDiff, Nat.reduceLeDiff, Nat.reduceLT, Int.reduceLT, Int.reduceLE, Int.reduceEq, Int.reduceNe, Int.reduceToNat, Int.reduceAdd, Int.reduceSub, reduceCtorEq, Nat.reduceBEq, Nat.reduceBNe, pB]
  refine ⟨id, s.1, s.2, rfl, r0, fun σ1 r1 f1 => ?_⟩
  have b1 := f1 _ _ pB (by omega)
  have z1 := f1 _ _ pz (by omega)
  have g1 : Fr1 σ σ1 id := g0.trans f1
  have r1 : RdS σ1 id (stT s).1 (stT s).2 := r1
  have v0 : (rdText s.1 s.2).1 = vT s := rfl
  rw [v0]
  generalize stT s = s1 at r1 hK ⊢
  generalize vT s = a at hK ⊢
  simp only [F6_app, Z50, base1, baseE, ↓reduceIte, Nat.reduceAdd, Nat.reduceSub, Nat.reduceMul, Nat.reduceEqDiff, Nat.reduceLeDiff, Nat.reduceLT, Int.reduceLT, Int.reduceLE, Int.reduceEq, Int.reduceNe, Int.reduceToNat, Int.reduceAdd, Int.reduceSub, reduceCtorEq, Nat.reduceBEq, Nat.reduceBNe]
  refine ⟨id, s1.1, s1.2, rfl, r1, fun σ2 r2 f2 => ?_⟩
  have b2 := f2 _ _ b1 (by omega)
  have z2 := f2 _ _ z1 (by omega)
  have g2 : Fr1 σ σ2 id := g1.trans f2
  have r2 : RdS σ2 id (stT s1).1 (stT s1).2 := r2
  have v1 : (rdText s1.1 s1.2).1 = vT s1 := rfl
  rw [v1]
  generalize stT s1 = s2 at r2 hK ⊢
  generalize vT s1 = b at hK ⊢
  have sB : ∀ d : List AV, hget (hset σ2 σ.length d) σ.length = some d := fun d => set_same b2
  simp only [F6_app, Z50, base1, baseE, ↓reduceIte, Nat.reduceAdd, Nat.reduceSub, Nat.reduceMul, Nat.reduceEqDiff, Nat.reduceLeDiff, Nat.reduceLT, Int.reduceLT, Int.reduceLE, Int.reduceEq, Int.reduceNe, Int.reduceToNat, Int.reduceAdd, Int.reduceSub, reduceCtorEq, Nat.reduceBEq, Nat.reduceBNe, b2, sB]
  refine ⟨id, s2, rfl, rd_set r2 (by omega), fun σ3 x y r3 f3 hx1 hx2 hy1 hy2 => ?_⟩
  have b3 := f3 _ _ (sB _) (by omega)
  have z3 := f3 _ _ ((set_other (by omega)).trans z2) (by omega)
  have g3 : Fr1 σ σ3 id := fun j c hj hne => f3 j c ((set_other (by have := hget_lt hj; omega)).trans (g2 j c hj hne)) hne
  generalize readRows s2 = w at hK r3 hx2 hy2 ⊢
  obtain ⟨⟨l, m⟩, s3⟩ := w
  obtain ⟨f', nn, r4⟩ := r3
  have sC : ∀ d : List AV, hget (hset σ3 σ.length d) σ.length = some d := fun d => set_same b3
  have sD : ∀ c d : List AV, hget (hset (hset σ3 σ.length c) σ.length d) σ.length = some d := fun c d => set_same (sC c)
  have cx : x.isCell = true := nz_cell (by rw [hx2]; rfl)
  have cy : y.isCell = true := nz_cell (by rw [hy2]; rfl)
  have kx := cell_cells cx
  have ky := cell_cells cy
  simp only [F6_app, Z50, base1, baseE, ↓reduceIte, Nat.reduceAdd, Nat.reduceSub, Nat.reduceMul, Nat.reduceEqDiff, Nat.reduceLeDiff, Nat.reduceLT, Int.reduceLT, Int.reduceLE, Int.reduceEq, Int.reduceNe, Int.reduceToNat, Int.reduceAdd, Int.reduceSub, reduceCtorEq, Nat.reduceBEq, Nat.reduceBNe, b3, sC, sD, cx, cy, kx, ky]
  refine fin26 id σ.length _ f' nn s3.1 s3.2 0 [.int .i64 11, .int .i64 f, .int .i64 t, .int .i64 e, .int .i64 i, .int .i64 0, .int .i64 0, .int .i64 0, .str [], .str [], .str [], .str [], .int .i64 0, .int .i64 0, .int .i64 0, .int .i64 0, .bool false, .str [], .nilslice, .str [], .bool false, .str a, .str b, x, y, .int .i64 0, .nilslice] (bareC 0 0 0 0 0) K _ _ ?_ ?_ ?_ ?_ ?_ ?_ ?_ ?_ ?_ ?_ ?_ ?_ fun σ' hr' hf => ?_
  rotate_right
  · have hz : (if s3.2 = 0 then 0 else s3.2) = s3.2 := by split <;> omega
    rw [hz] at hr'
    refine hK _ _ hr' (fun j c hj hne => hf j c ((set_other (by have := hget_lt hj; omega)).trans ((set_other (by have := hget_lt hj; omega)).trans (g3 j c hj hne))) hne (by have := hget_lt hj; omega)) (by simp only [pureL, AV.pure, hx1, hy1, Bool.and_self]) ?_
    simp only [List.map_cons, List.map_nil, hx2, hy2]
    rfl
  · rfl
  · rfl
  · rfl
  · rfl
  · omega
  · omega
  · first | exact sD _ _ | exact sC _
  · first | exact (set_other (by omega)).trans ((set_other (by omega)).trans z3) | exact (set_other (by omega)).trans z3
  · first | exact (set_other (by omega)).trans ((set_other (by omega)).trans r4) | exact (set_other (by omega)).trans r4
  · rfl
  · rfl
  · exact nz_cells (by simp only [List.map_cons, List.map_nil, hx2, hy2]; rfl)
theorem body12 (id : Nat) (s : St) (k f t e i : Int) (hk : k = 12) (σ : AHeap) (K : AV → AHeap → Prop) (hr : RdS σ id s.1 s.2)
    (hK : ∀ σ' cs, RdS σ' id (readBody (bare k f t e i) s).2.1 (readBody (bare k f t e i) s).2.2 → Fr1 σ σ' id → pureL cs = true → cs.map nz1 = (readBody (bare k f t e i) s).1.cells → K (.agg cs) σ') :
    sF F6 s50 [.ptr id 0, .agg (bareC k f t e i)] σ K := by
  have hid : id < σ.length := by obtain ⟨f, nn, hg⟩ := hr; exact hget_lt hg
  have pB : hget (hpush (hpush σ (bareC k f t e i)) (bareC 0 0 0 0 0)) σ.length = some (bareC k f t e i) := push_old (push_new rfl)
  have pz : hget (hpush (hpush σ (bareC k f t e i)) (bareC 0 0 0 0 0)) (σ.length + 1) = some (bareC 0 0 0 0 0) := push_new (by simp [push_len])
  have g0 : Fr1 σ (hpush (hpush σ (bareC k f t e i)) (bareC 0 0 0 0 0)) id := Fr1.push.trans Fr1.push
  have r0 : RdS (hpush (hpush σ (bareC k f t e i)) (bareC 0 0 0 0 0)) id s.1 s.2 := rd_push (rd_push hr)
  subst hk
  have hb : readBody (bare 12 f t e i) s = ({ bare 12 f t e i with sf := vT s, st := vT (stT s), l := (readRows (stT (stT s))).1.1, last := (readRows (stT (stT s))).1.2 }, (readRows (stT (stT s))).2) := by simp [readBody, bare]
  rw [hb] at hK
  simp only [F6_app, Z50, base1, baseE, ↓reduceIte, Nat.reduceAdd, Nat.reduceSub, Nat.reduceMul, Nat.reduceEqDiff, Nat.reduceLeDiff, Nat.reduceLT, Int.reduceLT, Int.reduceLE, Int.reduceEq, Int.reduceNe, Int.reduceToNat, Int.reduceAdd, Int.reduceSub, reduceCtorEq, Nat.reduceBEq, Nat.reduceBNe, push_len]
  generalize hpush (hpush σ (bareC 12 f t e i)) (bareC 0 0 0 0 0) = σ0 at pB pz g0 r0 ⊢
  simp only [F6_app, Z50, base1, baseE, ↓reduceIte, Nat.reduceAdd, Nat.reduceSub, Nat.reduceMul, Nat.reduceEqDiff, Nat.reduceLeDiff, Nat.reduceLT, Int.reduceLT, Int.reduceLE, Int.reduceEq, Int.reduceNe, Int.reduceToNat, Int.reduceAdd, Int.reduceSub, reduceCtorEq, Nat.reduceBEq, Nat.reduceBNe, pB]
  refine ⟨id, s.1, s.2, rfl, r0, fun σ1 r1 f1 => ?_⟩
  have b1 := f1 _ _ pB (by omega)
  have z1 := f1 _ _ pz (by omega)
  have g1 : Fr1 σ σ1 id := g0.trans f1
  have r1 : RdS σ1 id (stT s).1 (stT s).2 := r1
  have v0 : (rdText s.1 s.2).1 = vT s := rfl
  rw [v0]
  generalize stT s = s1 at r1 hK ⊢
  generalize vT s = a at hK ⊢
  simp only [F6_app, Z50, base1, baseE, ↓reduceIte, Nat.reduceAdd, Nat.reduceSub, Nat.reduceMul, Nat.reduceEqDiff, Nat.reduceLeDiff, Nat.reduceLT, Int.reduceLT, Int.reduceLE, Int.reduceEq, Int.reduceNe, Int.reduceToNat, Int.reduceAdd, Int.reduceSub, reduceCtorEq, Nat.reduceBEq, Nat.reduceBNe]
  refine ⟨id, s1.1, s1.2, rfl, r1, fun σ2 r2 f2 => ?_⟩
  have b2 := f2 _ _ b1 (by omega)
  have z2 := f2 _ _ z1 (by omega)
  have g2 : Fr1 σ σ2 id := g1.trans f2
  have r2 : RdS σ2 id (stT s1).1 (stT s1).2 := r2
  have v1 : (rdText s1.1 s1.2).1 = vT s1 := rfl
  rw [v1]
  generalize stT s1 = s2 at r2 hK ⊢
  generalize vT s1 = b at hK ⊢
  have sB : ∀ d : List AV, hget (hset σ2 σ.length d) σ.length = some d := fun d => set_same b2
  simp only [F6_app, Z50, base1, baseE, ↓reduceIte, Nat.reduceAdd, Nat.reduceSub, Nat.reduceMul, Nat.reduceEqDiff, Nat.reduceLeDiff, Nat.reduceLT, Int.reduceLT, Int.reduceLE, Int.reduceEq, Int.reduceNe, Int.reduceToNat, Int.reduceAdd, Int.reduceSub, reduceCtorEq, Nat.reduceBEq, Nat.reduceBNe, b2, sB]
  refine ⟨id, s2, rfl, rd_set r2 (by omega), fun σ3 x y r3 f3 hx1 hx2 hy1 hy2 => ?_⟩
  have b3 := f3 _ _ (sB _) (by omega)
  have z3 := f3 _ _ ((set_other (by omega)).trans z2) (by omega)
  have g3 : Fr1 σ σ3 id := fun j c hj hne => f3 j c ((set_other (by have := hget_lt hj; omega)).trans (g2 j c hj hne)) hne
  generalize readRows s2 = w at hK r3 hx2 hy2 ⊢
  obtain ⟨⟨l, m⟩, s3⟩ := w
  obtain ⟨f', nn, r4⟩ := r3
  have sC : ∀ d : List AV, hget (hset σ3 σ.length d) σ.length = some d := fun d => set_same b3
  have sD : ∀ c d : List AV, hget (hset (hset σ3 σ.length c) σ.length d) σ.length = some d := fun c d => set_same (sC c)
  have cx : x.isCell = true := nz_cell (by rw [hx2]; rfl)
  have cy : y.isCell = true := nz_cell (by rw [hy2]; rfl)
  have kx := cell_cells cx
  have ky := cell_cells cy
  simp only [F6_app, Z50, base1, baseE, ↓reduceIte, Nat.reduceAdd, Nat.reduceSub, Nat.reduceMul, Nat.reduceEqDiff, Nat.reduceLeDiff, Nat.reduceLT, Int.reduceLT, Int.reduceLE, Int.reduceEq, Int.reduceNe, Int.reduceToNat, Int.reduceAdd, Int.reduceSub, reduceCtorEq, Nat.reduceBEq, Nat.reduceBNe, b3, sC, sD, cx, cy, kx, ky]
  refine fin26 id σ.length _ f' nn s3.1 s3.2 0 [.int .i64 12, .int .i64 f, .int .i64 t, .int .i64 e, .int .i64 i, .int .i64 0, .int .i64 0, .int .i64 0, .str [], .str [], .str [], .str [], .int .i64 0, .int .i64 0, .int .i64 0, .int .i64 0, .bool false, .str [], .nilslice, .str [], .bool false, .str a, .str b, x, y, .int .i64 0, .nilslice] (bareC 0 0 0 0 0) K _ _ ?_ ?_ ?_ ?_ ?_ ?_ ?_ ?_ ?_ ?_ ?_ ?_ fun σ' hr' hf => ?_
  rotate_right
  · have hz : (if s3.2 = 0 then 0 else s3.2) = s3.2 := by split <;> omega
    rw [hz] at hr'
    refine hK _ _ hr' (fun j c hj hne => hf j c ((set_other (by have := hget_lt hj; omega)).trans ((set_other (by have := hget_lt hj; omega)).trans (g3 j c hj hne))) hne (by have := hget_lt hj; omega)) (by simp only [pureL, AV.pure, hx1, hy1, Bool.and_self]) ?_
    simp only [List.map_cons, List.map_nil, hx2, hy2]
    rfl
  · rfl
  · rfl
  · rfl
  · rfl
  · omega
  · omega
  · first | exact sD _ _ | exact sC _
  · first | exact (set_other (by omega)).trans ((set_other (by omega)).trans z3) | exact (set_other (by omega)).trans z3
  · first | exact (set_other (by omega)).trans ((set_other (by omega)).trans r4) | exact (set_other (by omega)).trans r4
  · rfl
  · rfl
  · exact nz_cells (by simp only [List.map_cons, List.map_nil, hx2, hy2]; rfl)
theorem bodyN (id : Nat) (s : St) (k f t e i : Int) (hk : k ≠ 1 ∧ k ≠ 2 ∧ k ≠ 4 ∧ k ≠ 6 ∧ k ≠ 7 ∧ k ≠ 8 ∧ k ≠ 9 ∧ k ≠ 10 ∧ k ≠ 11 ∧ k ≠ 12) (σ : AHeap) (K : AV → AHeap → Prop) (hr : RdS σ id s.1 s.2)
    (hK : ∀ σ' cs, RdS σ' id (readBody (bare k f t e i) s).2.1 (readBody (bare k f t e i) s).2.2 → Fr1 σ σ' id → pureL cs = true → cs.map nz1 = (readBody (bare k f t e i) s).1.cells → K (.agg cs) σ') :
    sF F6 s50 [.ptr id 0, .agg (bareC k f t e i)] σ K := by
  have hid : id < σ.length := by obtain ⟨f, nn, hg⟩ := hr; exact hget_lt hg
  have pB : hget (hpush (hpush σ (bareC k f t e i)) (bareC 0 0 0 0 0)) σ.length = some (bareC k f t e i) := push_old (push_new rfl)
  have pz : hget (hpush (hpush σ (bareC k f t e i)) (bareC 0 0 0 0 0)) (σ.length + 1) = some (bareC 0 0 0 0 0) := push_new (by simp [push_len])
  have g0 : Fr1 σ (hpush (hpush σ (bareC k f t e i)) (bareC 0 0 0 0 0)) id := Fr1.push.trans Fr1.push
  have r0 : RdS (hpush (hpush σ (bareC k f t e i)) (bareC 0 0 0 0 0)) id s.1 s.2 := rd_push (rd_push hr)
  obtain ⟨h1, h2, h4, h6, h7, h8, h9, h10, h11, h12⟩ := hk
  have hb : readBody (bare k f t e i) s = (bare k f t e i, s) := by simp [readBody, bare, h1, h2, h4, h6, h7, h8, h9, h10, h11, h12]
  rw [hb] at hK
  simp only [F6_app, Z50, base1, baseE, ↓reduceIte, Nat.reduceAdd, Nat.reduceSub, Nat.reduceMul, Nat.reduceEqDiff, Nat.reduceLeDiff, Nat.reduceLT, Int.reduceLT, Int.reduceLE, Int.reduceEq, Int.reduceNe, Int.reduceToNat, Int.reduceAdd, Int.reduceSub, reduceCtorEq, Nat.reduceBEq, Nat.reduceBNe, push_len]
  generalize hpush (hpush σ (bareC k f t e i)) (bareC 0 0 0 0 0) = σ0 at pB pz g0 r0 ⊢
  simp only [F6_app, Z50, base1, baseE, ↓reduceIte, Nat.reduceAdd, Nat.reduceSub, Nat.reduceMul, Nat.reduceEqDiff, Nat.reduceLeDiff, Nat.reduceLT, Int.reduceLT, Int.reduceLE, Int.reduceEq, Int.reduceNe, Int.reduceToNat, Int.reduceAdd, Int.reduceSub, reduceCtorEq, Nat.reduceBEq, Nat.reduceBNe, pB, h1, h2, h4, h6, h7, h8, h9, h10, h11, h12]
  obtain ⟨f', nn, r2⟩ := r0
  refine fin26 id σ.length _ f' nn s.1 s.2 0 _ _ K _ _ rfl rfl rfl rfl (by omega) (by omega) pB pz r2 rfl rfl rfl fun σ' hr' hf => ?_
  exact hK _ _ (by have : (if s.2 = 0 then 0 else s.2) = s.2 := by split <;> omega
                   rw [this] at hr'; exact hr') (fun j c hj hne => hf j c (g0 j c hj hne) hne (by have := hget_lt hj; omega)) rfl rfl
theorem bodyRD_ok (args : List AV) (σ : AHeap) (K : AV → AHeap → Prop) (h : bodyRD args σ K) : Tri Try.prog 50 args σ K := by
  obtain ⟨id, s, k, f, t, e, i, rfl, hr, hK⟩ := h
  refine Tri.of_s c50 F6_sound ?_
  by_cases h1 : k = 1
  · exact body1 id s k f t e i h1 σ K hr hK
  by_cases h2 : k = 2
  · exact body2 id s k f t e i h2 σ K hr hK
  by_cases h4 : k = 4
  · exact body4 id s k f t e i h4 σ K hr hK
  by_cases h6 : k = 6
  · exact body6 id s k f t e i h6 σ K hr hK
  by_cases h7 : k = 7
  · exact body7 id s k f t e i h7 σ K hr hK
  by_cases h8 : k = 8
  · exact body8 id s k f t e i h8 σ K hr hK
  by_cases h9 : k = 9
  · exact body9 id s k f t e i h9 σ K hr hK
  by_cases h10 : k = 10
  · exact body10 id s k f t e i h10 σ K hr hK
  by_cases h11 : k = 11
  · exact body11 id s k f t e i h11 σ K hr hK
  by_cases h12 : k = 12
  · exact body12 id s k f t e i h12 σ K hr hK
  exact bodyN id s k f t e i ⟨h1, h2, h4, h6, h7, h8, h9, h10, h11, h12⟩ σ K hr hK
end Go.Proofs.Ytndlgmciplckjab.note

/- Bytes that are read as a note are the note's own bytes. No condition. -/
set_option linter.unusedVariables false
set_option linter.unusedSimpArgs false
namespace Go.Proofs.Ytndlgmciplckjab.note
open Go.ChangeShapes Go.WideShapes Go.ChangeAt Go.RowKit Go.Gz
set_option maxHeartbeats 4000000
set_option maxRecDepth 10000
theorem bOf_val (x : Int) : ((bOf x).toNat : Int) = x % 256 := by
  have := byteAV_bOf x
  simp only [byteAV, AV.int.injEq, true_and] at this
  rw [this]; exact IntKind.wrap_u8 x
theorem bOf_eq {x : Int} {a : UInt8} (h : x % 256 = (a.toNat : Int)) : bOf x = a := by
  have h1 := bOf_val x
  apply UInt8.toNat_inj.1
  omega
theorem u32_val (a b c d : UInt8) : u32 (val32 a b c d) = [a, b, c, d] := by
  have ha := byte_lt a; have hb := byte_lt b; have hc := byte_lt c; have hd := byte_lt d
  unfold u32 val32
  rw [Int.fdiv_eq_ediv_of_nonneg _ (by omega), Int.fdiv_eq_ediv_of_nonneg _ (by omega), Int.fdiv_eq_ediv_of_nonneg _ (by omega)]
  rw [bOf_eq (a := a) (by omega), bOf_eq (a := b) (by omega), bOf_eq (a := c) (by omega), bOf_eq (a := d) (by omega)]
theorem num_can {r : List UInt8} {e : Int} (h : (rdNum r e).2.2 = 0) : e = 0 ∧ r = u32 (rdNum r e).1 ++ (rdNum r e).2.1 ∧ badN (rdNum r e).1 = false := by
  unfold rdNum at h ⊢
  by_cases he : e = 0
  · simp only [he, if_true] at h ⊢
    split at h
    · split at h
      · simp at h
      · rename_i a b c d r' hv
        simp only [if_neg hv]
        refine ⟨trivial, by rw [u32_val]; rfl, ?_⟩
        have : 0 ≤ val32 a b c d := Int.natCast_nonneg _
        simp only [badN, Bool.or_eq_false_iff, decide_eq_false_iff_not]; omega
    · simp at h
  · simp only [if_neg he] at h; exact absurd h he
theorem stN_can {s : St} (h : (stN s).2 = 0) : s.2 = 0 ∧ s.1 = u32 (vN s) ++ (stN s).1 ∧ badN (vN s) = false := num_can h
theorem stT_can {s : St} (h : (stT s).2 = 0) : s.2 = 0 ∧ s.1 = txt (vT s) ++ (stT s).1 ∧ badT (vT s) = false := by
  have h : (rdText s.1 s.2).2.2 = 0 := h
  have e1 : (stT s).1 = (rdText s.1 s.2).2.1 := rfl
  have e2 : vT s = (rdText s.1 s.2).1 := rfl
  rw [e1, e2]
  unfold rdText at h ⊢
  simp only at h ⊢
  by_cases h0 : (rdNum s.1 s.2).2.2 = 0
  · obtain ⟨k1, k2, k3⟩ := num_can h0
    have hn := rdNum_nonneg s.1 s.2
    generalize rdNum s.1 s.2 = p at h h0 k2 k3 hn ⊢
    obtain ⟨n, r, e⟩ := p
    simp only at h h0 k2 k3 hn ⊢
    subst h0
    simp only [if_true] at h ⊢
    by_cases hl : n.toNat ≤ r.length
    · simp only [if_pos hl] at h ⊢
      have hlen : ((r.take n.toNat).length : Int) = n := by rw [List.length_take, Nat.min_eq_left hl]; omega
      refine ⟨k1, ?_, by unfold badT; rw [hlen]; exact k3⟩
      rw [k2]; unfold txt; rw [hlen, List.append_assoc, List.take_append_drop]
    · rw [if_neg hl] at h; simp at h
  · simp only [if_neg h0] at h; exact absurd h h0
theorem stB_can {s : St} (h : (stB s).2 = 0) : s.2 = 0 ∧ s.1 = tb (vB s) ++ (stB s).1 := by
  have h : (rdTruth s.1 s.2).2.2 = 0 := h
  have e1 : (stB s).1 = (rdTruth s.1 s.2).2.1 := rfl
  have e2 : vB s = (rdTruth s.1 s.2).1 := rfl
  rw [e1, e2]
  obtain ⟨r, e⟩ := s
  unfold rdTruth at h ⊢
  by_cases he : e = 0
  · subst he
    simp only [if_true] at h ⊢
    match r, h with
    | a :: r, h =>
      simp only at h ⊢
      by_cases hv : 1 < a.toNat
      · simp [hv] at h
      · simp only [if_neg hv]
        refine ⟨trivial, ?_⟩
        have ha : a = if decide ((a.toNat : Int) = 1) = true then 1 else 0 := by
          by_cases h1 : a.toNat = 1
          · have : decide ((a.toNat : Int) = 1) = true := by rw [decide_eq_true_eq]; omega
            rw [this, if_pos rfl]; apply UInt8.toNat_inj.1; rw [h1]; rfl
          · have : decide ((a.toNat : Int) = 1) = false := by rw [decide_eq_false_iff_not]; omega
            rw [this, if_neg (by decide)]; apply UInt8.toNat_inj.1; have : a.toNat = 0 := by omega
            rw [this]; rfl
        show a :: r = [_] ++ r
        rw [← ha]; rfl
    | [], h => simp at h
  · simp only [if_neg he] at h; exact absurd h he
theorem end_can {r : List UInt8} {e : Int} (h : rdEnd r e = 0) : e = 0 ∧ r = [] := by
  unfold rdEnd at h
  split at h
  · cases h
  · rename_i hn
    refine ⟨h, ?_⟩
    cases r with
    | nil => rfl
    | cons a r => exact absurd ⟨h, by simp⟩ hn
theorem readAsk_can {bs : List UInt8} (h : (readAsk bs).2 = 0) : (readAsk bs).1.bytes = bs := by
  unfold readAsk at h ⊢
  split at h
  · cases h
  rename_i hl
  simp only [if_neg hl]
  unfold readAskF at h ⊢
  have hs : bs = ((bs, 0) : St).1 := rfl
  generalize ((bs, 0) : St) = s0 at h hs ⊢
  generalize g1 : stN s0 = s1 at h ⊢
  generalize g2 : stN s1 = s2 at h ⊢
  generalize g3 : stN s2 = s3 at h ⊢
  generalize g4 : stN s3 = s4 at h ⊢
  generalize g5 : stT s4 = s5 at h ⊢
  generalize g6 : stT s5 = s6 at h ⊢
  generalize g7 : stT s6 = s7 at h ⊢
  generalize g8 : stT s7 = s8 at h ⊢
  unfold readAskG at h ⊢
  split at h
  case isFalse hn => exact absurd h hn
  rename_i he
  simp only [if_pos he]
  obtain ⟨e8, c8⟩ := end_can he
  obtain ⟨e7, c7, _⟩ := stT_can (s := s7) (by rw [g8]; exact e8)
  obtain ⟨e6, c6, _⟩ := stT_can (s := s6) (by rw [g7]; exact e7)
  obtain ⟨e5, c5, _⟩ := stT_can (s := s5) (by rw [g6]; exact e6)
  obtain ⟨e4, c4, _⟩ := stT_can (s := s4) (by rw [g5]; exact e5)
  obtain ⟨e3, c3, _⟩ := stN_can (s := s3) (by rw [g4]; exact e4)
  obtain ⟨e2, c2, _⟩ := stN_can (s := s2) (by rw [g3]; exact e3)
  obtain ⟨e1, c1, _⟩ := stN_can (s := s1) (by rw [g2]; exact e2)
  obtain ⟨e0, c0, _⟩ := stN_can (s := s0) (by rw [g1]; exact e1)
  rw [ask_bytes, hs, c0, g1, c1, g2, c2, g3, c3, g4, c4, g5, c5, g6, c6, g7, c7, g8, c8]
theorem list_can : ∀ {k : Nat} {s : St} {acc : List (List UInt8 × List UInt8)}, (rdList k s acc).1.2 = 0 → s.2 = 0 ∧ ∃ l, l.length = k ∧ (rdList k s acc).2 = acc ++ l ∧ s.1 = l.flatMap txt2 ++ (rdList k s acc).1.1 ∧ l.any badT2 = false
  | 0, s, acc, h => ⟨h, [], rfl, by simp [rdList], by simp [rdList], rfl⟩
  | k + 1, s, acc, h => by
    unfold rdList at h ⊢
    by_cases he : s.2 = 0
    · simp only [if_pos he] at h ⊢
      obtain ⟨e2, l, l1, l2, l3, l4⟩ := list_can h
      obtain ⟨e1, c1, b1⟩ := stT_can e2
      obtain ⟨e0, c0, b0⟩ := stT_can e1
      refine ⟨he, (vT s, vT (stT s)) :: l, by simp [l1], by rw [l2]; simp, ?_, ?_⟩
      · rw [c0, c1, l3]; simp [txt2]
      · simp only [List.any_cons, l4, badT2, b0, b1, Bool.or_self]
    · simp only [if_neg he] at h; exact absurd h he
theorem readReply_can {bs : List UInt8} (h : (readReply bs).2 = 0) : (readReply bs).1.bytes = bs ∧ (readReply bs).1.bad = false := by
  unfold readReply at h ⊢
  split at h
  · cases h
  rename_i hl
  simp only [if_neg hl]
  unfold readReplyF at h ⊢
  have hs : bs = ((bs, 0) : St).1 := rfl
  generalize ((bs, 0) : St) = s0 at h hs ⊢
  generalize g1 : stN s0 = s1 at h ⊢
  generalize g2 : stN s1 = s2 at h ⊢
  generalize g3 : stN s2 = s3 at h ⊢
  generalize g4 : stB s3 = s4 at h ⊢
  generalize g5 : stT s4 = s5 at h ⊢
  generalize g6 : stN s5 = s6 at h ⊢
  generalize gT : rdList (vN s5).toNat s6 [] = T at h ⊢
  unfold readReplyG at h ⊢
  split at h
  case isFalse hn => exact absurd h hn
  rename_i he
  simp only [if_pos he]
  obtain ⟨e9, c9⟩ := end_can he
  obtain ⟨e8, c8⟩ := stB_can e9
  obtain ⟨e7, c7, b7⟩ := stT_can e8
  obtain ⟨e6, l, l1, l2, l3, l4⟩ := list_can (k := (vN s5).toNat) (s := s6) (acc := []) (by rw [gT]; exact e7)
  rw [gT, List.nil_append] at l2
  rw [gT] at l3
  obtain ⟨e5, c5, b5⟩ := stN_can (s := s5) (by rw [g6]; exact e6)
  obtain ⟨e4, c4, b4⟩ := stT_can (s := s4) (by rw [g5]; exact e5)
  obtain ⟨e3, c3⟩ := stB_can (s := s3) (by rw [g4]; exact e4)
  obtain ⟨e2, c2, b2⟩ := stN_can (s := s2) (by rw [g3]; exact e3)
  obtain ⟨e1, c1, b1⟩ := stN_can (s := s1) (by rw [g2]; exact e2)
  obtain ⟨e0, c0, b0⟩ := stN_can (s := s0) (by rw [g1]; exact e1)
  have hn : ((l.length : Nat) : Int) = vN s5 := by
    rw [l1]
    simp only [badN, Bool.or_eq_false_iff, decide_eq_false_iff_not] at b5; omega
  have key : RepV.bytes ⟨vN s0, vN s1, vN s2, vB s3, vT s4, T.2, vT T.1, vB (stT T.1)⟩ = bs := by
    rw [rep_bytes]
    simp only [l2, hn]
    rw [hs, c0, g1, c1, g2, c2, g3, c3, g4, c4, g5, c5, g6, l3, c7, c8, c9]
  refine ⟨key, ?_⟩
  have hk : (RepV.bytes ⟨vN s0, vN s1, vN s2, vB s3, vT s4, T.2, vT T.1, vB (stT T.1)⟩).length ≤ 32768 := by rw [key]; omega
  rw [l2] at hk ⊢
  have hd : decide (32768 < (RepV.bytes ⟨vN s0, vN s1, vN s2, vB s3, vT s4, l, vT T.1, vB (stT T.1)⟩).length) = false := by rw [decide_eq_false_iff_not]; omega
  have hd2 : decide ((32768 : Int) < ((RepV.bytes ⟨vN s0, vN s1, vN s2, vB s3, vT s4, l, vT T.1, vB (stT T.1)⟩).length : Int)) = false := by rw [decide_eq_false_iff_not]; omega
  simp only [RepV.bad, RepV.badH, List.any_cons, List.any_nil, b0, b1, b2, b4, b7, l4, hn, b5, hd, hd2, Bool.or_self]
theorem unrec_can {bs : List UInt8} (h : (unrec bs).2 = 0) : txt2 (unrec bs).1 = bs := by
  unfold unrec at h ⊢
  have hs : bs = ((bs, 0) : St).1 := rfl
  generalize ((bs, 0) : St) = s0 at h hs ⊢
  generalize g1 : stT s0 = s1 at h ⊢
  generalize g2 : stT s1 = s2 at h ⊢
  unfold unrecG at h ⊢
  obtain ⟨e2, c2⟩ := end_can h
  obtain ⟨e1, c1, _⟩ := stT_can (s := s1) (by rw [g2]; exact e2)
  obtain ⟨e0, c0, _⟩ := stT_can (s := s0) (by rw [g1]; exact e1)
  rw [hs, c0, g1, c1, g2, c2]; simp [txt2]
theorem unsh_can {bs : List UInt8} (h : (unsh bs).2 = 0) : (unsh bs).1.bytes = bs := by
  unfold unsh at h ⊢
  have hs : bs = ((bs, 0) : St).1 := rfl
  generalize ((bs, 0) : St) = s0 at h hs ⊢
  generalize g1 : stT s0 = s1 at h ⊢
  generalize g2 : stT s1 = s2 at h ⊢
  generalize g3 : stN s2 = s3 at h ⊢
  generalize g4 : stN s3 = s4 at h ⊢
  unfold unshG at h ⊢
  obtain ⟨e4, c4⟩ := end_can h
  obtain ⟨e3, c3, _⟩ := stN_can (s := s3) (by rw [g4]; exact e4)
  obtain ⟨e2, c2, _⟩ := stN_can (s := s2) (by rw [g3]; exact e3)
  obtain ⟨e1, c1, _⟩ := stT_can (s := s1) (by rw [g2]; exact e2)
  obtain ⟨e0, c0, _⟩ := stT_can (s := s0) (by rw [g1]; exact e1)
  rw [hs, c0, g1, c1, g2, c2, g3, c3, g4, c4]; simp [ShV.bytes]
theorem unla_can {bs : List UInt8} (h : (unla bs).2 = 0) : (unla bs).1.bytes = bs ∧ (unla bs).1.rep.bad = false := by
  unfold unla at h ⊢
  have hs : bs = ((bs, 0) : St).1 := rfl
  generalize ((bs, 0) : St) = s0 at h hs ⊢
  generalize g1 : stN s0 = s1 at h ⊢
  generalize g2 : stT s1 = s2 at h ⊢
  unfold unlaG at h ⊢
  split at h
  case isFalse hn => exact absurd h hn
  rename_i he
  simp only [if_pos he]
  obtain ⟨e2, c2⟩ := end_can he
  obtain ⟨e1, c1, _⟩ := stT_can (s := s1) (by rw [g2]; exact e2)
  obtain ⟨e0, c0, _⟩ := stN_can (s := s0) (by rw [g1]; exact e1)
  obtain ⟨k1, k2⟩ := readReply_can h
  refine ⟨?_, k2⟩
  rw [hs, c0, g1, c1, g2, c2]; simp [LaV.bytes, k1, k2]
theorem finRec_can {s : St} {acc : List (List UInt8 × List UInt8)} (h : (finRec s acc).2 = 0) : s.2 = 0 ∧ s.1 = [] ∧ (finRec s acc).1 = acc := by
  unfold finRec at h ⊢
  split at h
  case isFalse hn => exact absurd h hn
  rename_i he
  obtain ⟨h1, h2⟩ := end_can he
  exact ⟨h1, h2, by rw [if_pos he]⟩
theorem lstRec_can : ∀ {k : Nat} {s : St} {acc : List (List UInt8 × List UInt8)}, (lstRec k s acc).2 = 0 → s.2 = 0 ∧ ∃ l : List (List UInt8 × List UInt8), l.length = k ∧ (lstRec k s acc).1 = acc ++ l ∧ s.1 = (l.flatMap fun x => txt (txt2 x))
  | 0, s, acc, h => by
    obtain ⟨h1, h2, h3⟩ := finRec_can (s := s) (acc := acc) h
    exact ⟨h1, [], rfl, by rw [List.append_nil]; exact h3, h2⟩
  | k + 1, s, acc, h => by
    unfold lstRec at h ⊢
    by_cases he : s.2 = 0
    · by_cases he1 : (stT s).2 = 0
      · by_cases he2 : (unrec (vT s)).2 = 0
        · simp only [if_pos he, if_pos he1, if_pos he2] at h ⊢
          obtain ⟨e2, l, l1, l2, l3⟩ := lstRec_can h
          obtain ⟨e1, c1, b1⟩ := stT_can he1
          have hu := unrec_can he2
          refine ⟨he, (unrec (vT s)).1 :: l, by simp [l1], by rw [l2]; simp, ?_⟩
          · rw [c1, l3, List.flatMap_cons, hu]
        · simp only [if_pos he, if_pos he1, if_neg he2] at h; exact absurd h he2
      · simp only [if_pos he, if_neg he1] at h
        exact absurd (finRec_can h).1 he1
    · simp only [if_neg he] at h
      exact absurd (finRec_can h).1 he
theorem readRec_can {bs : List UInt8} (h : (readRec bs).2 = 0) : bytesRec (readRec bs).1 = bs := by
  unfold readRec at h ⊢
  obtain ⟨e1, l, l1, l2, l3⟩ := lstRec_can h
  obtain ⟨e0, c0, b0⟩ := stN_can e1
  have hn : ((l.length : Nat) : Int) = vN (bs, 0) := by
    rw [l1]
    simp only [badN, Bool.or_eq_false_iff, decide_eq_false_iff_not] at b0; omega
  rw [l2, List.nil_append]
  have c0 : bs = u32 (vN (bs, 0)) ++ (stN (bs, 0)).1 := c0
  rw [bytesRec, hn, ← l3]; exact c0.symm
theorem finSh_can {s : St} {acc : List (ShV)} (h : (finSh s acc).2 = 0) : s.2 = 0 ∧ s.1 = [] ∧ (finSh s acc).1 = acc := by
  unfold finSh at h ⊢
  split at h
  case isFalse hn => exact absurd h hn
  rename_i he
  obtain ⟨h1, h2⟩ := end_can he
  exact ⟨h1, h2, by rw [if_pos he]⟩
theorem lstSh_can : ∀ {k : Nat} {s : St} {acc : List (ShV)}, (lstSh k s acc).2 = 0 → s.2 = 0 ∧ ∃ l : List (ShV), l.length = k ∧ (lstSh k s acc).1 = acc ++ l ∧ s.1 = (l.flatMap fun x => txt (ShV.bytes x))
  | 0, s, acc, h => by
    obtain ⟨h1, h2, h3⟩ := finSh_can (s := s) (acc := acc) h
    exact ⟨h1, [], rfl, by rw [List.append_nil]; exact h3, h2⟩
  | k + 1, s, acc, h => by
    unfold lstSh at h ⊢
    by_cases he : s.2 = 0
    · by_cases he1 : (stT s).2 = 0
      · by_cases he2 : (unsh (vT s)).2 = 0
        · simp only [if_pos he, if_pos he1, if_pos he2] at h ⊢
          obtain ⟨e2, l, l1, l2, l3⟩ := lstSh_can h
          obtain ⟨e1, c1, b1⟩ := stT_can he1
          have hu := unsh_can he2
          refine ⟨he, (unsh (vT s)).1 :: l, by simp [l1], by rw [l2]; simp, ?_⟩
          · rw [c1, l3, List.flatMap_cons, hu]
        · simp only [if_pos he, if_pos he1, if_neg he2] at h; exact absurd h he2
      · simp only [if_pos he, if_neg he1] at h
        exact absurd (finSh_can h).1 he1
    · simp only [if_neg he] at h
      exact absurd (finSh_can h).1 he
theorem readSh_can {bs : List UInt8} (h : (readSh bs).2 = 0) : bytesSh (readSh bs).1 = bs := by
  unfold readSh at h ⊢
  obtain ⟨e1, l, l1, l2, l3⟩ := lstSh_can h
  obtain ⟨e0, c0, b0⟩ := stN_can e1
  have hn : ((l.length : Nat) : Int) = vN (bs, 0) := by
    rw [l1]
    simp only [badN, Bool.or_eq_false_iff, decide_eq_false_iff_not] at b0; omega
  rw [l2, List.nil_append]
  have c0 : bs = u32 (vN (bs, 0)) ++ (stN (bs, 0)).1 := c0
  rw [bytesSh, hn, ← l3]; exact c0.symm
theorem finLa_can {s : St} {acc : List (LaV)} (h : (finLa s acc).2 = 0) : s.2 = 0 ∧ s.1 = [] ∧ (finLa s acc).1 = acc := by
  unfold finLa at h ⊢
  split at h
  case isFalse hn => exact absurd h hn
  rename_i he
  obtain ⟨h1, h2⟩ := end_can he
  exact ⟨h1, h2, by rw [if_pos he]⟩
theorem lstLa_can : ∀ {k : Nat} {s : St} {acc : List (LaV)}, (lstLa k s acc).2 = 0 → s.2 = 0 ∧ ∃ l : List (LaV), l.length = k ∧ (lstLa k s acc).1 = acc ++ l ∧ s.1 = (l.flatMap fun x => txt (LaV.bytes x)) ∧ ∀ x ∈ l, x.rep.bad = false
  | 0, s, acc, h => by
    obtain ⟨h1, h2, h3⟩ := finLa_can (s := s) (acc := acc) h
    exact ⟨h1, [], rfl, by rw [List.append_nil]; exact h3, h2, by simp⟩
  | k + 1, s, acc, h => by
    unfold lstLa at h ⊢
    by_cases he : s.2 = 0
    · by_cases he1 : (stT s).2 = 0
      · by_cases he2 : (unla (vT s)).2 = 0
        · simp only [if_pos he, if_pos he1, if_pos he2] at h ⊢
          obtain ⟨e2, l, l1, l2, l3, l4⟩ := lstLa_can h
          obtain ⟨e1, c1, b1⟩ := stT_can he1
          have hu := unla_can he2
          refine ⟨he, (unla (vT s)).1 :: l, by simp [l1], by rw [l2]; simp, ?_, ?_⟩
          · rw [c1, l3, List.flatMap_cons, hu.1]
          · intro x hx
            rcases List.mem_cons.1 hx with rfl | hx
            · exact hu.2
            · exact l4 x hx
        · simp only [if_pos he, if_pos he1, if_neg he2] at h; exact absurd h he2
      · simp only [if_pos he, if_neg he1] at h
        exact absurd (finLa_can h).1 he1
    · simp only [if_neg he] at h
      exact absurd (finLa_can h).1 he
theorem readLa_can {bs : List UInt8} (h : (readLa bs).2 = 0) : bytesLa (readLa bs).1 = bs ∧ ∀ x ∈ (readLa bs).1, x.rep.bad = false := by
  unfold readLa at h ⊢
  obtain ⟨e1, l, l1, l2, l3, l4⟩ := lstLa_can h
  obtain ⟨e0, c0, b0⟩ := stN_can e1
  have hn : ((l.length : Nat) : Int) = vN (bs, 0) := by
    rw [l1]
    simp only [badN, Bool.or_eq_false_iff, decide_eq_false_iff_not] at b0; omega
  rw [l2, List.nil_append]
  refine ⟨?_, l4⟩
  have c0 : bs = u32 (vN (bs, 0)) ++ (stN (bs, 0)).1 := c0
  rw [bytesLa, hn, ← l3]; exact c0.symm
theorem readChart_can {s : St} (h : (readChart s).2.2 = 0) : s.2 = 0 ∧ s.1 = [(readChart s).1.1].flatMap u32 ++ [bytesSh (readChart s).1.2].flatMap txt ++ (readChart s).2.1 := by
  unfold readChart at h ⊢
  by_cases h1 : (stT (stN s)).2 = 0
  · by_cases h2 : (readSh (vT (stN s))).2 = 0
    · simp only [if_pos h1, if_pos h2] at h ⊢
      obtain ⟨e1, c1, _⟩ := stT_can h1
      obtain ⟨e0, c0, _⟩ := stN_can e1
      refine ⟨e0, ?_⟩
      rw [readSh_can h2]
      simp only [List.flatMap_cons, List.flatMap_nil, List.append_nil, List.append_assoc]
      rw [← c1]; exact c0
    · simp [if_pos h1, if_neg h2] at h
  · simp only [if_neg h1] at h; exact absurd h h1
theorem readRows_can {s : St} (h : (readRows s).2.2 = 0) : s.2 = 0 ∧ s.1 = [bytesRec (readRows s).1.1, bytesLa (readRows s).1.2].flatMap txt ++ (readRows s).2.1 ∧ ∀ x ∈ (readRows s).1.2, x.rep.bad = false := by
  unfold readRows at h ⊢
  by_cases h1 : (stT (stT s)).2 = 0
  · by_cases h2 : (readRec (vT s)).2 = 0 ∧ (readLa (vT (stT s))).2 = 0
    · simp only [if_pos h1, if_pos h2] at h ⊢
      obtain ⟨e1, c1, _⟩ := stT_can h1
      obtain ⟨e0, c0, _⟩ := stT_can e1
      obtain ⟨k1, k2⟩ := readLa_can h2.2
      refine ⟨e0, ?_, k2⟩
      rw [readRec_can h2.1, k1]
      simp only [List.flatMap_cons, List.flatMap_nil, List.append_nil, List.append_assoc]
      rw [← c1]; exact c0
    · simp [if_pos h1, if_neg h2] at h
  · simp only [if_neg h1] at h; exact absurd h h1
theorem orE_zero {s : St} {e : Int} (h : (orE s e).2 = 0) : s.2 = 0 ∧ e = 0 := by
  unfold orE at h
  split at h
  · exact ⟨by assumption, h⟩
  · rename_i hn; exact absurd h hn
theorem flat_mem_le {α : Type} {f : α → List UInt8} {l : List α} {x : α} (hx : x ∈ l) : (f x).length ≤ (l.flatMap f).length := by
  obtain ⟨a, b, rfl⟩ := List.append_of_mem hx
  simp only [List.flatMap_append, List.flatMap_cons, List.length_append]; omega
theorem flat_many {α : Type} {f : α → List UInt8} (h : ∀ x, 4 ≤ (f x).length) : ∀ {l : List α}, 4 * l.length ≤ (l.flatMap f).length
  | [] => by simp
  | x :: l => by
    have := flat_many h (l := l)
    have := h x
    simp only [List.flatMap_cons, List.length_append, List.length_cons]; omega
theorem total_flat (ss : List (List UInt8)) : total ss = (ss.flatMap txt).length := by
  unfold total; first | rfl | simp
/-- What is read of a body: its bytes, and how great it is. -/
theorem body_can {k f t e i : Int} {s : St} (h : (readBody (bare k f t e i) s).2.2 = 0) (hl : s.1.length ≤ 4000000) :
    s.2 = 0 ∧ (readBody (bare k f t e i) s).1.head = (bare k f t e i).head ∧ (readBody (bare k f t e i) s).1.kind = k ∧ (1 ≤ k → k ≤ 12 → s.1 = (readBody (bare k f t e i) s).1.body ++ (readBody (bare k f t e i) s).2.1) ∧ (readBody (bare k f t e i) s).1.sz := by
  have z1 : total AskV.zero.texts ≤ 900000000 := by decide
  have z2 : RepV.zero.bytes.length ≤ 900000000 := by decide
  have z3 : total [([] : List UInt8), []] ≤ 100000000 := by decide
  by_cases h1 : k = 1
  · subst h1
    have hb : readBody (bare 1 f t e i) s = ({ bare 1 f t e i with ask := (readAsk (vT s)).1 }, orE (stT s) (readAsk (vT s)).2) := by simp [readBody, bare]
    rw [hb] at h ⊢
    obtain ⟨e1, e2⟩ := orE_zero h
    obtain ⟨e0, c0, _⟩ := stT_can e1
    have ka := readAsk_can e2
    have hv : (vT s).length ≤ 4000000 := by rw [c0, List.length_append, txt_len] at hl; omega
    refine ⟨e0, rfl, rfl, fun _ _ => ?_, ?_, z2, z3, by simp [bare], by simp [bare], by simp [bare], by simp [bare], by simp [bare], by simp [bare], by simp [bare], by simp [bare], by simp [bare]⟩
    · simp only [NoteV.body, bare, if_true, List.flatMap_cons, List.flatMap_nil, List.append_nil, ka, orE]; exact c0
    · show total (readAsk (vT s)).1.texts ≤ _
      have : ((readAsk (vT s)).1.texts.flatMap txt).length ≤ (readAsk (vT s)).1.bytes.length := by simp only [AskV.bytes, List.length_append]; omega
      rw [total_flat]; rw [ka] at this; omega
  by_cases h2 : k = 2
  · subst h2
    have hb : readBody (bare 2 f t e i) s = ({ bare 2 f t e i with rep := (readReply (vT s)).1 }, orE (stT s) (readReply (vT s)).2) := by simp [readBody, bare]
    rw [hb] at h ⊢
    obtain ⟨e1, e2⟩ := orE_zero h
    obtain ⟨e0, c0, _⟩ := stT_can e1
    have ka := (readReply_can e2).1
    have hv : (vT s).length ≤ 4000000 := by rw [c0, List.length_append, txt_len] at hl; omega
    refine ⟨e0, rfl, rfl, fun _ _ => ?_, z1, ?_, z3, by simp [bare], by simp [bare], by simp [bare], by simp [bare], by simp [bare], by simp [bare], by simp [bare], by simp [bare], by simp [bare]⟩
    · simp only [NoteV.body, bare, if_true, List.flatMap_cons, List.flatMap_nil, List.append_nil, ka, orE]; exact c0
    · show (readReply (vT s)).1.bytes.length ≤ _
      rw [ka]; omega
  by_cases h4 : k = 4 ∨ k = 6
  · have hb : readBody (bare k f t e i) s = ({ bare k f t e i with aep := (readChart s).1.1, sh := (readChart s).1.2 }, (readChart s).2) := by rcases h4 with rfl | rfl <;> simp [readBody, bare]
    rw [hb] at h ⊢
    obtain ⟨e0, c0⟩ := readChart_can h
    have hv : ((readChart s).1.2.flatMap fun x => txt x.bytes).length ≤ 4000000 := by
      have := congrArg List.length c0
      simp only [List.length_append, List.flatMap_cons, List.flatMap_nil, List.length_nil, txt_len, bytesSh] at this; omega
    have hm : ∀ x ∈ (readChart s).1.2, x.bytes.length ≤ 900000000 := fun x hx => by
      have := flat_mem_le (f := fun x : ShV => txt x.bytes) hx
      simp only [txt_len] at this; omega
    have hn : (readChart s).1.2.length ≤ 1000000 := by
      have := flat_many (f := fun x : ShV => txt x.bytes) (fun x => by rw [txt_len]; omega) (l := (readChart s).1.2); omega
    refine ⟨e0, rfl, rfl, fun _ _ => ?_, z1, z2, z3, by simp [bare], by simp [bare], hn, by simp [bare], by simp [bare], hm, by simp [bare], by simp [bare], by show ((readChart s).1.2.flatMap fun x => txt x.bytes).length ≤ _; omega⟩
    have hk : NoteV.body { bare k f t e i with aep := (readChart s).1.1, sh := (readChart s).1.2 } = [(readChart s).1.1].flatMap u32 ++ [bytesSh (readChart s).1.2].flatMap txt := by
      rcases h4 with rfl | rfl <;> simp [NoteV.body, bare, chartBy]
    rw [hk]; exact c0
  by_cases h7 : k = 7 ∨ k = 11 ∨ k = 10 ∨ k = 12 ∨ k = 8 ∨ k = 9
  · have hb : readBody (bare k f t e i) s = ({ bare k f t e i with sf := vT s, st := vT (stT s), l := (readRows (stT (stT s))).1.1, last := (readRows (stT (stT s))).1.2 }, (readRows (stT (stT s))).2) := by rcases h7 with rfl | rfl | rfl | rfl | rfl | rfl <;> simp [readBody, bare]
    rw [hb] at h ⊢
    obtain ⟨e2, c2, k2⟩ := readRows_can h
    obtain ⟨e1, c1, _⟩ := stT_can e2
    obtain ⟨e0, c0, _⟩ := stT_can e1
    have hL := congrArg List.length c2
    have hL1 := congrArg List.length c1
    have hL0 := congrArg List.length c0
    simp only [List.length_append, List.flatMap_cons, List.flatMap_nil, List.length_nil, txt_len, bytesRec, bytesLa] at hL hL1 hL0
    have m1 : ∀ x ∈ (readRows (stT (stT s))).1.1, (txt2 x).length ≤ 900000000 := fun x hx => by
      have := flat_mem_le (f := fun x : List UInt8 × List UInt8 => txt (txt2 x)) hx
      simp only [txt_len] at this; omega
    have n1 : (readRows (stT (stT s))).1.1.length ≤ 1000000 := by
      have := flat_many (f := fun x : List UInt8 × List UInt8 => txt (txt2 x)) (fun x => by rw [txt_len]; omega) (l := (readRows (stT (stT s))).1.1); omega
    have m2 : ∀ x ∈ (readRows (stT (stT s))).1.2, x.rep.bytes.length ≤ 900000000 := fun x hx => by
      have := badR_len (k2 x hx); omega
    have n2 : (readRows (stT (stT s))).1.2.length ≤ 1000000 := by
      have := flat_many (f := fun x : LaV => txt x.bytes) (fun x => by rw [txt_len]; omega) (l := (readRows (stT (stT s))).1.2); omega
    refine ⟨e0, rfl, rfl, fun _ _ => ?_, z1, z2, ?_, n1, n2, by simp [bare], m1, m2, by simp [bare], ?_, ?_, by simp [bare]⟩
    · have hk : NoteV.body { bare k f t e i with sf := vT s, st := vT (stT s), l := (readRows (stT (stT s))).1.1, last := (readRows (stT (stT s))).1.2 } = [vT s, vT (stT s)].flatMap txt ++ [bytesRec (readRows (stT (stT s))).1.1, bytesLa (readRows (stT (stT s))).1.2].flatMap txt := by
        rcases h7 with rfl | rfl | rfl | rfl | rfl | rfl <;> simp [NoteV.body, bare, rowsBy]
      rw [hk, List.append_assoc, ← c2]
      simp only [List.flatMap_cons, List.flatMap_nil, List.append_nil, List.append_assoc]
      rw [← c1]; exact c0
    · show total [vT s, vT (stT s)] ≤ _
      rw [total_flat]; simp only [List.flatMap_cons, List.flatMap_nil, List.length_append, List.length_nil, txt_len]; omega
    · show ((readRows (stT (stT s))).1.1.flatMap fun x => txt (txt2 x)).length ≤ _; omega
    · show ((readRows (stT (stT s))).1.2.flatMap fun x => txt x.bytes).length ≤ _; omega
  · have hb : readBody (bare k f t e i) s = (bare k f t e i, s) := by
      have h41 : ¬ k = 4 := fun h => h4 (.inl h)
      have h61 : ¬ k = 6 := fun h => h4 (.inr h)
      have hkk : (bare k f t e i).kind = k := rfl
      unfold readBody
      rw [hkk, if_neg h1, if_neg h2, if_neg h4, if_neg h7]
    rw [hb] at h ⊢
    refine ⟨h, rfl, rfl, fun ha hb => ?_, z1, z2, z3, by simp [bare], by simp [bare], by simp [bare], by simp [bare], by simp [bare], by simp [bare], by simp [bare], by simp [bare], by simp [bare]⟩
    have h35 : k = 3 ∨ k = 5 := by omega
    have hk : NoteV.body (bare k f t e i) = [] := by rcases h35 with rfl | rfl <;> simp [NoteV.body, bare]
    rw [hk]; rfl
theorem note_can {bs : List UInt8} (hl : bs.length ≤ 4000000) (h : rdEnd (readBody (hdN (bs, 0)) (st5 (bs, 0))).2.1 (readBody (hdN (bs, 0)) (st5 (bs, 0))).2.2 = 0) :
    (readBody (hdN (bs, 0)) (st5 (bs, 0))).1.sz ∧ (mayB (readBody (hdN (bs, 0)) (st5 (bs, 0))).1 = true → (readBody (hdN (bs, 0)) (st5 (bs, 0))).1.bytes = bs) := by
  have hs : bs = ((bs, 0) : St).1 := rfl
  generalize ((bs, 0) : St) = s0 at h hs ⊢
  obtain ⟨h1, h2⟩ := end_can h
  have hlen : ∀ s : St, (stN s).1.length ≤ s.1.length := fun s => by
    show (rdNum s.1 s.2).2.1.length ≤ _
    unfold rdNum
    split
    · split
      · rename_i hr; split <;> (rw [hr]; simp only [List.length_cons]; omega)
      · simp
    · exact Nat.le_refl _
  have hl5 : (st5 s0).1.length ≤ 4000000 := by
    have a1 := hlen s0; have a2 := hlen (stN s0); have a3 := hlen (stN (stN s0)); have a4 := hlen (stN (stN (stN s0))); have a5 := hlen (stN (stN (stN (stN s0))))
    unfold st5; rw [hs] at hl; omega
  unfold hdN at h1 h2 ⊢
  obtain ⟨e5, hh, hk, hb, hz⟩ := body_can h1 hl5
  refine ⟨hz, fun hm => ?_⟩
  obtain ⟨k1, k2, _, _⟩ := may_kind hm
  have k1 := of_decide_eq_false k1
  have k2 := of_decide_eq_false k2
  rw [hk] at k1 k2
  have hb := hb (by omega) (by omega)
  rw [h2, List.append_nil] at hb
  unfold NoteV.bytes
  rw [← hb, hh]
  unfold st5 at e5 ⊢
  obtain ⟨e4, c4, _⟩ := stN_can e5
  obtain ⟨e3, c3, _⟩ := stN_can e4
  obtain ⟨e2, c2, _⟩ := stN_can e3
  obtain ⟨e1, c1, _⟩ := stN_can e2
  obtain ⟨e0, c0, _⟩ := stN_can e1
  rw [hs]
  simp only [NoteV.head, bare, List.flatMap_cons, List.flatMap_nil, List.append_nil, List.append_assoc]
  rw [← c4, ← c3, ← c2, ← c1]; exact c0.symm
end Go.Proofs.Ytndlgmciplckjab.note

/- What Read answers to any bytes. No condition. -/
set_option linter.unusedVariables false
set_option linter.unusedSimpArgs false
namespace Go.Proofs.Ytndlgmciplckjab.note
open Go.ChangeShapes Go.WideShapes Go.ChangeAt Go.RowKit Go.Gz
set_option maxHeartbeats 4000000
set_option maxRecDepth 10000
def maySD (args : List AV) (σ : AHeap) (K : AV → AHeap → Prop) : Prop := ∃ (cs : List AV) (n : NoteV), args = [.agg cs] ∧ cs.map nz1 = n.cells ∧ n.sz ∧ K (.bool (mayB n)) σ
theorem maySD_ok (args : List AV) (σ : AHeap) (K : AV → AHeap → Prop) (h : maySD args σ K) : Tri Try.prog 9 args σ K := by
  obtain ⟨cs, n, rfl, hc, hs, h⟩ := h
  refine Tri.nz ?_
  rw [hc]
  exact mayD_ok _ _ _ ⟨n, rfl, hs, h⟩
def F7 : PCall := rowQ 50 bodyRD (rowQ 9 maySD (rowQ 51 numRD (rowQ 52 endRD noCall)))
theorem F7_app {f : FuncId} {args : List AV} {σ : AHeap} {K : AV → AHeap → Prop} : F7 f args σ K = rowQ 50 bodyRD (rowQ 9 maySD (rowQ 51 numRD (rowQ 52 endRD noCall))) f args σ K := _root_.id rfl
theorem F7_sound : Sound Try.prog F7 := rowQ_sound bodyRD_ok (rowQ_sound maySD_ok (rowQ_sound numRD_ok (rowQ_sound endRD_ok (noCall_sound _))))
def ansN (p : NoteV × Int) : AV := .tuple [.agg p.1.cells, .int .i64 p.2]
theorem ansN_pure (p : NoteV × Int) : (ansN p).pure = true := by
  have h := note_pure p.1
  simp only [ansN, AV.pure, pureL, Bool.and_true] at h ⊢
  exact h
theorem ansN_frz {σ : AHeap} {cs : List AV} {p : NoteV × Int} (hp : pureL cs = true) (hc : cs.map nz1 = p.1.cells) : Frz σ (.tuple [.agg cs, .int .i64 p.2]) (ansN p) := by
  refine .tuple rfl (fun i x y hx hy => ?_)
  match i with
  | 0 => simp at hx hy; subst hx; subst hy; rw [← hc]; exact nz_frz hp
  | 1 => simp at hx hy; subst hx; subst hy; exact .pure rfl
  | n + 2 => simp at hx
theorem zero_nz : (bareC 0 0 0 0 0).map nz1 = NoteV.zero.cells := rfl
theorem read_ok (bs : List UInt8) (hl : bs.length ≤ 4000000) : Tri Try.prog 30 [.imm (rws bs) false false] [] fun r _ => r.pure = true ∧ r = ansN (readNote bs) := by
  refine Tri.frozen (Q := fun r σ => Frz σ r (ansN (readNote bs))) (Tri.of_s c30 F7_sound ?_) (fun r σ hr => ⟨_, hr, ansN_pure _, rfl⟩)
  generalize hK : (fun (r : AV) (σ : AHeap) => Frz σ r (ansN (readNote bs))) = K
  have hK : ∀ r σ, Frz σ r (ansN (readNote bs)) → K r σ := by intro r σ hr; rw [← hK]; exact hr
  have hcan := note_can hl
  unfold readNote at hK
  simp only [F7_app, Z30, base1, baseE, ↓reduceIte, Nat.reduceAdd, Nat.reduceSub, Nat.reduceMul, Nat.reduceEqDiff, Nat.reduceLeDiff, Nat.reduceLT, Int.reduceLT, Int.reduceLE, Int.reduceEq, Int.reduceNe, Int.reduceToNat, Int.reduceAdd, Int.reduceSub, reduceCtorEq, Nat.reduceBEq, Nat.reduceBNe]
  refine ⟨1, bs, 0, rfl, ⟨false, false, rfl⟩, fun σ1 r1 f1 => ?_⟩
  have b1 := f1 0 _ rfl (by decide)
  have r1 : RdS σ1 1 (stN (bs, 0)).1 (stN (bs, 0)).2 := r1
  have v0 : (rdNum bs 0).1 = vN (bs, 0) := rfl
  rw [v0]
  simp only [F7_app, Z30, base1, baseE, ↓reduceIte, Nat.reduceAdd, Nat.reduceSub, Nat.reduceMul, Nat.reduceEqDiff, Nat.reduceLeDiff, Nat.reduceLT, Int.reduceLT, Int.reduceLE, Int.reduceEq, Int.reduceNe, Int.reduceToNat, Int.reduceAdd, Int.reduceSub, reduceCtorEq, Nat.reduceBEq, Nat.reduceBNe]
  refine ⟨1, _, _, rfl, r1, fun σ2 r2 f2 => ?_⟩
  have b2 := f2 0 _ b1 (by decide)
  have r2 : RdS σ2 1 (stN (stN (bs, 0))).1 (stN (stN (bs, 0))).2 := r2
  have v1 : (rdNum (stN (bs, 0)).1 (stN (bs, 0)).2).1 = vN (stN (bs, 0)) := rfl
  rw [v1]
  simp only [F7_app, Z30, base1, baseE, ↓reduceIte, Nat.reduceAdd, Nat.reduceSub, Nat.reduceMul, Nat.reduceEqDiff, Nat.reduceLeDiff, Nat.reduceLT, Int.reduceLT, Int.reduceLE, Int.reduceEq, Int.reduceNe, Int.reduceToNat, Int.reduceAdd, Int.reduceSub, reduceCtorEq, Nat.reduceBEq, Nat.reduceBNe]
  refine ⟨1, _, _, rfl, r2, fun σ3 r3 f3 => ?_⟩
  have b3 := f3 0 _ b2 (by decide)
  have r3 : RdS σ3 1 (stN (stN (stN (bs, 0)))).1 (stN (stN (stN (bs, 0)))).2 := r3
  have v2 : (rdNum (stN (stN (bs, 0))).1 (stN (stN (bs, 0))).2).1 = vN (stN (stN (bs, 0))) := rfl
  rw [v2]
  simp only [F7_app, Z30, base1, baseE, ↓reduceIte, Nat.reduceAdd, Nat.reduceSub, Nat.reduceMul, Nat.reduceEqDiff, Nat.reduceLeDiff, Nat.reduceLT, Int.reduceLT, Int.reduceLE, Int.reduceEq, Int.reduceNe, Int.reduceToNat, Int.reduceAdd, Int.reduceSub, reduceCtorEq, Nat.reduceBEq, Nat.reduceBNe]
  refine ⟨1, _, _, rfl, r3, fun σ4 r4 f4 => ?_⟩
  have b4 := f4 0 _ b3 (by decide)
  have r4 : RdS σ4 1 (stN (stN (stN (stN (bs, 0))))).1 (stN (stN (stN (stN (bs, 0))))).2 := r4
  have v3 : (rdNum (stN (stN (stN (bs, 0)))).1 (stN (stN (stN (bs, 0)))).2).1 = vN (stN (stN (stN (bs, 0)))) := rfl
  rw [v3]
  simp only [F7_app, Z30, base1, baseE, ↓reduceIte, Nat.reduceAdd, Nat.reduceSub, Nat.reduceMul, Nat.reduceEqDiff, Nat.reduceLeDiff, Nat.reduceLT, Int.reduceLT, Int.reduceLE, Int.reduceEq, Int.reduceNe, Int.reduceToNat, Int.reduceAdd, Int.reduceSub, reduceCtorEq, Nat.reduceBEq, Nat.reduceBNe]
  refine ⟨1, _, _, rfl, r4, fun σ5 r5 f5 => ?_⟩
  have b5 := f5 0 _ b4 (by decide)
  have r5 : RdS σ5 1 (st5 (bs, 0)).1 (st5 (bs, 0)).2 := r5
  have v4 : (rdNum (stN (stN (stN (stN (bs, 0))))).1 (stN (stN (stN (stN (bs, 0))))).2).1 = vN (stN (stN (stN (stN (bs, 0))))) := rfl
  rw [v4]
  unfold hdN at hcan hK
  generalize vN (bs, 0) = k at hcan hK ⊢
  generalize vN (stN (bs, 0)) = f at hcan hK ⊢
  generalize vN (stN (stN (bs, 0))) = t at hcan hK ⊢
  generalize vN (stN (stN (stN (bs, 0)))) = e at hcan hK ⊢
  generalize vN (stN (stN (stN (stN (bs, 0))))) = i at hcan hK ⊢
  generalize st5 (bs, 0) = s5 at r5 hcan hK ⊢
  simp only [F7_app, Z30, base1, baseE, ↓reduceIte, Nat.reduceAdd, Nat.reduceSub, Nat.reduceMul, Nat.reduceEqDiff, Nat.reduceLeDiff, Nat.reduceLT, Int.reduceLT, Int.reduceLE, Int.reduceEq, Int.reduceNe, Int.reduceToNat, Int.reduceAdd, Int.reduceSub, reduceCtorEq, Nat.reduceBEq, Nat.reduceBNe]
  refine ⟨1, s5, k, f, t, e, i, rfl, r5, fun σ6 cs r6 f6 hp hc => ?_⟩
  have b6 := f6 0 _ b5 (by decide)
  generalize readBody (bare k f t e i) s5 = p at r6 hc hcan hK ⊢
  obtain ⟨n, s⟩ := p
  have r6 : RdS σ6 1 s.1 s.2 := r6
  have hc : cs.map nz1 = n.cells := hc
  have hlen : cs.length = 27 := by have := congrArg List.length hc; rw [List.length_map] at this; rw [this]; rfl
  have hcell : (cs.all fun x => x.isCell) = true := nz_cells (by rw [hc]; rfl)
  have hput : put (bareC 0 0 0 0 0) 0 cs = some cs := put_all (by rw [hlen]; rfl)
  have hsub : sub cs 0 27 = some cs := sub_all (by omega)
  have l6 := hget_lt b6
  have pn : ∀ c : List AV, hget (hpush σ6 c) σ6.length = some c := fun c => push_new rfl
  have sn : ∀ c c' : List AV, hget (hset (hpush σ6 c) σ6.length c') σ6.length = some c' := fun c c' => set_same (pn c)
  simp only [F7_app, Z30, base1, baseE, ↓reduceIte, Nat.reduceAdd, Nat.reduceSub, Nat.reduceMul, Nat.reduceEqDiff, Nat.reduceLeDiff, Nat.reduceLT, Int.reduceLT, Int.reduceLE, Int.reduceEq, Int.reduceNe, Int.reduceToNat, Int.reduceAdd, Int.reduceSub, reduceCtorEq, Nat.reduceBEq, Nat.reduceBNe, pn, sn, hlen, hcell, hput]
  refine ⟨1, s.1, s.2, rfl, rd_alloc r6, fun σ7 f7 => ?_⟩
  have b7 := f7 0 _ (al_frame b6) (by decide)
  have c7 := f7 σ6.length _ (sn _ _) (by obtain ⟨f, nn, hg⟩ := r6; have := hget_lt hg; omega)
  generalize σ6.length = L at c7 l6 ⊢
  have s0' : ∀ (d : List AV), hget (hset σ7 0 d) 0 = some d := fun d => set_same b7
  by_cases hE : rdEnd s.1 s.2 = 0
  · obtain ⟨hz, _⟩ := hcan hE
    have hz : n.sz := hz
    simp only [F7_app, Z30, base1, baseE, ↓reduceIte, Nat.reduceAdd, Nat.reduceSub, Nat.reduceMul, Nat.reduceEqDiff, Nat.reduceLeDiff, Nat.reduceLT, Int.reduceLT, Int.reduceLE, Int.reduceEq, Int.reduceNe, Int.reduceToNat, Int.reduceAdd, Int.reduceSub, reduceCtorEq, Nat.reduceBEq, Nat.reduceBNe, b7, c7, hE, hsub, hlen, hcell, hput, s0']
    refine ⟨cs, n, rfl, hc, hz, ?_⟩
    cases hm : mayB n with
    | false =>
      have hf : finN (n, s) = (NoteV.zero, 5) := by simp [finN, hm]
      rw [hf] at hK
      simp only [F7_app, Z30, base1, baseE, ↓reduceIte, Nat.reduceAdd, Nat.reduceSub, Nat.reduceMul, Nat.reduceEqDiff, Nat.reduceLeDiff, Nat.reduceLT, Int.reduceLT, Int.reduceLE, Int.reduceEq, Int.reduceNe, Int.reduceToNat, Int.reduceAdd, Int.reduceSub, reduceCtorEq, Nat.reduceBEq, Nat.reduceBNe, b7, c7, hE, hsub, hlen, hcell, hput, s0']
      exact hK _ _ (ansN_frz (p := (NoteV.zero, 5)) rfl zero_nz)
    | true =>
      have hf : finN (n, s) = (n, 0) := by simp [finN, hm, hE]
      rw [hf] at hK
      simp only [F7_app, Z30, base1, baseE, ↓reduceIte, Nat.reduceAdd, Nat.reduceSub, Nat.reduceMul, Nat.reduceEqDiff, Nat.reduceLeDiff, Nat.reduceLT, Int.reduceLT, Int.reduceLE, Int.reduceEq, Int.reduceNe, Int.reduceToNat, Int.reduceAdd, Int.reduceSub, reduceCtorEq, Nat.reduceBEq, Nat.reduceBNe, b7, c7, hE, hsub, hlen, hcell, hput, s0']
      exact hK _ _ (ansN_frz (p := (n, 0)) hp hc)
  · have hf : finN (n, s) = (NoteV.zero, 5) := by simp [finN, hE]
    rw [hf] at hK
    simp only [F7_app, Z30, base1, baseE, ↓reduceIte, Nat.reduceAdd, Nat.reduceSub, Nat.reduceMul, Nat.reduceEqDiff, Nat.reduceLeDiff, Nat.reduceLT, Int.reduceLT, Int.reduceLE, Int.reduceEq, Int.reduceNe, Int.reduceToNat, Int.reduceAdd, Int.reduceSub, reduceCtorEq, Nat.reduceBEq, Nat.reduceBNe, b7, c7, hE, hsub, hlen, hcell, hput, s0']
    exact hK _ _ (ansN_frz (p := (NoteV.zero, 5)) rfl zero_nz)
def readD (args : List AV) (σ : AHeap) (K : AV → AHeap → Prop) : Prop := ∃ bs : List UInt8, args = [.imm (rws bs) false false] ∧ bs.length ≤ 4000000 ∧ K (ansN (readNote bs)) σ
theorem readD_ok (args : List AV) (σ : AHeap) (K : AV → AHeap → Prop) (h : readD args σ K) : Tri Try.prog 30 args σ K := by
  obtain ⟨bs, rfl, hl, h⟩ := h
  exact (Tri.pureD (by simp only [pureL, AV.pure, rws_pure, Bool.and_self]) (read_ok bs hl) σ).mono fun r σ' hr => by rw [hr.1, hr.2]; exact h
/-- What is read is packed as it was. -/
theorem read_back {bs : List UInt8} (hl : bs.length ≤ 4000000) : ((readNote bs).2 = 0 ∧ mayB (readNote bs).1 = true ∧ (readNote bs).1.sz ∧ (readNote bs).1.bytes = bs) ∨ readNote bs = (NoteV.zero, 5) := by
  have h := note_can hl
  unfold readNote finN
  split
  · rename_i hh
    exact .inl ⟨rfl, hh.2, (h hh.1).1, (h hh.1).2 hh.2⟩
  · exact .inr rfl
end Go.Proofs.Ytndlgmciplckjab.note
