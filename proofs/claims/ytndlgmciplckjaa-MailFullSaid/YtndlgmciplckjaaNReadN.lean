/- What reading makes of an atlas, of records and last answers. No condition. -/
import Derived.Test.YtndlgmciplckjaaK34
import Derived.Test.YtndlgmciplckjaaNPlain
set_option linter.unusedVariables false
set_option linter.unusedSimpArgs false
namespace Go.Proofs.Ytndlgmciplckjaa.note
open Go.ChangeShapes Go.WideShapes Go.ChangeAt Go.RowKit Go.Gz
abbrev r62_0 : List MOper := [⟨(some 2), .alloc [.int .i64 0, .nilslice], none⟩]
def b62_0 : SCode := .region r62_0
abbrev r62_1 : List MOper := [⟨(some 7), .move (.t 0), none⟩,
  ⟨(some 8), .call 27 [(.t 7)], none⟩,
  ⟨(some 9), .build [.int .i64 0, .nilslice] [(0, 1, (.t 8))], none⟩,
  ⟨(some 3), .alloc [.int .i64 0, .nilslice], none⟩,
  ⟨none, .store 2 (.t 3) (.t 9), none⟩]
def b62_1 : SCode := .region r62_1
abbrev r62_2 : List MOper := [⟨(some 10), .move (.t 0), none⟩,
  ⟨(some 11), .call 60 [(.t 10)], none⟩,
  ⟨(some 4), .move (.t 11), none⟩]
def b62_2 : SCode := .region r62_2
abbrev r62_3 : List MOper := [⟨(some 12), .move (.t 0), none⟩,
  ⟨(some 13), .nilCheck (.t 12), none⟩,
  ⟨(some 14), .fieldAddr 1 (.t 13), none⟩,
  ⟨(some 15), .load1 (.t 14), none⟩,
  ⟨(some 16), .bin .neq .num (.t 15) (.c (.int .i64 0)), none⟩]
def b62_3 : SCode := .region r62_3
abbrev r62_4 : List MOper := [⟨(some 17), .build [.int .i64 0, .nilslice] [], none⟩,
  ⟨none, .store 2 (.t 2) (.t 17), none⟩]
def b62_4 : SCode := .region r62_4
def b62_5 : SCode := .seq b62_4 .ret
def b62_6 : SCode := .cond (.t 16) b62_5 .skip
def b62_7 : SCode := .seq b62_3 b62_6
abbrev r62_8 : List MOper := [⟨(some 19), .move (.t 4), none⟩,
  ⟨(some 20), .toBytes (.t 19), none⟩,
  ⟨(some 21), .call 82 [(.t 20), (.c (.func 83 []))], none⟩,
  ⟨(some 18), .move (.t 21), none⟩,
  ⟨(some 22), .extract (.t 18) 0, none⟩,
  ⟨(some 23), .extract (.t 18) 1, none⟩,
  ⟨(some 5), .move (.t 22), none⟩,
  ⟨(some 6), .move (.t 23), none⟩]
def b62_8 : SCode := .region r62_8
abbrev r62_9 : List MOper := [⟨(some 24), .move (.t 6), none⟩,
  ⟨(some 25), .bin .neq .num (.t 24) (.c (.int .i64 0)), none⟩]
def b62_9 : SCode := .region r62_9
abbrev r62_10 : List MOper := [⟨(some 26), .move (.t 0), none⟩,
  ⟨(some 27), .nilCheck (.t 26), none⟩,
  ⟨(some 28), .fieldAddr 1 (.t 27), none⟩,
  ⟨none, .store 1 (.t 28) (.c (.int .i64 5)), none⟩]
def b62_10 : SCode := .region r62_10
abbrev r62_11 : List MOper := [⟨(some 29), .build [.int .i64 0, .nilslice] [], none⟩,
  ⟨none, .store 2 (.t 2) (.t 29), none⟩]
def b62_11 : SCode := .region r62_11
def b62_12 : SCode := .seq b62_11 .ret
def b62_13 : SCode := .seq b62_10 b62_12
def b62_14 : SCode := .cond (.t 25) b62_13 .skip
def b62_15 : SCode := .seq b62_9 b62_14
abbrev r62_16 : List MOper := [⟨(some 30), .move (.t 5), none⟩,
  ⟨(some 31), .fieldAddr 1 (.t 3), none⟩,
  ⟨none, .store 1 (.t 31) (.t 30), none⟩]
def b62_16 : SCode := .region r62_16
abbrev r62_17 : List MOper := [⟨(some 32), .loadN 2 (.t 3), none⟩,
  ⟨none, .store 2 (.t 2) (.t 32), none⟩]
def b62_17 : SCode := .region r62_17
def b62_18 : SCode := .seq b62_17 .ret
def b62_19 : SCode := .seq b62_16 b62_18
def b62_20 : SCode := .seq b62_15 b62_19
def b62_21 : SCode := .seq b62_8 b62_20
def b62_22 : SCode := .seq b62_7 b62_21
def b62_23 : SCode := .seq b62_2 b62_22
def b62_24 : SCode := .seq b62_1 b62_23
def b62_25 : SCode := .seq b62_0 b62_24
def s62 : SFunc := ⟨33, [.cN 2 2], b62_25⟩
theorem c62 : sFn Try.prog 62 = some s62 := by kernel_rfl
theorem Z62 : XR b62_0 r62_0 ∧ XR b62_1 r62_1 ∧ XR b62_2 r62_2 ∧ XR b62_3 r62_3 ∧ XR b62_4 r62_4 ∧ XS b62_5 b62_4 .ret ∧ XC b62_6 (.t 16) b62_5 .skip ∧ XS b62_7 b62_3 b62_6 ∧ XR b62_8 r62_8 ∧ XR b62_9 r62_9 ∧ XR b62_10 r62_10 ∧ XR b62_11 r62_11 ∧ XS b62_12 b62_11 .ret ∧ XS b62_13 b62_10 b62_12 ∧ XC b62_14 (.t 25) b62_13 .skip ∧ XS b62_15 b62_9 b62_14 ∧ XR b62_16 r62_16 ∧ XR b62_17 r62_17 ∧ XS b62_18 b62_17 .ret ∧ XS b62_19 b62_16 b62_18 ∧ XS b62_20 b62_15 b62_19 ∧ XS b62_21 b62_8 b62_20 ∧ XS b62_22 b62_7 b62_21 ∧ XS b62_23 b62_2 b62_22 ∧ XS b62_24 b62_1 b62_23 ∧ XS b62_25 b62_0 b62_24 ∧ XY s62 33 b62_25 [.cN 2 2] := ⟨rfl, rfl, rfl, rfl, rfl, rfl, sC_cond, rfl, rfl, rfl, rfl, rfl, rfl, rfl, sC_cond, rfl, rfl, rfl, rfl, rfl, rfl, rfl, rfl, rfl, rfl, rfl, rfl⟩
abbrev r63_0 : List MOper := [⟨(some 2), .move (.c (.nilslice)), none⟩,
  ⟨(some 3), .move (.c (.nilslice)), none⟩]
def b63_0 : SCode := .region r63_0
abbrev r63_1 : List MOper := [⟨(some 10), .move (.t 0), none⟩,
  ⟨(some 11), .call 60 [(.t 10)], none⟩,
  ⟨(some 12), .move (.t 0), none⟩,
  ⟨(some 13), .call 60 [(.t 12)], none⟩,
  ⟨(some 4), .move (.t 11), none⟩,
  ⟨(some 5), .move (.t 13), none⟩]
def b63_1 : SCode := .region r63_1
abbrev r63_2 : List MOper := [⟨(some 14), .move (.t 0), none⟩,
  ⟨(some 15), .nilCheck (.t 14), none⟩,
  ⟨(some 16), .fieldAddr 1 (.t 15), none⟩,
  ⟨(some 17), .load1 (.t 16), none⟩,
  ⟨(some 18), .bin .neq .num (.t 17) (.c (.int .i64 0)), none⟩]
def b63_2 : SCode := .region r63_2
abbrev r63_3 : List MOper := [⟨(some 2), .move (.c (.nilslice)), none⟩,
  ⟨(some 3), .move (.c (.nilslice)), none⟩]
def b63_3 : SCode := .region r63_3
def b63_4 : SCode := .seq b63_3 .ret
def b63_5 : SCode := .cond (.t 18) b63_4 .skip
def b63_6 : SCode := .seq b63_2 b63_5
abbrev r63_7 : List MOper := [⟨(some 20), .move (.t 4), none⟩,
  ⟨(some 21), .toBytes (.t 20), none⟩,
  ⟨(some 22), .call 84 [(.t 21), (.c (.func 85 []))], none⟩,
  ⟨(some 19), .move (.t 22), none⟩,
  ⟨(some 23), .extract (.t 19) 0, none⟩,
  ⟨(some 24), .extract (.t 19) 1, none⟩,
  ⟨(some 6), .move (.t 23), none⟩,
  ⟨(some 7), .move (.t 24), none⟩]
def b63_7 : SCode := .region r63_7
abbrev r63_8 : List MOper := [⟨(some 26), .move (.t 5), none⟩,
  ⟨(some 27), .toBytes (.t 26), none⟩,
  ⟨(some 28), .call 86 [(.t 27), (.c (.func 87 []))], none⟩,
  ⟨(some 25), .move (.t 28), none⟩,
  ⟨(some 29), .extract (.t 25) 0, none⟩,
  ⟨(some 30), .extract (.t 25) 1, none⟩,
  ⟨(some 8), .move (.t 29), none⟩,
  ⟨(some 9), .move (.t 30), none⟩]
def b63_8 : SCode := .region r63_8
abbrev r63_9 : List MOper := [⟨(some 31), .move (.t 7), none⟩,
  ⟨(some 32), .bin .neq .num (.t 31) (.c (.int .i64 0)), none⟩,
  ⟨(some 33), .move (.t 32), none⟩,
  ⟨(some 34), .move (.t 9), (some (33, false))⟩,
  ⟨(some 35), .bin .neq .num (.t 34) (.c (.int .i64 0)), (some (33, false))⟩,
  ⟨(some 36), .pick (.t 33) (.c (.bool true)) (.t 35), none⟩]
def b63_9 : SCode := .region r63_9
abbrev r63_10 : List MOper := [⟨(some 37), .move (.t 0), none⟩,
  ⟨(some 38), .nilCheck (.t 37), none⟩,
  ⟨(some 39), .fieldAddr 1 (.t 38), none⟩,
  ⟨none, .store 1 (.t 39) (.c (.int .i64 5)), none⟩]
def b63_10 : SCode := .region r63_10
abbrev r63_11 : List MOper := [⟨(some 2), .move (.c (.nilslice)), none⟩,
  ⟨(some 3), .move (.c (.nilslice)), none⟩]
def b63_11 : SCode := .region r63_11
def b63_12 : SCode := .seq b63_11 .ret
def b63_13 : SCode := .seq b63_10 b63_12
def b63_14 : SCode := .cond (.t 36) b63_13 .skip
def b63_15 : SCode := .seq b63_9 b63_14
abbrev r63_16 : List MOper := [⟨(some 40), .move (.t 6), none⟩,
  ⟨(some 41), .move (.t 8), none⟩,
  ⟨(some 2), .move (.t 40), none⟩,
  ⟨(some 3), .move (.t 41), none⟩]
def b63_16 : SCode := .region r63_16
def b63_17 : SCode := .seq b63_16 .ret
def b63_18 : SCode := .seq b63_15 b63_17
def b63_19 : SCode := .seq b63_8 b63_18
def b63_20 : SCode := .seq b63_7 b63_19
def b63_21 : SCode := .seq b63_6 b63_20
def b63_22 : SCode := .seq b63_1 b63_21
def b63_23 : SCode := .seq b63_0 b63_22
def s63 : SFunc := ⟨42, [.t 2, .t 3], b63_23⟩
theorem c63 : sFn Try.prog 63 = some s63 := by kernel_rfl
theorem Z63 : XR b63_0 r63_0 ∧ XR b63_1 r63_1 ∧ XR b63_2 r63_2 ∧ XR b63_3 r63_3 ∧ XS b63_4 b63_3 .ret ∧ XC b63_5 (.t 18) b63_4 .skip ∧ XS b63_6 b63_2 b63_5 ∧ XR b63_7 r63_7 ∧ XR b63_8 r63_8 ∧ XR b63_9 r63_9 ∧ XR b63_10 r63_10 ∧ XR b63_11 r63_11 ∧ XS b63_12 b63_11 .ret ∧ XS b63_13 b63_10 b63_12 ∧ XC b63_14 (.t 36) b63_13 .skip ∧ XS b63_15 b63_9 b63_14 ∧ XR b63_16 r63_16 ∧ XS b63_17 b63_16 .ret ∧ XS b63_18 b63_15 b63_17 ∧ XS b63_19 b63_8 b63_18 ∧ XS b63_20 b63_7 b63_19 ∧ XS b63_21 b63_6 b63_20 ∧ XS b63_22 b63_1 b63_21 ∧ XS b63_23 b63_0 b63_22 ∧ XY s63 42 b63_23 [.t 2, .t 3] := ⟨rfl, rfl, rfl, rfl, rfl, sC_cond, rfl, rfl, rfl, rfl, rfl, rfl, rfl, rfl, sC_cond, rfl, rfl, rfl, rfl, rfl, rfl, rfl, rfl, rfl, rfl⟩

set_option maxHeartbeats 4000000
set_option maxRecDepth 10000
def listShRD (args : List AV) (σ : AHeap) (K : AV → AHeap → Prop) : Prop := ∃ (d : Nat) (bs : List UInt8), args = [.slice d 0 bs.length none 1, .func 83 []] ∧ hget σ d = some (bs.map byteAV) ∧ K (ansLSh (readSh bs)) (hkill σ d)
theorem listShRD_ok (args : List AV) (σ : AHeap) (K : AV → AHeap → Prop) (h : listShRD args σ K) : Tri Try.prog 82 args σ K := by
  obtain ⟨d, bs, rfl, hd, h⟩ := h
  exact (give_bytes2 hd rfl (readSh_ok bs)).mono fun r σ' hr => by rw [hr.1, hr.2]; exact h
def listRecRD (args : List AV) (σ : AHeap) (K : AV → AHeap → Prop) : Prop := ∃ (d : Nat) (bs : List UInt8), args = [.slice d 0 bs.length none 1, .func 85 []] ∧ hget σ d = some (bs.map byteAV) ∧ K (ansLRec (readRec bs)) (hkill σ d)
theorem listRecRD_ok (args : List AV) (σ : AHeap) (K : AV → AHeap → Prop) (h : listRecRD args σ K) : Tri Try.prog 84 args σ K := by
  obtain ⟨d, bs, rfl, hd, h⟩ := h
  exact (give_bytes2 hd rfl (readRec_ok bs)).mono fun r σ' hr => by rw [hr.1, hr.2]; exact h
def listLaRD (args : List AV) (σ : AHeap) (K : AV → AHeap → Prop) : Prop := ∃ (d : Nat) (bs : List UInt8), args = [.slice d 0 bs.length none 1, .func 87 []] ∧ hget σ d = some (bs.map byteAV) ∧ K (ansLLa (readLa bs)) (hkill σ d)
theorem listLaRD_ok (args : List AV) (σ : AHeap) (K : AV → AHeap → Prop) (h : listLaRD args σ K) : Tri Try.prog 86 args σ K := by
  obtain ⟨d, bs, rfl, hd, h⟩ := h
  exact (give_bytes2 hd rfl (readLa_ok bs)).mono fun r σ' hr => by rw [hr.1, hr.2]; exact h
def askRD (args : List AV) (σ : AHeap) (K : AV → AHeap → Prop) : Prop := ∃ (d : Nat) (bs : List UInt8), args = [.slice d 0 bs.length none 1] ∧ hget σ d = some (bs.map byteAV) ∧ K (ansA (readAsk bs)) (hkill σ d)
theorem askRD_ok (args : List AV) (σ : AHeap) (K : AV → AHeap → Prop) (h : askRD args σ K) : Tri Try.prog 59 args σ K := by
  obtain ⟨d, bs, rfl, hd, h⟩ := h
  exact (give_bytes hd (readAsk_ok bs)).mono fun r σ' hr => by rw [hr.1, hr.2]; exact h
def F5 : PCall := rowQ 59 askRD (rowQ 61 replyRD (rowQ 82 listShRD (rowQ 84 listRecRD (rowQ 86 listLaRD (rowQ 27 numRD (rowQ 60 textRD (rowQ 28 endRD noCall)))))))
theorem F5_app {f : FuncId} {args : List AV} {σ : AHeap} {K : AV → AHeap → Prop} : F5 f args σ K = rowQ 59 askRD (rowQ 61 replyRD (rowQ 82 listShRD (rowQ 84 listRecRD (rowQ 86 listLaRD (rowQ 27 numRD (rowQ 60 textRD (rowQ 28 endRD noCall))))))) f args σ K := _root_.id rfl
theorem F5_sound : Sound Try.prog F5 := rowQ_sound askRD_ok (rowQ_sound replyRD_ok (rowQ_sound listShRD_ok (rowQ_sound listRecRD_ok (rowQ_sound listLaRD_ok (rowQ_sound numRD_ok (rowQ_sound textRD_ok (rowQ_sound endRD_ok (noCall_sound _))))))))
theorem kp {σ : AHeap} {j : Nat} {c d : List AV} (h : hget σ j = some d) : hget (hkill (hpush σ c) σ.length) j = some d := Fr1.kill (id := σ.length) j _ h (by have := hget_lt h; omega)
def chartRD (args : List AV) (σ : AHeap) (K : AV → AHeap → Prop) : Prop := ∃ (id : Nat) (s : St), args = [.ptr id 0] ∧ RdS σ id s.1 s.2 ∧ ∀ σ' x, RdS σ' id (readChart s).2.1 (readChart s).2.2 → Fr1 σ σ' id → x.pure = true → nz1 x = .imm ((readChart s).1.2.map ShV.cells) false false → K (.agg [.int .i64 (readChart s).1.1, x]) σ'
theorem chartRD_ok (args : List AV) (σ : AHeap) (K : AV → AHeap → Prop) (h : chartRD args σ K) : Tri Try.prog 62 args σ K := by
  obtain ⟨id, s, rfl, hr, hK⟩ := h
  refine Tri.of_s c62 F5_sound ?_
  have hid : id < σ.length := by obtain ⟨f, nn, hg⟩ := hr; exact hget_lt hg
  simp only [F5_app, Z62, base1, baseE, ↓reduceIte, Nat.reduceAdd, Nat.reduceSub, Nat.reduceMul, Nat.reduceEqDiff, Nat.reduceLeDiff, Nat.reduceLT, Int.reduceLT, Int.reduceLE, Int.reduceEq, Int.reduceNe, Int.reduceToNat, Int.reduceAdd, Int.reduceSub, reduceCtorEq, Nat.reduceBEq, Nat.reduceBNe]
  refine ⟨id, s.1, s.2, rfl, rd_push hr, fun σ1 r1 f1 => ?_⟩
  have b1 := f1 σ.length _ (push_new rfl) (by omega)
  have g1 : Fr1 σ σ1 id := Fr1.push.trans f1
  have r1 : RdS σ1 id (stN s).1 (stN s).2 := r1
  have l1 := hget_lt b1
  unfold readChart at hK
  have v0 : (rdNum s.1 s.2).1 = vN s := rfl
  rw [v0]
  generalize stN s = s1 at r1 hK ⊢
  generalize vN s = n at hK ⊢
  have pn : ∀ c : List AV, hget (hpush σ1 c) σ1.length = some c := fun c => push_new rfl
  have sn : ∀ c c' : List AV, hget (hset (hpush σ1 c) σ1.length c') σ1.length = some c' := fun c c' => set_same (pn c)
  simp only [F5_app, Z62, base1, baseE, ↓reduceIte, Nat.reduceAdd, Nat.reduceSub, Nat.reduceMul, Nat.reduceEqDiff, Nat.reduceLeDiff, Nat.reduceLT, Int.reduceLT, Int.reduceLE, Int.reduceEq, Int.reduceNe, Int.reduceToNat, Int.reduceAdd, Int.reduceSub, reduceCtorEq, Nat.reduceBEq, Nat.reduceBNe, pn, sn]
  refine ⟨id, s1.1, s1.2, rfl, rd_alloc r1, fun σ2 r2 f2 => ?_⟩
  have b2 := f2 σ.length _ (al_frame b1) (by omega)
  have c2 := f2 σ1.length _ (sn _ _) (by omega)
  have g2 : Fr1 σ σ2 id := fun j c hj hne => f2 j c (al_frame (g1 j c hj hne)) hne
  have r2 : RdS σ2 id (stT s1).1 (stT s1).2 := r2
  have v1 : (rdText s1.1 s1.2).1 = vT s1 := rfl
  rw [v1]
  generalize stT s1 = s2 at r2 hK ⊢
  generalize vT s1 = t at hK ⊢
  obtain ⟨f, nn, hg2⟩ := r2
  have l2 := hget_lt c2
  have sb2 : ∀ d : List AV, hget (hset σ2 σ.length d) σ.length = some d := fun d => set_same b2
  by_cases he : s2.2 = 0
  · rw [he] at hg2
    simp only [he, if_true] at hK
    simp only [F5_app, Z62, base1, baseE, ↓reduceIte, Nat.reduceAdd, Nat.reduceSub, Nat.reduceMul, Nat.reduceEqDiff, Nat.reduceLeDiff, Nat.reduceLT, Int.reduceLT, Int.reduceLE, Int.reduceEq, Int.reduceNe, Int.reduceToNat, Int.reduceAdd, Int.reduceSub, reduceCtorEq, Nat.reduceBEq, Nat.reduceBNe, hg2, c2, b2]
    refine ⟨σ2.length, t, rfl, push_new rfl, ?_⟩
    have b3 := kp (c := t.map byteAV) b2
    have c3 := kp (c := t.map byteAV) c2
    have hg3 := kp (c := t.map byteAV) hg2
    have g3 : Fr1 σ (hkill (hpush σ2 (t.map byteAV)) σ2.length) id := fun j c hj hne => kp (g2 j c hj hne)
    generalize hkill (hpush σ2 (t.map byteAV)) σ2.length = σ3 at b3 c3 hg3 g3 ⊢
    generalize readSh t = w at hK ⊢
    obtain ⟨sh, e⟩ := w
    have sb : ∀ d : List AV, hget (hset σ3 σ.length d) σ.length = some d := fun d => set_same b3
    have hL : σ1.length ≠ σ.length := by omega
    have sc : ∀ d : List AV, hget (hset σ3 σ1.length d) σ1.length = some d := fun d => set_same c3
    have sbc : ∀ d c : List AV, hget (hset (hset σ3 σ1.length d) σ.length c) σ.length = some c := fun d c => set_same ((set_other hL).trans b3)
    have si : ∀ d : List AV, hget (hset σ3 id d) id = some d := fun d => set_same hg3
    have sib : ∀ d c : List AV, hget (hset (hset σ3 id d) σ.length c) σ.length = some c := fun d c => set_same ((set_other (by omega)).trans b3)
    by_cases he2 : e = 0
    · subst he2
      simp only [if_true] at hK
      have bsc : ∀ d : List AV, hget (hset σ3 σ1.length d) σ.length = _ := fun d => (set_other hL).trans b3
      simp only [F5_app, Z62, base1, baseE, ↓reduceIte, Nat.reduceAdd, Nat.reduceSub, Nat.reduceMul, Nat.reduceEqDiff, Nat.reduceLeDiff, Nat.reduceLT, Int.reduceLT, Int.reduceLE, Int.reduceEq, Int.reduceNe, Int.reduceToNat, Int.reduceAdd, Int.reduceSub, reduceCtorEq, Nat.reduceBEq, Nat.reduceBNe, ansLSh, hg3, c3, b3, sb, sc, sbc, bsc]
      refine hK _ _ ⟨f, nn, ?_⟩ (fun j c hj hne => ?_) (by simp only [AV.pure, rowsSh_pure]) rfl
      · rw [set_other (by omega), set_other (by omega), he]; exact hg3
      · have := hget_lt hj
        rw [set_other (by omega), set_other (by omega)]; exact g3 j c hj hne
    · simp only [if_neg he2] at hK
      have bsi : ∀ d : List AV, hget (hset σ3 id d) σ.length = _ := fun d => (set_other (by omega)).trans b3
      simp only [F5_app, Z62, base1, baseE, ↓reduceIte, Nat.reduceAdd, Nat.reduceSub, Nat.reduceMul, Nat.reduceEqDiff, Nat.reduceLeDiff, Nat.reduceLT, Int.reduceLT, Int.reduceLE, Int.reduceEq, Int.reduceNe, Int.reduceToNat, Int.reduceAdd, Int.reduceSub, reduceCtorEq, Nat.reduceBEq, Nat.reduceBNe, ansLSh, hg3, c3, b3, sb, si, sib, bsi, he2]
      refine hK _ _ ⟨f, nn, ?_⟩ (fun j c hj hne => ?_) rfl rfl
      · rw [set_other (by omega)]; exact si _
      · have := hget_lt hj
        rw [set_other (by omega), set_other (by omega)]; exact g3 j c hj hne
  · simp only [if_neg he] at hK
    simp only [F5_app, Z62, base1, baseE, ↓reduceIte, Nat.reduceAdd, Nat.reduceSub, Nat.reduceMul, Nat.reduceEqDiff, Nat.reduceLeDiff, Nat.reduceLT, Int.reduceLT, Int.reduceLE, Int.reduceEq, Int.reduceNe, Int.reduceToNat, Int.reduceAdd, Int.reduceSub, reduceCtorEq, Nat.reduceBEq, Nat.reduceBNe, hg2, c2, b2, sb2, he]
    refine hK _ _ ⟨f, nn, ?_⟩ (fun j c hj hne => ?_) rfl rfl
    · rw [set_other (by omega)]; exact hg2
    · have := hget_lt hj
      rw [set_other (by omega)]; exact g2 j c hj hne
def rowsRD (args : List AV) (σ : AHeap) (K : AV → AHeap → Prop) : Prop := ∃ (id : Nat) (s : St), args = [.ptr id 0] ∧ RdS σ id s.1 s.2 ∧ ∀ σ' x y, RdS σ' id (readRows s).2.1 (readRows s).2.2 → Fr1 σ σ' id → x.pure = true → nz1 x = .imm ((readRows s).1.1.map recC) false false → y.pure = true → nz1 y = .imm ((readRows s).1.2.map LaV.cells) false false → K (.tuple [x, y]) σ'
theorem rowsRD_ok (args : List AV) (σ : AHeap) (K : AV → AHeap → Prop) (h : rowsRD args σ K) : Tri Try.prog 63 args σ K := by
  obtain ⟨id, s, rfl, hr, hK⟩ := h
  refine Tri.of_s c63 F5_sound ?_
  simp only [F5_app, Z63, base1, baseE, ↓reduceIte, Nat.reduceAdd, Nat.reduceSub, Nat.reduceMul, Nat.reduceEqDiff, Nat.reduceLeDiff, Nat.reduceLT, Int.reduceLT, Int.reduceLE, Int.reduceEq, Int.reduceNe, Int.reduceToNat, Int.reduceAdd, Int.reduceSub, reduceCtorEq, Nat.reduceBEq, Nat.reduceBNe]
  refine ⟨id, s.1, s.2, rfl, hr, fun σ1 r1 f1 => ?_⟩
  have r1 : RdS σ1 id (stT s).1 (stT s).2 := r1
  unfold readRows at hK
  have v0 : (rdText s.1 s.2).1 = vT s := rfl
  rw [v0]
  generalize stT s = s1 at r1 hK ⊢
  generalize vT s = a at hK ⊢
  simp only [F5_app, Z63, base1, baseE, ↓reduceIte, Nat.reduceAdd, Nat.reduceSub, Nat.reduceMul, Nat.reduceEqDiff, Nat.reduceLeDiff, Nat.reduceLT, Int.reduceLT, Int.reduceLE, Int.reduceEq, Int.reduceNe, Int.reduceToNat, Int.reduceAdd, Int.reduceSub, reduceCtorEq, Nat.reduceBEq, Nat.reduceBNe]
  refine ⟨id, s1.1, s1.2, rfl, r1, fun σ2 r2 f2 => ?_⟩
  have g2 : Fr1 σ σ2 id := f1.trans f2
  have r2 : RdS σ2 id (stT s1).1 (stT s1).2 := r2
  have v1 : (rdText s1.1 s1.2).1 = vT s1 := rfl
  rw [v1]
  generalize stT s1 = s2 at r2 hK ⊢
  generalize vT s1 = b at hK ⊢
  obtain ⟨f, nn, hg2⟩ := r2
  by_cases he : s2.2 = 0
  · rw [he] at hg2
    simp only [he, if_true] at hK
    simp only [F5_app, Z63, base1, baseE, ↓reduceIte, Nat.reduceAdd, Nat.reduceSub, Nat.reduceMul, Nat.reduceEqDiff, Nat.reduceLeDiff, Nat.reduceLT, Int.reduceLT, Int.reduceLE, Int.reduceEq, Int.reduceNe, Int.reduceToNat, Int.reduceAdd, Int.reduceSub, reduceCtorEq, Nat.reduceBEq, Nat.reduceBNe, hg2]
    refine ⟨σ2.length, a, rfl, push_new rfl, ?_⟩
    have hg3 := kp (c := a.map byteAV) hg2
    have g3 : Fr1 σ (hkill (hpush σ2 (a.map byteAV)) σ2.length) id := fun j c hj hne => kp (g2 j c hj hne)
    generalize hkill (hpush σ2 (a.map byteAV)) σ2.length = σ3 at hg3 g3 ⊢
    simp only [F5_app, Z63, base1, baseE, ↓reduceIte, Nat.reduceAdd, Nat.reduceSub, Nat.reduceMul, Nat.reduceEqDiff, Nat.reduceLeDiff, Nat.reduceLT, Int.reduceLT, Int.reduceLE, Int.reduceEq, Int.reduceNe, Int.reduceToNat, Int.reduceAdd, Int.reduceSub, reduceCtorEq, Nat.reduceBEq, Nat.reduceBNe, ansLRec, hg3]
    refine ⟨σ3.length, b, rfl, push_new rfl, ?_⟩
    have hg4 := kp (c := b.map byteAV) hg3
    have g4 : Fr1 σ (hkill (hpush σ3 (b.map byteAV)) σ3.length) id := fun j c hj hne => kp (g3 j c hj hne)
    generalize hkill (hpush σ3 (b.map byteAV)) σ3.length = σ4 at hg4 g4 ⊢
    generalize readRec a = w at hK ⊢
    generalize readLa b = w' at hK ⊢
    obtain ⟨l, e⟩ := w
    obtain ⟨m, e'⟩ := w'
    have si : ∀ d : List AV, hget (hset σ4 id d) id = some d := fun d => set_same hg4
    by_cases he2 : e = 0
    · subst he2
      by_cases he3 : e' = 0
      · subst he3
        simp only [and_self, if_true] at hK
        simp only [F5_app, Z63, base1, baseE, ↓reduceIte, Nat.reduceAdd, Nat.reduceSub, Nat.reduceMul, Nat.reduceEqDiff, Nat.reduceLeDiff, Nat.reduceLT, Int.reduceLT, Int.reduceLE, Int.reduceEq, Int.reduceNe, Int.reduceToNat, Int.reduceAdd, Int.reduceSub, reduceCtorEq, Nat.reduceBEq, Nat.reduceBNe, ansLLa, hg4]
        exact hK _ _ _ ⟨f, nn, by rw [he]; exact hg4⟩ g4 (by simp only [AV.pure, rowsRec_pure]) rfl (by simp only [AV.pure, rowsLa_pure]) rfl
      · simp only [he3, and_false, if_false] at hK
        simp only [F5_app, Z63, base1, baseE, ↓reduceIte, Nat.reduceAdd, Nat.reduceSub, Nat.reduceMul, Nat.reduceEqDiff, Nat.reduceLeDiff, Nat.reduceLT, Int.reduceLT, Int.reduceLE, Int.reduceEq, Int.reduceNe, Int.reduceToNat, Int.reduceAdd, Int.reduceSub, reduceCtorEq, Nat.reduceBEq, Nat.reduceBNe, ansLLa, hg4, si, he3]
        exact hK _ _ _ ⟨f, nn, si _⟩ (g4.trans Fr1.set) rfl rfl rfl rfl
    · simp only [he2, false_and, if_false] at hK
      simp only [F5_app, Z63, base1, baseE, ↓reduceIte, Nat.reduceAdd, Nat.reduceSub, Nat.reduceMul, Nat.reduceEqDiff, Nat.reduceLeDiff, Nat.reduceLT, Int.reduceLT, Int.reduceLE, Int.reduceEq, Int.reduceNe, Int.reduceToNat, Int.reduceAdd, Int.reduceSub, reduceCtorEq, Nat.reduceBEq, Nat.reduceBNe, ansLLa, hg4, si, he2]
      exact hK _ _ _ ⟨f, nn, si _⟩ (g4.trans Fr1.set) rfl rfl rfl rfl
  · simp only [if_neg he] at hK
    simp only [F5_app, Z63, base1, baseE, ↓reduceIte, Nat.reduceAdd, Nat.reduceSub, Nat.reduceMul, Nat.reduceEqDiff, Nat.reduceLeDiff, Nat.reduceLT, Int.reduceLT, Int.reduceLE, Int.reduceEq, Int.reduceNe, Int.reduceToNat, Int.reduceAdd, Int.reduceSub, reduceCtorEq, Nat.reduceBEq, Nat.reduceBNe, hg2, he]
    exact hK _ _ _ ⟨f, nn, hg2⟩ g2 rfl rfl rfl rfl
end Go.Proofs.Ytndlgmciplckjaa.note
