/- What ReadAsk and ReadReply answer, as functions of the bytes; lists that grow in the heap. No condition. -/
import Derived.Test.YtndlgmciplckjaaNRead
import Derived.Test.YtndlgmciplckjaaK33
set_option linter.unusedVariables false
set_option linter.unusedSimpArgs false
namespace Go.Proofs.Ytndlgmciplckjaa.note
open Go.ChangeShapes Go.WideShapes Go.ChangeAt Go.RowKit Go.Gz
section
variable {C : PCall} {n0 : Nat} {R : MExit → Env → AHeap → Prop} {k : Cont} {e : Env} {σ : AHeap}
abbrev r59_0 : List MOper := [⟨(some 2), .alloc [.int .i64 0, .int .i64 0, .int .i64 0, .str [], .str [], .str [], .str [], .int .i64 0], none⟩,
  ⟨(some 3), .move (.c (.int .i64 0)), none⟩]
def b59_0 : SCode := .region r59_0
abbrev r59_1 : List MOper := [⟨(some 7), .move (.t 0), none⟩,
  ⟨(some 8), .lenSl (.t 7), none⟩,
  ⟨(some 9), .bin .gtr .num (.t 8) (.c (.int .i64 32768)), none⟩]
def b59_1 : SCode := .region r59_1
abbrev r59_2 : List MOper := [⟨(some 10), .build [.int .i64 0, .int .i64 0, .int .i64 0, .str [], .str [], .str [], .str [], .int .i64 0] [], none⟩,
  ⟨none, .store 8 (.t 2) (.t 10), none⟩,
  ⟨(some 3), .move (.c (.int .i64 3)), none⟩]
def b59_2 : SCode := .region r59_2
def b59_3 : SCode := .seq b59_2 .ret
def b59_4 : SCode := .cond (.t 9) b59_3 .skip
def b59_5 : SCode := .seq b59_1 b59_4
abbrev r59_6 : List MOper := [⟨(some 11), .move (.t 0), none⟩,
  ⟨(some 12), .build [.nilslice, .int .i64 0] [(0, 1, (.t 11))], none⟩,
  ⟨(some 13), .box (.t 12), none⟩,
  ⟨(some 4), .move (.t 13), none⟩]
def b59_6 : SCode := .region r59_6
abbrev r59_7 : List MOper := [⟨(some 14), .move (.t 4), none⟩,
  ⟨(some 15), .call 27 [(.t 14)], none⟩,
  ⟨(some 16), .move (.t 4), none⟩,
  ⟨(some 17), .call 27 [(.t 16)], none⟩,
  ⟨(some 18), .move (.t 4), none⟩,
  ⟨(some 19), .call 27 [(.t 18)], none⟩,
  ⟨(some 20), .move (.t 4), none⟩,
  ⟨(some 21), .call 27 [(.t 20)], none⟩,
  ⟨(some 22), .build [.int .i64 0, .int .i64 0, .int .i64 0, .str [], .str [], .str [], .str [], .int .i64 0] [(0, 1, (.t 15)), (1, 1, (.t 17)), (2, 1, (.t 19)), (7, 1, (.t 21))], none⟩,
  ⟨(some 5), .alloc [.int .i64 0, .int .i64 0, .int .i64 0, .str [], .str [], .str [], .str [], .int .i64 0], none⟩,
  ⟨none, .store 8 (.t 5) (.t 22), none⟩]
def b59_7 : SCode := .region r59_7
abbrev r59_8 : List MOper := [⟨(some 23), .move (.t 4), none⟩,
  ⟨(some 24), .call 60 [(.t 23)], none⟩,
  ⟨(some 25), .move (.t 4), none⟩,
  ⟨(some 26), .call 60 [(.t 25)], none⟩,
  ⟨(some 27), .move (.t 4), none⟩,
  ⟨(some 28), .call 60 [(.t 27)], none⟩,
  ⟨(some 29), .move (.t 4), none⟩,
  ⟨(some 30), .call 60 [(.t 29)], none⟩,
  ⟨(some 31), .fieldAddr 3 (.t 5), none⟩,
  ⟨none, .store 1 (.t 31) (.t 24), none⟩,
  ⟨(some 32), .fieldAddr 4 (.t 5), none⟩,
  ⟨none, .store 1 (.t 32) (.t 26), none⟩,
  ⟨(some 33), .fieldAddr 5 (.t 5), none⟩,
  ⟨none, .store 1 (.t 33) (.t 28), none⟩,
  ⟨(some 34), .fieldAddr 6 (.t 5), none⟩,
  ⟨none, .store 1 (.t 34) (.t 30), none⟩]
def b59_8 : SCode := .region r59_8
abbrev r59_9 : List MOper := [⟨(some 35), .move (.t 4), none⟩,
  ⟨(some 36), .call 28 [(.t 35)], none⟩,
  ⟨(some 6), .move (.t 36), none⟩]
def b59_9 : SCode := .region r59_9
abbrev r59_10 : List MOper := [⟨(some 37), .move (.t 6), none⟩,
  ⟨(some 38), .bin .neq .num (.t 37) (.c (.int .i64 0)), none⟩]
def b59_10 : SCode := .region r59_10
abbrev r59_11 : List MOper := [⟨(some 39), .build [.int .i64 0, .int .i64 0, .int .i64 0, .str [], .str [], .str [], .str [], .int .i64 0] [], none⟩,
  ⟨(some 40), .move (.t 6), none⟩,
  ⟨none, .store 8 (.t 2) (.t 39), none⟩,
  ⟨(some 3), .move (.t 40), none⟩]
def b59_11 : SCode := .region r59_11
def b59_12 : SCode := .seq b59_11 .ret
def b59_13 : SCode := .cond (.t 38) b59_12 .skip
def b59_14 : SCode := .seq b59_10 b59_13
def b59_15 : SCode := .seq b59_9 b59_14
abbrev r59_16 : List MOper := [⟨(some 41), .loadN 8 (.t 5), none⟩,
  ⟨none, .store 8 (.t 2) (.t 41), none⟩,
  ⟨(some 3), .move (.c (.int .i64 0)), none⟩]
def b59_16 : SCode := .region r59_16
def b59_17 : SCode := .seq b59_16 .ret
def b59_18 : SCode := .seq b59_15 b59_17
def b59_19 : SCode := .seq b59_8 b59_18
def b59_20 : SCode := .seq b59_7 b59_19
def b59_21 : SCode := .seq b59_6 b59_20
def b59_22 : SCode := .seq b59_5 b59_21
def b59_23 : SCode := .seq b59_0 b59_22
def s59 : SFunc := ⟨42, [.cN 2 8, .t 3], b59_23⟩
theorem c59 : sFn Try.prog 59 = some s59 := by kernel_rfl
theorem Z59 : XR b59_0 r59_0 ∧ XR b59_1 r59_1 ∧ XR b59_2 r59_2 ∧ XS b59_3 b59_2 .ret ∧ XC b59_4 (.t 9) b59_3 .skip ∧ XS b59_5 b59_1 b59_4 ∧ XR b59_6 r59_6 ∧ XR b59_7 r59_7 ∧ XR b59_8 r59_8 ∧ XR b59_9 r59_9 ∧ XR b59_10 r59_10 ∧ XR b59_11 r59_11 ∧ XS b59_12 b59_11 .ret ∧ XC b59_13 (.t 38) b59_12 .skip ∧ XS b59_14 b59_10 b59_13 ∧ XS b59_15 b59_9 b59_14 ∧ XR b59_16 r59_16 ∧ XS b59_17 b59_16 .ret ∧ XS b59_18 b59_15 b59_17 ∧ XS b59_19 b59_8 b59_18 ∧ XS b59_20 b59_7 b59_19 ∧ XS b59_21 b59_6 b59_20 ∧ XS b59_22 b59_5 b59_21 ∧ XS b59_23 b59_0 b59_22 ∧ XY s59 42 b59_23 [.cN 2 8, .t 3] := ⟨rfl, rfl, rfl, rfl, sC_cond, rfl, rfl, rfl, rfl, rfl, rfl, rfl, rfl, sC_cond, rfl, rfl, rfl, rfl, rfl, rfl, rfl, rfl, rfl, rfl, rfl⟩
abbrev r61_0 : List MOper := [⟨(some 2), .alloc [.int .i64 0, .int .i64 0, .int .i64 0, .bool false, .str [], .nilslice, .str [], .bool false], none⟩,
  ⟨(some 3), .move (.c (.int .i64 0)), none⟩]
def b61_0 : SCode := .region r61_0
abbrev r61_1 : List MOper := [⟨(some 8), .move (.t 0), none⟩,
  ⟨(some 9), .lenSl (.t 8), none⟩,
  ⟨(some 10), .bin .gtr .num (.t 9) (.c (.int .i64 32768)), none⟩]
def b61_1 : SCode := .region r61_1
abbrev r61_2 : List MOper := [⟨(some 11), .build [.int .i64 0, .int .i64 0, .int .i64 0, .bool false, .str [], .nilslice, .str [], .bool false] [], none⟩,
  ⟨none, .store 8 (.t 2) (.t 11), none⟩,
  ⟨(some 3), .move (.c (.int .i64 3)), none⟩]
def b61_2 : SCode := .region r61_2
def b61_3 : SCode := .seq b61_2 .ret
def b61_4 : SCode := .cond (.t 10) b61_3 .skip
def b61_5 : SCode := .seq b61_1 b61_4
abbrev r61_6 : List MOper := [⟨(some 12), .move (.t 0), none⟩,
  ⟨(some 13), .build [.nilslice, .int .i64 0] [(0, 1, (.t 12))], none⟩,
  ⟨(some 14), .box (.t 13), none⟩,
  ⟨(some 4), .move (.t 14), none⟩]
def b61_6 : SCode := .region r61_6
abbrev r61_7 : List MOper := [⟨(some 15), .move (.t 4), none⟩,
  ⟨(some 16), .call 27 [(.t 15)], none⟩,
  ⟨(some 17), .move (.t 4), none⟩,
  ⟨(some 18), .call 27 [(.t 17)], none⟩,
  ⟨(some 19), .move (.t 4), none⟩,
  ⟨(some 20), .call 27 [(.t 19)], none⟩,
  ⟨(some 21), .move (.t 4), none⟩,
  ⟨(some 22), .call 81 [(.t 21)], none⟩,
  ⟨(some 23), .move (.t 4), none⟩,
  ⟨(some 24), .call 60 [(.t 23)], none⟩,
  ⟨(some 25), .build [.int .i64 0, .int .i64 0, .int .i64 0, .bool false, .str [], .nilslice, .str [], .bool false] [(0, 1, (.t 16)), (1, 1, (.t 18)), (2, 1, (.t 20)), (3, 1, (.t 22)), (4, 1, (.t 24))], none⟩,
  ⟨(some 5), .alloc [.int .i64 0, .int .i64 0, .int .i64 0, .bool false, .str [], .nilslice, .str [], .bool false], none⟩,
  ⟨none, .store 8 (.t 5) (.t 25), none⟩]
def b61_7 : SCode := .region r61_7
abbrev r61_8 : List MOper := [⟨(some 26), .move (.t 4), none⟩,
  ⟨(some 27), .call 27 [(.t 26)], none⟩,
  ⟨(some 6), .move (.t 27), none⟩]
def b61_8 : SCode := .region r61_8
abbrev r61_9 : List MOper := [⟨(some 28), .move (.t 6), none⟩,
  ⟨(some 29), .bin .gtr .num (.t 28) (.c (.int .i64 0)), none⟩,
  ⟨(some 30), .move (.t 29), none⟩,
  ⟨(some 31), .move (.t 4), (some (30, true))⟩,
  ⟨(some 32), .nilCheck (.t 31), (some (30, true))⟩,
  ⟨(some 33), .fieldAddr 1 (.t 32), (some (30, true))⟩,
  ⟨(some 34), .load1 (.t 33), (some (30, true))⟩,
  ⟨(some 35), .bin .eql .num (.t 34) (.c (.int .i64 0)), (some (30, true))⟩,
  ⟨(some 36), .pick (.t 30) (.t 35) (.c (.bool false)), none⟩]
def b61_9 : SCode := .region r61_9
def b61_10 : SCode := .cond (.t 36) .skip (.exit 0)
def b61_11 : SCode := .seq b61_9 b61_10
abbrev t61_12 : LTree := (.quiet ⟨(some 39), .fieldAddr 5 (.t 5), none⟩ 0
  (.quiet ⟨(some 40), .load1 (.t 39), none⟩ 1
  (.quiet ⟨(some 41), .move (.t 4), none⟩ 2
  (.quiet ⟨(some 43), .move (.t 4), none⟩ 4
  (.loud ⟨(some 42), .call 60 [(.t 41)], none⟩ [1]
  (.loud ⟨(some 44), .call 60 [(.t 43)], none⟩ [1]
  (.quiet ⟨(some 45), .build [.str [], .str []] [(0, 1, (.t 42)), (1, 1, (.t 44))], none⟩ 6
  (.loud ⟨(some 46), .buildSlice [.str [], .str []] 2 1 [(0, 2, (.t 45))], none⟩ [1]
  (.loud ⟨(some 47), .append 2 32 (.t 40) (.t 46), none⟩ []
  (.quiet ⟨(some 48), .fieldAddr 5 (.t 5), none⟩ 9
  (.loud ⟨none, .store 1 (.t 48) (.t 47), none⟩ []
  .leaf .stop)) .stop) .stop)) .stop) .stop)))))
def b61_12 : SCode := .draw t61_12
def b61_13 : SCode := .block 1 b61_12
abbrev r61_14 : List MOper := [⟨(some 37), .move (.t 6), none⟩,
  ⟨(some 38), .bin .sub .num (.t 37) (.c (.int .i64 1)), none⟩,
  ⟨(some 6), .move (.t 38), none⟩]
def b61_14 : SCode := .region r61_14
def b61_15 : SCode := .seq b61_13 b61_14
def b61_16 : SCode := .seq b61_11 b61_15
def b61_17 : SCode := .loop b61_16
def b61_18 : SCode := .block 0 b61_17
def b61_19 : SCode := .seq b61_8 b61_18
abbrev r61_20 : List MOper := [⟨(some 49), .move (.t 4), none⟩,
  ⟨(some 50), .call 60 [(.t 49)], none⟩,
  ⟨(some 51), .move (.t 4), none⟩,
  ⟨(some 52), .call 81 [(.t 51)], none⟩,
  ⟨(some 53), .fieldAddr 6 (.t 5), none⟩,
  ⟨none, .store 1 (.t 53) (.t 50), none⟩,
  ⟨(some 54), .fieldAddr 7 (.t 5), none⟩,
  ⟨none, .store 1 (.t 54) (.t 52), none⟩]
def b61_20 : SCode := .region r61_20
abbrev r61_21 : List MOper := [⟨(some 55), .move (.t 4), none⟩,
  ⟨(some 56), .call 28 [(.t 55)], none⟩,
  ⟨(some 7), .move (.t 56), none⟩]
def b61_21 : SCode := .region r61_21
abbrev r61_22 : List MOper := [⟨(some 57), .move (.t 7), none⟩,
  ⟨(some 58), .bin .neq .num (.t 57) (.c (.int .i64 0)), none⟩]
def b61_22 : SCode := .region r61_22
abbrev r61_23 : List MOper := [⟨(some 59), .build [.int .i64 0, .int .i64 0, .int .i64 0, .bool false, .str [], .nilslice, .str [], .bool false] [], none⟩,
  ⟨(some 60), .move (.t 7), none⟩,
  ⟨none, .store 8 (.t 2) (.t 59), none⟩,
  ⟨(some 3), .move (.t 60), none⟩]
def b61_23 : SCode := .region r61_23
def b61_24 : SCode := .seq b61_23 .ret
def b61_25 : SCode := .cond (.t 58) b61_24 .skip
def b61_26 : SCode := .seq b61_22 b61_25
def b61_27 : SCode := .seq b61_21 b61_26
abbrev r61_28 : List MOper := [⟨(some 61), .loadN 8 (.t 5), none⟩,
  ⟨none, .store 8 (.t 2) (.t 61), none⟩,
  ⟨(some 3), .move (.c (.int .i64 0)), none⟩]
def b61_28 : SCode := .region r61_28
def b61_29 : SCode := .seq b61_28 .ret
def b61_30 : SCode := .seq b61_27 b61_29
def b61_31 : SCode := .seq b61_20 b61_30
def b61_32 : SCode := .seq b61_19 b61_31
def b61_33 : SCode := .seq b61_7 b61_32
def b61_34 : SCode := .seq b61_6 b61_33
def b61_35 : SCode := .seq b61_5 b61_34
def b61_36 : SCode := .seq b61_0 b61_35
def s61 : SFunc := ⟨62, [.cN 2 8, .t 3], b61_36⟩
theorem c61 : sFn Try.prog 61 = some s61 := by kernel_rfl
theorem x61_20 : XR b61_20 r61_20 := rfl
theorem x61_31 : XS b61_31 b61_20 b61_30 := rfl
theorem Z61 : XR b61_0 r61_0 ∧ XR b61_1 r61_1 ∧ XR b61_2 r61_2 ∧ XS b61_3 b61_2 .ret ∧ XC b61_4 (.t 10) b61_3 .skip ∧ XS b61_5 b61_1 b61_4 ∧ XR b61_6 r61_6 ∧ XR b61_7 r61_7 ∧ XR b61_8 r61_8 ∧ XR b61_9 r61_9 ∧ XC b61_10 (.t 36) .skip (.exit 0) ∧ XS b61_11 b61_9 b61_10 ∧ XT b61_12 t61_12 ∧ XB b61_13 1 b61_12 ∧ XR b61_14 r61_14 ∧ XS b61_15 b61_13 b61_14 ∧ XS b61_16 b61_11 b61_15 ∧ XB b61_18 0 b61_17 ∧ XS b61_19 b61_8 b61_18 ∧ XR b61_21 r61_21 ∧ XR b61_22 r61_22 ∧ XR b61_23 r61_23 ∧ XS b61_24 b61_23 .ret ∧ XC b61_25 (.t 58) b61_24 .skip ∧ XS b61_26 b61_22 b61_25 ∧ XS b61_27 b61_21 b61_26 ∧ XR b61_28 r61_28 ∧ XS b61_29 b61_28 .ret ∧ XS b61_30 b61_27 b61_29 ∧ XS b61_32 b61_19 b61_31 ∧ XS b61_33 b61_7 b61_32 ∧ XS b61_34 b61_6 b61_33 ∧ XS b61_35 b61_5 b61_34 ∧ XS b61_36 b61_0 b61_35 ∧ XY s61 62 b61_36 [.cN 2 8, .t 3] := ⟨rfl, rfl, rfl, rfl, sC_cond, rfl, rfl, rfl, rfl, rfl, sC_cond, rfl, rfl, rfl, rfl, rfl, rfl, rfl, rfl, rfl, rfl, rfl, rfl, sC_cond, rfl, rfl, rfl, rfl, rfl, rfl, rfl, rfl, rfl, rfl, rfl⟩

end
set_option maxHeartbeats 4000000
set_option maxRecDepth 10000
abbrev St := List UInt8 × Int
def stN (s : St) : St := ((rdNum s.1 s.2).2.1, (rdNum s.1 s.2).2.2)
def stT (s : St) : St := ((rdText s.1 s.2).2.1, (rdText s.1 s.2).2.2)
def stB (s : St) : St := ((rdTruth s.1 s.2).2.1, (rdTruth s.1 s.2).2.2)
def vN (s : St) : Int := (rdNum s.1 s.2).1
def vT (s : St) : List UInt8 := (rdText s.1 s.2).1
def vB (s : St) : Bool := (rdTruth s.1 s.2).1
def AskV.zero : AskV := ⟨0, 0, 0, [], [], [], [], 0⟩
def RepV.zero : RepV := ⟨0, 0, 0, false, [], [], [], false⟩
def readAskG (s0 s1 s2 s3 s4 s5 s6 s7 s8 : St) : AskV × Int := if rdEnd s8.1 s8.2 = 0 then (⟨vN s0, vN s1, vN s2, vT s4, vT s5, vT s6, vT s7, vN s3⟩, 0) else (AskV.zero, rdEnd s8.1 s8.2)
def readAskF (s0 : St) : AskV × Int := readAskG s0 (stN s0) (stN (stN s0)) (stN (stN (stN s0))) (stN (stN (stN (stN s0)))) (stT (stN (stN (stN (stN s0))))) (stT (stT (stN (stN (stN (stN s0)))))) (stT (stT (stT (stN (stN (stN (stN s0))))))) (stT (stT (stT (stT (stN (stN (stN (stN s0))))))))
def readAsk (bs : List UInt8) : AskV × Int := if 32768 < bs.length then (AskV.zero, 3) else readAskF (bs, 0)
def F3 : PCall := rowQ 27 numRD (rowQ 60 textRD (rowQ 28 endRD (rowQ 81 truthRD noCall)))
theorem F3_app {f : FuncId} {args : List AV} {σ : AHeap} {K : AV → AHeap → Prop} : F3 f args σ K = rowQ 27 numRD (rowQ 60 textRD (rowQ 28 endRD (rowQ 81 truthRD noCall))) f args σ K := _root_.id rfl
theorem F3_sound : Sound Try.prog F3 := rowQ_sound numRD_ok (rowQ_sound textRD_ok (rowQ_sound endRD_ok (rowQ_sound truthRD_ok (noCall_sound _))))
theorem rd_alloc {σ : AHeap} {id : Nat} {rem : List UInt8} {e : Int} {c d : List AV} (h : RdS σ id rem e) : RdS (hset (hpush σ c) σ.length d) id rem e := by
  obtain ⟨f, nn, hg⟩ := h
  have := hget_lt hg
  exact ⟨f, nn, by rw [set_other (by omega)]; exact push_old hg⟩
theorem al_frame {σ : AHeap} {j : Nat} {x c d : List AV} (h : hget σ j = some x) : hget (hset (hpush σ c) σ.length d) j = some x := by
  have := hget_lt h
  rw [set_other (by omega)]; exact push_old h
theorem set_set {σ : AHeap} {j : Nat} {c d : List AV} : hset (hset σ j c) j d = hset σ j d := by simp [hset]
theorem rd_set {σ : AHeap} {id j : Nat} {rem : List UInt8} {e : Int} {d : List AV} (h : RdS σ id rem e) (hj : j ≠ id) : RdS (hset σ j d) id rem e := by
  obtain ⟨f, nn, hg⟩ := h
  exact ⟨f, nn, by rw [set_other hj]; exact hg⟩
theorem rd_push {σ : AHeap} {id : Nat} {rem : List UInt8} {e : Int} {c : List AV} (h : RdS σ id rem e) : RdS (hpush σ c) id rem e := by
  obtain ⟨f, nn, hg⟩ := h
  exact ⟨f, nn, push_old hg⟩
def ansA (p : AskV × Int) : AV := .tuple [.agg p.1.cells, .int .i64 p.2]
theorem ansA_mk (a b c : Int) (t v f o : List UInt8) (l e : Int) : ansA (⟨a, b, c, t, v, f, o, l⟩, e) = .tuple [.agg [.int .i64 a, .int .i64 b, .int .i64 c, .str t, .str v, .str f, .str o, .int .i64 l], .int .i64 e] := rfl
theorem ansA_pure (p : AskV × Int) : (ansA p).pure = true := rfl
theorem readAsk_ok (bs : List UInt8) : Tri Try.prog 59 [.imm (rws bs) false false] [] fun r _ => r.pure = true ∧ r = ansA (readAsk bs) := by
  refine Tri.frozen (Q := fun r _ => r = ansA (readAsk bs)) (Tri.of_s c59 F3_sound ?_) (fun r σ hr => ⟨r, .pure (by rw [hr]; exact ansA_pure _), by rw [hr]; exact ansA_pure _, hr⟩)
  generalize hK : (fun (r : AV) (_ : AHeap) => r = ansA (readAsk bs)) = K
  have hK : ∀ σ, K (ansA (readAsk bs)) σ := by intro σ; rw [← hK]
  by_cases hl : (32768 : Int) < (bs.length : Int)
  · have hn : readAsk bs = (AskV.zero, 3) := by unfold readAsk; rw [if_pos (by omega)]
    rw [hn] at hK
    simp only [F3_app, Z59, base1, baseE, ↓reduceIte, Nat.reduceAdd, Nat.reduceSub, Nat.reduceMul, Nat.reduceEqDiff, Nat.reduceLeDiff, Nat.reduceLT, Int.reduceLT, Int.reduceLE, Int.reduceEq, Int.reduceNe, Int.reduceToNat, Int.reduceAdd, Int.reduceSub, reduceCtorEq, Nat.reduceBEq, Nat.reduceBNe, rws_len, hl]
    exact hK _
  have hn : readAsk bs = readAskF (bs, 0) := by unfold readAsk; rw [if_neg (by omega)]
  rw [hn] at hK
  simp only [F3_app, Z59, base1, baseE, ↓reduceIte, Nat.reduceAdd, Nat.reduceSub, Nat.reduceMul, Nat.reduceEqDiff, Nat.reduceLeDiff, Nat.reduceLT, Int.reduceLT, Int.reduceLE, Int.reduceEq, Int.reduceNe, Int.reduceToNat, Int.reduceAdd, Int.reduceSub, reduceCtorEq, Nat.reduceBEq, Nat.reduceBNe, rws_len, hl]
  refine ⟨1, bs, 0, rfl, ⟨false, false, rfl⟩, fun σ1 r1 f1 => ?_⟩
  have b1 := f1 0 _ rfl (by decide)
  have r1 : RdS σ1 1 (stN (bs, 0)).1 (stN (bs, 0)).2 := r1
  unfold readAskF at hK
  have v0 : (rdNum bs 0).1 = vN (bs, 0) := rfl
  rw [v0]
  generalize stN (bs, 0) = s1 at r1 hK ⊢
  generalize ((bs, 0) : St) = s0 at hK ⊢
  simp only [F3_app, Z59, base1, baseE, ↓reduceIte, Nat.reduceAdd, Nat.reduceSub, Nat.reduceMul, Nat.reduceEqDiff, Nat.reduceLeDiff, Nat.reduceLT, Int.reduceLT, Int.reduceLE, Int.reduceEq, Int.reduceNe, Int.reduceToNat, Int.reduceAdd, Int.reduceSub, reduceCtorEq, Nat.reduceBEq, Nat.reduceBNe]
  refine ⟨1, _, _, rfl, r1, fun σ2 r2 f2 => ?_⟩
  have b2 := f2 0 _ b1 (by decide)
  have r2 : RdS σ2 1 (stN s1).1 (stN s1).2 := r2
  generalize stN s1 = s2 at r2 hK ⊢
  have v1 : (rdNum s1.1 s1.2).1 = vN s1 := rfl
  rw [v1]
  simp only [F3_app, Z59, base1, baseE, ↓reduceIte, Nat.reduceAdd, Nat.reduceSub, Nat.reduceMul, Nat.reduceEqDiff, Nat.reduceLeDiff, Nat.reduceLT, Int.reduceLT, Int.reduceLE, Int.reduceEq, Int.reduceNe, Int.reduceToNat, Int.reduceAdd, Int.reduceSub, reduceCtorEq, Nat.reduceBEq, Nat.reduceBNe]
  refine ⟨1, _, _, rfl, r2, fun σ3 r3 f3 => ?_⟩
  have b3 := f3 0 _ b2 (by decide)
  have r3 : RdS σ3 1 (stN s2).1 (stN s2).2 := r3
  generalize stN s2 = s3 at r3 hK ⊢
  have v2 : (rdNum s2.1 s2.2).1 = vN s2 := rfl
  rw [v2]
  simp only [F3_app, Z59, base1, baseE, ↓reduceIte, Nat.reduceAdd, Nat.reduceSub, Nat.reduceMul, Nat.reduceEqDiff, Nat.reduceLeDiff, Nat.reduceLT, Int.reduceLT, Int.reduceLE, Int.reduceEq, Int.reduceNe, Int.reduceToNat, Int.reduceAdd, Int.reduceSub, reduceCtorEq, Nat.reduceBEq, Nat.reduceBNe]
  refine ⟨1, _, _, rfl, r3, fun σ4 r4 f4 => ?_⟩
  have b4 := f4 0 _ b3 (by decide)
  have r4 : RdS σ4 1 (stN s3).1 (stN s3).2 := r4
  generalize stN s3 = s4 at r4 hK ⊢
  have v3 : (rdNum s3.1 s3.2).1 = vN s3 := rfl
  rw [v3]
  have l4 : 1 < σ4.length := by obtain ⟨f, nn, hg⟩ := r4; exact hget_lt hg
  have pn : ∀ c : List AV, hget (hpush σ4 c) σ4.length = some c := fun c => push_new rfl
  simp only [F3_app, Z59, base1, baseE, ↓reduceIte, Nat.reduceAdd, Nat.reduceSub, Nat.reduceMul, Nat.reduceEqDiff, Nat.reduceLeDiff, Nat.reduceLT, Int.reduceLT, Int.reduceLE, Int.reduceEq, Int.reduceNe, Int.reduceToNat, Int.reduceAdd, Int.reduceSub, reduceCtorEq, Nat.reduceBEq, Nat.reduceBNe, pn]
  refine ⟨1, _, _, rfl, rd_alloc r4, fun σ6 r6 f6 => ?_⟩
  have b6 := f6 0 _ (al_frame b4) (by decide)
  have c6 := f6 σ4.length _ (set_same (pn _)) (by omega)
  have r6 : RdS σ6 1 (stT s4).1 (stT s4).2 := r6
  generalize stT s4 = s5 at r6 hK ⊢
  have v4 : (rdText s4.1 s4.2).1 = vT s4 := rfl
  rw [v4]
  simp only [F3_app, Z59, base1, baseE, ↓reduceIte, Nat.reduceAdd, Nat.reduceSub, Nat.reduceMul, Nat.reduceEqDiff, Nat.reduceLeDiff, Nat.reduceLT, Int.reduceLT, Int.reduceLE, Int.reduceEq, Int.reduceNe, Int.reduceToNat, Int.reduceAdd, Int.reduceSub, reduceCtorEq, Nat.reduceBEq, Nat.reduceBNe]
  refine ⟨1, _, _, rfl, r6, fun σ7 r7 f7 => ?_⟩
  have b7 := f7 0 _ b6 (by decide)
  have c7 := f7 σ4.length _ c6 (by omega)
  have r7 : RdS σ7 1 (stT s5).1 (stT s5).2 := r7
  generalize stT s5 = s6 at r7 hK ⊢
  have v5 : (rdText s5.1 s5.2).1 = vT s5 := rfl
  rw [v5]
  simp only [F3_app, Z59, base1, baseE, ↓reduceIte, Nat.reduceAdd, Nat.reduceSub, Nat.reduceMul, Nat.reduceEqDiff, Nat.reduceLeDiff, Nat.reduceLT, Int.reduceLT, Int.reduceLE, Int.reduceEq, Int.reduceNe, Int.reduceToNat, Int.reduceAdd, Int.reduceSub, reduceCtorEq, Nat.reduceBEq, Nat.reduceBNe]
  refine ⟨1, _, _, rfl, r7, fun σ8 r8 f8 => ?_⟩
  have b8 := f8 0 _ b7 (by decide)
  have c8 := f8 σ4.length _ c7 (by omega)
  have r8 : RdS σ8 1 (stT s6).1 (stT s6).2 := r8
  generalize stT s6 = s7 at r8 hK ⊢
  have v6 : (rdText s6.1 s6.2).1 = vT s6 := rfl
  rw [v6]
  simp only [F3_app, Z59, base1, baseE, ↓reduceIte, Nat.reduceAdd, Nat.reduceSub, Nat.reduceMul, Nat.reduceEqDiff, Nat.reduceLeDiff, Nat.reduceLT, Int.reduceLT, Int.reduceLE, Int.reduceEq, Int.reduceNe, Int.reduceToNat, Int.reduceAdd, Int.reduceSub, reduceCtorEq, Nat.reduceBEq, Nat.reduceBNe]
  refine ⟨1, _, _, rfl, r8, fun σ9 r9 f9 => ?_⟩
  have b9 := f9 0 _ b8 (by decide)
  have c9 := f9 σ4.length _ c8 (by omega)
  have r9 : RdS σ9 1 (stT s7).1 (stT s7).2 := r9
  generalize stT s7 = s8 at r9 hK ⊢
  have v7 : (rdText s7.1 s7.2).1 = vT s7 := rfl
  rw [v7]
  generalize σ4.length = L at c9 l4
  have hL0 : ¬ L = 0 := by omega
  have hL1 : ¬ L = 1 := by omega
  have ss : ∀ (d : List AV), hget (hset σ9 L d) L = some d := fun d => set_same c9
  simp only [F3_app, Z59, base1, baseE, ↓reduceIte, Nat.reduceAdd, Nat.reduceSub, Nat.reduceMul, Nat.reduceEqDiff, Nat.reduceLeDiff, Nat.reduceLT, Int.reduceLT, Int.reduceLE, Int.reduceEq, Int.reduceNe, Int.reduceToNat, Int.reduceAdd, Int.reduceSub, reduceCtorEq, Nat.reduceBEq, Nat.reduceBNe, c9, ss, set_set]
  refine ⟨1, s8.1, s8.2, rfl, rd_set r9 hL1, fun σ10 f10 => ?_⟩
  have b10 := f10 0 _ (by rw [set_other hL0]; exact b9) (by decide)
  have c10 := f10 L _ (ss _) hL1
  have s0' : ∀ (d : List AV), hget (hset σ10 0 d) 0 = some d := fun d => set_same b10
  unfold readAskG at hK
  generalize rdEnd s8.1 s8.2 = E at hK ⊢
  by_cases hE : E = 0
  · subst hE
    simp only [if_true, ansA_mk] at hK
    simp only [F3_app, Z59, base1, baseE, ↓reduceIte, Nat.reduceAdd, Nat.reduceSub, Nat.reduceMul, Nat.reduceEqDiff, Nat.reduceLeDiff, Nat.reduceLT, Int.reduceLT, Int.reduceLE, Int.reduceEq, Int.reduceNe, Int.reduceToNat, Int.reduceAdd, Int.reduceSub, reduceCtorEq, Nat.reduceBEq, Nat.reduceBNe, c10, b10, s0']
    exact hK _
  · simp only [if_neg hE] at hK
    simp only [F3_app, Z59, base1, baseE, ↓reduceIte, Nat.reduceAdd, Nat.reduceSub, Nat.reduceMul, Nat.reduceEqDiff, Nat.reduceLeDiff, Nat.reduceLT, Int.reduceLT, Int.reduceLE, Int.reduceEq, Int.reduceNe, Int.reduceToNat, Int.reduceAdd, Int.reduceSub, reduceCtorEq, Nat.reduceBEq, Nat.reduceBNe, c10, b10, s0', hE]
    exact hK _
/-! A list that grows. -/
/-- In the heap: nil, or a block of its own, of rows of w cells each. -/
def Grow (σ : AHeap) (Lv : AV) (w : Nat) (rows : List (List AV)) : Prop :=
  (Lv = .nilslice ∧ rows = []) ∨ ∃ d, Lv = .slice d 0 rows.length none w ∧ hget σ d = some rows.flatten ∧ (∀ r ∈ rows, r.length = w) ∧ rows.flatten.all (fun x => x.isCell) = true
def LvD : AV → Option Nat
  | .slice d _ _ _ _ => some d
  | _ => none
theorem flat_len {w : Nat} : ∀ {rows : List (List AV)}, (∀ r ∈ rows, r.length = w) → rows.flatten.length = rows.length * w
  | [], _ => by simp
  | r :: rs, h => by
    have := flat_len (rows := rs) (w := w) fun q hq => h q (by simp [hq])
    simp only [List.flatten_cons, List.length_append, List.length_cons, this, h r (by simp), Nat.add_mul]; omega
theorem grow_cell {σ : AHeap} {Lv : AV} {w : Nat} {rows : List (List AV)} (h : Grow σ Lv w rows) : Lv.isCell = true := by
  rcases h with ⟨rfl, _⟩ | ⟨d, rfl, _⟩ <;> rfl
theorem grow_len {σ : AHeap} {Lv : AV} {w : Nat} {rows : List (List AV)} (h : Grow σ Lv w rows) : lenOf Lv = some rows.length := by
  rcases h with ⟨rfl, rfl⟩ | ⟨d, rfl, _⟩ <;> rfl
theorem grow_old {σ : AHeap} {Lv : AV} {w : Nat} {rows : List (List AV)} (h : Grow σ Lv w rows) : ∀ d, LvD Lv = some d → d < σ.length := by
  rcases h with ⟨rfl, rfl⟩ | ⟨d, rfl, h, _⟩
  · intro d h; cases h
  · intro d' h'; cases h'; exact hget_lt h
theorem grow_frame {σ τ : AHeap} {Lv : AV} {w : Nat} {rows : List (List AV)} (h : Grow σ Lv w rows) (hf : ∀ j c, hget σ j = some c → LvD Lv = some j → hget τ j = some c) : Grow τ Lv w rows := by
  rcases h with ⟨rfl, h⟩ | ⟨d, rfl, h1, h2, h3⟩
  · exact .inl ⟨rfl, h⟩
  · exact .inr ⟨d, rfl, hf d _ h1 rfl, h2, h3⟩
theorem grow_any {σ : AHeap} {Lv x : AV} {w b : Nat} {rows ys : List (List AV)} (hb : b ≤ 1000) (h : Grow σ Lv w rows) (hk : rows.length + ys.length ≤ 1000000000) (he : elemsOf σ w x = some ys.flatten) (hl : lenOf x = some ys.length) (hw : ∀ r ∈ ys, r.length = w) (hc : ys.flatten.all (fun x => x.isCell) = true) :
    ∃ v τ, evAppend w b Lv x σ = some (v, τ) ∧ v.isCell = true ∧ v.cells? = some [v] ∧ (∀ j c, hget σ j = some c → LvD Lv ≠ some j → hget τ j = some c ∧ LvD v ≠ some j) ∧ Grow τ v w (rows ++ ys) := by
  have hgr : mayGrow (rows.length + ys.length) b = true := by
    simp only [mayGrow, decide_eq_true_eq]
    have : (2 * (rows.length + ys.length) + 768) * b ≤ (2 * (rows.length + ys.length) + 768) * 1000 := Nat.mul_le_mul_left _ hb
    omega
  have l0 := grow_len h
  rcases h with ⟨rfl, rfl⟩ | ⟨d, rfl, hg, hlen, hall⟩
  · by_cases hy : ys.length = 0
    · have : ys = [] := List.length_eq_zero_iff.1 hy
      subst this
      refine ⟨.nilslice, σ, ?_, rfl, rfl, fun j c hj _ => ⟨hj, by simp [LvD]⟩, .inl ⟨rfl, rfl⟩⟩
      simp only [List.length_nil] at hgr
      simp only [evAppend, he, hl, l0, hc, List.length_nil, hgr, Bool.and_self, if_true]
    · refine ⟨.slice σ.length 0 ys.length none w, hpush σ ys.flatten, ?_, rfl, rfl, fun j c hj _ => ⟨push_old hj, ?_⟩, .inr ⟨σ.length, rfl, push_new rfl, hw, hc⟩⟩
      · simp only [evAppend, he, hl, l0, hgr, hc, Bool.and_self, if_true, if_neg hy, grown]
      · have := hget_lt hj
        simp only [LvD, ne_eq, Option.some.injEq]; omega
  · have ho : elemsOf σ w (.slice d 0 rows.length none w) = some rows.flatten := by
      simp only [elemsOf, if_true, hg, Option.bind_some]
      exact sub_all (flat_len hlen).symm
    refine ⟨.slice σ.length 0 (rows.length + ys.length) none w, hpush (hkill σ d) (rows.flatten ++ ys.flatten), ?_, rfl, rfl, fun j c hj hn => ⟨push_old (by rw [kill_other (fun e => hn (by rw [LvD, e]))]; exact hj), ?_⟩, .inr ⟨σ.length, by simp, by rw [push_new (by simp [kill_len])]; simp, ?_, ?_⟩⟩
    · simp only [evAppend, he, hl, l0, hgr, hc, Bool.and_self, if_true, ho, Option.map_some, grown, kill_len]
    · have := hget_lt hj
      simp only [LvD, ne_eq, Option.some.injEq]; omega
    · intro r hr
      rcases List.mem_append.1 hr with h | h
      · exact hlen r h
      · exact hw r h
    · rw [List.flatten_append, List.all_append, hall, hc]; rfl
theorem grow_one {σ : AHeap} {Lv : AV} {w b : Nat} {rows : List (List AV)} (hb : b ≤ 1000) (h : Grow σ Lv w rows) (hk : rows.length < 1000000000) (row : List AV) (hw : row.length = w) (hc : row.all (fun x => x.isCell) = true) :
    ∃ v τ, evAppend w b Lv (.slice σ.length 0 1 (some 1) w) (hpush σ row) = some (v, τ) ∧ v.isCell = true ∧ v.cells? = some [v] ∧ (∀ j c, hget σ j = some c → LvD Lv ≠ some j → hget τ j = some c ∧ LvD v ≠ some j) ∧ Grow τ v w (rows ++ [row]) := by
  have he : elemsOf (hpush σ row) w (.slice σ.length 0 1 (some 1) w) = some [row].flatten := by
    simp only [elemsOf, if_true, push_new rfl, Option.bind_some]
    rw [show [row].flatten = row by simp]
    exact sub_all (by omega)
  have hg := grow_frame h (τ := hpush σ row) fun j c hj _ => push_old hj
  obtain ⟨v, τ, h1, h2, h3, h4, h5⟩ := grow_any hb hg (ys := [row]) (by simp; omega) he rfl (by simpa using hw) (by simpa using hc)
  exact ⟨v, τ, h1, h2, h3, fun j c hj hn => h4 j c (push_old hj) hn, h5⟩
theorem grow_frz {σ : AHeap} {Lv : AV} {w : Nat} {rows : List (List AV)} (h : Grow σ Lv w rows) (hp : pureLL rows = true) : Frz σ Lv (.imm rows false false) := by
  rcases h with ⟨rfl, rfl⟩ | ⟨d, rfl, hg, hlen, hall⟩
  · exact .nil
  · refine .slice hg (sub_all (flat_len hlen).symm) rfl hlen (fun i y z hy hz => ?_)
    rw [hy] at hz; cases hz
    obtain ⟨r, hr, hyr⟩ := List.mem_flatten.1 (List.mem_of_getElem? hy)
    exact .pure (pureL_all (pureLL_all hp r hr) y hyr)
/-! ReadReply. -/
def rdList : Nat → St → List (List UInt8 × List UInt8) → St × List (List UInt8 × List UInt8)
  | 0, s, acc => (s, acc)
  | k + 1, s, acc => if s.2 = 0 then rdList k (stT (stT s)) (acc ++ [(vT s, vT (stT s))]) else (s, acc)
def readReplyG (s0 s1 s2 s3 s4 s5 : St) (T : St × List (List UInt8 × List UInt8)) : RepV × Int :=
  if rdEnd (stB (stT T.1)).1 (stB (stT T.1)).2 = 0 then (⟨vN s0, vN s1, vN s2, vB s3, vT s4, T.2, vT T.1, vB (stT T.1)⟩, 0) else (RepV.zero, rdEnd (stB (stT T.1)).1 (stB (stT T.1)).2)
def readReplyF (s0 : St) : RepV × Int := readReplyG s0 (stN s0) (stN (stN s0)) (stN (stN (stN s0))) (stB (stN (stN (stN s0)))) (stT (stB (stN (stN (stN s0))))) (rdList (vN (stT (stB (stN (stN (stN s0)))))).toNat (stN (stT (stB (stN (stN (stN s0)))))) [])
def readReply (bs : List UInt8) : RepV × Int := if 32768 < bs.length then (RepV.zero, 3) else readReplyF (bs, 0)
abbrev z8 : List AV := [.int .i64 0, .int .i64 0, .int .i64 0, .bool false, .str [], .nilslice, .str [], .bool false]
def repL (y0 y1 y2 : Int) (y3 : Bool) (y4 : List UInt8) (Lv : AV) (y6 : List UInt8) (y7 : Bool) : List AV := [.int .i64 y0, .int .i64 y1, .int .i64 y2, .bool y3, .str y4, Lv, .str y6, .bool y7]
def rrI (T : St × List (List UInt8 × List UInt8)) (L : Nat) (x0 x1 x2 : Int) (x3 : Bool) (x4 : List UInt8) (n : Nat) (e : Env) (σ : AHeap) : Prop :=
  ∃ (s : St) (m : Nat) (acc : List (List UInt8 × List UInt8)) (Lv : AV), RdS σ 1 s.1 s.2 ∧ hget σ 0 = some z8 ∧ hget σ L = some [.int .i64 x0, .int .i64 x1, .int .i64 x2, .bool x3, .str x4, Lv, .str [], .bool false] ∧
    Grow σ Lv 2 (recs acc) ∧ LvD Lv ≠ some 0 ∧ LvD Lv ≠ some 1 ∧ LvD Lv ≠ some L ∧ m + acc.length ≤ 500000000 ∧ n = m ∧ rdList m s acc = T ∧ e 2 = .ptr 0 0 ∧ e 4 = .ptr 1 0 ∧ e 5 = .ptr L 0 ∧ e 6 = .int .i64 (m : Int)
def RepQ (p : RepV × Int) (r : AV) (σ : AHeap) : Prop := ∃ Lv, Grow σ Lv 2 (recs p.1.l) ∧ r = .tuple [.agg (repL p.1.client p.1.seq p.1.err p.1.found p.1.val Lv p.1.next p.1.more), .int .i64 p.2]
def ansR (p : RepV × Int) : AV := .tuple [.agg p.1.cells, .int .i64 p.2]
theorem recs_pure (l : List (List UInt8 × List UInt8)) : pureLL (recs l) = true := pureLL_of fun r hr => by
  obtain ⟨p, _, rfl⟩ := List.mem_map.1 hr
  rfl
theorem rep_pure (a : RepV) : (AV.agg a.cells).pure = true := by
  simp only [AV.pure, RepV.cells, pureL, recs_pure, Bool.and_self]
theorem ask_pure (a : AskV) : (AV.agg a.cells).pure = true := rfl
theorem ansR_pure (p : RepV × Int) : (ansR p).pure = true := by
  have := rep_pure p.1
  simp only [AV.pure] at this
  simp only [ansR, AV.pure, pureL, this, Bool.and_self]
theorem repQ_frz {p : RepV × Int} {r : AV} {σ : AHeap} (h : RepQ p r σ) : Frz σ r (ansR p) := by
  obtain ⟨Lv, hg, rfl⟩ := h
  have hL := grow_frz hg (recs_pure _)
  refine .tuple rfl (fun i x y hx hy => ?_)
  match i with
  | 0 =>
    simp at hx hy
    subst hx; subst hy
    refine .agg rfl (fun i x y hx hy => ?_)
    match i with
    | 0 | 1 | 2 | 3 | 4 | 6 | 7 => simp [repL, RepV.cells] at hx hy; subst hx; subst hy; exact .pure rfl
    | 5 => simp [repL, RepV.cells] at hx hy; subst hx; subst hy; exact hL
    | n + 8 => simp [repL] at hx
  | 1 => simp at hx hy; subst hx; subst hy; exact .pure rfl
  | n + 2 => simp at hx
theorem rr_step (T : St × List (List UInt8 × List UInt8)) (L : Nat) (x0 x1 x2 : Int) (x3 : Bool) (x4 : List UInt8) (hL : 1 < L) (Q : AV → AHeap → Prop)
    (hQ : ∀ r σ, RepQ (if rdEnd (stB (stT T.1)).1 (stB (stT T.1)).2 = 0 then (⟨x0, x1, x2, x3, x4, T.2, vT T.1, vB (stT T.1)⟩, 0) else (RepV.zero, rdEnd (stB (stT T.1)).1 (stB (stT T.1)).2)) r σ → Q r σ) (n : Nat) (e : Env) (σ : AHeap) (h : rrI T L x0 x1 x2 x3 x4 n e σ) :
    sC F3 0 b61_16 (unw F3 0 (loopR F3 0 (RetQ [MRes.cN 2 8, MRes.t 3] Q) (.block 0 (.seq b61_31 .fin)) (rrI T L x0 x1 x2 x3 x4) n) .fin) e σ := by
  obtain ⟨s, m, acc, Lv, ⟨f, nn, hr⟩, h0, hx, hLv, d0, d1, dL, hmk, hn, hT, e2, e4, e5, e6⟩ := h
  have hL0 : ¬ L = 0 := by omega
  have hL1 : ¬ L = 1 := by omega
  have done : rdList m s acc = (s, acc) → (m = 0 ∨ s.2 ≠ 0) → sC F3 0 b61_16 (unw F3 0 (loopR F3 0 (RetQ [MRes.cN 2 8, MRes.t 3] Q) (.block 0 (.seq b61_31 .fin)) (rrI T L x0 x1 x2 x3 x4) n) .fin) e σ := by
    intro hds hor
    rw [hds] at hT
    subst hT
    simp only at hQ
    have go : ∀ e' : Env, e' 2 = .ptr 0 0 → e' 4 = .ptr 1 0 → e' 5 = .ptr L 0 → sC F3 0 b61_31 (unw F3 0 (RetQ [MRes.cN 2 8, MRes.t 3] Q) .fin) e' σ := by
      intro e' k2 k4 k5
      simp only [F3_app, Z61, x61_20, x61_31, base1, ↓reduceIte, Nat.reduceAdd, Nat.reduceSub, Nat.reduceMul, Nat.reduceEqDiff, Nat.reduceLeDiff, Nat.reduceLT, Int.reduceLT, Int.reduceLE, Int.reduceEq, Int.reduceNe, Int.reduceToNat, Int.reduceAdd, Int.reduceSub, reduceCtorEq, Nat.reduceBEq, Nat.reduceBNe, k2, k4, k5]
      refine ⟨1, s.1, s.2, rfl, ⟨f, nn, hr⟩, fun σ1 r1 f1 => ?_⟩
      have h01 := f1 0 _ h0 (by decide)
      have hx1 := f1 L _ hx hL1
      have r1 : RdS σ1 1 (stT s).1 (stT s).2 := r1
      have w0 : (rdText s.1 s.2).1 = vT s := rfl
      rw [w0]
      generalize stT s = s1 at r1 hQ ⊢
      simp only [F3_app, Z61, x61_20, x61_31, base1, ↓reduceIte, Nat.reduceAdd, Nat.reduceSub, Nat.reduceMul, Nat.reduceEqDiff, Nat.reduceLeDiff, Nat.reduceLT, Int.reduceLT, Int.reduceLE, Int.reduceEq, Int.reduceNe, Int.reduceToNat, Int.reduceAdd, Int.reduceSub, reduceCtorEq, Nat.reduceBEq, Nat.reduceBNe, k2, k4, k5]
      refine ⟨1, _, _, rfl, r1, fun σ2 r2 f2 => ?_⟩
      have h02 := f2 0 _ h01 (by decide)
      have hx2 := f2 L _ hx1 hL1
      have r2 : RdS σ2 1 (stB s1).1 (stB s1).2 := r2
      have w1 : (rdTruth s1.1 s1.2).1 = vB s1 := rfl
      rw [w1]
      generalize stB s1 = s2 at r2 hQ ⊢
      have lc := grow_cell hLv
      have v2 := grow_frame (grow_frame hLv (τ := σ1) fun j c hj hd => f1 j c hj (fun e => d1 (by rw [hd, e]))) (τ := σ2) fun j c hj hd => f2 j c hj (fun e => d1 (by rw [hd, e]))
      have ss : ∀ (d : List AV), hget (hset σ2 L d) L = some d := fun d => set_same hx2
      simp only [F3_app, Z61, x61_20, x61_31, base1, ↓reduceIte, Nat.reduceAdd, Nat.reduceSub, Nat.reduceMul, Nat.reduceEqDiff, Nat.reduceLeDiff, Nat.reduceLT, Int.reduceLT, Int.reduceLE, Int.reduceEq, Int.reduceNe, Int.reduceToNat, Int.reduceAdd, Int.reduceSub, reduceCtorEq, Nat.reduceBEq, Nat.reduceBNe, k2, k4, k5, hx2, ss, set_set, lc]
      refine ⟨1, s2.1, s2.2, rfl, rd_set r2 hL1, fun σ3 f3 => ?_⟩
      have b3 := f3 0 _ (by rw [set_other hL0]; exact h02) (by decide)
      have c3 := f3 L _ (ss _) hL1
      have s0 : ∀ (d : List AV), hget (hset σ3 0 d) 0 = some d := fun d => set_same b3
      generalize rdEnd s2.1 s2.2 = E at hQ ⊢
      by_cases hE : E = 0
      · subst hE
        simp only [if_true] at hQ
        simp only [F3_app, Z61, x61_20, x61_31, base1, ↓reduceIte, Nat.reduceAdd, Nat.reduceSub, Nat.reduceMul, Nat.reduceEqDiff, Nat.reduceLeDiff, Nat.reduceLT, Int.reduceLT, Int.reduceLE, Int.reduceEq, Int.reduceNe, Int.reduceToNat, Int.reduceAdd, Int.reduceSub, reduceCtorEq, Nat.reduceBEq, Nat.reduceBNe, k2, k4, k5, c3, b3, s0, lc]
        refine hQ _ _ ⟨Lv, grow_frame v2 fun j c hj hd => ?_, rfl⟩
        rw [set_other (fun e => d0 (by rw [hd, e]))]
        exact f3 j c (by rw [set_other (fun e => dL (by rw [hd, e]))]; exact hj) (fun e => d1 (by rw [hd, e]))
      · simp only [if_neg hE] at hQ
        simp only [F3_app, Z61, x61_20, x61_31, base1, ↓reduceIte, Nat.reduceAdd, Nat.reduceSub, Nat.reduceMul, Nat.reduceEqDiff, Nat.reduceLeDiff, Nat.reduceLT, Int.reduceLT, Int.reduceLE, Int.reduceEq, Int.reduceNe, Int.reduceToNat, Int.reduceAdd, Int.reduceSub, reduceCtorEq, Nat.reduceBEq, Nat.reduceBNe, k2, k4, k5, c3, b3, s0, hE, lc]
        exact hQ _ _ ⟨.nilslice, .inl ⟨rfl, rfl⟩, rfl⟩
    rcases Nat.eq_zero_or_pos m with hm | hm
    · subst hm
      simp only [F3_app, Z61, base1, ↓reduceIte, Nat.reduceAdd, Nat.reduceSub, Nat.reduceMul, Nat.reduceEqDiff, Nat.reduceLeDiff, Nat.reduceLT, Int.reduceLT, Int.reduceLE, Int.reduceEq, Int.reduceNe, Int.reduceToNat, Int.reduceAdd, Int.reduceSub, reduceCtorEq, Nat.reduceBEq, Nat.reduceBNe, loopR_exit, loopR_ret, e2, e4, e5, e6, cast_zero]
      exact go _ e2 e4 e5
    · have hpos : (0 : Int) < (m : Int) := by omega
      have hs : ¬ s.2 = 0 := by rcases hor with h | h <;> omega
      simp only [F3_app, Z61, base1, ↓reduceIte, Nat.reduceAdd, Nat.reduceSub, Nat.reduceMul, Nat.reduceEqDiff, Nat.reduceLeDiff, Nat.reduceLT, Int.reduceLT, Int.reduceLE, Int.reduceEq, Int.reduceNe, Int.reduceToNat, Int.reduceAdd, Int.reduceSub, reduceCtorEq, Nat.reduceBEq, Nat.reduceBNe, loopR_exit, loopR_ret, e2, e4, e5, e6, hr, hs, hpos]
      exact go _ e2 e4 e5
  cases m with
  | zero => exact done rfl (.inl rfl)
  | succ m =>
    by_cases hs : s.2 = 0
    · have hpos : (0 : Int) < ((m + 1 : Nat) : Int) := by omega
      have hw : IntKind.wrap .i64 (((m + 1 : Nat) : Int) - 1) = (m : Int) := by rw [Gz.wrap64 (by omega)]; omega
      have hT' : rdList m (stT (stT s)) (acc ++ [(vT s, vT (stT s))]) = T := by rw [← hT]; simp [rdList, hs]
      have lc := grow_cell hLv
      simp only [F3_app, Z61, x61_20, x61_31, base1, ↓reduceIte, Nat.reduceAdd, Nat.reduceSub, Nat.reduceMul, Nat.reduceEqDiff, Nat.reduceLeDiff, Nat.reduceLT, Int.reduceLT, Int.reduceLE, Int.reduceEq, Int.reduceNe, Int.reduceToNat, Int.reduceAdd, Int.reduceSub, reduceCtorEq, Nat.reduceBEq, Nat.reduceBNe, loopR_exit, loopR_ret, e2, e4, e5, e6, hr, hx, hs, hpos]
      refine ⟨1, s.1, s.2, rfl, ⟨f, nn, hr⟩, fun σ1 r1 f1 => ?_⟩
      have h01 := f1 0 _ h0 (by decide)
      have hx1 := f1 L _ hx hL1
      have v1 := grow_frame hLv (τ := σ1) fun j c hj hd => f1 j c hj (fun e => d1 (by rw [hd, e]))
      have w0 : (rdText s.1 s.2).1 = vT s := rfl
      have r1 : RdS σ1 1 (stT s).1 (stT s).2 := r1
      rw [w0]
      generalize stT s = s1 at r1 hT' ⊢
      simp only [F3_app, Z61, x61_20, x61_31, base1, ↓reduceIte, Nat.reduceAdd, Nat.reduceSub, Nat.reduceMul, Nat.reduceEqDiff, Nat.reduceLeDiff, Nat.reduceLT, Int.reduceLT, Int.reduceLE, Int.reduceEq, Int.reduceNe, Int.reduceToNat, Int.reduceAdd, Int.reduceSub, reduceCtorEq, Nat.reduceBEq, Nat.reduceBNe, loopR_exit, loopR_ret, e2, e4, e5, e6, hx1]
      refine ⟨1, _, _, rfl, r1, fun σ2 r2 f2 => ?_⟩
      have h02 := f2 0 _ h01 (by decide)
      have hx2 := f2 L _ hx1 hL1
      have v2 := grow_frame v1 (τ := σ2) fun j c hj hd => f2 j c hj (fun e => d1 (by rw [hd, e]))
      have w1 : (rdText s1.1 s1.2).1 = vT s1 := rfl
      have r2 : RdS σ2 1 (stT s1).1 (stT s1).2 := r2
      rw [w1]
      generalize stT s1 = s2 at r2 hT' ⊢
      obtain ⟨v, τ, a1, a2, a3, a4, a5⟩ := grow_one (b := 32) (by decide) v2 (by simp [recs]; omega) [.str (vT s), .str (vT s1)] rfl rfl
      obtain ⟨g0, u0⟩ := a4 0 _ h02 d0
      obtain ⟨gL, uL⟩ := a4 L _ hx2 dL
      obtain ⟨f', nn', hr2⟩ := r2
      obtain ⟨g1, u1⟩ := a4 1 _ hr2 d1
      have px : hget (hpush σ2 [.str (vT s), .str (vT s1)]) L = _ := push_old hx2
      simp only [F3_app, Z61, x61_20, x61_31, base1, ↓reduceIte, Nat.reduceAdd, Nat.reduceSub, Nat.reduceMul, Nat.reduceEqDiff, Nat.reduceLeDiff, Nat.reduceLT, Int.reduceLT, Int.reduceLE, Int.reduceEq, Int.reduceNe, Int.reduceToNat, Int.reduceAdd, Int.reduceSub, reduceCtorEq, Nat.reduceBEq, Nat.reduceBNe, loopR_exit, loopR_ret, e2, e4, e5, e6, hx2, px, a1, a2, a3, gL, hw]
      rw [loopR_normal]
      refine ⟨m, _, _, by omega, .refl _ _ _, s2, m, acc ++ [(vT s, vT s1)], v, ⟨f', nn', by rw [set_other hL1]; exact g1⟩, by rw [set_other hL0]; exact g0, set_same gL, grow_frame (by simpa [recs] using a5) fun j c hj hd => by rw [set_other (fun e => uL (by rw [hd, e]))]; exact hj, u0, u1, uL, by simp; omega, rfl, hT', ?_, ?_, ?_, ?_⟩
      all_goals simp only [putD_some, putD_none, Nat.reduceEqDiff, ↓reduceIte, e2, e4, e5, hw]
    · exact done (by simp [rdList, hs]) (.inr hs)
theorem rdNum_le (rem : List UInt8) (e : Int) : (rdNum rem e).1 ≤ 268435455 := by
  unfold rdNum
  split
  · split
    · split
      · simp
      · simp; omega
    · simp
  · simp
theorem readReply_ok (bs : List UInt8) : Tri Try.prog 61 [.imm (rws bs) false false] [] fun r _ => r.pure = true ∧ r = ansR (readReply bs) := by
  refine Tri.frozen (Q := RepQ (readReply bs)) (Tri.of_s c61 F3_sound ?_) (fun r σ hr => ⟨ansR (readReply bs), repQ_frz hr, ansR_pure _, rfl⟩)
  generalize hK : RepQ (readReply bs) = K
  have hK : ∀ r σ, RepQ (readReply bs) r σ → K r σ := by intro r σ h; rw [← hK]; exact h
  by_cases hl : (32768 : Int) < (bs.length : Int)
  · have hn : readReply bs = (RepV.zero, 3) := by unfold readReply; rw [if_pos (by omega)]
    rw [hn] at hK
    simp only [F3_app, Z61, x61_20, x61_31, base1, baseE, ↓reduceIte, Nat.reduceAdd, Nat.reduceSub, Nat.reduceMul, Nat.reduceEqDiff, Nat.reduceLeDiff, Nat.reduceLT, Int.reduceLT, Int.reduceLE, Int.reduceEq, Int.reduceNe, Int.reduceToNat, Int.reduceAdd, Int.reduceSub, reduceCtorEq, Nat.reduceBEq, Nat.reduceBNe, rws_len, hl]
    exact hK _ _ ⟨.nilslice, .inl ⟨rfl, rfl⟩, rfl⟩
  have hn : readReply bs = readReplyF (bs, 0) := by unfold readReply; rw [if_neg (by omega)]
  rw [hn] at hK
  simp only [F3_app, Z61, x61_20, x61_31, base1, baseE, ↓reduceIte, Nat.reduceAdd, Nat.reduceSub, Nat.reduceMul, Nat.reduceEqDiff, Nat.reduceLeDiff, Nat.reduceLT, Int.reduceLT, Int.reduceLE, Int.reduceEq, Int.reduceNe, Int.reduceToNat, Int.reduceAdd, Int.reduceSub, reduceCtorEq, Nat.reduceBEq, Nat.reduceBNe, rws_len, hl]
  refine ⟨1, bs, 0, rfl, ⟨false, false, rfl⟩, fun σ1 r1 f1 => ?_⟩
  have b1 := f1 0 _ rfl (by decide)
  have r1 : RdS σ1 1 (stN (bs, 0)).1 (stN (bs, 0)).2 := r1
  unfold readReplyF at hK
  have v0 : (rdNum bs 0).1 = vN (bs, 0) := rfl
  rw [v0]
  generalize stN (bs, 0) = s1 at r1 hK ⊢
  generalize ((bs, 0) : St) = s0 at hK ⊢
  simp only [F3_app, Z61, x61_20, x61_31, base1, baseE, ↓reduceIte, Nat.reduceAdd, Nat.reduceSub, Nat.reduceMul, Nat.reduceEqDiff, Nat.reduceLeDiff, Nat.reduceLT, Int.reduceLT, Int.reduceLE, Int.reduceEq, Int.reduceNe, Int.reduceToNat, Int.reduceAdd, Int.reduceSub, reduceCtorEq, Nat.reduceBEq, Nat.reduceBNe]
  refine ⟨1, _, _, rfl, r1, fun σ2 r2 f2 => ?_⟩
  have b2 := f2 0 _ b1 (by decide)
  have r2 : RdS σ2 1 (stN s1).1 (stN s1).2 := r2
  generalize stN s1 = s2 at r2 hK ⊢
  have v1 : (rdNum s1.1 s1.2).1 = vN s1 := rfl
  rw [v1]
  simp only [F3_app, Z61, x61_20, x61_31, base1, baseE, ↓reduceIte, Nat.reduceAdd, Nat.reduceSub, Nat.reduceMul, Nat.reduceEqDiff, Nat.reduceLeDiff, Nat.reduceLT, Int.reduceLT, Int.reduceLE, Int.reduceEq, Int.reduceNe, Int.reduceToNat, Int.reduceAdd, Int.reduceSub, reduceCtorEq, Nat.reduceBEq, Nat.reduceBNe]
  refine ⟨1, _, _, rfl, r2, fun σ3 r3 f3 => ?_⟩
  have b3 := f3 0 _ b2 (by decide)
  have r3 : RdS σ3 1 (stN s2).1 (stN s2).2 := r3
  generalize stN s2 = s3 at r3 hK ⊢
  have v2 : (rdNum s2.1 s2.2).1 = vN s2 := rfl
  rw [v2]
  simp only [F3_app, Z61, x61_20, x61_31, base1, baseE, ↓reduceIte, Nat.reduceAdd, Nat.reduceSub, Nat.reduceMul, Nat.reduceEqDiff, Nat.reduceLeDiff, Nat.reduceLT, Int.reduceLT, Int.reduceLE, Int.reduceEq, Int.reduceNe, Int.reduceToNat, Int.reduceAdd, Int.reduceSub, reduceCtorEq, Nat.reduceBEq, Nat.reduceBNe]
  refine ⟨1, _, _, rfl, r3, fun σ4 r4 f4 => ?_⟩
  have b4 := f4 0 _ b3 (by decide)
  have r4 : RdS σ4 1 (stB s3).1 (stB s3).2 := r4
  generalize stB s3 = s4 at r4 hK ⊢
  have v3 : (rdTruth s3.1 s3.2).1 = vB s3 := rfl
  rw [v3]
  simp only [F3_app, Z61, x61_20, x61_31, base1, baseE, ↓reduceIte, Nat.reduceAdd, Nat.reduceSub, Nat.reduceMul, Nat.reduceEqDiff, Nat.reduceLeDiff, Nat.reduceLT, Int.reduceLT, Int.reduceLE, Int.reduceEq, Int.reduceNe, Int.reduceToNat, Int.reduceAdd, Int.reduceSub, reduceCtorEq, Nat.reduceBEq, Nat.reduceBNe]
  refine ⟨1, _, _, rfl, r4, fun σ5 r5 f5 => ?_⟩
  have b5 := f5 0 _ b4 (by decide)
  have r5 : RdS σ5 1 (stT s4).1 (stT s4).2 := r5
  generalize stT s4 = s5 at r5 hK ⊢
  have v4 : (rdText s4.1 s4.2).1 = vT s4 := rfl
  rw [v4]
  have l5 : 1 < σ5.length := by obtain ⟨f, nn, hg⟩ := r5; exact hget_lt hg
  have pn : ∀ c : List AV, hget (hpush σ5 c) σ5.length = some c := fun c => push_new rfl
  simp only [F3_app, Z61, x61_20, x61_31, base1, baseE, ↓reduceIte, Nat.reduceAdd, Nat.reduceSub, Nat.reduceMul, Nat.reduceEqDiff, Nat.reduceLeDiff, Nat.reduceLT, Int.reduceLT, Int.reduceLE, Int.reduceEq, Int.reduceNe, Int.reduceToNat, Int.reduceAdd, Int.reduceSub, reduceCtorEq, Nat.reduceBEq, Nat.reduceBNe, pn]
  refine ⟨1, _, _, rfl, rd_alloc r5, fun σ6 r6 f6 => ?_⟩
  have b6 := f6 0 _ (al_frame b5) (by decide)
  have c6 := f6 σ5.length _ (set_same (pn _)) (by omega)
  have r6 : RdS σ6 1 (stN s5).1 (stN s5).2 := r6
  have n6 := rdNum_nonneg s5.1 s5.2
  have n7 := rdNum_le s5.1 s5.2
  have v5 : (rdNum s5.1 s5.2).1 = vN s5 := rfl
  rw [v5] at n6 n7 ⊢
  generalize stN s5 = s6 at r6 hK ⊢
  generalize vN s5 = m at n6 n7 hK ⊢
  obtain ⟨m, rfl⟩ : ∃ k : Nat, m = (k : Int) := ⟨m.toNat, by omega⟩
  rw [Int.toNat_natCast] at hK
  generalize σ5.length = L at c6 l5
  simp only [F3_app, Z61, x61_20, x61_31, base1, baseE, ↓reduceIte, Nat.reduceAdd, Nat.reduceSub, Nat.reduceMul, Nat.reduceEqDiff, Nat.reduceLeDiff, Nat.reduceLT, Int.reduceLT, Int.reduceLE, Int.reduceEq, Int.reduceNe, Int.reduceToNat, Int.reduceAdd, Int.reduceSub, reduceCtorEq, Nat.reduceBEq, Nat.reduceBNe]
  refine sC_inv (a := b61_16) (rrI (rdList m s6 []) L (vN s0) (vN s1) (vN s2) (vB s3) (vT s4)) m _ _ (.refl _ _ _) ⟨s6, m, [], .nilslice, r6, b6, c6, .inl ⟨rfl, rfl⟩, by simp [LvD], by simp [LvD], by simp [LvD], by simp; omega, rfl, rfl, rfl, rfl, rfl, rfl⟩ (rr_step (rdList m s6 []) L _ _ _ _ _ l5 _ fun r σ h => hK r σ h)
end Go.Proofs.Ytndlgmciplckjaa.note
