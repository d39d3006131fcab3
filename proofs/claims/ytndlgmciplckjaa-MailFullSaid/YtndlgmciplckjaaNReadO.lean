/- What Read makes of any bytes. No condition. -/
import Derived.Test.YtndlgmciplckjaaNReadN
set_option linter.unusedVariables false
set_option linter.unusedSimpArgs false
namespace Go.Proofs.Ytndlgmciplckjaa.note
open Go.ChangeShapes Go.WideShapes Go.ChangeAt Go.RowKit Go.Gz
abbrev r26_0 : List MOper := [⟨(some 3), .box (.t 1), none⟩,
  ⟨(some 4), .alloc [.int .i64 0, .int .i64 0, .int .i64 0, .int .i64 0, .int .i64 0, .int .i64 0, .int .i64 0, .int .i64 0, .str [], .str [], .str [], .str [], .int .i64 0, .int .i64 0, .int .i64 0, .int .i64 0, .bool false, .str [], .nilslice, .str [], .bool false, .str [], .str [], .nilslice, .nilslice, .int .i64 0, .nilslice], none⟩]
def b26_0 : SCode := .region r26_0
abbrev r26_1 : List MOper := [⟨(some 5), .move (.c (.int .i64 0)), none⟩]
def b26_1 : SCode := .region r26_1
abbrev r26_2 : List MOper := [⟨(some 6), .fieldAddr 0 (.t 3), none⟩,
  ⟨(some 7), .load1 (.t 6), none⟩]
def b26_2 : SCode := .region r26_2
abbrev r26_3 : List MOper := [⟨(some 9), .bin .eql .num (.t 7) (.c (.int .i64 1)), none⟩,
  ⟨(some 8), .move (.t 9), none⟩]
def b26_3 : SCode := .region r26_3
abbrev r26_4 : List MOper := [⟨(some 11), .move (.t 0), none⟩,
  ⟨(some 12), .call 60 [(.t 11)], none⟩,
  ⟨(some 13), .toBytes (.t 12), none⟩,
  ⟨(some 14), .call 59 [(.t 13)], none⟩,
  ⟨(some 10), .move (.t 14), none⟩,
  ⟨(some 15), .extract (.t 10) 0, none⟩,
  ⟨(some 16), .extract (.t 10) 1, none⟩,
  ⟨(some 17), .fieldAddr 5 (.t 3), none⟩,
  ⟨none, .store 8 (.t 17) (.t 15), none⟩,
  ⟨(some 5), .move (.t 16), none⟩]
def b26_4 : SCode := .region r26_4
abbrev r26_5 : List MOper := [⟨(some 19), .bin .eql .num (.t 7) (.c (.int .i64 2)), none⟩,
  ⟨(some 18), .move (.t 19), none⟩]
def b26_5 : SCode := .region r26_5
abbrev r26_6 : List MOper := [⟨(some 21), .move (.t 0), none⟩,
  ⟨(some 22), .call 60 [(.t 21)], none⟩,
  ⟨(some 23), .toBytes (.t 22), none⟩,
  ⟨(some 24), .call 61 [(.t 23)], none⟩,
  ⟨(some 20), .move (.t 24), none⟩,
  ⟨(some 25), .extract (.t 20) 0, none⟩,
  ⟨(some 26), .extract (.t 20) 1, none⟩,
  ⟨(some 27), .fieldAddr 13 (.t 3), none⟩,
  ⟨none, .store 8 (.t 27) (.t 25), none⟩,
  ⟨(some 5), .move (.t 26), none⟩]
def b26_6 : SCode := .region r26_6
abbrev r26_7 : List MOper := [⟨(some 29), .bin .eql .num (.t 7) (.c (.int .i64 4)), none⟩,
  ⟨(some 28), .move (.t 29), none⟩]
def b26_7 : SCode := .region r26_7
abbrev r26_8 : List MOper := [⟨(some 30), .bin .eql .num (.t 7) (.c (.int .i64 6)), none⟩,
  ⟨(some 28), .move (.t 30), none⟩]
def b26_8 : SCode := .region r26_8
def b26_9 : SCode := .cond (.t 28) .skip b26_8
def b26_10 : SCode := .seq b26_7 b26_9
abbrev r26_11 : List MOper := [⟨(some 31), .move (.t 0), none⟩,
  ⟨(some 32), .call 62 [(.t 31)], none⟩,
  ⟨(some 33), .fieldAddr 25 (.t 3), none⟩,
  ⟨none, .store 2 (.t 33) (.t 32), none⟩]
def b26_11 : SCode := .region r26_11
abbrev r26_12 : List MOper := [⟨(some 35), .bin .eql .num (.t 7) (.c (.int .i64 7)), none⟩,
  ⟨(some 34), .move (.t 35), none⟩]
def b26_12 : SCode := .region r26_12
abbrev r26_13 : List MOper := [⟨(some 36), .bin .eql .num (.t 7) (.c (.int .i64 11)), none⟩,
  ⟨(some 34), .move (.t 36), none⟩]
def b26_13 : SCode := .region r26_13
abbrev r26_14 : List MOper := [⟨(some 37), .bin .eql .num (.t 7) (.c (.int .i64 10)), none⟩,
  ⟨(some 34), .move (.t 37), none⟩]
def b26_14 : SCode := .region r26_14
abbrev r26_15 : List MOper := [⟨(some 38), .bin .eql .num (.t 7) (.c (.int .i64 12)), none⟩,
  ⟨(some 34), .move (.t 38), none⟩]
def b26_15 : SCode := .region r26_15
abbrev r26_16 : List MOper := [⟨(some 39), .bin .eql .num (.t 7) (.c (.int .i64 8)), none⟩,
  ⟨(some 34), .move (.t 39), none⟩]
def b26_16 : SCode := .region r26_16
abbrev r26_17 : List MOper := [⟨(some 40), .bin .eql .num (.t 7) (.c (.int .i64 9)), none⟩,
  ⟨(some 34), .move (.t 40), none⟩]
def b26_17 : SCode := .region r26_17
def b26_18 : SCode := .cond (.t 34) .skip b26_17
def b26_19 : SCode := .seq b26_16 b26_18
def b26_20 : SCode := .cond (.t 34) .skip b26_19
def b26_21 : SCode := .seq b26_15 b26_20
def b26_22 : SCode := .cond (.t 34) .skip b26_21
def b26_23 : SCode := .seq b26_14 b26_22
def b26_24 : SCode := .cond (.t 34) .skip b26_23
def b26_25 : SCode := .seq b26_13 b26_24
def b26_26 : SCode := .cond (.t 34) .skip b26_25
def b26_27 : SCode := .seq b26_12 b26_26
abbrev r26_28 : List MOper := [⟨(some 41), .move (.t 0), none⟩,
  ⟨(some 42), .call 60 [(.t 41)], none⟩,
  ⟨(some 43), .move (.t 0), none⟩,
  ⟨(some 44), .call 60 [(.t 43)], none⟩,
  ⟨(some 45), .build [.str [], .str []] [(0, 1, (.t 42)), (1, 1, (.t 44))], none⟩,
  ⟨(some 46), .fieldAddr 21 (.t 3), none⟩,
  ⟨none, .store 2 (.t 46) (.t 45), none⟩]
def b26_28 : SCode := .region r26_28
abbrev r26_29 : List MOper := [⟨(some 48), .move (.t 0), none⟩,
  ⟨(some 49), .call 63 [(.t 48)], none⟩,
  ⟨(some 47), .move (.t 49), none⟩,
  ⟨(some 50), .extract (.t 47) 0, none⟩,
  ⟨(some 51), .extract (.t 47) 1, none⟩,
  ⟨(some 52), .fieldAddr 23 (.t 3), none⟩,
  ⟨none, .store 1 (.t 52) (.t 50), none⟩,
  ⟨(some 53), .fieldAddr 24 (.t 3), none⟩,
  ⟨none, .store 1 (.t 53) (.t 51), none⟩]
def b26_29 : SCode := .region r26_29
def b26_30 : SCode := .seq b26_28 b26_29
def b26_31 : SCode := .cond (.t 34) b26_30 .skip
def b26_32 : SCode := .seq b26_27 b26_31
def b26_33 : SCode := .cond (.t 28) b26_11 b26_32
def b26_34 : SCode := .seq b26_10 b26_33
def b26_35 : SCode := .cond (.t 18) b26_6 b26_34
def b26_36 : SCode := .seq b26_5 b26_35
def b26_37 : SCode := .cond (.t 8) b26_4 b26_36
def b26_38 : SCode := .seq b26_3 b26_37
def b26_39 : SCode := .block 0 b26_38
def b26_40 : SCode := .seq b26_2 b26_39
abbrev r26_41 : List MOper := [⟨(some 54), .move (.t 0), none⟩,
  ⟨(some 55), .nilCheck (.t 54), none⟩,
  ⟨(some 56), .fieldAddr 1 (.t 55), none⟩,
  ⟨(some 57), .load1 (.t 56), none⟩,
  ⟨(some 58), .bin .eql .num (.t 57) (.c (.int .i64 0)), none⟩]
def b26_41 : SCode := .region r26_41
abbrev r26_42 : List MOper := [⟨(some 59), .move (.t 0), none⟩,
  ⟨(some 60), .move (.t 5), none⟩,
  ⟨(some 61), .nilCheck (.t 59), none⟩,
  ⟨(some 62), .fieldAddr 1 (.t 61), none⟩,
  ⟨none, .store 1 (.t 62) (.t 60), none⟩]
def b26_42 : SCode := .region r26_42
def b26_43 : SCode := .cond (.t 58) b26_42 .skip
def b26_44 : SCode := .seq b26_41 b26_43
abbrev r26_45 : List MOper := [⟨(some 63), .loadN 27 (.t 3), none⟩,
  ⟨none, .store 27 (.t 4) (.t 63), none⟩]
def b26_45 : SCode := .region r26_45
def b26_46 : SCode := .seq b26_45 .ret
def b26_47 : SCode := .seq b26_44 b26_46
def b26_48 : SCode := .seq b26_40 b26_47
def b26_49 : SCode := .seq b26_1 b26_48
def b26_50 : SCode := .seq b26_0 b26_49
def s26 : SFunc := ⟨64, [.cN 4 27], b26_50⟩
theorem c26 : sFn Try.prog 26 = some s26 := by kernel_rfl
theorem x26_5 : XR b26_5 r26_5 := rfl
theorem x26_47 : XS b26_47 b26_44 b26_46 := rfl
theorem Z26 : XR b26_0 r26_0 ∧ XR b26_1 r26_1 ∧ XR b26_2 r26_2 ∧ XR b26_3 r26_3 ∧ XR b26_4 r26_4 ∧ XR b26_6 r26_6 ∧ XR b26_7 r26_7 ∧ XR b26_8 r26_8 ∧ XC b26_9 (.t 28) .skip b26_8 ∧ XS b26_10 b26_7 b26_9 ∧ XR b26_11 r26_11 ∧ XR b26_12 r26_12 ∧ XR b26_13 r26_13 ∧ XR b26_14 r26_14 ∧ XR b26_15 r26_15 ∧ XR b26_16 r26_16 ∧ XR b26_17 r26_17 ∧ XC b26_18 (.t 34) .skip b26_17 ∧ XS b26_19 b26_16 b26_18 ∧ XC b26_20 (.t 34) .skip b26_19 ∧ XS b26_21 b26_15 b26_20 ∧ XC b26_22 (.t 34) .skip b26_21 ∧ XS b26_23 b26_14 b26_22 ∧ XC b26_24 (.t 34) .skip b26_23 ∧ XS b26_25 b26_13 b26_24 ∧ XC b26_26 (.t 34) .skip b26_25 ∧ XS b26_27 b26_12 b26_26 ∧ XR b26_28 r26_28 ∧ XR b26_29 r26_29 ∧ XS b26_30 b26_28 b26_29 ∧ XC b26_31 (.t 34) b26_30 .skip ∧ XS b26_32 b26_27 b26_31 ∧ XC b26_33 (.t 28) b26_11 b26_32 ∧ XS b26_34 b26_10 b26_33 ∧ XC b26_35 (.t 18) b26_6 b26_34 ∧ XS b26_36 b26_5 b26_35 ∧ XC b26_37 (.t 8) b26_4 b26_36 ∧ XS b26_38 b26_3 b26_37 ∧ XB b26_39 0 b26_38 ∧ XS b26_40 b26_2 b26_39 ∧ XR b26_41 r26_41 ∧ XR b26_42 r26_42 ∧ XC b26_43 (.t 58) b26_42 .skip ∧ XS b26_44 b26_41 b26_43 ∧ XR b26_45 r26_45 ∧ XS b26_46 b26_45 .ret ∧ XS b26_48 b26_40 b26_47 ∧ XS b26_49 b26_1 b26_48 ∧ XS b26_50 b26_0 b26_49 ∧ XY s26 64 b26_50 [.cN 4 27] := ⟨rfl, rfl, rfl, rfl, rfl, rfl, rfl, rfl, sC_cond, rfl, rfl, rfl, rfl, rfl, rfl, rfl, rfl, sC_cond, rfl, sC_cond, rfl, sC_cond, rfl, sC_cond, rfl, sC_cond, rfl, rfl, rfl, rfl, sC_cond, rfl, sC_cond, rfl, sC_cond, rfl, sC_cond, rfl, rfl, rfl, rfl, rfl, sC_cond, rfl, rfl, rfl, rfl, rfl, rfl, rfl⟩
abbrev r11_0 : List MOper := [⟨(some 2), .alloc [.int .i64 0, .int .i64 0, .int .i64 0, .int .i64 0, .int .i64 0, .int .i64 0, .int .i64 0, .int .i64 0, .str [], .str [], .str [], .str [], .int .i64 0, .int .i64 0, .int .i64 0, .int .i64 0, .bool false, .str [], .nilslice, .str [], .bool false, .str [], .str [], .nilslice, .nilslice, .int .i64 0, .nilslice], none⟩,
  ⟨(some 3), .move (.c (.int .i64 0)), none⟩]
def b11_0 : SCode := .region r11_0
abbrev r11_1 : List MOper := [⟨(some 6), .move (.t 0), none⟩,
  ⟨(some 7), .build [.nilslice, .int .i64 0] [(0, 1, (.t 6))], none⟩,
  ⟨(some 8), .box (.t 7), none⟩,
  ⟨(some 4), .move (.t 8), none⟩]
def b11_1 : SCode := .region r11_1
abbrev r11_2 : List MOper := [⟨(some 9), .move (.t 4), none⟩,
  ⟨(some 10), .move (.t 4), none⟩,
  ⟨(some 11), .call 27 [(.t 10)], none⟩,
  ⟨(some 12), .move (.t 4), none⟩,
  ⟨(some 13), .call 27 [(.t 12)], none⟩,
  ⟨(some 14), .move (.t 4), none⟩,
  ⟨(some 15), .call 27 [(.t 14)], none⟩,
  ⟨(some 16), .move (.t 4), none⟩,
  ⟨(some 17), .call 27 [(.t 16)], none⟩,
  ⟨(some 18), .move (.t 4), none⟩,
  ⟨(some 19), .call 27 [(.t 18)], none⟩,
  ⟨(some 20), .build [.int .i64 0, .int .i64 0, .int .i64 0, .int .i64 0, .int .i64 0, .int .i64 0, .int .i64 0, .int .i64 0, .str [], .str [], .str [], .str [], .int .i64 0, .int .i64 0, .int .i64 0, .int .i64 0, .bool false, .str [], .nilslice, .str [], .bool false, .str [], .str [], .nilslice, .nilslice, .int .i64 0, .nilslice] [(0, 1, (.t 11)), (1, 1, (.t 13)), (2, 1, (.t 15)), (3, 1, (.t 17)), (4, 1, (.t 19))], none⟩,
  ⟨(some 21), .call 26 [(.t 9), (.t 20)], none⟩,
  ⟨(some 5), .alloc [.int .i64 0, .int .i64 0, .int .i64 0, .int .i64 0, .int .i64 0, .int .i64 0, .int .i64 0, .int .i64 0, .str [], .str [], .str [], .str [], .int .i64 0, .int .i64 0, .int .i64 0, .int .i64 0, .bool false, .str [], .nilslice, .str [], .bool false, .str [], .str [], .nilslice, .nilslice, .int .i64 0, .nilslice], none⟩,
  ⟨none, .store 27 (.t 5) (.t 21), none⟩]
def b11_2 : SCode := .region r11_2
abbrev r11_3 : List MOper := [⟨(some 22), .move (.t 4), none⟩,
  ⟨(some 23), .call 28 [(.t 22)], none⟩,
  ⟨(some 24), .bin .neq .num (.t 23) (.c (.int .i64 0)), none⟩,
  ⟨(some 25), .move (.t 24), none⟩,
  ⟨(some 26), .loadN 27 (.t 5), (some (25, false))⟩,
  ⟨(some 27), .call 13 [(.t 26)], (some (25, false))⟩,
  ⟨(some 28), .un .not (.t 27), (some (25, false))⟩,
  ⟨(some 29), .pick (.t 25) (.c (.bool true)) (.t 28), none⟩]
def b11_3 : SCode := .region r11_3
abbrev r11_4 : List MOper := [⟨(some 30), .build [.int .i64 0, .int .i64 0, .int .i64 0, .int .i64 0, .int .i64 0, .int .i64 0, .int .i64 0, .int .i64 0, .str [], .str [], .str [], .str [], .int .i64 0, .int .i64 0, .int .i64 0, .int .i64 0, .bool false, .str [], .nilslice, .str [], .bool false, .str [], .str [], .nilslice, .nilslice, .int .i64 0, .nilslice] [], none⟩,
  ⟨none, .store 27 (.t 2) (.t 30), none⟩,
  ⟨(some 3), .move (.c (.int .i64 5)), none⟩]
def b11_4 : SCode := .region r11_4
def b11_5 : SCode := .seq b11_4 .ret
def b11_6 : SCode := .cond (.t 29) b11_5 .skip
def b11_7 : SCode := .seq b11_3 b11_6
abbrev r11_8 : List MOper := [⟨(some 31), .loadN 27 (.t 5), none⟩,
  ⟨none, .store 27 (.t 2) (.t 31), none⟩,
  ⟨(some 3), .move (.c (.int .i64 0)), none⟩]
def b11_8 : SCode := .region r11_8
def b11_9 : SCode := .seq b11_8 .ret
def b11_10 : SCode := .seq b11_7 b11_9
def b11_11 : SCode := .seq b11_2 b11_10
def b11_12 : SCode := .seq b11_1 b11_11
def b11_13 : SCode := .seq b11_0 b11_12
def s11 : SFunc := ⟨32, [.cN 2 27, .t 3], b11_13⟩
theorem c11 : sFn Try.prog 11 = some s11 := by kernel_rfl
theorem Z11 : XR b11_0 r11_0 ∧ XR b11_1 r11_1 ∧ XR b11_2 r11_2 ∧ XR b11_3 r11_3 ∧ XR b11_4 r11_4 ∧ XS b11_5 b11_4 .ret ∧ XC b11_6 (.t 29) b11_5 .skip ∧ XS b11_7 b11_3 b11_6 ∧ XR b11_8 r11_8 ∧ XS b11_9 b11_8 .ret ∧ XS b11_10 b11_7 b11_9 ∧ XS b11_11 b11_2 b11_10 ∧ XS b11_12 b11_1 b11_11 ∧ XS b11_13 b11_0 b11_12 ∧ XY s11 32 b11_13 [.cN 2 27, .t 3] := ⟨rfl, rfl, rfl, rfl, rfl, rfl, sC_cond, rfl, rfl, rfl, rfl, rfl, rfl, rfl, rfl⟩

set_option maxHeartbeats 4000000
set_option maxRecDepth 10000
def F6 : PCall := rowQ 62 chartRD (rowQ 63 rowsRD F5)
theorem F6_app {f : FuncId} {args : List AV} {σ : AHeap} {K : AV → AHeap → Prop} : F6 f args σ K = rowQ 62 chartRD (rowQ 63 rowsRD (rowQ 59 askRD (rowQ 61 replyRD (rowQ 82 listShRD (rowQ 84 listRecRD (rowQ 86 listLaRD (rowQ 27 numRD (rowQ 60 textRD (rowQ 28 endRD noCall))))))))) f args σ K := _root_.id rfl
theorem F6_sound : Sound Try.prog F6 := rowQ_sound chartRD_ok (rowQ_sound rowsRD_ok F5_sound)
theorem put_all {z cs : List AV} (h : z.length = cs.length) : put z 0 cs = some cs := by
  unfold put
  rw [if_pos (by omega)]
  simp [h]
theorem nz_imm {x : AV} {rows : List (List AV)} (h : nz1 x = .imm rows false false) : (x = .nilslice ∧ rows = []) ∨ x = .imm rows false false := by
  cases x <;> simp only [nz1] at h <;> first | exact .inr h | cases h
  exact .inl ⟨rfl, rfl⟩
theorem nz_cell {x : AV} (h : (nz1 x).isCell = true) : x.isCell = true := by cases x <;> simp_all [nz1, AV.isCell]
theorem nz_cells {cs : List AV} (h : (cs.map nz1).all (fun x => x.isCell) = true) : cs.all (fun x => x.isCell) = true := by
  rw [List.all_eq_true] at h ⊢
  exact fun x hx => nz_cell (h _ (List.mem_map_of_mem hx))
abbrev bareC (k f t e i : Int) : List AV := [.int .i64 k, .int .i64 f, .int .i64 t, .int .i64 e, .int .i64 i, .int .i64 0, .int .i64 0, .int .i64 0, .str [], .str [], .str [], .str [], .int .i64 0, .int .i64 0, .int .i64 0, .int .i64 0, .bool false, .str [], .nilslice, .str [], .bool false, .str [], .str [], .nilslice, .nilslice, .int .i64 0, .nilslice]
theorem fin26 (id B n0 : Nat) (f : Bool) (nn : Bool) (rem : List UInt8) (s1 : Int) (ev : Int) (cs z : List AV) (K : AV → AHeap → Prop) (e : Env) (σ : AHeap)
    (e0 : e 0 = .ptr id 0) (e3 : e 3 = .ptr B 0) (e4 : e 4 = .ptr (B + 1) 0) (e5 : e 5 = .int .i64 ev) (hB : id ≠ B) (hB1 : id ≠ B + 1) (gB : hget σ B = some cs) (gz : hget σ (B + 1) = some z) (gr : hget σ id = some [.imm (rws rem) f nn, .int .i64 s1])
    (hl : cs.length = 27) (hz : z.length = 27) (hc : cs.all (fun x => x.isCell) = true)
    (hK : ∀ σ', RdS σ' id rem (if s1 = 0 then ev else s1) → (∀ j c, hget σ j = some c → j ≠ id → j ≠ B + 1 → hget σ' j = some c) → K (.agg cs) σ') :
    sC F6 n0 b26_47 (unw F6 n0 (RetQ [.cN 4 27] K) .fin) e σ := by
  have si : ∀ d : List AV, hget (hset σ id d) id = some d := fun d => set_same gr
  have siB : ∀ d : List AV, hget (hset σ id d) B = some cs := fun d => (set_other hB).trans gB
  have siz : ∀ d : List AV, hget (hset σ id d) (B + 1) = some z := fun d => (set_other hB1).trans gz
  have sz : ∀ d : List AV, hget (hset σ (B + 1) d) (B + 1) = some d := fun d => set_same gz
  have szz : ∀ c d : List AV, hget (hset (hset σ id c) (B + 1) d) (B + 1) = some d := fun c d => set_same (siz c)
  have sp : put z 0 cs = some cs := put_all (by omega)
  have sa : sub cs 0 27 = some cs := sub_all (by omega)
  by_cases he : s1 = 0
  · simp only [F6_app, Z26, x26_5, x26_47, base1, baseE, ↓reduceIte, Nat.reduceAdd, Nat.reduceSub, Nat.reduceMul, Nat.reduceEqDiff, Nat.reduceLeDiff, Nat.reduceLT, Int.reduceLT, Int.reduceLE, Int.reduceEq, Int.reduceNe, Int.reduceToNat, Int.reduceAdd, Int.reduceSub, reduceCtorEq, Nat.reduceBEq, Nat.reduceBNe, e0, e3, e4, e5, gr, he, gB, gz, sp, sa, hl, hc, si, siB, siz, sz, szz]
    refine hK _ ⟨f, nn, ?_⟩ (fun j c hj h1 h2 => ?_)
    · rw [set_other (fun h => hB1 h.symm), if_pos he]; exact si _
    · rw [set_other (fun h => h2 h.symm), set_other (fun h => h1 h.symm)]; exact hj
  · simp only [F6_app, Z26, x26_5, x26_47, base1, baseE, ↓reduceIte, Nat.reduceAdd, Nat.reduceSub, Nat.reduceMul, Nat.reduceEqDiff, Nat.reduceLeDiff, Nat.reduceLT, Int.reduceLT, Int.reduceLE, Int.reduceEq, Int.reduceNe, Int.reduceToNat, Int.reduceAdd, Int.reduceSub, reduceCtorEq, Nat.reduceBEq, Nat.reduceBNe, e0, e3, e4, e5, gr, he, gB, gz, sp, sa, hl, hc, si, siB, siz, sz, szz]
    refine hK _ ⟨f, nn, ?_⟩ (fun j c hj h1 h2 => ?_)
    · rw [set_other (fun h => hB1 h.symm), if_neg he]; exact gr
    · rw [set_other (fun h => h2 h.symm)]; exact hj
def bodyRD (args : List AV) (σ : AHeap) (K : AV → AHeap → Prop) : Prop := ∃ (id : Nat) (s : St) (k f t e i : Int), args = [.ptr id 0, .agg (bareC k f t e i)] ∧ RdS σ id s.1 s.2 ∧ ∀ σ' cs, RdS σ' id (readBody (bare k f t e i) s).2.1 (readBody (bare k f t e i) s).2.2 → Fr1 σ σ' id → pureL cs = true → cs.map nz1 = (readBody (bare k f t e i) s).1.cells → K (.agg cs) σ'
theorem body1 (id : Nat) (s : St) (k f t e i : Int) (hk : k = 1) (σ : AHeap) (K : AV → AHeap → Prop) (hr : RdS σ id s.1 s.2)
    (hK : ∀ σ' cs, RdS σ' id (readBody (bare k f t e i) s).2.1 (readBody (bare k f t e i) s).2.2 → Fr1 σ σ' id → pureL cs = true → cs.map nz1 = (readBody (bare k f t e i) s).1.cells → K (.agg cs) σ') :
    sF F6 s26 [.ptr id 0, .agg (bareC k f t e i)] σ K := by
  have hid : id < σ.length := by obtain ⟨f, nn, hg⟩ := hr; exact hget_lt hg
  have pB : hget (hpush (hpush σ (bareC k f t e i)) (bareC 0 0 0 0 0)) σ.length = some (bareC k f t e i) := push_old (push_new rfl)
  have pz : hget (hpush (hpush σ (bareC k f t e i)) (bareC 0 0 0 0 0)) (σ.length + 1) = some (bareC 0 0 0 0 0) := push_new (by simp [push_len])
  have g0 : Fr1 σ (hpush (hpush σ (bareC k f t e i)) (bareC 0 0 0 0 0)) id := Fr1.push.trans Fr1.push
  have r0 : RdS (hpush (hpush σ (bareC k f t e i)) (bareC 0 0 0 0 0)) id s.1 s.2 := rd_push (rd_push hr)
  subst hk
  have hb : readBody (bare 1 f t e i) s = ({ bare 1 f t e i with ask := (readAsk (vT s)).1 }, orE (stT s) (readAsk (vT s)).2) := by simp [readBody, bare]
  rw [hb] at hK
  simp only [F6_app, Z26, x26_5, base1, baseE, ↓reduceIte, Nat.reduceAdd, Nat.reduceSub, Nat.reduceMul, Nat.reduceEqDiff, Nat.reduceLeDiff, Nat.reduceLT, Int.reduceLT, Int.reduceLE, Int.reduceEq, Int.reduceNe, Int.reduceToNat, Int.reduceAdd, Int.reduceSub, reduceCtorEq, Nat.reduceBEq, Nat.reduceBNe, push_len]
  generalize hpush (hpush σ (bareC 1 f t e i)) (bareC 0 0 0 0 0) = σ0 at pB pz g0 r0 ⊢
  simp only [F6_app, Z26, x26_5, base1, baseE, ↓reduceIte, Nat.reduceAdd, Nat.reduceSub, Nat.reduceMul, Nat.reduceEqDiff, Nat.reduceLeDiff, Nat.reduceLT, Int.reduceLT, Int.reduceLE, Int.reduceEq, Int.reduceNe, Int.reduceToNat, Int.reduceAdd, Int.reduceSub, reduceCtorEq, Nat.reduceBEq, Nat.reduceBNe, pB]
  refine ⟨id, s.1, s.2, rfl, r0, fun σ1 r1 f1 => ?_⟩
  have b1 := f1 _ _ pB (by omega)
  have z1 := f1 _ _ pz (by omega)
  have g1 : Fr1 σ σ1 id := g0.trans f1
  have r1 : RdS σ1 id (stT s).1 (stT s).2 := r1
  have v0 : (rdText s.1 s.2).1 = vT s := rfl
  rw [v0]
  generalize stT s = s1 at r1 hK ⊢
  generalize vT s = a at hK ⊢
  simp only [F6_app, Z26, x26_5, base1, baseE, ↓reduceIte, Nat.reduceAdd, Nat.reduceSub, Nat.reduceMul, Nat.reduceEqDiff, Nat.reduceLeDiff, Nat.reduceLT, Int.reduceLT, Int.reduceLE, Int.reduceEq, Int.reduceNe, Int.reduceToNat, Int.reduceAdd, Int.reduceSub, reduceCtorEq, Nat.reduceBEq, Nat.reduceBNe]
  refine ⟨σ1.length, a, rfl, push_new rfl, ?_⟩
  have b2 := kp (c := a.map byteAV) b1
  have z2 := kp (c := a.map byteAV) z1
  have g2 : Fr1 σ (hkill (hpush σ1 (a.map byteAV)) σ1.length) id := fun j c hj hne => kp (g1 j c hj hne)
  obtain ⟨f', nn, hg⟩ := r1
  have r2 := kp (c := a.map byteAV) hg
  generalize hkill (hpush σ1 (a.map byteAV)) σ1.length = σ2 at b2 z2 g2 r2 ⊢
  generalize readAsk a = w at hK ⊢
  obtain ⟨⟨c1, c2, c3, c4, c5, c6, c7, c8⟩, ev⟩ := w
  have sB : ∀ d : List AV, hget (hset σ2 σ.length d) σ.length = some d := fun d => set_same b2
  simp only [F6_app, Z26, x26_5, base1, baseE, ↓reduceIte, Nat.reduceAdd, Nat.reduceSub, Nat.reduceMul, Nat.reduceEqDiff, Nat.reduceLeDiff, Nat.reduceLT, Int.reduceLT, Int.reduceLE, Int.reduceEq, Int.reduceNe, Int.reduceToNat, Int.reduceAdd, Int.reduceSub, reduceCtorEq, Nat.reduceBEq, Nat.reduceBNe, ansA, AskV.cells, b2, sB]
  refine fin26 id σ.length _ f' nn s1.1 s1.2 ev _ _ K _ _ rfl rfl rfl rfl (by omega) (by omega) (sB _) ((set_other (by omega)).trans z2) ((set_other (by omega)).trans r2) rfl rfl rfl fun σ' hr' hf => ?_
  exact hK _ _ hr' (fun j c hj hne => hf j c ((set_other (by have := hget_lt hj; omega)).trans (g2 j c hj hne)) hne (by have := hget_lt hj; omega)) rfl rfl
theorem body2 (id : Nat) (s : St) (k f t e i : Int) (hk : k = 2) (σ : AHeap) (K : AV → AHeap → Prop) (hr : RdS σ id s.1 s.2)
    (hK : ∀ σ' cs, RdS σ' id (readBody (bare k f t e i) s).2.1 (readBody (bare k f t e i) s).2.2 → Fr1 σ σ' id → pureL cs = true → cs.map nz1 = (readBody (bare k f t e i) s).1.cells → K (.agg cs) σ') :
    sF F6 s26 [.ptr id 0, .agg (bareC k f t e i)] σ K := by
  have hid : id < σ.length := by obtain ⟨f, nn, hg⟩ := hr; exact hget_lt hg
  have pB : hget (hpush (hpush σ (bareC k f t e i)) (bareC 0 0 0 0 0)) σ.length = some (bareC k f t e i) := push_old (push_new rfl)
  have pz : hget (hpush (hpush σ (bareC k f t e i)) (bareC 0 0 0 0 0)) (σ.length + 1) = some (bareC 0 0 0 0 0) := push_new (by simp [push_len])
  have g0 : Fr1 σ (hpush (hpush σ (bareC k f t e i)) (bareC 0 0 0 0 0)) id := Fr1.push.trans Fr1.push
  have r0 : RdS (hpush (hpush σ (bareC k f t e i)) (bareC 0 0 0 0 0)) id s.1 s.2 := rd_push (rd_push hr)
  subst hk
  have hb : readBody (bare 2 f t e i) s = ({ bare 2 f t e i with rep := (readReply (vT s)).1 }, orE (stT s) (readReply (vT s)).2) := by simp [readBody, bare]
  rw [hb] at hK
  simp only [F6_app, Z26, x26_5, base1, baseE, ↓reduceIte, Nat.reduceAdd, Nat.reduceSub, Nat.reduceMul, Nat.reduceEqDiff, Nat.reduceLeDiff, Nat.reduceLT, Int.reduceLT, Int.reduceLE, Int.reduceEq, Int.reduceNe, Int.reduceToNat, Int.reduceAdd, Int.reduceSub, reduceCtorEq, Nat.reduceBEq, Nat.reduceBNe, push_len]
  generalize hpush (hpush σ (bareC 2 f t e i)) (bareC 0 0 0 0 0) = σ0 at pB pz g0 r0 ⊢
  simp only [F6_app, Z26, x26_5, base1, baseE, ↓reduceIte, Nat.reduceAdd, Nat.reduceSub, Nat.reduceMul, Nat.reduceEqDiff, Nat.reduceLeDiff, Nat.reduceLT, Int.reduceLT, Int.reduceLE, Int.reduceEq, Int.reduceNe, Int.reduceToNat, Int.reduceAdd, Int.reduceSub, reduceCtorEq, Nat.reduceBEq, Nat.reduceBNe, pB]
  refine ⟨id, s.1, s.2, rfl, r0, fun σ1 r1 f1 => ?_⟩
  have b1 := f1 _ _ pB (by omega)
  have z1 := f1 _ _ pz (by omega)
  have g1 : Fr1 σ σ1 id := g0.trans f1
  have r1 : RdS σ1 id (stT s).1 (stT s).2 := r1
  have v0 : (rdText s.1 s.2).1 = vT s := rfl
  rw [v0]
  generalize stT s = s1 at r1 hK ⊢
  generalize vT s = a at hK ⊢
  simp only [F6_app, Z26, x26_5, base1, baseE, ↓reduceIte, Nat.reduceAdd, Nat.reduceSub, Nat.reduceMul, Nat.reduceEqDiff, Nat.reduceLeDiff, Nat.reduceLT, Int.reduceLT, Int.reduceLE, Int.reduceEq, Int.reduceNe, Int.reduceToNat, Int.reduceAdd, Int.reduceSub, reduceCtorEq, Nat.reduceBEq, Nat.reduceBNe]
  refine ⟨σ1.length, a, rfl, push_new rfl, ?_⟩
  have b2 := kp (c := a.map byteAV) b1
  have z2 := kp (c := a.map byteAV) z1
  have g2 : Fr1 σ (hkill (hpush σ1 (a.map byteAV)) σ1.length) id := fun j c hj hne => kp (g1 j c hj hne)
  obtain ⟨f', nn, hg⟩ := r1
  have r2 := kp (c := a.map byteAV) hg
  generalize hkill (hpush σ1 (a.map byteAV)) σ1.length = σ2 at b2 z2 g2 r2 ⊢
  generalize readReply a = w at hK ⊢
  obtain ⟨⟨c1, c2, c3, c4, c5, c6, c7, c8⟩, ev⟩ := w
  have sB : ∀ d : List AV, hget (hset σ2 σ.length d) σ.length = some d := fun d => set_same b2
  simp only [F6_app, Z26, x26_5, base1, baseE, ↓reduceIte, Nat.reduceAdd, Nat.reduceSub, Nat.reduceMul, Nat.reduceEqDiff, Nat.reduceLeDiff, Nat.reduceLT, Int.reduceLT, Int.reduceLE, Int.reduceEq, Int.reduceNe, Int.reduceToNat, Int.reduceAdd, Int.reduceSub, reduceCtorEq, Nat.reduceBEq, Nat.reduceBNe, ansR, RepV.cells, b2, sB]
  refine fin26 id σ.length _ f' nn s1.1 s1.2 ev _ _ K _ _ rfl rfl rfl rfl (by omega) (by omega) (sB _) ((set_other (by omega)).trans z2) ((set_other (by omega)).trans r2) rfl rfl rfl fun σ' hr' hf => ?_
  exact hK _ _ hr' (fun j c hj hne => hf j c ((set_other (by have := hget_lt hj; omega)).trans (g2 j c hj hne)) hne (by have := hget_lt hj; omega)) (by simp only [pureL, AV.pure, recs_pure, Bool.and_self]) rfl
theorem body4 (id : Nat) (s : St) (k f t e i : Int) (hk : k = 4) (σ : AHeap) (K : AV → AHeap → Prop) (hr : RdS σ id s.1 s.2)
    (hK : ∀ σ' cs, RdS σ' id (readBody (bare k f t e i) s).2.1 (readBody (bare k f t e i) s).2.2 → Fr1 σ σ' id → pureL cs = true → cs.map nz1 = (readBody (bare k f t e i) s).1.cells → K (.agg cs) σ') :
    sF F6 s26 [.ptr id 0, .agg (bareC k f t e i)] σ K := by
  have hid : id < σ.length := by obtain ⟨f, nn, hg⟩ := hr; exact hget_lt hg
  have pB : hget (hpush (hpush σ (bareC k f t e i)) (bareC 0 0 0 0 0)) σ.length = some (bareC k f t e i) := push_old (push_new rfl)
  have pz : hget (hpush (hpush σ (bareC k f t e i)) (bareC 0 0 0 0 0)) (σ.length + 1) = some (bareC 0 0 0 0 0) := push_new (by simp [push_len])
  have g0 : Fr1 σ (hpush (hpush σ (bareC k f t e i)) (bareC 0 0 0 0 0)) id := Fr1.push.trans Fr1.push
  have r0 : RdS (hpush (hpush σ (bareC k f t e i)) (bareC 0 0 0 0 0)) id s.1 s.2 := rd_push (rd_push hr)
  subst hk
  have hb : readBody (bare 4 f t e i) s = ({ bare 4 f t e i with aep := (readChart s).1.1, sh := (readChart s).1.2 }, (readChart s).2) := by simp [readBody, bare]
  rw [hb] at hK
  simp only [F6_app, Z26, x26_5, base1, baseE, ↓reduceIte, Nat.reduceAdd, Nat.reduceSub, Nat.reduceMul, Nat.reduceEqDiff, Nat.reduceLeDiff, Nat.reduceLT, Int.reduceLT, Int.reduceLE, Int.reduceEq, Int.reduceNe, Int.reduceToNat, Int.reduceAdd, Int.reduceSub, reduceCtorEq, Nat.reduceBEq, Nat.reduceBNe, push_len]
  generalize hpush (hpush σ (bareC 4 f t e i)) (bareC 0 0 0 0 0) = σ0 at pB pz g0 r0 ⊢
  simp only [F6_app, Z26, x26_5, base1, baseE, ↓reduceIte, Nat.reduceAdd, Nat.reduceSub, Nat.reduceMul, Nat.reduceEqDiff, Nat.reduceLeDiff, Nat.reduceLT, Int.reduceLT, Int.reduceLE, Int.reduceEq, Int.reduceNe, Int.reduceToNat, Int.reduceAdd, Int.reduceSub, reduceCtorEq, Nat.reduceBEq, Nat.reduceBNe, pB]
  refine ⟨id, s, rfl, r0, fun σ2 x r1 f1 hx1 hx2 => ?_⟩
  have b2 := f1 _ _ pB (by omega)
  have z2 := f1 _ _ pz (by omega)
  have g2 : Fr1 σ σ2 id := g0.trans f1
  generalize readChart s = w at hK r1 hx2 ⊢
  obtain ⟨⟨ae, sh⟩, s1⟩ := w
  obtain ⟨f', nn, r2⟩ := r1
  have sB : ∀ d : List AV, hget (hset σ2 σ.length d) σ.length = some d := fun d => set_same b2
  have cx : x.isCell = true := nz_cell (by rw [hx2]; rfl)
  simp only [F6_app, Z26, x26_5, base1, baseE, ↓reduceIte, Nat.reduceAdd, Nat.reduceSub, Nat.reduceMul, Nat.reduceEqDiff, Nat.reduceLeDiff, Nat.reduceLT, Int.reduceLT, Int.reduceLE, Int.reduceEq, Int.reduceNe, Int.reduceToNat, Int.reduceAdd, Int.reduceSub, reduceCtorEq, Nat.reduceBEq, Nat.reduceBNe, b2, sB, cx]
  refine fin26 id σ.length _ f' nn s1.1 s1.2 0 _ _ K _ _ rfl rfl rfl rfl (by omega) (by omega) (sB _) ((set_other (by omega)).trans z2) ((set_other (by omega)).trans r2) rfl rfl (nz_cells (by simp only [List.map_cons, List.map_nil, hx2]; rfl)) fun σ' hr' hf => ?_
  refine hK _ _ (by have : (if s1.2 = 0 then 0 else s1.2) = s1.2 := by split <;> omega
                    rw [this] at hr'; exact hr') (fun j c hj hne => hf j c ((set_other (by have := hget_lt hj; omega)).trans (g2 j c hj hne)) hne (by have := hget_lt hj; omega)) (by simp only [pureL, AV.pure, hx1, Bool.and_self]) ?_
  simp only [List.map_cons, List.map_nil, hx2]
  rfl
theorem body6 (id : Nat) (s : St) (k f t e i : Int) (hk : k = 6) (σ : AHeap) (K : AV → AHeap → Prop) (hr : RdS σ id s.1 s.2)
    (hK : ∀ σ' cs, RdS σ' id (readBody (bare k f t e i) s).2.1 (readBody (bare k f t e i) s).2.2 → Fr1 σ σ' id → pureL cs = true → cs.map nz1 = (readBody (bare k f t e i) s).1.cells → K (.agg cs) σ') :
    sF F6 s26 [.ptr id 0, .agg (bareC k f t e i)] σ K := by
  have hid : id < σ.length := by obtain ⟨f, nn, hg⟩ := hr; exact hget_lt hg
  have pB : hget (hpush (hpush σ (bareC k f t e i)) (bareC 0 0 0 0 0)) σ.length = some (bareC k f t e i) := push_old (push_new rfl)
  have pz : hget (hpush (hpush σ (bareC k f t e i)) (bareC 0 0 0 0 0)) (σ.length + 1) = some (bareC 0 0 0 0 0) := push_new (by simp [push_len])
  have g0 : Fr1 σ (hpush (hpush σ (bareC k f t e i)) (bareC 0 0 0 0 0)) id := Fr1.push.trans Fr1.push
  have r0 : RdS (hpush (hpush σ (bareC k f t e i)) (bareC 0 0 0 0 0)) id s.1 s.2 := rd_push (rd_push hr)
  subst hk
  have hb : readBody (bare 6 f t e i) s = ({ bare 6 f t e i with aep := (readChart s).1.1, sh := (readChart s).1.2 }, (readChart s).2) := by simp [readBody, bare]
  rw [hb] at hK
  simp only [F6_app, Z26, x26_5, base1, baseE, ↓reduceIte, Nat.reduceAdd, Nat.reduceSub, Nat.reduceMul, Nat.reduceEqDiff, Nat.reduceLeDiff, Nat.reduceLT, Int.reduceLT, Int.reduceLE, Int.reduceEq, Int.reduceNe, Int.reduceToNat, Int.reduceAdd, Int.reduceSub, reduceCtorEq, Nat.reduceBEq, Nat.reduceBNe, push_len]
  generalize hpush (hpush σ (bareC 6 f t e i)) (bareC 0 0 0 0 0) = σ0 at pB pz g0 r0 ⊢
  simp only [F6_app, Z26, x26_5, base1, baseE, ↓reduceIte, Nat.reduceAdd, Nat.reduceSub, Nat.reduceMul, Nat.reduceEqDiff, Nat.reduceLeDiff, Nat.reduceLT, Int.reduceLT, Int.reduceLE, Int.reduceEq, Int.reduceNe, Int.reduceToNat, Int.reduceAdd, Int.reduceSub, reduceCtorEq, Nat.reduceBEq, Nat.reduceBNe, pB]
  refine ⟨id, s, rfl, r0, fun σ2 x r1 f1 hx1 hx2 => ?_⟩
  have b2 := f1 _ _ pB (by omega)
  have z2 := f1 _ _ pz (by omega)
  have g2 : Fr1 σ σ2 id := g0.trans f1
  generalize readChart s = w at hK r1 hx2 ⊢
  obtain ⟨⟨ae, sh⟩, s1⟩ := w
  obtain ⟨f', nn, r2⟩ := r1
  have sB : ∀ d : List AV, hget (hset σ2 σ.length d) σ.length = some d := fun d => set_same b2
  have cx : x.isCell = true := nz_cell (by rw [hx2]; rfl)
  simp only [F6_app, Z26, x26_5, base1, baseE, ↓reduceIte, Nat.reduceAdd, Nat.reduceSub, Nat.reduceMul, Nat.reduceEqDiff, Nat.reduceLeDiff, Nat.reduceLT, Int.reduceLT, Int.reduceLE, Int.reduceEq, Int.reduceNe, Int.reduceToNat, Int.reduceAdd, Int.reduceSub, reduceCtorEq, Nat.reduceBEq, Nat.reduceBNe, b2, sB, cx]
  refine fin26 id σ.length _ f' nn s1.1 s1.2 0 _ _ K _ _ rfl rfl rfl rfl (by omega) (by omega) (sB _) ((set_other (by omega)).trans z2) ((set_other (by omega)).trans r2) rfl rfl (nz_cells (by simp only [List.map_cons, List.map_nil, hx2]; rfl)) fun σ' hr' hf => ?_
  refine hK _ _ (by have : (if s1.2 = 0 then 0 else s1.2) = s1.2 := by split <;> omega
                    rw [this] at hr'; exact hr') (fun j c hj hne => hf j c ((set_other (by have := hget_lt hj; omega)).trans (g2 j c hj hne)) hne (by have := hget_lt hj; omega)) (by simp only [pureL, AV.pure, hx1, Bool.and_self]) ?_
  simp only [List.map_cons, List.map_nil, hx2]
  rfl
theorem body7 (id : Nat) (s : St) (k f t e i : Int) (hk : k = 7) (σ : AHeap) (K : AV → AHeap → Prop) (hr : RdS σ id s.1 s.2)
    (hK : ∀ σ' cs, RdS σ' id (readBody (bare k f t e i) s).2.1 (readBody (bare k f t e i) s).2.2 → Fr1 σ σ' id → pureL cs = true → cs.map nz1 = (readBody (bare k f t e i) s).1.cells → K (.agg cs) σ') :
    sF F6 s26 [.ptr id 0, .agg (bareC k f t e i)] σ K := by
  have hid : id < σ.length := by obtain ⟨f, nn, hg⟩ := hr; exact hget_lt hg
  have pB : hget (hpush (hpush σ (bareC k f t e i)) (bareC 0 0 0 0 0)) σ.length = some (bareC k f t e i) := push_old (push_new rfl)
  have pz : hget (hpush (hpush σ (bareC k f t e i)) (bareC 0 0 0 0 0)) (σ.length + 1) = some (bareC 0 0 0 0 0) := push_new (by simp [push_len])
  have g0 : Fr1 σ (hpush (hpush σ (bareC k f t e i)) (bareC 0 0 0 0 0)) id := Fr1.push.trans Fr1.push
  have r0 : RdS (hpush (hpush σ (bareC k f t e i)) (bareC 0 0 0 0 0)) id s.1 s.2 := rd_push (rd_push hr)
  subst hk
  have hb : readBody (bare 7 f t e i) s = ({ bare 7 f t e i with sf := vT s, st := vT (stT s), l := (readRows (stT (stT s))).1.1, last := (readRows (stT (stT s))).1.2 }, (readRows (stT (stT s))).2) := by simp [readBody, bare]
  rw [hb] at hK
  simp only [F6_app, Z26, x26_5, base1, baseE, ↓reduceIte, Nat.reduceAdd, Nat.reduceSub, Nat.reduceMul, Nat.reduceEqDiff, Nat.reduceLeDiff, Nat.reduceLT, Int.reduceLT, Int.reduceLE, Int.reduceEq, Int.reduceNe, Int.reduceToNat, Int.reduceAdd, Int.reduceSub, reduceCtorEq, Nat.reduceBEq, Nat.reduceBNe, push_len]
  generalize hpush (hpush σ (bareC 7 f t e i)) (bareC 0 0 0 0 0) = σ0 at pB pz g0 r0 ⊢
  simp only [F6_app, Z26, x26_5, base1, baseE, ↓reduceIte, Nat.reduceAdd, Nat.reduceSub, Nat.reduceMul, Nat.reduceEqDiff, Nat.reduceLeDiff, Nat.reduceLT, Int.reduceLT, Int.reduceLE, Int.reduceEq, Int.reduceNe, Int.reduceToNat, Int.reduceAdd, Int.reduceSub, reduceCtorEq, Nat.reduceBEq, Nat.reduceBNe, pB]
  refine ⟨id, s.1, s.2, rfl, r0, fun σ1 r1 f1 => ?_⟩
  have b1 := f1 _ _ pB (by omega)
  have z1 := f1 _ _ pz (by omega)
  have g1 : Fr1 σ σ1 id := g0.trans f1
  have r1 : RdS σ1 id (stT s).1 (stT s).2 := r1
  have v0 : (rdText s.1 s.2).1 = vT s := rfl
  rw [v0]
  generalize stT s = s1 at r1 hK ⊢
  generalize vT s = a at hK ⊢
  simp only [F6_app, Z26, x26_5, base1, baseE, ↓reduceIte, Nat.reduceAdd, Nat.reduceSub, Nat.reduceMul, Nat.reduceEqDiff, Nat.reduceLeDiff, Nat.reduceLT, Int.reduceLT, Int.reduceLE, Int.reduceEq, Int.reduceNe, Int.reduceToNat, Int.reduceAdd, Int.reduceSub, reduceCtorEq, Nat.reduceBEq, Nat.reduceBNe]
  refine ⟨id, s1.1, s1.2, rfl, r1, fun σ2 r2 f2 => ?_⟩
  have b2 := f2 _ _ b1 (by omega)
  have z2 := f2 _ _ z1 (by omega)
  have g2 : Fr1 σ σ2 id := g1.trans f2
  have r2 : RdS σ2 id (stT s1).1 (stT s1).2 := r2
  have v1 : (rdText s1.1 s1.2).1 = vT s1 := rfl
  rw [v1]
  generalize stT s1 = s2 at r2 hK ⊢
  generalize vT s1 = b at hK ⊢
  have sB : ∀ d : List AV, hget (hset σ2 σ.length d) σ.length = some d := fun d => set_same b2
  simp only [F6_app, Z26, x26_5, base1, baseE, ↓reduceIte, Nat.reduceAdd, Nat.reduceSub, Nat.reduceMul, Nat.reduceEqDiff, Nat.reduceLeDiff, Nat.reduceLT, Int.reduceLT, Int.reduceLE, Int.reduceEq, Int.reduceNe, Int.reduceToNat, Int.reduceAdd, Int.reduceSub, reduceCtorEq, Nat.reduceBEq, Nat.reduceBNe, b2, sB]
  refine ⟨id, s2, rfl, rd_set r2 (by omega), fun σ3 x y r3 f3 hx1 hx2 hy1 hy2 => ?_⟩
  have b3 := f3 _ _ (sB _) (by omega)
  have z3 := f3 _ _ ((set_other (by omega)).trans z2) (by omega)
  have g3 : Fr1 σ σ3 id := fun j c hj hne => f3 j c ((set_other (by have := hget_lt hj; omega)).trans (g2 j c hj hne)) hne
  generalize readRows s2 = w at hK r3 hx2 hy2 ⊢
  obtain ⟨⟨l, m⟩, s3⟩ := w
  obtain ⟨f', nn, r4⟩ := r3
  have sC : ∀ d : List AV, hget (hset σ3 σ.length d) σ.length = some d := fun d => set_same b3
  have sD : ∀ c d : List AV, hget (hset (hset σ3 σ.length c) σ.length d) σ.length = some d := fun c d => set_same (sC c)
  have cx : x.isCell = true := nz_cell (by rw [hx2]; rfl)
  have cy : y.isCell = true := nz_cell (by rw [hy2]; rfl)
  have kx := cell_cells cx
  have ky := cell_cells cy
  simp only [F6_app, Z26, x26_5, base1, baseE, ↓reduceIte, Nat.reduceAdd, Nat.reduceSub, Nat.reduceMul, Nat.reduceEqDiff, Nat.reduceLeDiff, Nat.reduceLT, Int.reduceLT, Int.reduceLE, Int.reduceEq, Int.reduceNe, Int.reduceToNat, Int.reduceAdd, Int.reduceSub, reduceCtorEq, Nat.reduceBEq, Nat.reduceBNe, b3, sC, sD, cx, cy, kx, ky]
  refine fin26 id σ.length _ f' nn s3.1 s3.2 0 [.int .i64 7, .int .i64 f, .int .i64 t, .int .i64 e, .int .i64 i, .int .i64 0, .int .i64 0, .int .i64 0, .str [], .str [], .str [], .str [], .int .i64 0, .int .i64 0, .int .i64 0, .int .i64 0, .bool false, .str [], .nilslice, .str [], .bool false, .str a, .str b, x, y, .int .i64 0, .nilslice] (bareC 0 0 0 0 0) K _ _ ?_ ?_ ?_ ?_ ?_ ?_ ?_ ?_ ?_ ?_ ?_ ?_ fun σ' hr' hf => ?_
  rotate_right
  · have hz : (if s3.2 = 0 then 0 else s3.2) = s3.2 := by split <;> omega
    rw [hz] at hr'
    refine hK _ _ hr' (fun j c hj hne => hf j c ((set_other (by have := hget_lt hj; omega)).trans ((set_other (by have := hget_lt hj; omega)).trans (g3 j c hj hne))) hne (by have := hget_lt hj; omega)) (by simp only [pureL, AV.pure, hx1, hy1, Bool.and_self]) ?_
    simp only [List.map_cons, List.map_nil, hx2, hy2]
    rfl
  · rfl
  · rfl
  · rfl
  · rfl
  · omega
  · omega
  · first | exact sD _ _ | exact sC _
  · first | exact (set_other (by omega)).trans ((set_other (by omega)).trans z3) | exact (set_other (by omega)).trans z3
  · first | exact (set_other (by omega)).trans ((set_other (by omega)).trans r4) | exact (set_other (by omega)).trans r4
  · rfl
  · rfl
  · exact nz_cells (by simp only [List.map_cons, List.map_nil, hx2, hy2]; rfl)
theorem body8 (id : Nat) (s : St) (k f t e i : Int) (hk : k = 8) (σ : AHeap) (K : AV → AHeap → Prop) (hr : RdS σ id s.1 s.2)
    (hK : ∀ σ' cs, RdS σ' id (readBody (bare k f t e i) s).2.1 (readBody (bare k f t e i) s).2.2 → Fr1 σ σ' id → pureL cs = true → cs.map nz1 = (readBody (bare k f t e i) s).1.cells → K (.agg cs) σ') :
    sF F6 s26 [.ptr id 0, .agg (bareC k f t e i)] σ K := by
  have hid : id < σ.length := by obtain ⟨f, nn, hg⟩ := hr; exact hget_lt hg
  have pB : hget (hpush (hpush σ (bareC k f t e i)) (bareC 0 0 0 0 0)) σ.length = some (bareC k f t e i) := push_old (push_new rfl)
  have pz : hget (hpush (hpush σ (bareC k f t e i)) (bareC 0 0 0 0 0)) (σ.length + 1) = some (bareC 0 0 0 0 0) := push_new (by simp [push_len])
  have g0 : Fr1 σ (hpush (hpush σ (bareC k f t e i)) (bareC 0 0 0 0 0)) id := Fr1.push.trans Fr1.push
  have r0 : RdS (hpush (hpush σ (bareC k f t e i)) (bareC 0 0 0 0 0)) id s.1 s.2 := rd_push (rd_push hr)
  subst hk
  have hb : readBody (bare 8 f t e i) s = ({ bare 8 f t e i with sf := vT s, st := vT (stT s), l := (readRows (stT (stT s))).1.1, last := (readRows (stT (stT s))).1.2 }, (readRows (stT (stT s))).2) := by simp [readBody, bare]
  rw [hb] at hK
  simp only [F6_app, Z26, x26_5, base1, baseE, ↓reduceIte, Nat.reduceAdd, Nat.reduceSub, Nat.reduceMul, Nat.reduceEqDiff, Nat.reduceLeDiff, Nat.reduceLT, Int.reduceLT, Int.reduceLE, Int.reduceEq, Int.reduceNe, Int.reduceToNat, Int.reduceAdd, Int.reduceSub, reduceCtorEq, Nat.reduceBEq, Nat.reduceBNe, push_len]
  generalize hpush (hpush σ (bareC 8 f t e i)) (bareC 0 0 0 0 0) = σ0 at pB pz g0 r0 ⊢
  simp only [F6_app, Z26, x26_5, base1, baseE, ↓reduceIte, Nat.reduceAdd, Nat.reduceSub, Nat.reduceMul, Nat.reduceEqDiff, Nat.reduceLeDiff, Nat.reduceLT, Int.reduceLT, Int.reduceLE, Int.reduceEq, Int.reduceNe, Int.reduceToNat, Int.reduceAdd, Int.reduceSub, reduceCtorEq, Nat.reduceBEq, Nat.reduceBNe, pB]
  refine ⟨id, s.1, s.2, rfl, r0, fun σ1 r1 f1 => ?_⟩
  have b1 := f1 _ _ pB (by omega)
  have z1 := f1 _ _ pz (by omega)
  have g1 : Fr1 σ σ1 id := g0.trans f1
  have r1 : RdS σ1 id (stT s).1 (stT s).2 := r1
  have v0 : (rdText s.1 s.2).1 = vT s := rfl
  rw [v0]
  generalize stT s = s1 at r1 hK ⊢
  generalize vT s = a at hK ⊢
  simp only [F6_app, Z26, x26_5, base1, baseE, ↓reduceIte, Nat.reduceAdd, Nat.reduceSub, Nat.reduceMul, Nat.reduceEqDiff, Nat.reduceLeDiff, Nat.reduceLT, Int.reduceLT, Int.reduceLE, Int.reduceEq, Int.reduceNe, Int.reduceToNat, Int.reduceAdd, Int.reduceSub, reduceCtorEq, Nat.reduceBEq, Nat.reduceBNe]
  refine ⟨id, s1.1, s1.2, rfl, r1, fun σ2 r2 f2 => ?_⟩
  have b2 := f2 _ _ b1 (by omega)
  have z2 := f2 _ _ z1 (by omega)
  have g2 : Fr1 σ σ2 id := g1.trans f2
  have r2 : RdS σ2 id (stT s1).1 (stT s1).2 := r2
  have v1 : (rdText s1.1 s1.2).1 = vT s1 := rfl
  rw [v1]
  generalize stT s1 = s2 at r2 hK ⊢
  generalize vT s1 = b at hK ⊢
  have sB : ∀ d : List AV, hget (hset σ2 σ.length d) σ.length = some d := fun d => set_same b2
  simp only [F6_app, Z26, x26_5, base1, baseE, ↓reduceIte, Nat.reduceAdd, Nat.reduceSub, Nat.reduceMul, Nat.reduceEqDiff, Nat.reduceLeDiff, Nat.reduceLT, Int.reduceLT, Int.reduceLE, Int.reduceEq, Int.reduceNe, Int.reduceToNat, Int.reduceAdd, Int.reduceSub, reduceCtorEq, Nat.reduceBEq, Nat.reduceBNe, b2, sB]
  refine ⟨id, s2, rfl, rd_set r2 (by omega), fun σ3 x y r3 f3 hx1 hx2 hy1 hy2 => ?_⟩
  have b3 := f3 _ _ (sB _) (by omega)
  have z3 := f3 _ _ ((set_other (by omega)).trans z2) (by omega)
  have g3 : Fr1 σ σ3 id := fun j c hj hne => f3 j c ((set_other (by have := hget_lt hj; omega)).trans (g2 j c hj hne)) hne
  generalize readRows s2 = w at hK r3 hx2 hy2 ⊢
  obtain ⟨⟨l, m⟩, s3⟩ := w
  obtain ⟨f', nn, r4⟩ := r3
  have sC : ∀ d : List AV, hget (hset σ3 σ.length d) σ.length = some d := fun d => set_same b3
  have sD : ∀ c d : List AV, hget (hset (hset σ3 σ.length c) σ.length d) σ.length = some d := fun c d => set_same (sC c)
  have cx : x.isCell = true := nz_cell (by rw [hx2]; rfl)
  have cy : y.isCell = true := nz_cell (by rw [hy2]; rfl)
  have kx := cell_cells cx
  have ky := cell_cells cy
  simp only [F6_app, Z26, x26_5, base1, baseE, ↓reduceIte, Nat.reduceAdd, Nat.reduceSub, Nat.reduceMul, Nat.reduceEqDiff, Nat.reduceLeDiff, Nat.reduceLT, Int.reduceLT, Int.reduceLE, Int.reduceEq, Int.reduceNe, Int.reduceToNat, Int.reduceAdd, Int.reduceSub, reduceCtorEq, Nat.reduceBEq, Nat.reduceBNe, b3, sC, sD, cx, cy, kx, ky]
  refine fin26 id σ.length _ f' nn s3.1 s3.2 0 [.int .i64 8, .int .i64 f, .int .i64 t, .int .i64 e, .int .i64 i, .int .i64 0, .int .i64 0, .int .i64 0, .str [], .str [], .str [], .str [], .int .i64 0, .int .i64 0, .int .i64 0, .int .i64 0, .bool false, .str [], .nilslice, .str [], .bool false, .str a, .str b, x, y, .int .i64 0, .nilslice] (bareC 0 0 0 0 0) K _ _ ?_ ?_ ?_ ?_ ?_ ?_ ?_ ?_ ?_ ?_ ?_ ?_ fun σ' hr' hf => ?_
  rotate_right
  · have hz : (if s3.2 = 0 then 0 else s3.2) = s3.2 := by split <;> omega
    rw [hz] at hr'
    refine hK _ _ hr' (fun j c hj hne => hf j c ((set_other (by have := hget_lt hj; omega)).trans ((set_other (by have := hget_lt hj; omega)).trans (g3 j c hj hne))) hne (by have := hget_lt hj; omega)) (by simp only [pureL, AV.pure, hx1, hy1, Bool.and_self]) ?_
    simp only [List.map_cons, List.map_nil, hx2, hy2]
    rfl
  · rfl
  · rfl
  · rfl
  · rfl
  · omega
  · omega
  · first | exact sD _ _ | exact sC _
  · first | exact (set_other (by omega)).trans ((set_other (by omega)).trans z3) | exact (set_other (by omega)).trans z3
  · first | exact (set_other (by omega)).trans ((set_other (by omega)).trans r4) | exact (set_other (by omega)).trans r4
  · rfl
  · rfl
  · exact nz_cells (by simp only [List.map_cons, List.map_nil, hx2, hy2]; rfl)
theorem body9 (id : Nat) (s : St) (k f t e i : Int) (hk : k = 9) (σ : AHeap) (K : AV → AHeap → Prop) (hr : RdS σ id s.1 s.2)
    (hK : ∀ σ' cs, RdS σ' id (readBody (bare k f t e i) s).2.1 (readBody (bare k f t e i) s).2.2 → Fr1 σ σ' id → pureL cs = true → cs.map nz1 = (readBody (bare k f t e i) s).1.cells → K (.agg cs) σ') :
    sF F6 s26 [.ptr id 0, .agg (bareC k f t e i)] σ K := by
  have hid : id < σ.length := by obtain ⟨f, nn, hg⟩ := hr; exact hget_lt hg
  have pB : hget (hpush (hpush σ (bareC k f t e i)) (bareC 0 0 0 0 0)) σ.length = some (bareC k f t e i) := push_old (push_new rfl)
  have pz : hget (hpush (hpush σ (bareC k f t e i)) (bareC 0 0 0 0 0)) (σ.length + 1) = some (bareC 0 0 0 0 0) := push_new (by simp [push_len])
  have g0 : Fr1 σ (hpush (hpush σ (bareC k f t e i)) (bareC 0 0 0 0 0)) id := Fr1.push.trans Fr1.push
  have r0 : RdS (hpush (hpush σ (bareC k f t e i)) (bareC 0 0 0 0 0)) id s.1 s.2 := rd_push (rd_push hr)
  subst hk
  have hb : readBody (bare 9 f t e i) s = ({ bare 9 f t e i with sf := vT s, st := vT (stT s), l := (readRows (stT (stT s))).1.1, last := (readRows (stT (stT s))).1.2 }, (readRows (stT (stT s))).2) := by simp [readBody, bare]
  rw [hb] at hK
  simp only [F6_app, Z26, x26_5, base1, baseE, ↓reduceIte, Nat.reduceAdd, Nat.reduceSub, Nat.reduceMul, Nat.reduceEqDiff, Nat.reduceLeDiff, Nat.reduceLT, Int.reduceLT, Int.reduceLE, Int.reduceEq, Int.reduceNe, Int.reduceToNat, Int.reduceAdd, Int.reduceSub, reduceCtorEq, Nat.reduceBEq, Nat.reduceBNe, push_len]
  generalize hpush (hpush σ (bareC 9 f t e i)) (bareC 0 0 0 0 0) = σ0 at pB pz g0 r0 ⊢
  simp only [F6_app, Z26, x26_5, base1, baseE, ↓reduceIte, Nat.reduceAdd, Nat.reduceSub, Nat.reduceMul, Nat.reduceEqDiff, Nat.reduceLeDiff, Nat.reduceLT, Int.reduceLT, Int.reduceLE, Int.reduceEq, Int.reduceNe, Int.reduceToNat, Int.reduceAdd, Int.reduceSub, reduceCtorEq, Nat.reduceBEq, Nat.reduceBNe, pB]
  refine ⟨id, s.1, s.2, rfl, r0, fun σ1 r1 f1 => ?_⟩
  have b1 := f1 _ _ pB (by omega)
  have z1 := f1 _ _ pz (by omega)
  have g1 : Fr1 σ σ1 id := g0.trans f1
  have r1 : RdS σ1 id (stT s).1 (stT s).2 := r1
  have v0 : (rdText s.1 s.2).1 = vT s := rfl
  rw [v0]
  generalize stT s = s1 at r1 hK ⊢
  generalize vT s = a at hK ⊢
  simp only [F6_app, Z26, x26_5, base1, baseE, ↓reduceIte, Nat.reduceAdd, Nat.reduceSub, Nat.reduceMul, Nat.reduceEqDiff, Nat.reduceLeDiff, Nat.reduceLT, Int.reduceLT, Int.reduceLE, Int.reduceEq, Int.reduceNe, Int.reduceToNat, Int.reduceAdd, Int.reduceSub, reduceCtorEq, Nat.reduceBEq, Nat.reduceBNe]
  refine ⟨id, s1.1, s1.2, rfl, r1, fun σ2 r2 f2 => ?_⟩
  have b2 := f2 _ _ b1 (by omega)
  have z2 := f2 _ _ z1 (by omega)
  have g2 : Fr1 σ σ2 id := g1.trans f2
  have r2 : RdS σ2 id (stT s1).1 (stT s1).2 := r2
  have v1 : (rdText s1.1 s1.2).1 = vT s1 := rfl
  rw [v1]
  generalize stT s1 = s2 at r2 hK ⊢
  generalize vT s1 = b at hK ⊢
  have sB : ∀ d : List AV, hget (hset σ2 σ.length d) σ.length = some d := fun d => set_same b2
  simp only [F6_app, Z26, x26_5, base1, baseE, ↓reduceIte, Nat.reduceAdd, Nat.reduceSub, Nat.reduceMul, Nat.reduceEqDiff, Nat.reduceLeDiff, Nat.reduceLT, Int.reduceLT, Int.reduceLE, Int.reduceEq, Int.reduceNe, Int.reduceToNat, Int.reduceAdd, Int.reduceSub, reduceCtorEq, Nat.reduceBEq, Nat.reduceBNe, b2, sB]
  refine ⟨id, s2, rfl, rd_set r2 (by omega), fun σ3 x y r3 f3 hx1 hx2 hy1 hy2 => ?_⟩
  have b3 := f3 _ _ (sB _) (by omega)
  have z3 := f3 _ _ ((set_other (by omega)).trans z2) (by omega)
  have g3 : Fr1 σ σ3 id := fun j c hj hne => f3 j c ((set_other (by have := hget_lt hj; omega)).trans (g2 j c hj hne)) hne
  generalize readRows s2 = w at hK r3 hx2 hy2 ⊢
  obtain ⟨⟨l, m⟩, s3⟩ := w
  obtain ⟨f', nn, r4⟩ := r3
  have sC : ∀ d : List AV, hget (hset σ3 σ.length d) σ.length = some d := fun d => set_same b3
  have sD : ∀ c d : List AV, hget (hset (hset σ3 σ.length c) σ.length d) σ.length = some d := fun c d => set_same (sC c)
  have cx : x.isCell = true := nz_cell (by rw [hx2]; rfl)
  have cy : y.isCell = true := nz_cell (by rw [hy2]; rfl)
  have kx := cell_cells cx
  have ky := cell_cells cy
  simp only [F6_app, Z26, x26_5, base1, baseE, ↓reduceIte, Nat.reduceAdd, Nat.reduceSub, Nat.reduceMul, Nat.reduceEqDiff, Nat.reduceLeDiff, Nat.reduceLT, Int.reduceLT, Int.reduceLE, Int.reduceEq, Int.reduceNe, Int.reduceToNat, Int.reduceAdd, Int.reduceSub, reduceCtorEq, Nat.reduceBEq, Nat.reduceBNe, b3, sC, sD, cx, cy, kx, ky]
  refine fin26 id σ.length _ f' nn s3.1 s3.2 0 [.int .i64 9, .int .i64 f, .int .i64 t, .int .i64 e, .int .i64 i, .int .i64 0, .int .i64 0, .int .i64 0, .str [], .str [], .str [], .str [], .int .i64 0, .int .i64 0, .int .i64 0, .int .i64 0, .bool false, .str [], .nilslice, .str [], .bool false, .str a, .str b, x, y, .int .i64 0, .nilslice] (bareC 0 0 0 0 0) K _ _ ?_ ?_ ?_ ?_ ?_ ?_ ?_ ?_ ?_ ?_ ?_ ?_ fun σ' hr' hf => ?_
  rotate_right
  · have hz : (if s3.2 = 0 then 0 else s3.2) = s3.2 := by split <;> omega
    rw [hz] at hr'
    refine hK _ _ hr' (fun j c hj hne => hf j c ((set_other (by have := hget_lt hj; omega)).trans ((set_other (by have := hget_lt hj; omega)).trans (g3 j c hj hne))) hne (by have := hget_lt hj; omega)) (by simp only [pureL, AV.pure, hx1, hy1, Bool.and_self]) ?_
    simp only [List.map_cons, List.map_nil, hx2, hy2]
    rfl
  · rfl
  · rfl
  · rfl
  · rfl
  · omega
  · omega
  · first | exact sD _ _ | exact sC _
  · first | exact (set_other (by omega)).trans ((set_other (by omega)).trans z3) | exact (set_other (by omega)).trans z3
  · first | exact (set_other (by omega)).trans ((set_other (by omega)).trans r4) | exact (set_other (by omega)).trans r4
  · rfl
  · rfl
  · exact nz_cells (by simp only [List.map_cons, List.map_nil, hx2, hy2]; rfl)
theorem body10 (id : Nat) (s : St) (k f t e i : Int) (hk : k = 10) (σ : AHeap) (K : AV → AHeap → Prop) (hr : RdS σ id s.1 s.2)
    (hK : ∀ σ' cs, RdS σ' id (readBody (bare k f t e i) s).2.1 (readBody (bare k f t e i) s).2.2 → Fr1 σ σ' id → pureL cs = true → cs.map nz1 = (readBody (bare k f t e i) s).1.cells → K (.agg cs) σ') :
    sF F6 s26 [.ptr id 0, .agg (bareC k f t e i)] σ K := by
  have hid : id < σ.length := by obtain ⟨f, nn, hg⟩ := hr; exact hget_lt hg
  have pB : hget (hpush (hpush σ (bareC k f t e i)) (bareC 0 0 0 0 0)) σ.length = some (bareC k f t e i) := push_old (push_new rfl)
  have pz : hget (hpush (hpush σ (bareC k f t e i)) (bareC 0 0 0 0 0)) (σ.length + 1) = some (bareC 0 0 0 0 0) := push_new (by simp [push_len])
  have g0 : Fr1 σ (hpush (hpush σ (bareC k f t e i)) (bareC 0 0 0 0 0)) id := Fr1.push.trans Fr1.push
  have r0 : RdS (hpush (hpush σ (bareC k f t e i)) (bareC 0 0 0 0 0)) id s.1 s.2 := rd_push (rd_push hr)
  subst hk
  have hb : readBody (bare 10 f t e i) s = ({ bare 10 f t e i with sf := vT s, st := vT (stT s), l := (readRows (stT (stT s))).1.1, last := (readRows (stT (stT s))).1.2 }, (readRows (stT (stT s))).2) := by simp [readBody, bare]
  rw [hb] at hK
  simp only [F6_app, Z26, x26_5, base1, baseE, ↓reduceIte, Nat.reduceAdd, Nat.reduceSub, Nat.reduceMul, Nat.reduceEqDiff, Nat.reduceLeDiff, Nat.reduceLT, Int.reduceLT, Int.reduceLE, Int.reduceEq, Int.reduceNe, Int.reduceToNat, Int.reduceAdd, Int.reduceSub, reduceCtorEq, Nat.reduceBEq, Nat.reduceBNe, push_len]
  generalize hpush (hpush σ (bareC 10 f t e i)) (bareC 0 0 0 0 0) = σ0 at pB pz g0 r0 ⊢
  simp only [F6_app, Z26, x26_5, base1, baseE, ↓reduceIte, Nat.reduceAdd, Nat.reduceSub, Nat.reduceMul, Nat.reduceEqDiff, Nat.reduceLeDiff, Nat.reduceLT, Int.reduceLT, Int.reduceLE, Int.reduceEq, Int.reduceNe, Int.reduceToNat, Int.reduceAdd, Int.reduceSub, reduceCtorEq, Nat.reduceBEq, Nat.reduceBNe, pB]
  refine ⟨id, s.1, s.2, rfl, r0, fun σ1 r1 f1 => ?_⟩
  have b1 := f1 _ _ pB (by omega)
  have z1 := f1 _ _ pz (by omega)
  have g1 : Fr1 σ σ1 id := g0.trans f1
  have r1 : RdS σ1 id (stT s).1 (stT s).2 := r1
  have v0 : (rdText s.1 s.2).1 = vT s := rfl
  rw [v0]
  generalize stT s = s1 at r1 hK ⊢
  generalize vT s = a at hK ⊢
  simp only [F6_app, Z26, x26_5, base1, baseE, ↓reduceIte, Nat.reduceAdd, Nat.reduceSub, Nat.reduceMul, Nat.reduceEqDiff, Nat.reduceLeDiff, Nat.reduceLT, Int.reduceLT, Int.reduceLE, Int.reduceEq, Int.reduceNe, Int.reduceToNat, Int.reduceAdd, Int.reduceSub, reduceCtorEq, Nat.reduceBEq, Nat.reduceBNe]
  refine ⟨id, s1.1, s1.2, rfl, r1, fun σ2 r2 f2 => ?_⟩
  have b2 := f2 _ _ b1 (by omega)
  have z2 := f2 _ _ z1 (by omega)
  have g2 : Fr1 σ σ2 id := g1.trans f2
  have r2 : RdS σ2 id (stT s1).1 (stT s1).2 := r2
  have v1 : (rdText s1.1 s1.2).1 = vT s1 := rfl
  rw [v1]
  generalize stT s1 = s2 at r2 hK ⊢
  generalize vT s1 = b at hK ⊢
  have sB : ∀ d : List AV, hget (hset σ2 σ.length d) σ.length = some d := fun d => set_same b2
  simp only [F6_app, Z26, x26_5, base1, baseE, ↓reduceIte, Nat.reduceAdd, Nat.reduceSub, Nat.reduceMul, Nat.reduceEqDiff, Nat.reduceLeDiff, Nat.reduceLT, Int.reduceLT, Int.reduceLE, Int.reduceEq, Int.reduceNe, Int.reduceToNat, Int.reduceAdd, Int.reduceSub, reduceCtorEq, Nat.reduceBEq, Nat.reduceBNe, b2, sB]
  refine ⟨id, s2, rfl, rd_set r2 (by omega), fun σ3 x y r3 f3 hx1 hx2 hy1 hy2 => ?_⟩
  have b3 := f3 _ _ (sB _) (by omega)
  have z3 := f3 _ _ ((set_other (by omega)).trans z2) (by omega)
  have g3 : Fr1 σ σ3 id := fun j c hj hne => f3 j c ((set_other (by have := hget_lt hj; omega)).trans (g2 j c hj hne)) hne
  generalize readRows s2 = w at hK r3 hx2 hy2 ⊢
  obtain ⟨⟨l, m⟩, s3⟩ := w
  obtain ⟨f', nn, r4⟩ := r3
  have sC : ∀ d : List AV, hget (hset σ3 σ.length d) σ.length = some d := fun d => set_same b3
  have sD : ∀ c d : List AV, hget (hset (hset σ3 σ.length c) σ.length d) σ.length = some d := fun c d => set_same (sC c)
  have cx : x.isCell = true := nz_cell (by rw [hx2]; rfl)
  have cy : y.isCell = true := nz_cell (by rw [hy2]; rfl)
  have kx := cell_cells cx
  have ky := cell_cells cy
  simp only [F6_app, Z26, x26_5, base1, baseE, ↓reduceIte, Nat.reduceAdd, Nat.reduceSub, Nat.reduceMul, Nat.reduceEqDiff, Nat.reduceLeDiff, Nat.reduceLT, Int.reduceLT, Int.reduceLE, Int.reduceEq, Int.reduceNe, Int.reduceToNat, Int.reduceAdd, Int.reduceSub, reduceCtorEq, Nat.reduceBEq, Nat.reduceBNe, b3, sC, sD, cx, cy, kx, ky]
  refine fin26 id σ.length _ f' nn s3.1 s3.2 0 [.int .i64 10, .int .i64 f, .int .i64 t, .int .i64 e, .int .i64 i, .int .i64 0, .int .i64 0, .int .i64 0, .str [], .str [], .str [], .str [], .int .i64 0, .int .i64 0, .int .i64 0, .int .i64 0, .bool false, .str [], .nilslice, .str [], .bool false, .str a, .str b, x, y, .int .i64 0, .nilslice] (bareC 0 0 0 0 0) K _ _ ?_ ?_ ?_ ?_ ?_ ?_ ?_ ?_ ?_ ?_ ?_ ?_ fun σ' hr' hf => ?_
  rotate_right
  · have hz : (if s3.2 = 0 then 0 else s3.2) = s3.2 := by split <;> omega
    rw [hz] at hr'
    refine hK _ _ hr' (fun j c hj hne => hf j c ((set_other (by have := hget_lt hj; omega)).trans ((set_other (by have := hget_lt hj; omega)).trans (g3 j c hj hne))) hne (by have := hget_lt hj; omega)) (by simp only [pureL, AV.pure, hx1, hy1, Bool.and_self]) ?_
    simp only [List.map_cons, List.map_nil, hx2, hy2]
    rfl
  · rfl
  · rfl
  · rfl
  · rfl
  · omega
  · omega
  · first | exact sD _ _ | exact sC _
  · first | exact (set_other (by omega)).trans ((set_other (by omega)).trans z3) | exact (set_other (by omega)).trans z3
  · first | exact (set_other (by omega)).trans ((set_other (by omega)).trans r4) | exact (set_other (by omega)).trans r4
  · rfl
  · rfl
  · exact nz_cells (by simp only [List.map_cons, List.map_nil, hx2, hy2]; rfl)
theorem body11 (id : Nat) (s : St) (k f t e i : Int) (hk : k = 11) (σ : AHeap) (K : AV → AHeap → Prop) (hr : RdS σ id s.1 s.2)
    (hK : ∀ σ' cs, RdS σ' id (readBody (bare k f t e i) s).2.1 (readBody (bare k f t e i) s).2.2 → Fr1 σ σ' id → pureL cs = true → cs.map nz1 = (readBody (bare k f t e i) s).1.cells → K (.agg cs) σ') :
    sF F6 s26 [.ptr id 0, .agg (bareC k f t e i)] σ K := by
  have hid : id < σ.length := by obtain ⟨f, nn, hg⟩ := hr; exact hget_lt hg
  have pB : hget (hpush (hpush σ (bareC k f t e i)) (bareC 0 0 0 0 0)) σ.length = some (bareC k f t e i) := push_old (push_new rfl)
  have pz : hget (hpush (hpush σ (bareC k f t e i)) (bareC 0 0 0 0 0)) (σ.length + 1) = some (bareC 0 0 0 0 0) := push_new (by simp [push_len])
  have g0 : Fr1 σ (hpush (hpush σ (bareC k f t e i)) (bareC 0 0 0 0 0)) id := Fr1.push.trans Fr1.push
  have r0 : RdS (hpush (hpush σ (bareC k f t e i)) (bareC 0 0 0 0 0)) id s.1 s.2 := rd_push (rd_push hr)
  subst hk
  have hb : readBody (bare 11 f t e i) s = ({ bare 11 f t e i with sf := vT s, st := vT (stT s), l := (readRows (stT (stT s))).1.1, last := (readRows (stT (stT s))).1.2 }, (readRows (stT (stT s))).2) := by simp [readBody, bare]
  rw [hb] at hK
  simp only [F6_app, Z26, x26_5, base1, baseE, ↓reduceIte, Nat.reduceAdd, Nat.reduceSub, Nat.reduceMul, Nat.reduceEqDiff, Nat.reduceLeDiff, Nat.reduceLT, Int.reduceLT, Int.reduceLE, Int.reduceEq, Int.reduceNe, Int.reduceToNat, Int.reduceAdd, Int.reduceSub, reduceCtorEq, Nat.reduceBEq, Nat.reduceBNe, push_len]
  generalize hpush (hpush σ (bareC 11 f t e i)) (bareC 0 0 0 0 0) = σ0 at pB pz g0 r0 ⊢
  simp only [F6_app, Z26, x26_5, base1, baseE, ↓reduceIte, Nat.reduceAdd, Nat.reduceSub, Nat.reduceMul, Nat.reduceEqDiff, Nat.reduceLeDiff, Nat.reduceLT, Int.reduceLT, Int.reduceLE, Int.reduceEq, Int.reduceNe, Int.reduceToNat, Int.reduceAdd, Int.reduceSub, reduceCtorEq, Nat.reduceBEq, Nat.reduceBNe, pB]
  refine ⟨id, s.1, s.2, rfl, r0, fun σ1 r1 f1 => ?_⟩
  have b1 := f1 _ _ pB (by omega)
  have z1 := f1 _ _ pz (by omega)
  have g1 : Fr1 σ σ1 id := g0.trans f1
  have r1 : RdS σ1 id (stT s).1 (stT s).2 := r1
  have v0 : (rdText s.1 s.2).1 = vT s := rfl
  rw [v0]
  generalize stT s = s1 at r1 hK ⊢
  generalize vT s = a at hK ⊢
  simp only [F6_app, Z26, x26_5, base1, baseE, ↓reduceIte, Nat.reduceAdd, Nat.reduceSub, Nat.reduceMul, Nat.reduceEqDiff, Nat.reduceLeDiff, Nat.reduceLT, Int.reduceLT, Int.reduceLE, Int.reduceEq, Int.reduceNe, Int.reduceToNat, Int.reduceAdd, Int.reduceSub, reduceCtorEq, Nat.reduceBEq, Nat.reduceBNe]
  refine ⟨id, s1.1, s1.2, rfl, r1, fun σ2 r2 f2 => ?_⟩
  have b2 := f2 _ _ b1 (by omega)
  have z2 := f2 _ _ z1 (by omega)
  have g2 : Fr1 σ σ2 id := g1.trans f2
  have r2 : RdS σ2 id (stT s1).1 (stT s1).2 := r2
  have v1 : (rdText s1.1 s1.2).1 = vT s1 := rfl
  rw [v1]
  generalize stT s1 = s2 at r2 hK ⊢
  generalize vT s1 = b at hK ⊢
  have sB : ∀ d : List AV, hget (hset σ2 σ.length d) σ.length = some d := fun d => set_same b2
  simp only [F6_app, Z26, x26_5, base1, baseE, ↓reduceIte, Nat.reduceAdd, Nat.reduceSub, Nat.reduceMul, Nat.reduceEqDiff, Nat.reduceLeDiff, Nat.reduceLT, Int.reduceLT, Int.reduceLE, Int.reduceEq, Int.reduceNe, Int.reduceToNat, Int.reduceAdd, Int.reduceSub, reduceCtorEq, Nat.reduceBEq, Nat.reduceBNe, b2, sB]
  refine ⟨id, s2, rfl, rd_set r2 (by omega), fun σ3 x y r3 f3 hx1 hx2 hy1 hy2 => ?_⟩
  have b3 := f3 _ _ (sB _) (by omega)
  have z3 := f3 _ _ ((set_other (by omega)).trans z2) (by omega)
  have g3 : Fr1 σ σ3 id := fun j c hj hne => f3 j c ((set_other (by have := hget_lt hj; omega)).trans (g2 j c hj hne)) hne
  generalize readRows s2 = w at hK r3 hx2 hy2 ⊢
  obtain ⟨⟨l, m⟩, s3⟩ := w
  obtain ⟨f', nn, r4⟩ := r3
  have sC : ∀ d : List AV, hget (hset σ3 σ.length d) σ.length = some d := fun d => set_same b3
  have sD : ∀ c d : List AV, hget (hset (hset σ3 σ.length c) σ.length d) σ.length = some d := fun c d => set_same (sC c)
  have cx : x.isCell = true := nz_cell (by rw [hx2]; rfl)
  have cy : y.isCell = true := nz_cell (by rw [hy2]; rfl)
  have kx := cell_cells cx
  have ky := cell_cells cy
  simp only [F6_app, Z26, x26_5, base1, baseE, ↓reduceIte, Nat.reduceAdd, Nat.reduceSub, Nat.reduceMul, Nat.reduceEqDiff, Nat.reduceLeDiff, Nat.reduceLT, Int.reduceLT, Int.reduceLE, Int.reduceEq, Int.reduceNe, Int.reduceToNat, Int.reduceAdd, Int.reduceSub, reduceCtorEq, Nat.reduceBEq, Nat.reduceBNe, b3, sC, sD, cx, cy, kx, ky]
  refine fin26 id σ.length _ f' nn s3.1 s3.2 0 [.int .i64 11, .int .i64 f, .int .i64 t, .int .i64 e, .int .i64 i, .int .i64 0, .int .i64 0, .int .i64 0, .str [], .str [], .str [], .str [], .int .i64 0, .int .i64 0, .int .i64 0, .int .i64 0, .bool false, .str [], .nilslice, .str [], .bool false, .str a, .str b, x, y, .int .i64 0, .nilslice] (bareC 0 0 0 0 0) K _ _ ?_ ?_ ?_ ?_ ?_ ?_ ?_ ?_ ?_ ?_ ?_ ?_ fun σ' hr' hf => ?_
  rotate_right
  · have hz : (if s3.2 = 0 then 0 else s3.2) = s3.2 := by split <;> omega
    rw [hz] at hr'
    refine hK _ _ hr' (fun j c hj hne => hf j c ((set_other (by have := hget_lt hj; omega)).trans ((set_other (by have := hget_lt hj; omega)).trans (g3 j c hj hne))) hne (by have := hget_lt hj; omega)) (by simp only [pureL, AV.pure, hx1, hy1, Bool.and_self]) ?_
    simp only [List.map_cons, List.map_nil, hx2, hy2]
    rfl
  · rfl
  · rfl
  · rfl
  · rfl
  · omega
  · omega
  · first | exact sD _ _ | exact sC _
  · first | exact (set_other (by omega)).trans ((set_other (by omega)).trans z3) | exact (set_other (by omega)).trans z3
  · first | exact (set_other (by omega)).trans ((set_other (by omega)).trans r4) | exact (set_other (by omega)).trans r4
  · rfl
  · rfl
  · exact nz_cells (by simp only [List.map_cons, List.map_nil, hx2, hy2]; rfl)
theorem body12 (id : Nat) (s : St) (k f t e i : Int) (hk : k = 12) (σ : AHeap) (K : AV → AHeap → Prop) (hr : RdS σ id s.1 s.2)
    (hK : ∀ σ' cs, RdS σ' id (readBody (bare k f t e i) s).2.1 (readBody (bare k f t e i) s).2.2 → Fr1 σ σ' id → pureL cs = true → cs.map nz1 = (readBody (bare k f t e i) s).1.cells → K (.agg cs) σ') :
    sF F6 s26 [.ptr id 0, .agg (bareC k f t e i)] σ K := by
  have hid : id < σ.length := by obtain ⟨f, nn, hg⟩ := hr; exact hget_lt hg
  have pB : hget (hpush (hpush σ (bareC k f t e i)) (bareC 0 0 0 0 0)) σ.length = some (bareC k f t e i) := push_old (push_new rfl)
  have pz : hget (hpush (hpush σ (bareC k f t e i)) (bareC 0 0 0 0 0)) (σ.length + 1) = some (bareC 0 0 0 0 0) := push_new (by simp [push_len])
  have g0 : Fr1 σ (hpush (hpush σ (bareC k f t e i)) (bareC 0 0 0 0 0)) id := Fr1.push.trans Fr1.push
  have r0 : RdS (hpush (hpush σ (bareC k f t e i)) (bareC 0 0 0 0 0)) id s.1 s.2 := rd_push (rd_push hr)
  subst hk
  have hb : readBody (bare 12 f t e i) s = ({ bare 12 f t e i with sf := vT s, st := vT (stT s), l := (readRows (stT (stT s))).1.1, last := (readRows (stT (stT s))).1.2 }, (readRows (stT (stT s))).2) := by simp [readBody, bare]
  rw [hb] at hK
  simp only [F6_app, Z26, x26_5, base1, baseE, ↓reduceIte, Nat.reduceAdd, Nat.reduceSub, Nat.reduceMul, Nat.reduceEqDiff, Nat.reduceLeDiff, Nat.reduceLT, Int.reduceLT, Int.reduceLE, Int.reduceEq, Int.reduceNe, Int.reduceToNat, Int.reduceAdd, Int.reduceSub, reduceCtorEq, Nat.reduceBEq, Nat.reduceBNe, push_len]
  generalize hpush (hpush σ (bareC 12 f t e i)) (bareC 0 0 0 0 0) = σ0 at pB pz g0 r0 ⊢
  simp only [F6_app, Z26, x26_5, base1, baseE, ↓reduceIte, Nat.reduceAdd, Nat.reduceSub, Nat.reduceMul, Nat.reduceEqDiff, Nat.reduceLeDiff, Nat.reduceLT, Int.reduceLT, Int.reduceLE, Int.reduceEq, Int.reduceNe, Int.reduceToNat, Int.reduceAdd, Int.reduceSub, reduceCtorEq, Nat.reduceBEq, Nat.reduceBNe, pB]
  refine ⟨id, s.1, s.2, rfl, r0, fun σ1 r1 f1 => ?_⟩
  have b1 := f1 _ _ pB (by omega)
  have z1 := f1 _ _ pz (by omega)
  have g1 : Fr1 σ σ1 id := g0.trans f1
  have r1 : RdS σ1 id (stT s).1 (stT s).2 := r1
  have v0 : (rdText s.1 s.2).1 = vT s := rfl
  rw [v0]
  generalize stT s = s1 at r1 hK ⊢
  generalize vT s = a at hK ⊢
  simp only [F6_app, Z26, x26_5, base1, baseE, ↓reduceIte, Nat.reduceAdd, Nat.reduceSub, Nat.reduceMul, Nat.reduceEqDiff, Nat.reduceLeDiff, Nat.reduceLT, Int.reduceLT, Int.reduceLE, Int.reduceEq, Int.reduceNe, Int.reduceToNat, Int.reduceAdd, Int.reduceSub, reduceCtorEq, Nat.reduceBEq, Nat.reduceBNe]
  refine ⟨id, s1.1, s1.2, rfl, r1, fun σ2 r2 f2 => ?_⟩
  have b2 := f2 _ _ b1 (by omega)
  have z2 := f2 _ _ z1 (by omega)
  have g2 : Fr1 σ σ2 id := g1.trans f2
  have r2 : RdS σ2 id (stT s1).1 (stT s1).2 := r2
  have v1 : (rdText s1.1 s1.2).1 = vT s1 := rfl
  rw [v1]
  generalize stT s1 = s2 at r2 hK ⊢
  generalize vT s1 = b at hK ⊢
  have sB : ∀ d : List AV, hget (hset σ2 σ.length d) σ.length = some d := fun d => set_same b2
  simp only [F6_app, Z26, x26_5, base1, baseE, ↓reduceIte, Nat.reduceAdd, Nat.reduceSub, Nat.reduceMul, Nat.reduceEqDiff, Nat.reduceLeDiff, Nat.reduceLT, Int.reduceLT, Int.reduceLE, Int.reduceEq, Int.reduceNe, Int.reduceToNat, Int.reduceAdd, Int.reduceSub, reduceCtorEq, Nat.reduceBEq, Nat.reduceBNe, b2, sB]
  refine ⟨id, s2, rfl, rd_set r2 (by omega), fun σ3 x y r3 f3 hx1 hx2 hy1 hy2 => ?_⟩
  have b3 := f3 _ _ (sB _) (by omega)
  have z3 := f3 _ _ ((set_other (by omega)).trans z2) (by omega)
  have g3 : Fr1 σ σ3 id := fun j c hj hne => f3 j c ((set_other (by have := hget_lt hj; omega)).trans (g2 j c hj hne)) hne
  generalize readRows s2 = w at hK r3 hx2 hy2 ⊢
  obtain ⟨⟨l, m⟩, s3⟩ := w
  obtain ⟨f', nn, r4⟩ := r3
  have sC : ∀ d : List AV, hget (hset σ3 σ.length d) σ.length = some d := fun d => set_same b3
  have sD : ∀ c d : List AV, hget (hset (hset σ3 σ.length c) σ.length d) σ.length = some d := fun c d => set_same (sC c)
  have cx : x.isCell = true := nz_cell (by rw [hx2]; rfl)
  have cy : y.isCell = true := nz_cell (by rw [hy2]; rfl)
  have kx := cell_cells cx
  have ky := cell_cells cy
  simp only [F6_app, Z26, x26_5, base1, baseE, ↓reduceIte, Nat.reduceAdd, Nat.reduceSub, Nat.reduceMul, Nat.reduceEqDiff, Nat.reduceLeDiff, Nat.reduceLT, Int.reduceLT, Int.reduceLE, Int.reduceEq, Int.reduceNe, Int.reduceToNat, Int.reduceAdd, Int.reduceSub, reduceCtorEq, Nat.reduceBEq, Nat.reduceBNe, b3, sC, sD, cx, cy, kx, ky]
  refine fin26 id σ.length _ f' nn s3.1 s3.2 0 [.int .i64 12, .int .i64 f, .int .i64 t, .int .i64 e, .int .i64 i, .int .i64 0, .int .i64 0, .int .i64 0, .str [], .str [], .str [], .str [], .int .i64 0, .int .i64 0, .int .i64 0, .int .i64 0, .bool false, .str [], .nilslice, .str [], .bool false, .str a, .str b, x, y, .int .i64 0, .nilslice] (bareC 0 0 0 0 0) K _ _ ?_ ?_ ?_ ?_ ?_ ?_ ?_ ?_ ?_ ?_ ?_ ?_ fun σ' hr' hf => ?_
  rotate_right
  · have hz : (if s3.2 = 0 then 0 else s3.2) = s3.2 := by split <;> omega
    rw [hz] at hr'
    refine hK _ _ hr' (fun j c hj hne => hf j c ((set_other (by have := hget_lt hj; omega)).trans ((set_other (by have := hget_lt hj; omega)).trans (g3 j c hj hne))) hne (by have := hget_lt hj; omega)) (by simp only [pureL, AV.pure, hx1, hy1, Bool.and_self]) ?_
    simp only [List.map_cons, List.map_nil, hx2, hy2]
    rfl
  · rfl
  · rfl
  · rfl
  · rfl
  · omega
  · omega
  · first | exact sD _ _ | exact sC _
  · first | exact (set_other (by omega)).trans ((set_other (by omega)).trans z3) | exact (set_other (by omega)).trans z3
  · first | exact (set_other (by omega)).trans ((set_other (by omega)).trans r4) | exact (set_other (by omega)).trans r4
  · rfl
  · rfl
  · exact nz_cells (by simp only [List.map_cons, List.map_nil, hx2, hy2]; rfl)
theorem bodyN (id : Nat) (s : St) (k f t e i : Int) (hk : k ≠ 1 ∧ k ≠ 2 ∧ k ≠ 4 ∧ k ≠ 6 ∧ k ≠ 7 ∧ k ≠ 8 ∧ k ≠ 9 ∧ k ≠ 10 ∧ k ≠ 11 ∧ k ≠ 12) (σ : AHeap) (K : AV → AHeap → Prop) (hr : RdS σ id s.1 s.2)
    (hK : ∀ σ' cs, RdS σ' id (readBody (bare k f t e i) s).2.1 (readBody (bare k f t e i) s).2.2 → Fr1 σ σ' id → pureL cs = true → cs.map nz1 = (readBody (bare k f t e i) s).1.cells → K (.agg cs) σ') :
    sF F6 s26 [.ptr id 0, .agg (bareC k f t e i)] σ K := by
  have hid : id < σ.length := by obtain ⟨f, nn, hg⟩ := hr; exact hget_lt hg
  have pB : hget (hpush (hpush σ (bareC k f t e i)) (bareC 0 0 0 0 0)) σ.length = some (bareC k f t e i) := push_old (push_new rfl)
  have pz : hget (hpush (hpush σ (bareC k f t e i)) (bareC 0 0 0 0 0)) (σ.length + 1) = some (bareC 0 0 0 0 0) := push_new (by simp [push_len])
  have g0 : Fr1 σ (hpush (hpush σ (bareC k f t e i)) (bareC 0 0 0 0 0)) id := Fr1.push.trans Fr1.push
  have r0 : RdS (hpush (hpush σ (bareC k f t e i)) (bareC 0 0 0 0 0)) id s.1 s.2 := rd_push (rd_push hr)
  obtain ⟨h1, h2, h4, h6, h7, h8, h9, h10, h11, h12⟩ := hk
  have hb : readBody (bare k f t e i) s = (bare k f t e i, s) := by simp [readBody, bare, h1, h2, h4, h6, h7, h8, h9, h10, h11, h12]
  rw [hb] at hK
  simp only [F6_app, Z26, x26_5, base1, baseE, ↓reduceIte, Nat.reduceAdd, Nat.reduceSub, Nat.reduceMul, Nat.reduceEqDiff, Nat.reduceLeDiff, Nat.reduceLT, Int.reduceLT, Int.reduceLE, Int.reduceEq, Int.reduceNe, Int.reduceToNat, Int.reduceAdd, Int.reduceSub, reduceCtorEq, Nat.reduceBEq, Nat.reduceBNe, push_len]
  generalize hpush (hpush σ (bareC k f t e i)) (bareC 0 0 0 0 0) = σ0 at pB pz g0 r0 ⊢
  simp only [F6_app, Z26, x26_5, base1, baseE, ↓reduceIte, Nat.reduceAdd, Nat.reduceSub, Nat.reduceMul, Nat.reduceEqDiff, Nat.reduceLeDiff, Nat.reduceLT, Int.reduceLT, Int.reduceLE, Int.reduceEq, Int.reduceNe, Int.reduceToNat, Int.reduceAdd, Int.reduceSub, reduceCtorEq, Nat.reduceBEq, Nat.reduceBNe, pB, h1, h2, h4, h6, h7, h8, h9, h10, h11, h12]
  obtain ⟨f', nn, r2⟩ := r0
  refine fin26 id σ.length _ f' nn s.1 s.2 0 _ _ K _ _ rfl rfl rfl rfl (by omega) (by omega) pB pz r2 rfl rfl rfl fun σ' hr' hf => ?_
  exact hK _ _ (by have : (if s.2 = 0 then 0 else s.2) = s.2 := by split <;> omega
                   rw [this] at hr'; exact hr') (fun j c hj hne => hf j c (g0 j c hj hne) hne (by have := hget_lt hj; omega)) rfl rfl
theorem bodyRD_ok (args : List AV) (σ : AHeap) (K : AV → AHeap → Prop) (h : bodyRD args σ K) : Tri Try.prog 26 args σ K := by
  obtain ⟨id, s, k, f, t, e, i, rfl, hr, hK⟩ := h
  refine Tri.of_s c26 F6_sound ?_
  by_cases h1 : k = 1
  · exact body1 id s k f t e i h1 σ K hr hK
  by_cases h2 : k = 2
  · exact body2 id s k f t e i h2 σ K hr hK
  by_cases h4 : k = 4
  · exact body4 id s k f t e i h4 σ K hr hK
  by_cases h6 : k = 6
  · exact body6 id s k f t e i h6 σ K hr hK
  by_cases h7 : k = 7
  · exact body7 id s k f t e i h7 σ K hr hK
  by_cases h8 : k = 8
  · exact body8 id s k f t e i h8 σ K hr hK
  by_cases h9 : k = 9
  · exact body9 id s k f t e i h9 σ K hr hK
  by_cases h10 : k = 10
  · exact body10 id s k f t e i h10 σ K hr hK
  by_cases h11 : k = 11
  · exact body11 id s k f t e i h11 σ K hr hK
  by_cases h12 : k = 12
  · exact body12 id s k f t e i h12 σ K hr hK
  exact bodyN id s k f t e i ⟨h1, h2, h4, h6, h7, h8, h9, h10, h11, h12⟩ σ K hr hK
end Go.Proofs.Ytndlgmciplckjaa.note
