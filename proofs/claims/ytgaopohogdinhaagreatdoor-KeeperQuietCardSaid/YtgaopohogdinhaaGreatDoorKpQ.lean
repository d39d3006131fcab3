/- KeeperQuiet, walked: yes, whatever the rows. No condition. -/
import Derived.Test.YtgaopohogdinhaaGreatDoorTF
import Derived.Test.YtgaopohogdinhaaGreatDoorKpG
import Derived.Test.YtgaopohogdinhaaGreatDoorNSizesS
set_option linter.unusedVariables false
set_option linter.unusedSimpArgs false
namespace Go.Proofs.YtgaopohogdinhaaGreatDoor.keep
open Go.ChangeShapes Go.WideShapes Go.ChangeAt Go.RowKit Go.Gz Go.Proofs.YtgaopohogdinhaaGreatDoor.note
section
variable {C : PCall} {n0 : Nat} {R : MExit → Env → AHeap → Prop} {k : Cont} {e : Env} {σ : AHeap}
abbrev r4_0 : List MOper := [⟨(some 2), .move (.c (.bool false)), none⟩]
def b4_0 : SCode := .region r4_0
abbrev r4_1 : List MOper := [⟨(some 7), .call 5 [], none⟩,
  ⟨(some 8), .un .not (.t 7), none⟩]
def b4_1 : SCode := .region r4_1
abbrev r4_2 : List MOper := [⟨(some 2), .move (.c (.bool false)), none⟩]
def b4_2 : SCode := .region r4_2
def b4_3 : SCode := .seq b4_2 .ret
def b4_4 : SCode := .cond (.t 8) b4_3 .skip
def b4_5 : SCode := .seq b4_1 b4_4
abbrev r4_6 : List MOper := [⟨(some 9), .move (.t 0), none⟩,
  ⟨(some 10), .lenSl (.t 9), none⟩,
  ⟨(some 11), .bin .gtr .num (.t 10) (.c (.int .i64 60)), none⟩]
def b4_6 : SCode := .region r4_6
abbrev r4_7 : List MOper := [⟨(some 2), .move (.c (.bool true)), none⟩]
def b4_7 : SCode := .region r4_7
def b4_8 : SCode := .seq b4_7 .ret
def b4_9 : SCode := .cond (.t 11) b4_8 .skip
def b4_10 : SCode := .seq b4_6 b4_9
abbrev r4_11 : List MOper := [⟨(some 13), .call 7 [], none⟩,
  ⟨(some 14), .call 8 [], none⟩,
  ⟨(some 15), .call 6 [(.c (.int .i64 4)), (.t 13), (.t 14), (.c (.int .i64 5)), (.c (.int .i64 5))], none⟩,
  ⟨(some 12), .move (.t 15), none⟩,
  ⟨(some 16), .extract (.t 12) 0, none⟩,
  ⟨(some 17), .extract (.t 12) 1, none⟩,
  ⟨(some 3), .move (.t 16), none⟩,
  ⟨(some 4), .move (.t 17), none⟩]
def b4_11 : SCode := .region r4_11
abbrev r4_12 : List MOper := [⟨(some 18), .move (.t 4), none⟩,
  ⟨(some 19), .bin .neq .num (.t 18) (.c (.int .i64 0)), none⟩,
  ⟨(some 20), .move (.t 19), none⟩,
  ⟨(some 21), .move (.t 3), (some (20, false))⟩,
  ⟨(some 22), .bin .eql .nilp (.t 21) (.c (.nilptr)), (some (20, false))⟩,
  ⟨(some 23), .pick (.t 20) (.c (.bool true)) (.t 22), none⟩]
def b4_12 : SCode := .region r4_12
abbrev r4_13 : List MOper := [⟨(some 2), .move (.c (.bool false)), none⟩]
def b4_13 : SCode := .region r4_13
def b4_14 : SCode := .seq b4_13 .ret
def b4_15 : SCode := .cond (.t 23) b4_14 .skip
def b4_16 : SCode := .seq b4_12 b4_15
abbrev r4_17 : List MOper := [⟨(some 5), .move (.c (.int .i64 0)), none⟩]
def b4_17 : SCode := .region r4_17
abbrev r4_18 : List MOper := [⟨(some 24), .move (.t 5), none⟩,
  ⟨(some 25), .move (.t 0), none⟩,
  ⟨(some 26), .lenSl (.t 25), none⟩,
  ⟨(some 27), .bin .lss .num (.t 24) (.t 26), none⟩]
def b4_18 : SCode := .region r4_18
def b4_19 : SCode := .cond (.t 27) .skip (.exit 0)
def b4_20 : SCode := .seq b4_18 b4_19
abbrev r4_21 : List MOper := [⟨(some 30), .move (.t 0), none⟩,
  ⟨(some 31), .move (.t 5), none⟩,
  ⟨(some 32), .indexAddr 27 (.t 30) (.t 31), none⟩,
  ⟨(some 33), .loadN 27 (.t 32), none⟩,
  ⟨(some 34), .call 14 [(.t 33)], none⟩,
  ⟨(some 35), .un .not (.t 34), none⟩]
def b4_21 : SCode := .region r4_21
abbrev r4_22 : List MOper := [⟨(some 2), .move (.c (.bool true)), none⟩]
def b4_22 : SCode := .region r4_22
def b4_23 : SCode := .seq b4_22 .ret
def b4_24 : SCode := .cond (.t 35) b4_23 .skip
def b4_25 : SCode := .seq b4_21 b4_24
abbrev r4_26 : List MOper := [⟨(some 36), .move (.t 0), none⟩,
  ⟨(some 37), .move (.t 5), none⟩,
  ⟨(some 38), .indexAddr 27 (.t 36) (.t 37), none⟩,
  ⟨(some 39), .loadN 27 (.t 38), none⟩,
  ⟨(some 40), .call 15 [(.t 39)], none⟩,
  ⟨(some 6), .alloc [.int .i64 0, .int .i64 0, .int .i64 0, .int .i64 0, .int .i64 0, .int .i64 0, .int .i64 0, .int .i64 0, .str [], .str [], .str [], .str [], .int .i64 0, .int .i64 0, .int .i64 0, .int .i64 0, .bool false, .str [], .nilslice, .str [], .bool false, .str [], .str [], .nilslice, .nilslice, .int .i64 0, .nilslice], none⟩,
  ⟨none, .store 27 (.t 6) (.t 40), none⟩]
def b4_26 : SCode := .region r4_26
abbrev r4_27 : List MOper := [⟨(some 41), .fieldAddr 2 (.t 6), none⟩,
  ⟨(some 42), .load1 (.t 41), none⟩,
  ⟨(some 43), .bin .eql .num (.t 42) (.c (.int .i64 4)), none⟩,
  ⟨(some 44), .move (.t 43), none⟩,
  ⟨(some 45), .loadN 27 (.t 6), (some (44, true))⟩,
  ⟨(some 46), .call 16 [(.t 45)], (some (44, true))⟩,
  ⟨(some 47), .pick (.t 44) (.t 46) (.c (.bool false)), none⟩]
def b4_27 : SCode := .region r4_27
def b4_28 : SCode := .cond (.t 47) (.exit 1) .skip
def b4_29 : SCode := .seq b4_27 b4_28
abbrev r4_30 : List MOper := [⟨(some 48), .move (.t 3), none⟩,
  ⟨(some 49), .loadN 27 (.t 6), none⟩,
  ⟨(some 50), .call 10 [(.t 48), (.t 49)], none⟩,
  ⟨(some 51), .lenSl (.t 50), none⟩,
  ⟨(some 52), .bin .neq .num (.t 51) (.c (.int .i64 0)), none⟩,
  ⟨(some 53), .move (.t 52), none⟩,
  ⟨(some 54), .move (.t 3), (some (53, false))⟩,
  ⟨(some 55), .call 12 [(.t 54)], (some (53, false))⟩,
  ⟨(some 56), .bin .neq .num (.t 55) (.c (.int .i64 0)), (some (53, false))⟩,
  ⟨(some 57), .pick (.t 53) (.c (.bool true)) (.t 56), none⟩,
  ⟨(some 58), .move (.t 57), none⟩,
  ⟨(some 59), .move (.t 3), (some (58, false))⟩,
  ⟨(some 60), .call 13 [(.t 59)], (some (58, false))⟩,
  ⟨(some 61), .pick (.t 58) (.c (.bool true)) (.t 60), none⟩,
  ⟨(some 62), .move (.t 61), none⟩,
  ⟨(some 63), .move (.t 3), (some (62, false))⟩,
  ⟨(some 64), .call 17 [(.t 63)], (some (62, false))⟩,
  ⟨(some 65), .lenSl (.t 64), (some (62, false))⟩,
  ⟨(some 66), .bin .neq .num (.t 65) (.c (.int .i64 0)), (some (62, false))⟩,
  ⟨(some 67), .pick (.t 62) (.c (.bool true)) (.t 66), none⟩]
def b4_30 : SCode := .region r4_30
abbrev r4_31 : List MOper := [⟨(some 2), .move (.c (.bool false)), none⟩]
def b4_31 : SCode := .region r4_31
def b4_32 : SCode := .seq b4_31 .ret
def b4_33 : SCode := .cond (.t 67) b4_32 .skip
def b4_34 : SCode := .seq b4_30 b4_33
def b4_35 : SCode := .seq b4_29 b4_34
def b4_36 : SCode := .seq b4_26 b4_35
def b4_37 : SCode := .seq b4_25 b4_36
def b4_38 : SCode := .block 1 b4_37
abbrev r4_39 : List MOper := [⟨(some 28), .move (.t 5), none⟩,
  ⟨(some 29), .bin .add .num (.t 28) (.c (.int .i64 1)), none⟩,
  ⟨(some 5), .move (.t 29), none⟩]
def b4_39 : SCode := .region r4_39
def b4_40 : SCode := .seq b4_38 b4_39
def b4_41 : SCode := .seq b4_20 b4_40
def b4_42 : SCode := .loop b4_41
def b4_43 : SCode := .block 0 b4_42
def b4_44 : SCode := .seq b4_17 b4_43
abbrev r4_45 : List MOper := [⟨(some 2), .move (.c (.bool true)), none⟩]
def b4_45 : SCode := .region r4_45
def b4_46 : SCode := .seq b4_45 .ret
def b4_47 : SCode := .seq b4_44 b4_46
def b4_48 : SCode := .seq b4_16 b4_47
def b4_49 : SCode := .seq b4_11 b4_48
def b4_50 : SCode := .seq b4_10 b4_49
def b4_51 : SCode := .seq b4_5 b4_50
def b4_52 : SCode := .seq b4_0 b4_51
def s4 : SFunc := ⟨68, [.t 2], b4_52⟩
theorem c4 : sFn Tryz.prog 4 = some s4 := by kernel_rfl
theorem x4_39 : XR b4_39 r4_39 := rfl
theorem Z4 : XR b4_0 r4_0 ∧ XR b4_1 r4_1 ∧ XR b4_2 r4_2 ∧ XS b4_3 b4_2 .ret ∧ XC b4_4 (.t 8) b4_3 .skip ∧ XS b4_5 b4_1 b4_4 ∧ XR b4_6 r4_6 ∧ XR b4_7 r4_7 ∧ XS b4_8 b4_7 .ret ∧ XC b4_9 (.t 11) b4_8 .skip ∧ XS b4_10 b4_6 b4_9 ∧ XR b4_11 r4_11 ∧ XR b4_12 r4_12 ∧ XR b4_13 r4_13 ∧ XS b4_14 b4_13 .ret ∧ XC b4_15 (.t 23) b4_14 .skip ∧ XS b4_16 b4_12 b4_15 ∧ XR b4_17 r4_17 ∧ XR b4_18 r4_18 ∧ XC b4_19 (.t 27) .skip (.exit 0) ∧ XS b4_20 b4_18 b4_19 ∧ XR b4_21 r4_21 ∧ XR b4_22 r4_22 ∧ XS b4_23 b4_22 .ret ∧ XC b4_24 (.t 35) b4_23 .skip ∧ XS b4_25 b4_21 b4_24 ∧ XR b4_26 r4_26 ∧ XR b4_27 r4_27 ∧ XC b4_28 (.t 47) (.exit 1) .skip ∧ XS b4_29 b4_27 b4_28 ∧ XR b4_30 r4_30 ∧ XR b4_31 r4_31 ∧ XS b4_32 b4_31 .ret ∧ XC b4_33 (.t 67) b4_32 .skip ∧ XS b4_34 b4_30 b4_33 ∧ XS b4_35 b4_29 b4_34 ∧ XS b4_36 b4_26 b4_35 ∧ XS b4_37 b4_25 b4_36 ∧ XB b4_38 1 b4_37 ∧ XS b4_40 b4_38 b4_39 ∧ XS b4_41 b4_20 b4_40 ∧ XB b4_43 0 b4_42 ∧ XS b4_44 b4_17 b4_43 ∧ XR b4_45 r4_45 ∧ XS b4_46 b4_45 .ret ∧ XS b4_47 b4_44 b4_46 ∧ XS b4_48 b4_16 b4_47 ∧ XS b4_49 b4_11 b4_48 ∧ XS b4_50 b4_10 b4_49 ∧ XS b4_51 b4_5 b4_50 ∧ XS b4_52 b4_0 b4_51 ∧ XY s4 68 b4_52 [.t 2] := ⟨rfl, rfl, rfl, rfl, sC_cond, rfl, rfl, rfl, rfl, sC_cond, rfl, rfl, rfl, rfl, rfl, sC_cond, rfl, rfl, rfl, sC_cond, rfl, rfl, rfl, rfl, sC_cond, rfl, rfl, rfl, sC_cond, rfl, rfl, rfl, rfl, sC_cond, rfl, rfl, rfl, rfl, rfl, rfl, rfl, rfl, rfl, rfl, rfl, rfl, rfl, rfl, rfl, rfl, rfl, rfl⟩

end
set_option maxHeartbeats 4000000
set_option maxRecDepth 10000
theorem yes_trueQ {σ : AHeap} : Yes (.bool true) σ := rfl
/-! What it holds: nothing. -/
def L17 : PCall := rowF 35 noCall s35 noCall
theorem L17_app {f : FuncId} {args : List AV} {σ : AHeap} {K : AV → AHeap → Prop} : L17 f args σ K = rowF 35 noCall s35 noCall f args σ K := _root_.id rfl
theorem L17_sound : Sound Tryz.prog L17 := rowF_sound c35 (noCall_sound _) (noCall_sound _)
theorem L17_mono : MonoC L17 := rowF_mono noCall_mono noCall_mono
theorem list_ok (σ : AHeap) (kb s : Nat) (ks sc : List AV) (hk : hget σ kb = some ks) (h1 : ks[1]? = some (.ptr s 0)) (hs : hget σ s = some sc) (h6 : sc[6]? = some .nilslice) : Tri Tryz.prog 17 [.ptr kb 0] σ fun r σ' => r = .nilslice ∧ σ' = σ := by
  refine Tri.of_s c17 L17_sound ?_
  simp only [L17_app, Z17, Z35, base1, baseE, ↓reduceIte, Nat.reduceAdd, Nat.reduceSub, Nat.reduceMul, Nat.reduceEqDiff, Nat.reduceLeDiff, Nat.reduceLT, Int.reduceLT, Int.reduceLE, Int.reduceEq, Int.reduceNe, Int.reduceToNat, Int.reduceAdd, Int.reduceSub, reduceCtorEq, Nat.reduceBEq, Nat.reduceBNe, hk, h1, hs, h6, nl0, Int.natCast_zero]
  refine sC_unroll noCall_mono (n := 1) ?_
  simp only [L17_app, Z17, Z35, base1, baseE, ↓reduceIte, Nat.reduceAdd, Nat.reduceSub, Nat.reduceMul, Nat.reduceEqDiff, Nat.reduceLeDiff, Nat.reduceLT, Int.reduceLT, Int.reduceLE, Int.reduceEq, Int.reduceNe, Int.reduceToNat, Int.reduceAdd, Int.reduceSub, reduceCtorEq, Nat.reduceBEq, Nat.reduceBNe, hk, h1, hs, h6, nl0, Int.natCast_zero]
def listD (args : List AV) (σ : AHeap) (K : AV → AHeap → Prop) : Prop := ∃ (kb s : Nat) (ks sc : List AV), args = [.ptr kb 0] ∧ hget σ kb = some ks ∧ ks[1]? = some (.ptr s 0) ∧ hget σ s = some sc ∧ sc[6]? = some .nilslice ∧ K .nilslice σ
theorem listD_ok (args : List AV) (σ : AHeap) (K : AV → AHeap → Prop) (h : listD args σ K) : Tri Tryz.prog 17 args σ K := by
  obtain ⟨kb, s, ks, sc, rfl, hk, h1, hs, h6, h⟩ := h
  exact (list_ok σ kb s ks sc hk h1 hs h6).mono fun r σ' hr => by rw [hr.1, hr.2]; exact h
def Q4 : PCall := rowQ 5 awakeD (rowQ 7 tableD (rowQ 8 newD (rowQ 6 kopenD (rowQ 14 smallD (rowQ 15 madeD (rowQ 16 mayCD (rowQ 10 hearQD (rowQ 12 clockD (rowQ 13 leasedD (rowQ 17 listD noCall))))))))))
theorem Q4_app {f : FuncId} {args : List AV} {σ : AHeap} {K : AV → AHeap → Prop} : Q4 f args σ K = rowQ 5 awakeD (rowQ 7 tableD (rowQ 8 newD (rowQ 6 kopenD (rowQ 14 smallD (rowQ 15 madeD (rowQ 16 mayCD (rowQ 10 hearQD (rowQ 12 clockD (rowQ 13 leasedD (rowQ 17 listD noCall)))))))))) f args σ K := _root_.id rfl
theorem Q4_sound : Sound Tryz.prog Q4 := rowQ_sound awakeD_ok (rowQ_sound tableD_ok (rowQ_sound newD_ok (rowQ_sound kopenD_ok (rowQ_sound smallD_ok (rowQ_sound madeD_ok (rowQ_sound mayCD_ok (rowQ_sound hearQD_ok (rowQ_sound clockD_ok (rowQ_sound leasedD_ok (rowQ_sound listD_ok (noCall_sound _)))))))))))
def kqI (rows : List RowV) (m : Nat) (e : Env) (σ : AHeap) : Prop :=
  ∃ (i kb s md : Nat), i ≤ rows.length ∧ m = rows.length - i ∧ hget σ kb = some (keepC 4 s 0 5 0 0 0) ∧ hget σ s = some (storC md 5) ∧ e 0 = .imm (rows.map RowV.cells) false false ∧ e 3 = .ptr kb 0 ∧ e 5 = .int .i64 (i : Int)
theorem kq_step (rows : List RowV) (hl : rows.length ≤ 60) (hok : ∀ r ∈ rows, r.okS) (m : Nat) (e : Env) (σ : AHeap) (h : kqI rows m e σ) :
    sC Q4 0 b4_41 (unw Q4 0 (loopR Q4 0 (RetQ [.t 2] Yes) (.block 0 (.seq b4_46 .fin)) (kqI rows) m) .fin) e σ := by
  obtain ⟨i, kb, s, md, hi, hm, hk, hs, e0, e3, e5⟩ := h
  have hmap : (rows.map RowV.cells).length = rows.length := by simp
  rcases Nat.lt_or_ge i rows.length with hlt | hge
  · have hlt' : (i : Int) < (rows.length : Int) := by omega
    have hge0 : (0 : Int) ≤ (i : Int) := by omega
    obtain ⟨r, hr⟩ : ∃ r, rows[i]? = some r := ⟨_, List.getElem?_eq_getElem hlt⟩
    have hrr : (rows.map RowV.cells)[i]? = some r.cells := by simp [hr]
    have hwr : IntKind.wrap .i64 ((i : Int) + 1) = ((i + 1 : Nat) : Int) := by rw [Gz.wrap64 (by omega)]; omega
    have fin : ∀ (e : Env) (σ : AHeap), hget σ kb = some (keepC 4 s 0 5 0 0 0) → hget σ s = some (storC md 5) → e 0 = .imm (rows.map RowV.cells) false false → e 3 = .ptr kb 0 → e 5 = .int .i64 (i : Int) →
        sC Q4 0 b4_39 (unw Q4 0 (loopR Q4 0 (RetQ [.t 2] Yes) (.block 0 (.seq b4_46 .fin)) (kqI rows) m) .fin) e σ := by
      intro e σ hk hs e0 e3 e5
      simp only [Q4_app, Z4, x4_39, base1, ↓reduceIte, Nat.reduceAdd, Nat.reduceSub, Nat.reduceMul, Nat.reduceEqDiff, Nat.reduceLeDiff, Nat.reduceLT, Int.reduceLT, Int.reduceLE, Int.reduceEq, Int.reduceNe, Int.reduceToNat, Int.reduceAdd, Int.reduceSub, reduceCtorEq, Nat.reduceBEq, Nat.reduceBNe, loopR_exit, loopR_ret, e0, e3, e5, hwr]
      exact ⟨rows.length - (i + 1), _, σ, by omega, .refl _ _ _, i + 1, kb, s, md, by omega, rfl, hk, hs, e0, e3, rfl⟩
    simp only [Q4_app, Z4, base1, ↓reduceIte, Nat.reduceAdd, Nat.reduceSub, Nat.reduceMul, Nat.reduceEqDiff, Nat.reduceLeDiff, Nat.reduceLT, Int.reduceLT, Int.reduceLE, Int.reduceEq, Int.reduceNe, Int.reduceToNat, Int.reduceAdd, Int.reduceSub, reduceCtorEq, Nat.reduceBEq, Nat.reduceBNe, loopR_exit, loopR_ret, lenOf_imm, e0, e3, e5, hmap, hlt', hlt, hge0, Int.toNat_natCast, hrr, sub_row]
    refine ⟨r, rfl, hok r (List.mem_of_getElem? hr), fun b hb => ?_⟩
    cases b with
    | false =>
      simp only [Q4_app, Z4, base1, ↓reduceIte, Nat.reduceAdd, Nat.reduceSub, Nat.reduceMul, Nat.reduceEqDiff, Nat.reduceLeDiff, Nat.reduceLT, Int.reduceLT, Int.reduceLE, Int.reduceEq, Int.reduceNe, Int.reduceToNat, Int.reduceAdd, Int.reduceSub, reduceCtorEq, Nat.reduceBEq, Nat.reduceBNe, loopR_exit, loopR_ret]
      exact yes_trueQ
    | true =>
      have hsp := hb rfl
      have hll := hsp.lal
      have hls := hsp.shl
      simp only [Q4_app, Z4, base1, ↓reduceIte, Nat.reduceAdd, Nat.reduceSub, Nat.reduceMul, Nat.reduceEqDiff, Nat.reduceLeDiff, Nat.reduceLT, Int.reduceLT, Int.reduceLE, Int.reduceEq, Int.reduceNe, Int.reduceToNat, Int.reduceAdd, Int.reduceSub, reduceCtorEq, Nat.reduceBEq, Nat.reduceBNe, loopR_exit, loopR_ret, lenOf_imm, e0, e3, e5, hmap, hlt', hlt, hge0, Int.toNat_natCast, hrr, sub_row]
      refine ⟨r, rfl, by omega, by omega, ?_⟩
      have hk1 : hget (hset (hpush σ note.zN) σ.length (made r).cells) kb = some (keepC 4 s 0 5 0 0 0) := Kp.pushSet _ _ hk
      have hs1 : hget (hset (hpush σ note.zN) σ.length (made r).cells) s = some (storC md 5) := Kp.pushSet _ _ hs
      have pn : hget (hpush σ note.zN) σ.length = some note.zN := push_new rfl
      have sn : hget (hset (hpush σ note.zN) σ.length (made r).cells) σ.length = some (made r).cells := set_same pn
      have n2 : (made r).cells[2]? = some (.int .i64 (made r).to) := rfl
      have nzc : (made r).cells.map nz1 = (made r).cells := rfl
      have hsz := made_sz hsp
      simp only [Q4_app, Z4, base1, ↓reduceIte, Nat.reduceAdd, Nat.reduceSub, Nat.reduceMul, Nat.reduceEqDiff, Nat.reduceLeDiff, Nat.reduceLT, Int.reduceLT, Int.reduceLE, Int.reduceEq, Int.reduceNe, Int.reduceToNat, Int.reduceAdd, Int.reduceSub, reduceCtorEq, Nat.reduceBEq, Nat.reduceBNe, loopR_exit, loopR_ret, pn, nc_len, nc_cell, put_note, sn, n2]
      have sn27 : sub (made r).cells 0 27 = some (made r).cells := rfl
      by_cases ht : (made r).to = 4
      · simp only [Q4_app, Z4, base1, ↓reduceIte, Nat.reduceAdd, Nat.reduceSub, Nat.reduceMul, Nat.reduceEqDiff, Nat.reduceLeDiff, Nat.reduceLT, Int.reduceLT, Int.reduceLE, Int.reduceEq, Int.reduceNe, Int.reduceToNat, Int.reduceAdd, Int.reduceSub, reduceCtorEq, Nat.reduceBEq, Nat.reduceBNe, loopR_exit, loopR_ret, e0, e3, e5, sn, n2, sn27, nl0, Int.natCast_zero, bne_self_eq_false, ht, decide_true]
        refine ⟨(made r).cells, made r, rfl, nzc, hsz, ?_⟩
        cases hmb : mayB (made r) with
        | true =>
          simp only [Q4_app, Z4, base1, ↓reduceIte, Nat.reduceAdd, Nat.reduceSub, Nat.reduceMul, Nat.reduceEqDiff, Nat.reduceLeDiff, Nat.reduceLT, Int.reduceLT, Int.reduceLE, Int.reduceEq, Int.reduceNe, Int.reduceToNat, Int.reduceAdd, Int.reduceSub, reduceCtorEq, Nat.reduceBEq, Nat.reduceBNe, loopR_exit, loopR_ret, e0, e3, e5, sn, n2, sn27, nl0, Int.natCast_zero, bne_self_eq_false, hmb]
          exact fin _ _ hk1 hs1 e0 e3 e5
        | false =>
          simp only [Q4_app, Z4, base1, ↓reduceIte, Nat.reduceAdd, Nat.reduceSub, Nat.reduceMul, Nat.reduceEqDiff, Nat.reduceLeDiff, Nat.reduceLT, Int.reduceLT, Int.reduceLE, Int.reduceEq, Int.reduceNe, Int.reduceToNat, Int.reduceAdd, Int.reduceSub, reduceCtorEq, Nat.reduceBEq, Nat.reduceBNe, loopR_exit, loopR_ret, e0, e3, e5, sn, n2, sn27, nl0, Int.natCast_zero, bne_self_eq_false, hmb]
          refine ⟨kb, 4, s, 0, 5, 0, 0, 0, (made r).cells, made r, rfl, hk1, nzc, hsz, (fun h => by rw [hmb] at h; cases h), fun σ' hkp => ?_⟩
          simp only [Q4_app, Z4, base1, ↓reduceIte, Nat.reduceAdd, Nat.reduceSub, Nat.reduceMul, Nat.reduceEqDiff, Nat.reduceLeDiff, Nat.reduceLT, Int.reduceLT, Int.reduceLE, Int.reduceEq, Int.reduceNe, Int.reduceToNat, Int.reduceAdd, Int.reduceSub, reduceCtorEq, Nat.reduceBEq, Nat.reduceBNe, loopR_exit, loopR_ret, e0, e3, e5, sn, n2, sn27, nl0, Int.natCast_zero, bne_self_eq_false]
          refine ⟨kb, _, 0, rfl, hkp _ _ hk1, rfl, ?_⟩
          simp only [Q4_app, Z4, base1, ↓reduceIte, Nat.reduceAdd, Nat.reduceSub, Nat.reduceMul, Nat.reduceEqDiff, Nat.reduceLeDiff, Nat.reduceLT, Int.reduceLT, Int.reduceLE, Int.reduceEq, Int.reduceNe, Int.reduceToNat, Int.reduceAdd, Int.reduceSub, reduceCtorEq, Nat.reduceBEq, Nat.reduceBNe, loopR_exit, loopR_ret, e0, e3, e5, sn, n2, sn27, nl0, Int.natCast_zero, bne_self_eq_false]
          refine ⟨kb, 4, s, 0, 5, 0, 0, 0, rfl, hkp _ _ hk1, ?_⟩
          have hb0 : holdB 0 0 0 0 = false := rfl
          simp only [Q4_app, Z4, base1, ↓reduceIte, Nat.reduceAdd, Nat.reduceSub, Nat.reduceMul, Nat.reduceEqDiff, Nat.reduceLeDiff, Nat.reduceLT, Int.reduceLT, Int.reduceLE, Int.reduceEq, Int.reduceNe, Int.reduceToNat, Int.reduceAdd, Int.reduceSub, reduceCtorEq, Nat.reduceBEq, Nat.reduceBNe, loopR_exit, loopR_ret, e0, e3, e5, sn, n2, sn27, nl0, Int.natCast_zero, bne_self_eq_false, hb0]
          refine ⟨kb, s, _, _, rfl, hkp _ _ hk1, rfl, hkp _ _ hs1, rfl, ?_⟩
          simp only [Q4_app, Z4, base1, ↓reduceIte, Nat.reduceAdd, Nat.reduceSub, Nat.reduceMul, Nat.reduceEqDiff, Nat.reduceLeDiff, Nat.reduceLT, Int.reduceLT, Int.reduceLE, Int.reduceEq, Int.reduceNe, Int.reduceToNat, Int.reduceAdd, Int.reduceSub, reduceCtorEq, Nat.reduceBEq, Nat.reduceBNe, loopR_exit, loopR_ret, e0, e3, e5, sn, n2, sn27, nl0, Int.natCast_zero, bne_self_eq_false]
          exact fin _ _ (hkp _ _ hk1) (hkp _ _ hs1) e0 e3 e5
      · simp only [Q4_app, Z4, base1, ↓reduceIte, Nat.reduceAdd, Nat.reduceSub, Nat.reduceMul, Nat.reduceEqDiff, Nat.reduceLeDiff, Nat.reduceLT, Int.reduceLT, Int.reduceLE, Int.reduceEq, Int.reduceNe, Int.reduceToNat, Int.reduceAdd, Int.reduceSub, reduceCtorEq, Nat.reduceBEq, Nat.reduceBNe, loopR_exit, loopR_ret, e0, e3, e5, sn, n2, sn27, nl0, Int.natCast_zero, bne_self_eq_false, ht, decide_false]
        refine ⟨kb, 4, s, 0, 5, 0, 0, 0, (made r).cells, made r, rfl, hk1, nzc, hsz, (fun _ => ht), fun σ' hkp => ?_⟩
        simp only [Q4_app, Z4, base1, ↓reduceIte, Nat.reduceAdd, Nat.reduceSub, Nat.reduceMul, Nat.reduceEqDiff, Nat.reduceLeDiff, Nat.reduceLT, Int.reduceLT, Int.reduceLE, Int.reduceEq, Int.reduceNe, Int.reduceToNat, Int.reduceAdd, Int.reduceSub, reduceCtorEq, Nat.reduceBEq, Nat.reduceBNe, loopR_exit, loopR_ret, e0, e3, e5, sn, n2, sn27, nl0, Int.natCast_zero, bne_self_eq_false]
        refine ⟨kb, _, 0, rfl, hkp _ _ hk1, rfl, ?_⟩
        simp only [Q4_app, Z4, base1, ↓reduceIte, Nat.reduceAdd, Nat.reduceSub, Nat.reduceMul, Nat.reduceEqDiff, Nat.reduceLeDiff, Nat.reduceLT, Int.reduceLT, Int.reduceLE, Int.reduceEq, Int.reduceNe, Int.reduceToNat, Int.reduceAdd, Int.reduceSub, reduceCtorEq, Nat.reduceBEq, Nat.reduceBNe, loopR_exit, loopR_ret, e0, e3, e5, sn, n2, sn27, nl0, Int.natCast_zero, bne_self_eq_false]
        refine ⟨kb, 4, s, 0, 5, 0, 0, 0, rfl, hkp _ _ hk1, ?_⟩
        have hb0 : holdB 0 0 0 0 = false := rfl
        simp only [Q4_app, Z4, base1, ↓reduceIte, Nat.reduceAdd, Nat.reduceSub, Nat.reduceMul, Nat.reduceEqDiff, Nat.reduceLeDiff, Nat.reduceLT, Int.reduceLT, Int.reduceLE, Int.reduceEq, Int.reduceNe, Int.reduceToNat, Int.reduceAdd, Int.reduceSub, reduceCtorEq, Nat.reduceBEq, Nat.reduceBNe, loopR_exit, loopR_ret, e0, e3, e5, sn, n2, sn27, nl0, Int.natCast_zero, bne_self_eq_false, hb0]
        refine ⟨kb, s, _, _, rfl, hkp _ _ hk1, rfl, hkp _ _ hs1, rfl, ?_⟩
        simp only [Q4_app, Z4, base1, ↓reduceIte, Nat.reduceAdd, Nat.reduceSub, Nat.reduceMul, Nat.reduceEqDiff, Nat.reduceLeDiff, Nat.reduceLT, Int.reduceLT, Int.reduceLE, Int.reduceEq, Int.reduceNe, Int.reduceToNat, Int.reduceAdd, Int.reduceSub, reduceCtorEq, Nat.reduceBEq, Nat.reduceBNe, loopR_exit, loopR_ret, e0, e3, e5, sn, n2, sn27, nl0, Int.natCast_zero, bne_self_eq_false]
        exact fin _ _ (hkp _ _ hk1) (hkp _ _ hs1) e0 e3 e5
  · have hie : i = rows.length := by omega
    subst hie
    have hnl : ¬ ((rows.length : Int) < (rows.length : Int)) := by omega
    simp only [Q4_app, Z4, base1, ↓reduceIte, Nat.reduceAdd, Nat.reduceSub, Nat.reduceMul, Nat.reduceEqDiff, Nat.reduceLeDiff, Nat.reduceLT, Int.reduceLT, Int.reduceLE, Int.reduceEq, Int.reduceNe, Int.reduceToNat, Int.reduceAdd, Int.reduceSub, reduceCtorEq, Nat.reduceBEq, Nat.reduceBNe, loopR_exit, loopR_ret, lenOf_imm, e0, e3, e5, hmap, hnl, decide_false]
    exact yes_trueQ
theorem kquiet_ok (rows : List RowV) (hok : ∀ r ∈ rows, r.okS) : Tri Tryz.prog 4 [.imm (rows.map RowV.cells) false false] [] Yes := by
  refine Tri.of_s c4 Q4_sound ?_
  have hmap : (rows.map RowV.cells).length = rows.length := by simp
  simp only [Q4_app, awakeD_eq, tableD_eq, newD_eq, Z4, base1, ↓reduceIte, Nat.reduceAdd, Nat.reduceSub, Nat.reduceMul, Nat.reduceEqDiff, Nat.reduceLeDiff, Nat.reduceLT, Int.reduceLT, Int.reduceLE, Int.reduceEq, Int.reduceNe, Int.reduceToNat, Int.reduceAdd, Int.reduceSub, reduceCtorEq, Nat.reduceBEq, Nat.reduceBNe, lenOf_imm, hmap]
  by_cases hbig : (60 : Int) < (rows.length : Int)
  · have hbig' : (rows.length : Int) > 60 := hbig
    simp only [Q4_app, awakeD_eq, tableD_eq, newD_eq, Z4, base1, ↓reduceIte, Nat.reduceAdd, Nat.reduceSub, Nat.reduceMul, Nat.reduceEqDiff, Nat.reduceLeDiff, Nat.reduceLT, Int.reduceLT, Int.reduceLE, Int.reduceEq, Int.reduceNe, Int.reduceToNat, Int.reduceAdd, Int.reduceSub, reduceCtorEq, Nat.reduceBEq, Nat.reduceBNe, lenOf_imm, hmap, hbig, hbig', decide_true]
    exact yes_trueQ
  · have hbig' : ¬ (rows.length : Int) > 60 := hbig
    simp only [Q4_app, awakeD_eq, tableD_eq, newD_eq, Z4, base1, ↓reduceIte, Nat.reduceAdd, Nat.reduceSub, Nat.reduceMul, Nat.reduceEqDiff, Nat.reduceLeDiff, Nat.reduceLT, Int.reduceLT, Int.reduceLE, Int.reduceEq, Int.reduceNe, Int.reduceToNat, Int.reduceAdd, Int.reduceSub, reduceCtorEq, Nat.reduceBEq, Nat.reduceBNe, lenOf_imm, hmap, hbig, hbig', decide_false]
    refine ⟨0, 4, 5, 5, rfl, rfl, rfl, rfl, rfl, rfl, rfl, rfl, fun k s σ' h1 h2 h3 => ?_⟩
    simp only [Q4_app, awakeD_eq, tableD_eq, newD_eq, Z4, base1, ↓reduceIte, Nat.reduceAdd, Nat.reduceSub, Nat.reduceMul, Nat.reduceEqDiff, Nat.reduceLeDiff, Nat.reduceLT, Int.reduceLT, Int.reduceLE, Int.reduceEq, Int.reduceNe, Int.reduceToNat, Int.reduceAdd, Int.reduceSub, reduceCtorEq, Nat.reduceBEq, Nat.reduceBNe, lenOf_imm, hmap, hbig, hbig', decide_false]
    exact sC_inv (a := b4_41) (kqI rows) rows.length _ _ (.refl _ _ _) ⟨0, k, s, 0, Nat.zero_le _, rfl, h1, h2, rfl, rfl, rfl⟩ (kq_step rows (by omega) hok)
end Go.Proofs.YtgaopohogdinhaaGreatDoor.keep
