/- Spools of texts: what is pushed, looked at, picked. No condition. -/
import Derived.Test.YtndlgmciplckjabK35
import Derived.Test.YtndlgmciplckjabNA
import Derived.Test.YtndlgmciplckjabNE
import Derived.Test.YtndlgmciplckjabNC
import Derived.Test.YtndlgmciplckjabND
set_option linter.unusedVariables false
set_option linter.unusedSimpArgs false
namespace Go.Proofs.Ytndlgmciplckjab.note
open Go.ChangeShapes Go.WideShapes Go.ChangeAt Go.RowKit Go.Gz
abbrev r49_0 : List MOper := [⟨(some 6), .move (.c (.nilslice)), none⟩]
def b49_0 : SCode := .region r49_0
abbrev r49_1 : List MOper := [⟨(some 8), .move (.t 0), none⟩,
  ⟨(some 9), .move (.t 1), none⟩,
  ⟨(some 10), .move (.t 2), none⟩,
  ⟨(some 11), .move (.t 0), none⟩,
  ⟨(some 12), .lenSl (.t 11), none⟩,
  ⟨(some 13), .slice 1 (.t 8) (some (.t 9)) (some (.t 10)) (some (.t 12)), none⟩]
def b49_1 : SCode := .region r49_1
abbrev r49_2 : List MOper := [⟨(some 14), .move (.t 1), none⟩,
  ⟨(some 15), .move (.t 2), none⟩,
  ⟨(some 16), .bin .eql .num (.t 14) (.t 15), none⟩]
def b49_2 : SCode := .region r49_2
abbrev r49_3 : List MOper := [⟨(some 17), .move (.t 0), none⟩,
  ⟨(some 6), .move (.t 17), none⟩]
def b49_3 : SCode := .region r49_3
def b49_4 : SCode := .seq b49_3 .ret
def b49_5 : SCode := .cond (.t 16) b49_4 .skip
def b49_6 : SCode := .seq b49_2 b49_5
abbrev r49_7 : List MOper := [⟨(some 18), .move (.t 0), none⟩,
  ⟨(some 19), .lenSl (.t 18), none⟩,
  ⟨(some 7), .move (.t 19), none⟩]
def b49_7 : SCode := .region r49_7
abbrev t49_8 : LTree := (.quiet ⟨(some 20), .move (.t 0), none⟩ 0
  (.quiet ⟨(some 21), .move (.t 1), none⟩ 1
  (.quiet ⟨(some 22), .slice 1 (.t 20) none (some (.t 21)) none, none⟩ 2
  (.quiet ⟨(some 23), .move (.t 0), none⟩ 3
  (.quiet ⟨(some 24), .move (.t 2), none⟩ 4
  (.quiet ⟨(some 25), .slice 1 (.t 23) (some (.t 24)) none none, none⟩ 5
  (.loud ⟨(some 26), .append 1 16 (.t 22) (.t 25), none⟩ []
  (.quiet ⟨(some 0), .move (.t 26), none⟩ 7
  .leaf) .stop)))))))
def b49_8 : SCode := .draw t49_8
abbrev r49_9 : List MOper := [⟨(some 27), .move (.t 0), none⟩,
  ⟨(some 28), .move (.t 0), none⟩,
  ⟨(some 29), .lenSl (.t 28), none⟩,
  ⟨(some 30), .move (.t 7), none⟩,
  ⟨(some 31), .slice 1 (.t 27) (some (.t 29)) (some (.t 30)) none, none⟩,
  ⟨none, .copy 1 (.t 31) (.c (.agg [.str []])), none⟩]
def b49_9 : SCode := .region r49_9
abbrev r49_10 : List MOper := [⟨(some 32), .move (.t 0), none⟩,
  ⟨(some 6), .move (.t 32), none⟩]
def b49_10 : SCode := .region r49_10
def b49_11 : SCode := .seq b49_10 .ret
def b49_12 : SCode := .seq b49_9 b49_11
def b49_13 : SCode := .seq b49_8 b49_12
def b49_14 : SCode := .seq b49_7 b49_13
def b49_15 : SCode := .seq b49_6 b49_14
def b49_16 : SCode := .seq b49_1 b49_15
def b49_17 : SCode := .seq b49_0 b49_16
def s49 : SFunc := ⟨33, [.t 6], b49_17⟩
theorem c49 : sFn Try.prog 49 = some s49 := by kernel_rfl
theorem Z49 : XR b49_0 r49_0 ∧ XR b49_1 r49_1 ∧ XR b49_2 r49_2 ∧ XR b49_3 r49_3 ∧ XS b49_4 b49_3 .ret ∧ XC b49_5 (.t 16) b49_4 .skip ∧ XS b49_6 b49_2 b49_5 ∧ XR b49_7 r49_7 ∧ XT b49_8 t49_8 ∧ XR b49_9 r49_9 ∧ XR b49_10 r49_10 ∧ XS b49_11 b49_10 .ret ∧ XS b49_12 b49_9 b49_11 ∧ XS b49_13 b49_8 b49_12 ∧ XS b49_14 b49_7 b49_13 ∧ XS b49_15 b49_6 b49_14 ∧ XS b49_16 b49_1 b49_15 ∧ XS b49_17 b49_0 b49_16 ∧ XY s49 33 b49_17 [.t 6] := ⟨rfl, rfl, rfl, rfl, rfl, sC_cond, rfl, rfl, rfl, rfl, rfl, rfl, rfl, rfl, rfl, rfl, rfl, rfl, rfl⟩

set_option maxHeartbeats 4000000
set_option maxRecDepth 10000
theorem lenOf_nilS : lenOf .nilslice = some 0 := _root_.id rfl
/-! Delete. -/
abbrev strs (ss : List (List UInt8)) : List AV := ss.map AV.str
theorem sub_mid {ss : List (List UInt8)} {J : List AV} {i : Nat} (hi : i < ss.length) : sub (strs ss ++ J) (i + 1) (ss.length - (i + 1)) = some (strs (ss.drop (i + 1))) := by
  unfold sub
  rw [if_pos (by simp; omega)]
  congr 1
  rw [List.drop_append_of_le_length (by simp; omega), List.take_append_of_le_length (by simp)]
  rw [List.take_of_length_le (by simp)]
  simp [strs, List.map_drop]
theorem put_mid {ss : List (List UInt8)} {J : List AV} {i : Nat} (hi : i < ss.length) : put (strs ss ++ J) i (strs (ss.drop (i + 1))) = some (strs (ss.eraseIdx i) ++ (AV.str (ss.getLast?.getD []) :: J)) := by
  unfold put
  rw [if_pos (by simp; omega)]
  congr 1
  have hne : ss ≠ [] := by intro h; subst h; simp at hi
  have e1 : i + (strs (ss.drop (i + 1))).length = ss.length - 1 := by simp; omega
  rw [e1, List.take_append_of_le_length (by simp; omega), List.drop_append_of_le_length (by simp)]
  have e2 : (strs ss).drop (ss.length - 1) = [AV.str (ss.getLast?.getD [])] := by
    have h1 : ss.drop (ss.length - 1) = [ss.getLast?.getD []] := by
      rw [List.drop_eq_getElem_cons (by omega), List.drop_eq_nil_of_le (by omega)]
      congr 1
      rw [List.getLast?_eq_getElem?, List.getElem?_eq_getElem (by omega)]; rfl
    rw [← List.map_drop, h1]; rfl
  rw [e2, List.eraseIdx_eq_take_drop_succ]
  simp [strs, List.map_take, List.map_drop]
theorem clr_last {ss : List (List UInt8)} {x : List UInt8} {J : List AV} : put (strs ss ++ (AV.str x :: J)) ss.length [AV.str []] = some (strs ss ++ (AV.str [] :: J)) := by
  unfold put
  rw [if_pos (by simp)]
  congr 1
  rw [List.take_append_of_le_length (by simp), List.take_of_length_le (by simp)]
  rw [List.append_assoc]
  congr 1
  simp
  rw [List.drop_append]
  simp
theorem delete_ok (σ : AHeap) (D : Nat) (ss : List (List UInt8)) (J : List AV) (i : Nat) (hi : i < ss.length) (hb : ss.length ≤ 1000000) (hD : hget σ D = some (strs ss ++ J)) :
    Tri Try.prog 49 [.slice D 0 ss.length none 1, .int .i64 (i : Int), .int .i64 ((i + 1 : Nat) : Int)] σ fun r σ' => r = .slice D 0 (ss.length - 1) none 1 ∧ σ' = hset σ D (strs (ss.eraseIdx i) ++ (AV.str [] :: J)) := by
  refine Tri.tell (Q := fun r σ' => ∃ c, r = .slice D 0 (ss.length - 1) (some c) 1 ∧ σ' = hset σ D (strs (ss.eraseIdx i) ++ (AV.str [] :: J))) (Tri.ofCap fun c hc => Tri.of_s c49 (noCall_sound _) ?_) (fun r σ' ⟨c, h1, h2⟩ => ⟨.slice D 0 (ss.length - 1) none 1, fun C v hv => uncap (by rw [h1] at hv; exact hv), rfl, h2⟩)
  have hc0 : ¬ c = 0 := by omega
  have l0 : lenOf (.slice D 0 ss.length (some c) 1) = some ss.length := rfl
  have i0 : (0 : Int) ≤ (i : Int) := by omega
  have hi1 : ¬ (i : Int) = ((i + 1 : Nat) : Int) := by omega
  have lE : (ss.eraseIdx i).length = ss.length - 1 := by rw [List.length_eraseIdx, if_pos hi]
  have hs1 : evSlice 1 (.slice D 0 ss.length (some c) 1) (some (.int .i64 (i : Int))) (some (.int .i64 ((i + 1 : Nat) : Int))) (some (.int .i64 (ss.length : Int))) = some (.slice D i 1 (some (ss.length - i)) 1) := by
    have b1 : bound? (some (.int .i64 (ss.length : Int))) c c = some ss.length := by rw [bound_int, if_pos (by omega), if_pos (by omega)]; simp
    have b2 : bound? (some (.int .i64 ((i + 1 : Nat) : Int))) ss.length ss.length = some (i + 1) := by rw [bound_int, if_pos (by omega), if_pos (by omega)]; simp
    have b3 : bound? (some (.int .i64 (i : Int))) 0 (i + 1) = some i := by rw [bound_int, if_pos (by omega), if_pos (by omega)]; simp
    simp only [evSlice, topOf, b1, b2, b3]
    rw [if_pos ⟨by omega, by omega, trivial⟩]
    simp
  have hs2 : evSlice 1 (.slice D 0 ss.length (some c) 1) none (some (.int .i64 (i : Int))) none = some (.slice D 0 i (some c) 1) := by
    have b1 : bound? none c c = some c := rfl
    have b2 : bound? (some (.int .i64 (i : Int))) ss.length c = some i := by rw [bound_int, if_pos (by omega), if_pos (by omega)]; simp
    have b3 : bound? none 0 i = some 0 := rfl
    simp only [evSlice, topOf, b1, b2, b3]
    rw [if_pos ⟨by omega, by omega, trivial⟩]
    simp
  have hs3 : evSlice 1 (.slice D 0 ss.length (some c) 1) (some (.int .i64 ((i + 1 : Nat) : Int))) none none = some (.slice D (i + 1) (ss.length - (i + 1)) (some (c - (i + 1))) 1) := by
    have b1 : bound? none c c = some c := rfl
    have b2 : bound? none ss.length c = some ss.length := rfl
    have b3 : bound? (some (.int .i64 ((i + 1 : Nat) : Int))) 0 ss.length = some (i + 1) := by rw [bound_int, if_pos (by omega), if_pos (by omega)]; simp
    simp only [evSlice, topOf, b1, b2, b3]
    rw [if_pos ⟨by omega, by omega, trivial⟩]
    simp
  have ha : evAppend 1 16 (.slice D 0 i (some c) 1) (.slice D (i + 1) (ss.length - (i + 1)) (some (c - (i + 1))) 1) σ = some (.slice D 0 (ss.length - 1) (some c) 1, hset σ D (strs (ss.eraseIdx i) ++ (AV.str (ss.getLast?.getD []) :: J))) := by
    have e1 : elemsOf σ 1 (.slice D (i + 1) (ss.length - (i + 1)) (some (c - (i + 1))) 1) = some (strs (ss.drop (i + 1))) := by
      simp only [elemsOf, if_true, hD, Option.bind_some, Nat.mul_one]; exact sub_mid hi
    have l1 : lenOf (.slice D (i + 1) (ss.length - (i + 1)) (some (c - (i + 1))) 1) = some (ss.length - (i + 1)) := rfl
    have l2 : lenOf (.slice D 0 i (some c) 1) = some i := rfl
    have hg : mayGrow (i + (ss.length - (i + 1))) 16 = true := by simp only [mayGrow, decide_eq_true_eq]; omega
    have hcell : (strs (ss.drop (i + 1))).all (fun x => x.isCell) = true := by
      rw [List.all_eq_true]; intro x hx
      obtain ⟨y, _, rfl⟩ := List.mem_map.1 hx
      rfl
    have hle : i + (ss.length - (i + 1)) ≤ c := by omega
    have hp := put_mid (J := J) hi
    simp only [evAppend, e1, l1, l2, hg, hcell, Bool.and_self, if_true, if_neg hc0, if_pos hle, hD, Option.bind_some, Nat.mul_one, Nat.zero_add, hp, Option.map_some]
    rw [show i + (ss.length - (i + 1)) = ss.length - 1 by omega]
  have l3 : lenOf (.slice D 0 (ss.length - 1) (some c) 1) = some (ss.length - 1) := rfl
  have hs4 : evSlice 1 (.slice D 0 (ss.length - 1) (some c) 1) (some (.int .i64 ((ss.length - 1 : Nat) : Int))) (some (.int .i64 (ss.length : Int))) none = some (.slice D (ss.length - 1) 1 (some (c - (ss.length - 1))) 1) := by
    have b1 : bound? none c c = some c := rfl
    have b2 : bound? (some (.int .i64 (ss.length : Int))) (ss.length - 1) c = some ss.length := by rw [bound_int, if_pos (by omega), if_pos (by omega)]; simp
    have b3 : bound? (some (.int .i64 ((ss.length - 1 : Nat) : Int))) 0 ss.length = some (ss.length - 1) := by rw [bound_int, if_pos (by omega), if_pos (by omega)]; simp
    simp only [evSlice, topOf, b1, b2, b3]
    rw [if_pos ⟨by omega, by omega, trivial⟩]
    simp; omega
  have hD2 : hget (hset σ D (strs (ss.eraseIdx i) ++ (AV.str (ss.getLast?.getD []) :: J))) D = some (strs (ss.eraseIdx i) ++ (AV.str (ss.getLast?.getD []) :: J)) := set_same hD
  have hcl : evCopy 1 (.slice D (ss.length - 1) 1 (some (c - (ss.length - 1))) 1) (.agg [.str []]) (hset σ D (strs (ss.eraseIdx i) ++ (AV.str (ss.getLast?.getD []) :: J))) = some (.tuple [], hset σ D (strs (ss.eraseIdx i) ++ (AV.str [] :: J))) := by
    have hp := clr_last (ss := ss.eraseIdx i) (x := ss.getLast?.getD []) (J := J)
    rw [lE] at hp
    simp only [evCopy, hD2, Option.bind_some, List.replicate_succ, List.replicate_zero, List.flatten_cons, List.flatten_nil, List.append_nil, hp, Option.map_some, set_set]
    rfl
  simp only [Z49, base1, ↓reduceIte, Nat.reduceAdd, Nat.reduceSub, Nat.reduceMul, Nat.reduceEqDiff, Nat.reduceLeDiff, Nat.reduceLT, Int.reduceLT, Int.reduceLE, Int.reduceEq, Int.reduceNe, Int.reduceToNat, Int.reduceAdd, Int.reduceSub, reduceCtorEq, Nat.reduceBEq, Nat.reduceBNe, l0, i0, hi1, hs1, hs2, hs3, ha, l3, hs4, hcl]
  exact ⟨c, rfl⟩
def delD (args : List AV) (σ : AHeap) (K : AV → AHeap → Prop) : Prop := ∃ (D : Nat) (ss : List (List UInt8)) (J : List AV) (i : Nat), args = [.slice D 0 ss.length none 1, .int .i64 (i : Int), .int .i64 ((i + 1 : Nat) : Int)] ∧ i < ss.length ∧ ss.length ≤ 1000000 ∧ hget σ D = some (strs ss ++ J) ∧ K (.slice D 0 (ss.length - 1) none 1) (hset σ D (strs (ss.eraseIdx i) ++ (AV.str [] :: J)))
theorem delD_ok (args : List AV) (σ : AHeap) (K : AV → AHeap → Prop) (h : delD args σ K) : Tri Try.prog 49 args σ K := by
  obtain ⟨D, ss, J, i, rfl, h1, h2, h3, h4⟩ := h
  exact (delete_ok σ D ss J i h1 h2 h3).mono fun r σ' hr => by rw [hr.1, hr.2]; exact h4
/-! The spool. -/
abbrev r17_0 : List MOper := [⟨(some 2), .move (.c (.nilptr)), none⟩]
def b17_0 : SCode := .region r17_0
abbrev r17_1 : List MOper := [⟨(some 3), .move (.t 0), none⟩,
  ⟨(some 4), .build [.int .i64 0, .nilslice] [(0, 1, (.t 3))], none⟩,
  ⟨(some 5), .box (.t 4), none⟩,
  ⟨(some 2), .move (.t 5), none⟩]
def b17_1 : SCode := .region r17_1
def b17_2 : SCode := .seq b17_1 .ret
def b17_3 : SCode := .seq b17_0 b17_2
def s17 : SFunc := ⟨6, [.t 2], b17_3⟩
theorem c17 : sFn Try.prog 17 = some s17 := by kernel_rfl
theorem Z17 : XR b17_0 r17_0 ∧ XR b17_1 r17_1 ∧ XS b17_2 b17_1 .ret ∧ XS b17_3 b17_0 b17_2 ∧ XY s17 6 b17_3 [.t 2] := ⟨rfl, rfl, rfl, rfl, rfl⟩
abbrev r27_0 : List MOper := [⟨(some 4), .move (.c (.bool false)), none⟩]
def b27_0 : SCode := .region r27_0
abbrev t27_1 : LTree := (.quiet ⟨(some 5), .move (.t 0), none⟩ 0
  (.quiet ⟨(some 6), .bin .eql .nilp (.t 5) (.c (.nilptr)), none⟩ 1
  (.quiet ⟨(some 7), .move (.t 6), none⟩ 2
  (.quiet ⟨(some 8), .move (.t 0), (some (7, false))⟩ 3
  (.quiet ⟨(some 9), .nilCheck (.t 8), (some (7, false))⟩ 4
  (.quiet ⟨(some 10), .fieldAddr 1 (.t 9), (some (7, false))⟩ 5
  (.quiet ⟨(some 11), .load1 (.t 10), (some (7, false))⟩ 6
  (.quiet ⟨(some 12), .lenSl (.t 11), (some (7, false))⟩ 7
  (.quiet ⟨(some 13), .move (.t 0), (some (7, false))⟩ 8
  (.quiet ⟨(some 14), .nilCheck (.t 13), (some (7, false))⟩ 9
  (.quiet ⟨(some 15), .fieldAddr 0 (.t 14), (some (7, false))⟩ 10
  (.quiet ⟨(some 16), .load1 (.t 15), (some (7, false))⟩ 11
  (.quiet ⟨(some 17), .bin .geq .num (.t 12) (.t 16), (some (7, false))⟩ 12
  (.quiet ⟨(some 18), .pick (.t 7) (.c (.bool true)) (.t 17), none⟩ 13
  .leaf))))))))))))))
def b27_1 : SCode := .draw t27_1
abbrev r27_2 : List MOper := [⟨(some 4), .move (.c (.bool false)), none⟩]
def b27_2 : SCode := .region r27_2
def b27_3 : SCode := .seq b27_2 .ret
def b27_4 : SCode := .cond (.t 18) b27_3 .skip
def b27_5 : SCode := .seq b27_1 b27_4
abbrev r27_6 : List MOper := [⟨(some 19), .move (.t 0), none⟩,
  ⟨(some 20), .move (.t 0), none⟩,
  ⟨(some 21), .nilCheck (.t 20), none⟩,
  ⟨(some 22), .fieldAddr 1 (.t 21), none⟩,
  ⟨(some 23), .load1 (.t 22), none⟩,
  ⟨(some 24), .move (.t 1), none⟩,
  ⟨(some 25), .buildSlice [.str []] 1 1 [(0, 1, (.t 24))], none⟩,
  ⟨(some 26), .append 1 16 (.t 23) (.t 25), none⟩,
  ⟨(some 27), .nilCheck (.t 19), none⟩,
  ⟨(some 28), .fieldAddr 1 (.t 27), none⟩,
  ⟨none, .store 1 (.t 28) (.t 26), none⟩]
def b27_6 : SCode := .region r27_6
abbrev r27_7 : List MOper := [⟨(some 4), .move (.c (.bool true)), none⟩]
def b27_7 : SCode := .region r27_7
def b27_8 : SCode := .seq b27_7 .ret
def b27_9 : SCode := .seq b27_6 b27_8
def b27_10 : SCode := .seq b27_5 b27_9
def b27_11 : SCode := .seq b27_0 b27_10
def s27 : SFunc := ⟨29, [.t 4], b27_11⟩
theorem c27 : sFn Try.prog 27 = some s27 := by kernel_rfl
theorem Z27 : XR b27_0 r27_0 ∧ XT b27_1 t27_1 ∧ XR b27_2 r27_2 ∧ XS b27_3 b27_2 .ret ∧ XC b27_4 (.t 18) b27_3 .skip ∧ XS b27_5 b27_1 b27_4 ∧ XR b27_6 r27_6 ∧ XR b27_7 r27_7 ∧ XS b27_8 b27_7 .ret ∧ XS b27_9 b27_6 b27_8 ∧ XS b27_10 b27_5 b27_9 ∧ XS b27_11 b27_0 b27_10 ∧ XY s27 29 b27_11 [.t 4] := ⟨rfl, rfl, rfl, rfl, sC_cond, rfl, rfl, rfl, rfl, rfl, rfl, rfl, rfl⟩
abbrev r36_0 : List MOper := [⟨(some 4), .move (.c (.str [])), none⟩,
  ⟨(some 5), .move (.c (.bool false)), none⟩]
def b36_0 : SCode := .region r36_0
abbrev r36_1 : List MOper := [⟨(some 7), .move (.t 0), none⟩,
  ⟨(some 8), .bin .eql .nilp (.t 7) (.c (.nilptr)), none⟩,
  ⟨(some 9), .move (.t 8), none⟩,
  ⟨(some 10), .move (.t 1), (some (9, false))⟩,
  ⟨(some 11), .bin .lss .num (.t 10) (.c (.int .i64 0)), (some (9, false))⟩,
  ⟨(some 12), .pick (.t 9) (.c (.bool true)) (.t 11), none⟩,
  ⟨(some 13), .move (.t 12), none⟩,
  ⟨(some 14), .move (.t 1), (some (13, false))⟩,
  ⟨(some 15), .move (.t 0), (some (13, false))⟩,
  ⟨(some 16), .nilCheck (.t 15), (some (13, false))⟩,
  ⟨(some 17), .fieldAddr 1 (.t 16), (some (13, false))⟩,
  ⟨(some 18), .load1 (.t 17), (some (13, false))⟩,
  ⟨(some 19), .lenSl (.t 18), (some (13, false))⟩,
  ⟨(some 20), .bin .geq .num (.t 14) (.t 19), (some (13, false))⟩,
  ⟨(some 21), .pick (.t 13) (.c (.bool true)) (.t 20), none⟩]
def b36_1 : SCode := .region r36_1
abbrev r36_2 : List MOper := [⟨(some 6), .move (.c (.str [])), none⟩]
def b36_2 : SCode := .region r36_2
abbrev r36_3 : List MOper := [⟨(some 22), .move (.t 6), none⟩,
  ⟨(some 4), .move (.t 22), none⟩,
  ⟨(some 5), .move (.c (.bool false)), none⟩]
def b36_3 : SCode := .region r36_3
def b36_4 : SCode := .seq b36_3 .ret
def b36_5 : SCode := .seq b36_2 b36_4
def b36_6 : SCode := .cond (.t 21) b36_5 .skip
def b36_7 : SCode := .seq b36_1 b36_6
abbrev r36_8 : List MOper := [⟨(some 23), .move (.t 0), none⟩,
  ⟨(some 24), .nilCheck (.t 23), none⟩,
  ⟨(some 25), .fieldAddr 1 (.t 24), none⟩,
  ⟨(some 26), .load1 (.t 25), none⟩,
  ⟨(some 27), .move (.t 1), none⟩,
  ⟨(some 28), .indexAddr 1 (.t 26) (.t 27), none⟩,
  ⟨(some 29), .load1 (.t 28), none⟩,
  ⟨(some 4), .move (.t 29), none⟩,
  ⟨(some 5), .move (.c (.bool true)), none⟩]
def b36_8 : SCode := .region r36_8
def b36_9 : SCode := .seq b36_8 .ret
def b36_10 : SCode := .seq b36_7 b36_9
def b36_11 : SCode := .seq b36_0 b36_10
def s36 : SFunc := ⟨30, [.t 4, .t 5], b36_11⟩
theorem c36 : sFn Try.prog 36 = some s36 := by kernel_rfl
theorem Z36 : XR b36_0 r36_0 ∧ XR b36_1 r36_1 ∧ XR b36_2 r36_2 ∧ XR b36_3 r36_3 ∧ XS b36_4 b36_3 .ret ∧ XS b36_5 b36_2 b36_4 ∧ XC b36_6 (.t 21) b36_5 .skip ∧ XS b36_7 b36_1 b36_6 ∧ XR b36_8 r36_8 ∧ XS b36_9 b36_8 .ret ∧ XS b36_10 b36_7 b36_9 ∧ XS b36_11 b36_0 b36_10 ∧ XY s36 30 b36_11 [.t 4, .t 5] := ⟨rfl, rfl, rfl, rfl, rfl, rfl, sC_cond, rfl, rfl, rfl, rfl, rfl, rfl⟩
abbrev r37_0 : List MOper := [⟨(some 2), .move (.c (.int .i64 0)), none⟩]
def b37_0 : SCode := .region r37_0
abbrev r37_1 : List MOper := [⟨(some 3), .move (.t 0), none⟩,
  ⟨(some 4), .bin .eql .nilp (.t 3) (.c (.nilptr)), none⟩]
def b37_1 : SCode := .region r37_1
abbrev r37_2 : List MOper := [⟨(some 2), .move (.c (.int .i64 0)), none⟩]
def b37_2 : SCode := .region r37_2
def b37_3 : SCode := .seq b37_2 .ret
def b37_4 : SCode := .cond (.t 4) b37_3 .skip
def b37_5 : SCode := .seq b37_1 b37_4
abbrev r37_6 : List MOper := [⟨(some 5), .move (.t 0), none⟩,
  ⟨(some 6), .nilCheck (.t 5), none⟩,
  ⟨(some 7), .fieldAddr 1 (.t 6), none⟩,
  ⟨(some 8), .load1 (.t 7), none⟩,
  ⟨(some 9), .lenSl (.t 8), none⟩,
  ⟨(some 2), .move (.t 9), none⟩]
def b37_6 : SCode := .region r37_6
def b37_7 : SCode := .seq b37_6 .ret
def b37_8 : SCode := .seq b37_5 b37_7
def b37_9 : SCode := .seq b37_0 b37_8
def s37 : SFunc := ⟨10, [.t 2], b37_9⟩
theorem c37 : sFn Try.prog 37 = some s37 := by kernel_rfl
theorem Z37 : XR b37_0 r37_0 ∧ XR b37_1 r37_1 ∧ XR b37_2 r37_2 ∧ XS b37_3 b37_2 .ret ∧ XC b37_4 (.t 4) b37_3 .skip ∧ XS b37_5 b37_1 b37_4 ∧ XR b37_6 r37_6 ∧ XS b37_7 b37_6 .ret ∧ XS b37_8 b37_5 b37_7 ∧ XS b37_9 b37_0 b37_8 ∧ XY s37 10 b37_9 [.t 2] := ⟨rfl, rfl, rfl, rfl, sC_cond, rfl, rfl, rfl, rfl, rfl, rfl⟩
abbrev r29_0 : List MOper := [⟨(some 4), .move (.c (.str [])), none⟩,
  ⟨(some 5), .move (.c (.bool false)), none⟩]
def b29_0 : SCode := .region r29_0
abbrev r29_1 : List MOper := [⟨(some 9), .move (.t 0), none⟩,
  ⟨(some 10), .move (.t 1), none⟩,
  ⟨(some 11), .call 36 [(.t 9), (.t 10)], none⟩,
  ⟨(some 8), .move (.t 11), none⟩,
  ⟨(some 12), .extract (.t 8) 0, none⟩,
  ⟨(some 13), .extract (.t 8) 1, none⟩,
  ⟨(some 6), .move (.t 12), none⟩,
  ⟨(some 7), .move (.t 13), none⟩]
def b29_1 : SCode := .region r29_1
abbrev r29_2 : List MOper := [⟨(some 14), .move (.t 7), none⟩]
def b29_2 : SCode := .region r29_2
abbrev r29_3 : List MOper := [⟨(some 15), .move (.t 0), none⟩,
  ⟨(some 16), .move (.t 0), none⟩,
  ⟨(some 17), .nilCheck (.t 16), none⟩,
  ⟨(some 18), .fieldAddr 1 (.t 17), none⟩,
  ⟨(some 19), .load1 (.t 18), none⟩,
  ⟨(some 20), .move (.t 1), none⟩,
  ⟨(some 21), .move (.t 1), none⟩,
  ⟨(some 22), .bin .add .num (.t 21) (.c (.int .i64 1)), none⟩,
  ⟨(some 23), .call 49 [(.t 19), (.t 20), (.t 22)], none⟩,
  ⟨(some 24), .nilCheck (.t 15), none⟩,
  ⟨(some 25), .fieldAddr 1 (.t 24), none⟩,
  ⟨none, .store 1 (.t 25) (.t 23), none⟩]
def b29_3 : SCode := .region r29_3
def b29_4 : SCode := .cond (.t 14) b29_3 .skip
def b29_5 : SCode := .seq b29_2 b29_4
abbrev r29_6 : List MOper := [⟨(some 26), .move (.t 6), none⟩,
  ⟨(some 27), .move (.t 7), none⟩,
  ⟨(some 4), .move (.t 26), none⟩,
  ⟨(some 5), .move (.t 27), none⟩]
def b29_6 : SCode := .region r29_6
def b29_7 : SCode := .seq b29_6 .ret
def b29_8 : SCode := .seq b29_5 b29_7
def b29_9 : SCode := .seq b29_1 b29_8
def b29_10 : SCode := .seq b29_0 b29_9
def s29 : SFunc := ⟨28, [.t 4, .t 5], b29_10⟩
theorem c29 : sFn Try.prog 29 = some s29 := by kernel_rfl
theorem Z29 : XR b29_0 r29_0 ∧ XR b29_1 r29_1 ∧ XR b29_2 r29_2 ∧ XR b29_3 r29_3 ∧ XC b29_4 (.t 14) b29_3 .skip ∧ XS b29_5 b29_2 b29_4 ∧ XR b29_6 r29_6 ∧ XS b29_7 b29_6 .ret ∧ XS b29_8 b29_5 b29_7 ∧ XS b29_9 b29_1 b29_8 ∧ XS b29_10 b29_0 b29_9 ∧ XY s29 28 b29_10 [.t 4, .t 5] := ⟨rfl, rfl, rfl, rfl, sC_cond, rfl, rfl, rfl, rfl, rfl, rfl, rfl⟩

/-- A spool at a block: its texts, in which block they lie. -/
def Sp (σ : AHeap) (S : Nat) (ss : List (List UInt8)) (D : Option Nat) : Prop :=
  (D = none ∧ ss = [] ∧ hget σ S = some [.int .i64 512, .nilslice]) ∨ (∃ d J, D = some d ∧ d ≠ S ∧ hget σ S = some [.int .i64 512, .slice d 0 ss.length none 1] ∧ hget σ d = some (strs ss ++ J))
/-- All but the spool stays. -/
def FrS (σ σ' : AHeap) (S : Nat) (D D' : Option Nat) : Prop := ∀ j c, hget σ j = some c → j ≠ S → D ≠ some j → hget σ' j = some c ∧ D' ≠ some j
theorem FrS.refl (σ : AHeap) (S : Nat) (D : Option Nat) : FrS σ σ S D D := fun j c hj _ h2 => ⟨hj, h2⟩
theorem FrS.trans {σ σ' σ'' : AHeap} {S : Nat} {D D' D'' : Option Nat} (h : FrS σ σ' S D D') (k : FrS σ' σ'' S D' D'') : FrS σ σ'' S D D'' := fun j c hj h1 h2 => by
  obtain ⟨a, b⟩ := h j c hj h1 h2
  exact k j c a h1 b
theorem sp_new {σ : AHeap} : Sp (hpush σ [.int .i64 512, .nilslice]) σ.length [] none := .inl ⟨rfl, rfl, push_new rfl⟩
theorem sp_frame {σ σ' : AHeap} {S : Nat} {ss : List (List UInt8)} {D : Option Nat} (h : Sp σ S ss D) (hf : ∀ j c, hget σ j = some c → (j = S ∨ D = some j) → hget σ' j = some c) : Sp σ' S ss D := by
  rcases h with ⟨rfl, rfl, h⟩ | ⟨d, J, rfl, hd, h, hb⟩
  · exact .inl ⟨rfl, rfl, hf _ _ h (.inl rfl)⟩
  · exact .inr ⟨d, J, rfl, hd, hf _ _ h (.inl rfl), hf _ _ hb (.inr rfl)⟩
def newD (args : List AV) (σ : AHeap) (K : AV → AHeap → Prop) : Prop := args = [.int .i64 512] ∧ K (.ptr σ.length 0) (hpush σ [.int .i64 512, .nilslice])
theorem newD_ok (args : List AV) (σ : AHeap) (K : AV → AHeap → Prop) (h : newD args σ K) : Tri Try.prog 17 args σ K := by
  obtain ⟨rfl, h⟩ := h
  refine Tri.of_s c17 (noCall_sound _) ?_
  simp only [Z17, base1, baseE, ↓reduceIte, Nat.reduceAdd, Nat.reduceSub, Nat.reduceMul, Nat.reduceEqDiff, Nat.reduceLeDiff, Nat.reduceLT, Int.reduceLT, Int.reduceLE, Int.reduceEq, Int.reduceNe, Int.reduceToNat, Int.reduceAdd, Int.reduceSub, reduceCtorEq, Nat.reduceBEq, Nat.reduceBNe]
  exact h
def slenD (args : List AV) (σ : AHeap) (K : AV → AHeap → Prop) : Prop := ∃ (S : Nat) (ss : List (List UInt8)) (D : Option Nat), args = [.ptr S 0] ∧ Sp σ S ss D ∧ K (.int .i64 (ss.length : Int)) σ
theorem slenD_ok (args : List AV) (σ : AHeap) (K : AV → AHeap → Prop) (h : slenD args σ K) : Tri Try.prog 37 args σ K := by
  obtain ⟨S, ss, D, rfl, hs, h⟩ := h
  refine Tri.of_s c37 (noCall_sound _) ?_
  rcases hs with ⟨rfl, rfl, hg⟩ | ⟨d, J, rfl, hd, hg, hb⟩
  · simp only [Z37, base1, baseE, ↓reduceIte, Nat.reduceAdd, Nat.reduceSub, Nat.reduceMul, Nat.reduceEqDiff, Nat.reduceLeDiff, Nat.reduceLT, Int.reduceLT, Int.reduceLE, Int.reduceEq, Int.reduceNe, Int.reduceToNat, Int.reduceAdd, Int.reduceSub, reduceCtorEq, Nat.reduceBEq, Nat.reduceBNe, hg]
    exact h
  · simp only [Z37, base1, baseE, ↓reduceIte, Nat.reduceAdd, Nat.reduceSub, Nat.reduceMul, Nat.reduceEqDiff, Nat.reduceLeDiff, Nat.reduceLT, Int.reduceLT, Int.reduceLE, Int.reduceEq, Int.reduceNe, Int.reduceToNat, Int.reduceAdd, Int.reduceSub, reduceCtorEq, Nat.reduceBEq, Nat.reduceBNe, hg]
    exact h
def pushD (args : List AV) (σ : AHeap) (K : AV → AHeap → Prop) : Prop := ∃ (S : Nat) (x : List UInt8) (ss : List (List UInt8)) (D : Option Nat), args = [.ptr S 0, .str x] ∧ Sp σ S ss D ∧
  (512 ≤ ss.length → K (.bool false) σ) ∧ (ss.length < 512 → ∀ σ' D', Sp σ' S (ss ++ [x]) D' → FrS σ σ' S D D' → K (.bool true) σ')
theorem pushD_ok (args : List AV) (σ : AHeap) (K : AV → AHeap → Prop) (h : pushD args σ K) : Tri Try.prog 27 args σ K := by
  obtain ⟨S, x, ss, D, rfl, hs, h0, h1⟩ := h
  refine Tri.of_s c27 (noCall_sound _) ?_
  rcases hs with ⟨rfl, rfl, hg⟩ | ⟨d, J, rfl, hd, hg, hb⟩
  · have hl := hget_lt hg
    have e1 : elemsOf (hpush σ [AV.str x]) 1 (.slice σ.length 0 1 (some 1) 1) = some [.str x] := by
      simp only [elemsOf, if_true, push_new rfl, Option.bind_some, Nat.mul_one]; exact sub_all rfl
    have ha : evAppend 1 16 .nilslice (.slice σ.length 0 1 (some 1) 1) (hpush σ [AV.str x]) = some (.slice (σ.length + 1) 0 1 none 1, hpush (hpush σ [AV.str x]) [.str x]) := by
      have l0 : lenOf .nilslice = some 0 := rfl
      have l1 : lenOf (.slice σ.length 0 1 (some 1) 1) = some 1 := rfl
      have hm : mayGrow (0 + 1) 16 = true := rfl
      have hc : ([AV.str x].all fun x => x.isCell) = true := rfl
      simp only [evAppend, e1, l0, l1, hm, hc, Bool.and_self, if_true, grown, push_len]
      rfl
    have g1 : hget (hpush (hpush σ [AV.str x]) [.str x]) S = some [.int .i64 512, .nilslice] := push_old (push_old hg)
    have gp : hget (hpush σ [AV.str x]) S = some [.int .i64 512, .nilslice] := push_old hg
    simp only [Z27, base1, ↓reduceIte, Nat.reduceAdd, Nat.reduceSub, Nat.reduceMul, Nat.reduceEqDiff, Nat.reduceLeDiff, Nat.reduceLT, Int.reduceLT, Int.reduceLE, Int.reduceEq, Int.reduceNe, Int.reduceToNat, Int.reduceAdd, Int.reduceSub, reduceCtorEq, Nat.reduceBEq, Nat.reduceBNe, lenOf_nilS, hg, gp, ha, g1]
    refine h1 (by simp) _ (some (σ.length + 1)) (.inr ⟨σ.length + 1, [], rfl, by omega, set_same g1, ?_⟩) (fun j c hj hjS _ => ⟨?_, ?_⟩)
    · rw [set_other (by omega)]; exact push_new (by simp [push_len])
    · rw [set_other (fun e => hjS e.symm)]; exact push_old (push_old hj)
    · have := hget_lt hj; intro e; cases e; omega
  · have hl := hget_lt hg
    have hdl := hget_lt hb
    have ls : lenOf (.slice d 0 ss.length none 1) = some ss.length := rfl
    by_cases hf : (512 : Int) ≤ (ss.length : Int)
    · simp only [Z27, base1, ↓reduceIte, Nat.reduceAdd, Nat.reduceSub, Nat.reduceMul, Nat.reduceEqDiff, Nat.reduceLeDiff, Nat.reduceLT, Int.reduceLT, Int.reduceLE, Int.reduceEq, Int.reduceNe, Int.reduceToNat, Int.reduceAdd, Int.reduceSub, reduceCtorEq, Nat.reduceBEq, Nat.reduceBNe, ls, hg, hf]
      exact h0 (by omega)
    · have hlt : ss.length < 512 := by omega
      have bD : hget (hpush σ [AV.str x]) d = some (strs ss ++ J) := push_old hb
      have e1 : elemsOf (hpush σ [AV.str x]) 1 (.slice σ.length 0 1 (some 1) 1) = some [.str x] := by
        simp only [elemsOf, if_true, push_new rfl, Option.bind_some, Nat.mul_one]; exact sub_all rfl
      have e2 : elemsOf (hpush σ [AV.str x]) 1 (.slice d 0 ss.length none 1) = some (strs ss) := by
        simp only [elemsOf, if_true, bD, Option.bind_some, Nat.mul_one]
        unfold sub
        rw [if_pos (by simp)]
        congr 1
        rw [List.drop_zero, List.take_append_of_le_length (by simp), List.take_of_length_le (by simp)]
      have ha : evAppend 1 16 (.slice d 0 ss.length none 1) (.slice σ.length 0 1 (some 1) 1) (hpush σ [AV.str x]) = some (.slice (σ.length + 1) 0 (ss.length + 1) none 1, hpush (hkill (hpush σ [AV.str x]) d) (strs (ss ++ [x]))) := by
        have l1 : lenOf (.slice σ.length 0 1 (some 1) 1) = some 1 := rfl
        have hm : mayGrow (ss.length + 1) 16 = true := by simp only [mayGrow, decide_eq_true_eq]; omega
        have hc : ([AV.str x].all fun x => x.isCell) = true := rfl
        simp only [evAppend, e1, e2, ls, l1, hm, hc, Bool.and_self, if_true, grown, push_len, kill_len, Option.map_some]
        simp [strs]
      have g1 : hget (hpush (hkill (hpush σ [AV.str x]) d) (strs (ss ++ [x]))) S = some [.int .i64 512, .slice d 0 ss.length none 1] := push_old ((kill_other hd).trans (push_old hg))
      have gp : hget (hpush σ [AV.str x]) S = some [.int .i64 512, .slice d 0 ss.length none 1] := push_old hg
      simp only [Z27, base1, ↓reduceIte, Nat.reduceAdd, Nat.reduceSub, Nat.reduceMul, Nat.reduceEqDiff, Nat.reduceLeDiff, Nat.reduceLT, Int.reduceLT, Int.reduceLE, Int.reduceEq, Int.reduceNe, Int.reduceToNat, Int.reduceAdd, Int.reduceSub, reduceCtorEq, Nat.reduceBEq, Nat.reduceBNe, ls, hg, hf, gp, ha, g1]
      refine h1 hlt _ (some (σ.length + 1)) (.inr ⟨σ.length + 1, [], rfl, by omega, ?_, ?_⟩) (fun j c hj hjS hjD => ⟨?_, ?_⟩)
      · rw [set_same g1]; simp
      · rw [set_other (by omega)]; rw [List.append_nil]; exact push_new (by simp [push_len, kill_len])
      · rw [set_other (fun e => hjS e.symm)]; exact push_old ((kill_other (fun e => hjD (by rw [e]))).trans (push_old hj))
      · have := hget_lt hj; intro e; cases e; omega
def atD (args : List AV) (σ : AHeap) (K : AV → AHeap → Prop) : Prop := ∃ (S : Nat) (i : Int) (ss : List (List UInt8)) (D : Option Nat), args = [.ptr S 0, .int .i64 i] ∧ Sp σ S ss D ∧ ss.length ≤ 512 ∧
  (i < 0 ∨ (ss.length : Int) ≤ i → K (.tuple [.str [], .bool false]) σ) ∧ (∀ (k : Nat) x, i = (k : Int) → ss[k]? = some x → K (.tuple [.str x, .bool true]) σ)
theorem atD_ok (args : List AV) (σ : AHeap) (K : AV → AHeap → Prop) (h : atD args σ K) : Tri Try.prog 36 args σ K := by
  obtain ⟨S, i, ss, D, rfl, hs, hl, h0, h1⟩ := h
  refine Tri.of_s c36 (noCall_sound _) ?_
  by_cases hn : i < 0
  · simp only [Z36, base1, baseE, ↓reduceIte, Nat.reduceAdd, Nat.reduceSub, Nat.reduceMul, Nat.reduceEqDiff, Nat.reduceLeDiff, Nat.reduceLT, Int.reduceLT, Int.reduceLE, Int.reduceEq, Int.reduceNe, Int.reduceToNat, Int.reduceAdd, Int.reduceSub, reduceCtorEq, Nat.reduceBEq, Nat.reduceBNe, hn]
    exact h0 (.inl hn)
  · rcases hs with ⟨rfl, rfl, hg⟩ | ⟨d, J, rfl, hd, hg, hb⟩
    · have hge : (0 : Int) ≤ i := by omega
      simp only [Z36, base1, baseE, ↓reduceIte, Nat.reduceAdd, Nat.reduceSub, Nat.reduceMul, Nat.reduceEqDiff, Nat.reduceLeDiff, Nat.reduceLT, Int.reduceLT, Int.reduceLE, Int.reduceEq, Int.reduceNe, Int.reduceToNat, Int.reduceAdd, Int.reduceSub, reduceCtorEq, Nat.reduceBEq, Nat.reduceBNe, hn, hg, hge]
      exact h0 (.inr (by simpa using hge))
    · by_cases hge : (ss.length : Int) ≤ i
      · simp only [Z36, base1, baseE, ↓reduceIte, Nat.reduceAdd, Nat.reduceSub, Nat.reduceMul, Nat.reduceEqDiff, Nat.reduceLeDiff, Nat.reduceLT, Int.reduceLT, Int.reduceLE, Int.reduceEq, Int.reduceNe, Int.reduceToNat, Int.reduceAdd, Int.reduceSub, reduceCtorEq, Nat.reduceBEq, Nat.reduceBNe, hn, hg, hge]
        exact h0 (.inr hge)
      · obtain ⟨k, rfl⟩ := Int.eq_ofNat_of_zero_le (by omega : 0 ≤ i)
        have hk : k < ss.length := by omega
        have hk0 : (0 : Int) ≤ (k : Int) := by omega
        obtain ⟨x, hx⟩ : ∃ x, ss[k]? = some x := ⟨_, List.getElem?_eq_getElem hk⟩
        have hxx : (strs ss ++ J)[k]? = some (.str x) := by
          rw [List.getElem?_append_left (by simpa using hk)]; simp [strs, hx]
        simp only [Z36, base1, baseE, ↓reduceIte, Nat.reduceAdd, Nat.reduceSub, Nat.reduceMul, Nat.reduceEqDiff, Nat.reduceLeDiff, Nat.reduceLT, Int.reduceLT, Int.reduceLE, Int.reduceEq, Int.reduceNe, Int.reduceToNat, Int.reduceAdd, Int.reduceSub, reduceCtorEq, Nat.reduceBEq, Nat.reduceBNe, hn, hg, hge, hb, hxx, hk, hk0, Int.toNat_natCast]
        exact h1 k x rfl hx
def PK : PCall := rowQ 36 atD (rowQ 49 delD noCall)
theorem PK_app {f : FuncId} {args : List AV} {σ : AHeap} {K : AV → AHeap → Prop} : PK f args σ K = rowQ 36 atD (rowQ 49 delD noCall) f args σ K := _root_.id rfl
theorem PK_sound : Sound Try.prog PK := rowQ_sound atD_ok (rowQ_sound delD_ok (noCall_sound _))
def pickD (args : List AV) (σ : AHeap) (K : AV → AHeap → Prop) : Prop := ∃ (S : Nat) (i : Int) (ss : List (List UInt8)) (D : Option Nat), args = [.ptr S 0, .int .i64 i] ∧ Sp σ S ss D ∧ ss.length ≤ 512 ∧
  (i < 0 ∨ (ss.length : Int) ≤ i → K (.tuple [.str [], .bool false]) σ) ∧ (∀ (k : Nat) x, i = (k : Int) → ss[k]? = some x → ∀ σ' D', Sp σ' S (ss.eraseIdx k) D' → FrS σ σ' S D D' → K (.tuple [.str x, .bool true]) σ')
theorem pickD_ok (args : List AV) (σ : AHeap) (K : AV → AHeap → Prop) (h : pickD args σ K) : Tri Try.prog 29 args σ K := by
  obtain ⟨S, i, ss, D, rfl, hs, hl, h0, h1⟩ := h
  refine Tri.of_s c29 PK_sound ?_
  simp only [PK_app, Z29, base1, baseE, ↓reduceIte, Nat.reduceAdd, Nat.reduceSub, Nat.reduceMul, Nat.reduceEqDiff, Nat.reduceLeDiff, Nat.reduceLT, Int.reduceLT, Int.reduceLE, Int.reduceEq, Int.reduceNe, Int.reduceToNat, Int.reduceAdd, Int.reduceSub, reduceCtorEq, Nat.reduceBEq, Nat.reduceBNe]
  refine ⟨S, i, ss, D, rfl, hs, hl, fun hn => ?_, fun k x hk hx => ?_⟩
  · simp only [PK_app, Z29, base1, baseE, ↓reduceIte, Nat.reduceAdd, Nat.reduceSub, Nat.reduceMul, Nat.reduceEqDiff, Nat.reduceLeDiff, Nat.reduceLT, Int.reduceLT, Int.reduceLE, Int.reduceEq, Int.reduceNe, Int.reduceToNat, Int.reduceAdd, Int.reduceSub, reduceCtorEq, Nat.reduceBEq, Nat.reduceBNe]
    exact h0 hn
  · subst hk
    have hlt := (List.getElem?_eq_some_iff.1 hx).1
    have hw : IntKind.wrap .i64 ((k : Int) + 1) = ((k + 1 : Nat) : Int) := by rw [Gz.wrap64 (by omega)]; omega
    rcases hs with ⟨rfl, rfl, hg⟩ | ⟨d, J, rfl, hd, hg, hb⟩
    · simp at hlt
    · simp only [PK_app, Z29, base1, baseE, ↓reduceIte, Nat.reduceAdd, Nat.reduceSub, Nat.reduceMul, Nat.reduceEqDiff, Nat.reduceLeDiff, Nat.reduceLT, Int.reduceLT, Int.reduceLE, Int.reduceEq, Int.reduceNe, Int.reduceToNat, Int.reduceAdd, Int.reduceSub, reduceCtorEq, Nat.reduceBEq, Nat.reduceBNe, hg, hw]
      refine ⟨d, ss, J, k, rfl, hlt, by omega, hb, ?_⟩
      have g1 : hget (hset σ d (strs (ss.eraseIdx k) ++ (AV.str [] :: J))) S = some [.int .i64 512, .slice d 0 ss.length none 1] := (set_other hd).trans hg
      simp only [PK_app, Z29, base1, baseE, ↓reduceIte, Nat.reduceAdd, Nat.reduceSub, Nat.reduceMul, Nat.reduceEqDiff, Nat.reduceLeDiff, Nat.reduceLT, Int.reduceLT, Int.reduceLE, Int.reduceEq, Int.reduceNe, Int.reduceToNat, Int.reduceAdd, Int.reduceSub, reduceCtorEq, Nat.reduceBEq, Nat.reduceBNe, g1]
      refine h1 k x rfl hx _ (some d) (.inr ⟨d, AV.str [] :: J, rfl, hd, ?_, ?_⟩) (fun j c hj hjS hjD => ⟨?_, hjD⟩)
      · rw [set_same g1, List.length_eraseIdx, if_pos hlt]
      · rw [set_other (fun e => hd e.symm)]; exact set_same hb
      · rw [set_other (fun e => hjS e.symm), set_other (fun e => hjD (by rw [e]))]; exact hj
end Go.Proofs.Ytndlgmciplckjab.note

/- The network: how many are on their way, what is taken, what is told twice. No condition. -/
set_option linter.unusedVariables false
set_option linter.unusedSimpArgs false
namespace Go.Proofs.Ytndlgmciplckjab.note
open Go.ChangeShapes Go.WideShapes Go.ChangeAt Go.RowKit Go.Gz
abbrev r7_0 : List MOper := [⟨(some 0), .move (.c (.nilptr)), none⟩]
def b7_0 : SCode := .region r7_0
abbrev r7_1 : List MOper := [⟨(some 1), .call 17 [(.c (.int .i64 512))], none⟩,
  ⟨(some 2), .build [.nilptr] [(0, 1, (.t 1))], none⟩,
  ⟨(some 3), .box (.t 2), none⟩,
  ⟨(some 0), .move (.t 3), none⟩]
def b7_1 : SCode := .region r7_1
def b7_2 : SCode := .seq b7_1 .ret
def b7_3 : SCode := .seq b7_0 b7_2
def s7 : SFunc := ⟨4, [.t 0], b7_3⟩
theorem c7 : sFn Try.prog 7 = some s7 := by kernel_rfl
theorem Z7 : XR b7_0 r7_0 ∧ XR b7_1 r7_1 ∧ XS b7_2 b7_1 .ret ∧ XS b7_3 b7_0 b7_2 ∧ XY s7 4 b7_3 [.t 0] := ⟨rfl, rfl, rfl, rfl, rfl⟩
abbrev r13_0 : List MOper := [⟨(some 4), .move (.c (.bool false)), none⟩]
def b13_0 : SCode := .region r13_0
abbrev r13_1 : List MOper := [⟨(some 7), .move (.t 0), none⟩,
  ⟨(some 8), .move (.t 1), none⟩,
  ⟨(some 9), .call 28 [(.t 7), (.t 8)], none⟩,
  ⟨(some 1), .move (.t 9), none⟩]
def b13_1 : SCode := .region r13_1
abbrev r13_2 : List MOper := [⟨(some 10), .move (.t 1), none⟩,
  ⟨(some 11), .bin .lss .num (.t 10) (.c (.int .i64 0)), none⟩]
def b13_2 : SCode := .region r13_2
abbrev r13_3 : List MOper := [⟨(some 4), .move (.c (.bool false)), none⟩]
def b13_3 : SCode := .region r13_3
def b13_4 : SCode := .seq b13_3 .ret
def b13_5 : SCode := .cond (.t 11) b13_4 .skip
def b13_6 : SCode := .seq b13_2 b13_5
abbrev r13_7 : List MOper := [⟨(some 13), .move (.t 0), none⟩,
  ⟨(some 14), .nilCheck (.t 13), none⟩,
  ⟨(some 15), .fieldAddr 0 (.t 14), none⟩,
  ⟨(some 16), .load1 (.t 15), none⟩,
  ⟨(some 17), .move (.t 1), none⟩,
  ⟨(some 18), .call 36 [(.t 16), (.t 17)], none⟩,
  ⟨(some 12), .move (.t 18), none⟩,
  ⟨(some 19), .extract (.t 12) 0, none⟩,
  ⟨(some 20), .extract (.t 12) 1, none⟩,
  ⟨(some 5), .move (.t 19), none⟩,
  ⟨(some 6), .move (.t 20), none⟩]
def b13_7 : SCode := .region r13_7
abbrev r13_8 : List MOper := [⟨(some 21), .move (.t 0), none⟩,
  ⟨(some 22), .nilCheck (.t 21), none⟩,
  ⟨(some 23), .fieldAddr 0 (.t 22), none⟩,
  ⟨(some 24), .load1 (.t 23), none⟩,
  ⟨(some 25), .move (.t 5), none⟩,
  ⟨(some 26), .call 27 [(.t 24), (.t 25)], none⟩,
  ⟨(some 4), .move (.t 26), none⟩]
def b13_8 : SCode := .region r13_8
def b13_9 : SCode := .seq b13_8 .ret
def b13_10 : SCode := .seq b13_7 b13_9
def b13_11 : SCode := .seq b13_6 b13_10
def b13_12 : SCode := .seq b13_1 b13_11
def b13_13 : SCode := .seq b13_0 b13_12
def s13 : SFunc := ⟨27, [.t 4], b13_13⟩
theorem c13 : sFn Try.prog 13 = some s13 := by kernel_rfl
theorem Z13 : XR b13_0 r13_0 ∧ XR b13_1 r13_1 ∧ XR b13_2 r13_2 ∧ XR b13_3 r13_3 ∧ XS b13_4 b13_3 .ret ∧ XC b13_5 (.t 11) b13_4 .skip ∧ XS b13_6 b13_2 b13_5 ∧ XR b13_7 r13_7 ∧ XR b13_8 r13_8 ∧ XS b13_9 b13_8 .ret ∧ XS b13_10 b13_7 b13_9 ∧ XS b13_11 b13_6 b13_10 ∧ XS b13_12 b13_1 b13_11 ∧ XS b13_13 b13_0 b13_12 ∧ XY s13 27 b13_13 [.t 4] := ⟨rfl, rfl, rfl, rfl, rfl, sC_cond, rfl, rfl, rfl, rfl, rfl, rfl, rfl, rfl, rfl⟩
abbrev r15_0 : List MOper := [⟨(some 2), .move (.c (.int .i64 0)), none⟩]
def b15_0 : SCode := .region r15_0
abbrev r15_1 : List MOper := [⟨(some 3), .move (.t 0), none⟩,
  ⟨(some 4), .bin .eql .nilp (.t 3) (.c (.nilptr)), none⟩]
def b15_1 : SCode := .region r15_1
abbrev r15_2 : List MOper := [⟨(some 2), .move (.c (.int .i64 0)), none⟩]
def b15_2 : SCode := .region r15_2
def b15_3 : SCode := .seq b15_2 .ret
def b15_4 : SCode := .cond (.t 4) b15_3 .skip
def b15_5 : SCode := .seq b15_1 b15_4
abbrev r15_6 : List MOper := [⟨(some 5), .move (.t 0), none⟩,
  ⟨(some 6), .nilCheck (.t 5), none⟩,
  ⟨(some 7), .fieldAddr 0 (.t 6), none⟩,
  ⟨(some 8), .load1 (.t 7), none⟩,
  ⟨(some 9), .call 37 [(.t 8)], none⟩,
  ⟨(some 2), .move (.t 9), none⟩]
def b15_6 : SCode := .region r15_6
def b15_7 : SCode := .seq b15_6 .ret
def b15_8 : SCode := .seq b15_5 b15_7
def b15_9 : SCode := .seq b15_0 b15_8
def s15 : SFunc := ⟨10, [.t 2], b15_9⟩
theorem c15 : sFn Try.prog 15 = some s15 := by kernel_rfl
theorem Z15 : XR b15_0 r15_0 ∧ XR b15_1 r15_1 ∧ XR b15_2 r15_2 ∧ XS b15_3 b15_2 .ret ∧ XC b15_4 (.t 4) b15_3 .skip ∧ XS b15_5 b15_1 b15_4 ∧ XR b15_6 r15_6 ∧ XS b15_7 b15_6 .ret ∧ XS b15_8 b15_5 b15_7 ∧ XS b15_9 b15_0 b15_8 ∧ XY s15 10 b15_9 [.t 2] := ⟨rfl, rfl, rfl, rfl, sC_cond, rfl, rfl, rfl, rfl, rfl, rfl⟩
abbrev r11_0 : List MOper := [⟨(some 4), .alloc [.int .i64 0, .int .i64 0, .int .i64 0, .int .i64 0, .int .i64 0, .int .i64 0, .int .i64 0, .int .i64 0, .str [], .str [], .str [], .str [], .int .i64 0, .int .i64 0, .int .i64 0, .int .i64 0, .bool false, .str [], .nilslice, .str [], .bool false, .str [], .str [], .nilslice, .nilslice, .int .i64 0, .nilslice], none⟩,
  ⟨(some 5), .move (.c (.bool false)), none⟩]
def b11_0 : SCode := .region r11_0
abbrev r11_1 : List MOper := [⟨(some 10), .move (.t 0), none⟩,
  ⟨(some 11), .move (.t 1), none⟩,
  ⟨(some 12), .call 28 [(.t 10), (.t 11)], none⟩,
  ⟨(some 1), .move (.t 12), none⟩]
def b11_1 : SCode := .region r11_1
abbrev r11_2 : List MOper := [⟨(some 13), .move (.t 1), none⟩,
  ⟨(some 14), .bin .lss .num (.t 13) (.c (.int .i64 0)), none⟩]
def b11_2 : SCode := .region r11_2
abbrev r11_3 : List MOper := [⟨(some 15), .build [.int .i64 0, .int .i64 0, .int .i64 0, .int .i64 0, .int .i64 0, .int .i64 0, .int .i64 0, .int .i64 0, .str [], .str [], .str [], .str [], .int .i64 0, .int .i64 0, .int .i64 0, .int .i64 0, .bool false, .str [], .nilslice, .str [], .bool false, .str [], .str [], .nilslice, .nilslice, .int .i64 0, .nilslice] [], none⟩,
  ⟨none, .store 27 (.t 4) (.t 15), none⟩,
  ⟨(some 5), .move (.c (.bool false)), none⟩]
def b11_3 : SCode := .region r11_3
def b11_4 : SCode := .seq b11_3 .ret
def b11_5 : SCode := .cond (.t 14) b11_4 .skip
def b11_6 : SCode := .seq b11_2 b11_5
abbrev r11_7 : List MOper := [⟨(some 17), .move (.t 0), none⟩,
  ⟨(some 18), .nilCheck (.t 17), none⟩,
  ⟨(some 19), .fieldAddr 0 (.t 18), none⟩,
  ⟨(some 20), .load1 (.t 19), none⟩,
  ⟨(some 21), .move (.t 1), none⟩,
  ⟨(some 22), .call 29 [(.t 20), (.t 21)], none⟩,
  ⟨(some 16), .move (.t 22), none⟩,
  ⟨(some 23), .extract (.t 16) 0, none⟩,
  ⟨(some 24), .extract (.t 16) 1, none⟩,
  ⟨(some 6), .move (.t 23), none⟩,
  ⟨(some 7), .move (.t 24), none⟩]
def b11_7 : SCode := .region r11_7
abbrev r11_8 : List MOper := [⟨(some 26), .move (.t 6), none⟩,
  ⟨(some 27), .toBytes (.t 26), none⟩,
  ⟨(some 28), .call 30 [(.t 27)], none⟩,
  ⟨(some 25), .move (.t 28), none⟩,
  ⟨(some 29), .extract (.t 25) 0, none⟩,
  ⟨(some 30), .extract (.t 25) 1, none⟩,
  ⟨(some 8), .alloc [.int .i64 0, .int .i64 0, .int .i64 0, .int .i64 0, .int .i64 0, .int .i64 0, .int .i64 0, .int .i64 0, .str [], .str [], .str [], .str [], .int .i64 0, .int .i64 0, .int .i64 0, .int .i64 0, .bool false, .str [], .nilslice, .str [], .bool false, .str [], .str [], .nilslice, .nilslice, .int .i64 0, .nilslice], none⟩,
  ⟨none, .store 27 (.t 8) (.t 29), none⟩,
  ⟨(some 9), .move (.t 30), none⟩]
def b11_8 : SCode := .region r11_8
abbrev r11_9 : List MOper := [⟨(some 31), .loadN 27 (.t 8), none⟩,
  ⟨(some 32), .move (.t 9), none⟩,
  ⟨(some 33), .bin .eql .num (.t 32) (.c (.int .i64 0)), none⟩,
  ⟨none, .store 27 (.t 4) (.t 31), none⟩,
  ⟨(some 5), .move (.t 33), none⟩]
def b11_9 : SCode := .region r11_9
def b11_10 : SCode := .seq b11_9 .ret
def b11_11 : SCode := .seq b11_8 b11_10
def b11_12 : SCode := .seq b11_7 b11_11
def b11_13 : SCode := .seq b11_6 b11_12
def b11_14 : SCode := .seq b11_1 b11_13
def b11_15 : SCode := .seq b11_0 b11_14
def s11 : SFunc := ⟨34, [.cN 4 27, .t 5], b11_15⟩
theorem c11 : sFn Try.prog 11 = some s11 := by kernel_rfl
theorem Z11 : XR b11_0 r11_0 ∧ XR b11_1 r11_1 ∧ XR b11_2 r11_2 ∧ XR b11_3 r11_3 ∧ XS b11_4 b11_3 .ret ∧ XC b11_5 (.t 14) b11_4 .skip ∧ XS b11_6 b11_2 b11_5 ∧ XR b11_7 r11_7 ∧ XR b11_8 r11_8 ∧ XR b11_9 r11_9 ∧ XS b11_10 b11_9 .ret ∧ XS b11_11 b11_8 b11_10 ∧ XS b11_12 b11_7 b11_11 ∧ XS b11_13 b11_6 b11_12 ∧ XS b11_14 b11_1 b11_13 ∧ XS b11_15 b11_0 b11_14 ∧ XY s11 34 b11_15 [.cN 4 27, .t 5] := ⟨rfl, rfl, rfl, rfl, rfl, sC_cond, rfl, rfl, rfl, rfl, rfl, rfl, rfl, rfl, rfl, rfl, rfl⟩
abbrev r28_0 : List MOper := [⟨(some 4), .move (.c (.int .i64 0)), none⟩]
def b28_0 : SCode := .region r28_0
abbrev r28_1 : List MOper := [⟨(some 5), .move (.t 1), none⟩,
  ⟨(some 6), .bin .lss .num (.t 5) (.c (.int .i64 0)), none⟩,
  ⟨(some 7), .move (.t 6), none⟩,
  ⟨(some 8), .move (.t 0), (some (7, false))⟩,
  ⟨(some 9), .call 15 [(.t 8)], (some (7, false))⟩,
  ⟨(some 10), .bin .eql .num (.t 9) (.c (.int .i64 0)), (some (7, false))⟩,
  ⟨(some 11), .pick (.t 7) (.c (.bool true)) (.t 10), none⟩]
def b28_1 : SCode := .region r28_1
abbrev r28_2 : List MOper := [⟨(some 4), .move (.c (.int .i64 (-1))), none⟩]
def b28_2 : SCode := .region r28_2
def b28_3 : SCode := .seq b28_2 .ret
def b28_4 : SCode := .cond (.t 11) b28_3 .skip
def b28_5 : SCode := .seq b28_1 b28_4
abbrev r28_6 : List MOper := [⟨(some 12), .move (.t 1), none⟩,
  ⟨(some 13), .move (.t 0), none⟩,
  ⟨(some 14), .call 15 [(.t 13)], none⟩,
  ⟨(some 15), .bin .rem .num (.t 12) (.t 14), none⟩,
  ⟨(some 4), .move (.t 15), none⟩]
def b28_6 : SCode := .region r28_6
def b28_7 : SCode := .seq b28_6 .ret
def b28_8 : SCode := .seq b28_5 b28_7
def b28_9 : SCode := .seq b28_0 b28_8
def s28 : SFunc := ⟨16, [.t 4], b28_9⟩
theorem c28 : sFn Try.prog 28 = some s28 := by kernel_rfl
theorem Z28 : XR b28_0 r28_0 ∧ XR b28_1 r28_1 ∧ XR b28_2 r28_2 ∧ XS b28_3 b28_2 .ret ∧ XC b28_4 (.t 11) b28_3 .skip ∧ XS b28_5 b28_1 b28_4 ∧ XR b28_6 r28_6 ∧ XS b28_7 b28_6 .ret ∧ XS b28_8 b28_5 b28_7 ∧ XS b28_9 b28_0 b28_8 ∧ XY s28 16 b28_9 [.t 4] := ⟨rfl, rfl, rfl, rfl, sC_cond, rfl, rfl, rfl, rfl, rfl, rfl⟩

set_option maxHeartbeats 4000000
set_option maxRecDepth 10000
/-- A network at a block. -/
structure Ml (σ : AHeap) (M S : Nat) (ss : List (List UInt8)) (D : Option Nat) : Prop where
  m : hget σ M = some [.ptr S 0]
  ms : M ≠ S
  md : D ≠ some M
  sp : Sp σ S ss D
  few : ss.length ≤ 512
theorem Ml.next {σ σ' : AHeap} {M S : Nat} {ss ss' : List (List UInt8)} {D D' : Option Nat} (h : Ml σ M S ss D) (hs : Sp σ' S ss' D') (hf : FrS σ σ' S D D') (hl : ss'.length ≤ 512) : Ml σ' M S ss' D' := by
  obtain ⟨h1, h2⟩ := hf M _ h.m h.ms h.md
  exact ⟨h1, h.ms, h2, hs, hl⟩
def U1 : PCall := rowQ 17 newD (rowQ 27 pushD (rowQ 36 atD (rowQ 37 slenD (rowQ 29 pickD noCall))))
theorem U1_app {f : FuncId} {args : List AV} {σ : AHeap} {K : AV → AHeap → Prop} : U1 f args σ K = rowQ 17 newD (rowQ 27 pushD (rowQ 36 atD (rowQ 37 slenD (rowQ 29 pickD noCall)))) f args σ K := _root_.id rfl
theorem U1_sound : Sound Try.prog U1 := rowQ_sound newD_ok (rowQ_sound pushD_ok (rowQ_sound atD_ok (rowQ_sound slenD_ok (rowQ_sound pickD_ok (noCall_sound _)))))
def mnewD (args : List AV) (σ : AHeap) (K : AV → AHeap → Prop) : Prop := args = [] ∧ K (.ptr (σ.length + 1) 0) (hpush (hpush σ [.int .i64 512, .nilslice]) [.ptr σ.length 0])
theorem mnewD_ok (args : List AV) (σ : AHeap) (K : AV → AHeap → Prop) (h : mnewD args σ K) : Tri Try.prog 7 args σ K := by
  obtain ⟨rfl, h⟩ := h
  refine Tri.of_s c7 U1_sound ?_
  simp only [U1_app, Z7, base1, baseE, ↓reduceIte, Nat.reduceAdd, Nat.reduceSub, Nat.reduceMul, Nat.reduceEqDiff, Nat.reduceLeDiff, Nat.reduceLT, Int.reduceLT, Int.reduceLE, Int.reduceEq, Int.reduceNe, Int.reduceToNat, Int.reduceAdd, Int.reduceSub, reduceCtorEq, Nat.reduceBEq, Nat.reduceBNe]
  refine ⟨rfl, ?_⟩
  simp only [U1_app, Z7, base1, baseE, ↓reduceIte, Nat.reduceAdd, Nat.reduceSub, Nat.reduceMul, Nat.reduceEqDiff, Nat.reduceLeDiff, Nat.reduceLT, Int.reduceLT, Int.reduceLE, Int.reduceEq, Int.reduceNe, Int.reduceToNat, Int.reduceAdd, Int.reduceSub, reduceCtorEq, Nat.reduceBEq, Nat.reduceBNe, push_len]
  exact h
theorem ml_new {σ : AHeap} : Ml (hpush (hpush σ [.int .i64 512, .nilslice]) [.ptr σ.length 0]) (σ.length + 1) σ.length [] none :=
  ⟨push_new (by simp [push_len]), by omega, by simp, .inl ⟨rfl, rfl, push_old (push_new rfl)⟩, by simp⟩
def mlenD (args : List AV) (σ : AHeap) (K : AV → AHeap → Prop) : Prop := ∃ (M S : Nat) (ss : List (List UInt8)) (D : Option Nat), args = [.ptr M 0] ∧ Ml σ M S ss D ∧ K (.int .i64 (ss.length : Int)) σ
theorem mlenD_ok (args : List AV) (σ : AHeap) (K : AV → AHeap → Prop) (h : mlenD args σ K) : Tri Try.prog 15 args σ K := by
  obtain ⟨M, S, ss, D, rfl, hm, h⟩ := h
  refine Tri.of_s c15 U1_sound ?_
  simp only [U1_app, Z15, base1, baseE, ↓reduceIte, Nat.reduceAdd, Nat.reduceSub, Nat.reduceMul, Nat.reduceEqDiff, Nat.reduceLeDiff, Nat.reduceLT, Int.reduceLT, Int.reduceLE, Int.reduceEq, Int.reduceNe, Int.reduceToNat, Int.reduceAdd, Int.reduceSub, reduceCtorEq, Nat.reduceBEq, Nat.reduceBNe, hm.m]
  refine ⟨S, ss, D, rfl, hm.sp, ?_⟩
  simp only [U1_app, Z15, base1, baseE, ↓reduceIte, Nat.reduceAdd, Nat.reduceSub, Nat.reduceMul, Nat.reduceEqDiff, Nat.reduceLeDiff, Nat.reduceLT, Int.reduceLT, Int.reduceLE, Int.reduceEq, Int.reduceNe, Int.reduceToNat, Int.reduceAdd, Int.reduceSub, reduceCtorEq, Nat.reduceBEq, Nat.reduceBNe]
  exact h
def U2 : PCall := rowQ 15 mlenD noCall
theorem U2_app {f : FuncId} {args : List AV} {σ : AHeap} {K : AV → AHeap → Prop} : U2 f args σ K = rowQ 15 mlenD noCall f args σ K := _root_.id rfl
theorem U2_sound : Sound Try.prog U2 := rowQ_sound mlenD_ok (noCall_sound _)
/-- The place on the way that a number is; none: -1. -/
def place (i : Int) (n : Nat) : Int := if i < 0 ∨ n = 0 then -1 else i.tmod n
def mplaceD (args : List AV) (σ : AHeap) (K : AV → AHeap → Prop) : Prop := ∃ (M S : Nat) (i : Int) (ss : List (List UInt8)) (D : Option Nat), args = [.ptr M 0, .int .i64 i] ∧ i ≤ 9223372036854775807 ∧ Ml σ M S ss D ∧ K (.int .i64 (place i ss.length)) σ
theorem mplaceD_ok (args : List AV) (σ : AHeap) (K : AV → AHeap → Prop) (h : mplaceD args σ K) : Tri Try.prog 28 args σ K := by
  obtain ⟨M, S, i, ss, D, rfl, hi, hm, h⟩ := h
  refine Tri.of_s c28 U2_sound ?_
  unfold place at h
  by_cases hn : i < 0
  · rw [if_pos (.inl hn)] at h
    simp only [U2_app, Z28, base1, baseE, ↓reduceIte, Nat.reduceAdd, Nat.reduceSub, Nat.reduceMul, Nat.reduceEqDiff, Nat.reduceLeDiff, Nat.reduceLT, Int.reduceLT, Int.reduceLE, Int.reduceEq, Int.reduceNe, Int.reduceToNat, Int.reduceAdd, Int.reduceSub, reduceCtorEq, Nat.reduceBEq, Nat.reduceBNe, hn]
    exact h
  · simp only [U2_app, Z28, base1, baseE, ↓reduceIte, Nat.reduceAdd, Nat.reduceSub, Nat.reduceMul, Nat.reduceEqDiff, Nat.reduceLeDiff, Nat.reduceLT, Int.reduceLT, Int.reduceLE, Int.reduceEq, Int.reduceNe, Int.reduceToNat, Int.reduceAdd, Int.reduceSub, reduceCtorEq, Nat.reduceBEq, Nat.reduceBNe, hn]
    refine ⟨M, S, ss, D, rfl, hm, ?_⟩
    by_cases h0 : ss.length = 0
    · rw [if_pos (.inr h0)] at h
      have h0' : (ss.length : Int) = 0 := by omega
      simp only [U2_app, Z28, base1, baseE, ↓reduceIte, Nat.reduceAdd, Nat.reduceSub, Nat.reduceMul, Nat.reduceEqDiff, Nat.reduceLeDiff, Nat.reduceLT, Int.reduceLT, Int.reduceLE, Int.reduceEq, Int.reduceNe, Int.reduceToNat, Int.reduceAdd, Int.reduceSub, reduceCtorEq, Nat.reduceBEq, Nat.reduceBNe, h0']
      exact h
    · rw [if_neg (by omega)] at h
      have h0' : ¬ (ss.length : Int) = 0 := by omega
      simp only [U2_app, Z28, base1, baseE, ↓reduceIte, Nat.reduceAdd, Nat.reduceSub, Nat.reduceMul, Nat.reduceEqDiff, Nat.reduceLeDiff, Nat.reduceLT, Int.reduceLT, Int.reduceLE, Int.reduceEq, Int.reduceNe, Int.reduceToNat, Int.reduceAdd, Int.reduceSub, reduceCtorEq, Nat.reduceBEq, Nat.reduceBNe, h0']
      refine ⟨M, S, ss, D, rfl, hm, ?_⟩
      simp only [U2_app, Z28, base1, baseE, ↓reduceIte, Nat.reduceAdd, Nat.reduceSub, Nat.reduceMul, Nat.reduceEqDiff, Nat.reduceLeDiff, Nat.reduceLT, Int.reduceLT, Int.reduceLE, Int.reduceEq, Int.reduceNe, Int.reduceToNat, Int.reduceAdd, Int.reduceSub, reduceCtorEq, Nat.reduceBEq, Nat.reduceBNe, h0']
      exact h
def readGD (args : List AV) (σ : AHeap) (K : AV → AHeap → Prop) : Prop := ∃ (d : Nat) (bs : List UInt8), args = [.slice d 0 bs.length none 1] ∧ hget σ d = some (bs.map byteAV) ∧ bs.length ≤ 4000000 ∧ K (ansN (readNote bs)) (hkill σ d)
theorem readGD_ok (args : List AV) (σ : AHeap) (K : AV → AHeap → Prop) (h : readGD args σ K) : Tri Try.prog 30 args σ K := by
  obtain ⟨d, bs, rfl, hd, hl, h⟩ := h
  exact (give_bytes hd (read_ok bs hl)).mono fun r σ' hr => by rw [hr.1, hr.2]; exact h
def U3 : PCall := rowQ 28 mplaceD (rowQ 30 readGD U1)
theorem U3_app {f : FuncId} {args : List AV} {σ : AHeap} {K : AV → AHeap → Prop} : U3 f args σ K = rowQ 28 mplaceD (rowQ 30 readGD (rowQ 17 newD (rowQ 27 pushD (rowQ 36 atD (rowQ 37 slenD (rowQ 29 pickD noCall)))))) f args σ K := _root_.id rfl
theorem U3_sound : Sound Try.prog U3 := rowQ_sound mplaceD_ok (rowQ_sound readGD_ok U1_sound)
theorem place_some {i : Int} {n : Nat} (h : ¬ place i n < 0) : ∃ k : Nat, place i n = (k : Int) ∧ k < n ∧ 0 ≤ i := by
  unfold place at h ⊢
  split at h
  · exact absurd (by decide) h
  · rename_i hn
    rw [if_neg hn]
    have h0 : 0 ≤ i := by omega
    have hn0 : 0 < n := by omega
    obtain ⟨c, rfl⟩ := Int.eq_ofNat_of_zero_le h0
    exact ⟨c % n, rfl, Nat.mod_lt _ hn0, h0⟩
def mcopyD (args : List AV) (σ : AHeap) (K : AV → AHeap → Prop) : Prop := ∃ (M S : Nat) (i : Int) (ss : List (List UInt8)) (D : Option Nat), args = [.ptr M 0, .int .i64 i] ∧ i ≤ 9223372036854775807 ∧ Ml σ M S ss D ∧
  (place i ss.length < 0 ∨ 512 ≤ ss.length → K (.bool false) σ) ∧ (∀ (k : Nat) x, place i ss.length = (k : Int) → ss[k]? = some x → ss.length < 512 → ∀ σ' D', Ml σ' M S (ss ++ [x]) D' → FrS σ σ' S D D' → K (.bool true) σ')
theorem mcopyD_ok (args : List AV) (σ : AHeap) (K : AV → AHeap → Prop) (h : mcopyD args σ K) : Tri Try.prog 13 args σ K := by
  obtain ⟨M, S, i, ss, D, rfl, hi, hm, h0, h1⟩ := h
  refine Tri.of_s c13 U3_sound ?_
  simp only [U3_app, Z13, base1, baseE, ↓reduceIte, Nat.reduceAdd, Nat.reduceSub, Nat.reduceMul, Nat.reduceEqDiff, Nat.reduceLeDiff, Nat.reduceLT, Int.reduceLT, Int.reduceLE, Int.reduceEq, Int.reduceNe, Int.reduceToNat, Int.reduceAdd, Int.reduceSub, reduceCtorEq, Nat.reduceBEq, Nat.reduceBNe]
  refine ⟨M, S, i, ss, D, rfl, hi, hm, ?_⟩
  by_cases hp : place i ss.length < 0
  · simp only [U3_app, Z13, base1, baseE, ↓reduceIte, Nat.reduceAdd, Nat.reduceSub, Nat.reduceMul, Nat.reduceEqDiff, Nat.reduceLeDiff, Nat.reduceLT, Int.reduceLT, Int.reduceLE, Int.reduceEq, Int.reduceNe, Int.reduceToNat, Int.reduceAdd, Int.reduceSub, reduceCtorEq, Nat.reduceBEq, Nat.reduceBNe, hp]
    exact h0 (.inl hp)
  · obtain ⟨k, hk, hlt, _⟩ := place_some hp
    rw [hk] at hp h0 h1 ⊢
    simp only [U3_app, Z13, base1, baseE, ↓reduceIte, Nat.reduceAdd, Nat.reduceSub, Nat.reduceMul, Nat.reduceEqDiff, Nat.reduceLeDiff, Nat.reduceLT, Int.reduceLT, Int.reduceLE, Int.reduceEq, Int.reduceNe, Int.reduceToNat, Int.reduceAdd, Int.reduceSub, reduceCtorEq, Nat.reduceBEq, Nat.reduceBNe, hp, hm.m]
    refine ⟨S, (k : Int), ss, D, rfl, hm.sp, hm.few, fun hn => by omega, fun k' x hk' hx => ?_⟩
    have : k' = k := by omega
    subst this
    simp only [U3_app, Z13, base1, baseE, ↓reduceIte, Nat.reduceAdd, Nat.reduceSub, Nat.reduceMul, Nat.reduceEqDiff, Nat.reduceLeDiff, Nat.reduceLT, Int.reduceLT, Int.reduceLE, Int.reduceEq, Int.reduceNe, Int.reduceToNat, Int.reduceAdd, Int.reduceSub, reduceCtorEq, Nat.reduceBEq, Nat.reduceBNe, hm.m]
    refine ⟨S, x, ss, D, rfl, hm.sp, fun hf => ?_, fun hf σ' D' hs hfr => ?_⟩
    · simp only [U3_app, Z13, base1, baseE, ↓reduceIte, Nat.reduceAdd, Nat.reduceSub, Nat.reduceMul, Nat.reduceEqDiff, Nat.reduceLeDiff, Nat.reduceLT, Int.reduceLT, Int.reduceLE, Int.reduceEq, Int.reduceNe, Int.reduceToNat, Int.reduceAdd, Int.reduceSub, reduceCtorEq, Nat.reduceBEq, Nat.reduceBNe]
      exact h0 (.inr hf)
    · simp only [U3_app, Z13, base1, baseE, ↓reduceIte, Nat.reduceAdd, Nat.reduceSub, Nat.reduceMul, Nat.reduceEqDiff, Nat.reduceLeDiff, Nat.reduceLT, Int.reduceLT, Int.reduceLE, Int.reduceEq, Int.reduceNe, Int.reduceToNat, Int.reduceAdd, Int.reduceSub, reduceCtorEq, Nat.reduceBEq, Nat.reduceBNe]
      exact h1 k' x rfl hx hf _ _ (hm.next hs hfr (by simp; omega)) hfr
abbrev zeroC : List AV := bareC 0 0 0 0 0
def mtakeD (args : List AV) (σ : AHeap) (K : AV → AHeap → Prop) : Prop := ∃ (M S : Nat) (i : Int) (ss : List (List UInt8)) (D : Option Nat), args = [.ptr M 0, .int .i64 i] ∧ i ≤ 9223372036854775807 ∧ Ml σ M S ss D ∧ (∀ x ∈ ss, x.length ≤ 4000000) ∧
  (place i ss.length < 0 → ∀ σ', Ml σ' M S ss D → FrS σ σ' S D D → K (.tuple [.agg zeroC, .bool false]) σ') ∧
  (∀ (k : Nat) x, place i ss.length = (k : Int) → ss[k]? = some x → ∀ σ' D', Ml σ' M S (ss.eraseIdx k) D' → FrS σ σ' S D D' → K (.tuple [.agg (readNote x).1.cells, .bool (decide ((readNote x).2 = 0))]) σ')
theorem mtakeD_ok (args : List AV) (σ : AHeap) (K : AV → AHeap → Prop) (h : mtakeD args σ K) : Tri Try.prog 11 args σ K := by
  obtain ⟨M, S, i, ss, D, rfl, hi, hm, hb, h0, h1⟩ := h
  refine Tri.of_s c11 U3_sound ?_
  have mlt := hget_lt hm.m
  have fr0 : ∀ c : List AV, FrS σ (hpush σ c) S D D := fun c j d hj _ h2 => ⟨push_old hj, h2⟩
  have sp0 : ∀ c : List AV, Sp (hpush σ c) S ss D := fun c => sp_frame hm.sp fun j d hj _ => push_old hj
  have m0 : ∀ c : List AV, Ml (hpush σ c) M S ss D := fun c => hm.next (sp0 c) (fr0 c) hm.few
  have slt : S < σ.length := by rcases hm.sp with ⟨_, _, h⟩ | ⟨_, _, _, _, h, _⟩ <;> exact hget_lt h
  have dlt : D ≠ some σ.length := by
    rcases hm.sp with ⟨rfl, _, _⟩ | ⟨d, _, rfl, _, _, h⟩
    · simp
    · have := hget_lt h; intro e; cases e; omega
  have pn : ∀ c : List AV, hget (hpush σ c) σ.length = some c := fun c => push_new rfl
  have sn : ∀ c d : List AV, hget (hset (hpush σ c) σ.length d) σ.length = some d := fun c d => set_same (pn c)
  simp only [U3_app, Z11, base1, baseE, ↓reduceIte, Nat.reduceAdd, Nat.reduceSub, Nat.reduceMul, Nat.reduceEqDiff, Nat.reduceLeDiff, Nat.reduceLT, Int.reduceLT, Int.reduceLE, Int.reduceEq, Int.reduceNe, Int.reduceToNat, Int.reduceAdd, Int.reduceSub, reduceCtorEq, Nat.reduceBEq, Nat.reduceBNe]
  refine ⟨M, S, i, ss, D, rfl, hi, m0 _, ?_⟩
  by_cases hp : place i ss.length < 0
  · have fr1 : ∀ c d : List AV, FrS σ (hset (hpush σ c) σ.length d) S D D := fun c d j x hj _ h2 => ⟨(set_other (by have := hget_lt hj; omega)).trans (push_old hj), h2⟩
    have sp1 : ∀ c d : List AV, Sp (hset (hpush σ c) σ.length d) S ss D := fun c d => sp_frame hm.sp fun j x hj _ => (set_other (by have := hget_lt hj; omega)).trans (push_old hj)
    simp only [U3_app, Z11, base1, baseE, ↓reduceIte, Nat.reduceAdd, Nat.reduceSub, Nat.reduceMul, Nat.reduceEqDiff, Nat.reduceLeDiff, Nat.reduceLT, Int.reduceLT, Int.reduceLE, Int.reduceEq, Int.reduceNe, Int.reduceToNat, Int.reduceAdd, Int.reduceSub, reduceCtorEq, Nat.reduceBEq, Nat.reduceBNe, hp, pn, sn]
    exact h0 hp _ (hm.next (sp1 _ _) (fr1 _ _) hm.few) (fr1 _ _)
  · obtain ⟨k, hk, hlt, _⟩ := place_some hp
    rw [hk] at hp h0 h1 ⊢
    have gm : ∀ c : List AV, hget (hpush σ c) M = some [.ptr S 0] := fun c => push_old hm.m
    simp only [U3_app, Z11, base1, baseE, ↓reduceIte, Nat.reduceAdd, Nat.reduceSub, Nat.reduceMul, Nat.reduceEqDiff, Nat.reduceLeDiff, Nat.reduceLT, Int.reduceLT, Int.reduceLE, Int.reduceEq, Int.reduceNe, Int.reduceToNat, Int.reduceAdd, Int.reduceSub, reduceCtorEq, Nat.reduceBEq, Nat.reduceBNe, hp, gm]
    refine ⟨S, (k : Int), ss, D, rfl, sp0 _, hm.few, fun hn => by omega, fun k' x hk' hx σ1 D1 hs1 hf1 => ?_⟩
    have : k' = k := by omega
    subst this
    obtain ⟨b1, b2⟩ := hf1 σ.length _ (pn _) (by omega) dlt
    have m1 : Ml σ1 M S (ss.eraseIdx k') D1 := (m0 _).next hs1 hf1 (by rw [List.length_eraseIdx, if_pos hlt]; have := hm.few; omega)
    have f1 : FrS σ σ1 S D D1 := (fr0 _).trans hf1
    simp only [U3_app, Z11, base1, baseE, ↓reduceIte, Nat.reduceAdd, Nat.reduceSub, Nat.reduceMul, Nat.reduceEqDiff, Nat.reduceLeDiff, Nat.reduceLT, Int.reduceLT, Int.reduceLE, Int.reduceEq, Int.reduceNe, Int.reduceToNat, Int.reduceAdd, Int.reduceSub, reduceCtorEq, Nat.reduceBEq, Nat.reduceBNe]
    refine ⟨σ1.length, x, rfl, push_new rfl, hb x (List.mem_of_getElem? hx), ?_⟩
    have kp' : ∀ {j : Nat} {c d : List AV}, hget σ1 j = some d → hget (hkill (hpush σ1 c) σ1.length) j = some d := fun {j c d} h => by
      have := hget_lt h
      exact (kill_other (by omega)).trans (push_old h)
    have f2 : FrS σ1 (hkill (hpush σ1 (x.map byteAV)) σ1.length) S D1 D1 := fun j c hj _ h2 => ⟨kp' hj, h2⟩
    have s2 : Sp (hkill (hpush σ1 (x.map byteAV)) σ1.length) S (ss.eraseIdx k') D1 := sp_frame hs1 fun j c hj _ => kp' hj
    have b3 := kp' (c := x.map byteAV) b1
    have m2 := m1.next s2 f2 m1.few
    have f3 := f1.trans f2
    generalize hkill (hpush σ1 (x.map byteAV)) σ1.length = σ2 at b3 m2 f3 ⊢
    have l2 := hget_lt b3
    have q1 : ∀ c : List AV, hget (hpush σ2 c) σ2.length = some c := fun c => push_new rfl
    have q2 : ∀ c d : List AV, hget (hset (hpush σ2 c) σ2.length d) σ2.length = some d := fun c d => set_same (q1 c)
    have q3 : ∀ c d : List AV, hget (hset (hpush σ2 c) σ2.length d) σ.length = some zeroC := fun c d => (set_other (by omega)).trans (push_old b3)
    have q4 : ∀ c d e : List AV, hget (hset (hset (hpush σ2 c) σ2.length d) σ.length e) σ.length = some e := fun c d e => set_same (q3 c d)
    have hz := h1 k' x rfl hx
    generalize readNote x = p at hz ⊢
    obtain ⟨n, z⟩ := p
    have pz : put zeroC 0 n.cells = some n.cells := put_all rfl
    have sbn : sub n.cells 0 27 = some n.cells := rfl
    have ncl : n.cells.length = 27 := rfl
    have ncc : (n.cells.all fun x => x.isCell) = true := rfl
    simp only [U3_app, Z11, base1, baseE, ↓reduceIte, Nat.reduceAdd, Nat.reduceSub, Nat.reduceMul, Nat.reduceEqDiff, Nat.reduceLeDiff, Nat.reduceLT, Int.reduceLT, Int.reduceLE, Int.reduceEq, Int.reduceNe, Int.reduceToNat, Int.reduceAdd, Int.reduceSub, reduceCtorEq, Nat.reduceBEq, Nat.reduceBNe, ansN, q1, q2, q3, q4, pz, sbn, ncl, ncc]
    have keep : ∀ (c d e : List AV) {j : Nat} {y : List AV}, hget σ2 j = some y → j ≠ σ.length → hget (hset (hset (hpush σ2 c) σ2.length d) σ.length e) j = some y := fun c d e {j y} hj hne => by
      have := hget_lt hj
      rw [set_other (fun h => hne h.symm), set_other (by omega)]; exact push_old hj
    have f4 : ∀ c d e : List AV, FrS σ (hset (hset (hpush σ2 c) σ2.length d) σ.length e) S D D1 := fun c d e j y hj h1' h2' => by
      obtain ⟨a1, a2⟩ := f3 j y hj h1' h2'
      exact ⟨keep c d e a1 (by have := hget_lt hj; omega), a2⟩
    have s4 : ∀ c d e : List AV, Sp (hset (hset (hpush σ2 c) σ2.length d) σ.length e) S (ss.eraseIdx k') D1 := fun c d e => sp_frame m2.sp fun j y hj hjd => keep c d e hj (by
      rcases hjd with rfl | h
      · omega
      · intro hh; subst hh; exact b2 h)
    exact hz _ D1 (hm.next (s4 _ _ _) (f4 _ _ _) m2.few) (f4 _ _ _)
end Go.Proofs.Ytndlgmciplckjab.note

/- What is sent. No condition. -/
set_option linter.unusedVariables false
set_option linter.unusedSimpArgs false
namespace Go.Proofs.Ytndlgmciplckjab.note
open Go.ChangeShapes Go.WideShapes Go.ChangeAt Go.RowKit Go.Gz
abbrev r10_0 : List MOper := [⟨(some 4), .move (.c (.int .i64 0)), none⟩]
def b10_0 : SCode := .region r10_0
abbrev r10_1 : List MOper := [⟨(some 10), .move (.t 0), none⟩,
  ⟨(some 11), .bin .eql .nilp (.t 10) (.c (.nilptr)), none⟩]
def b10_1 : SCode := .region r10_1
abbrev r10_2 : List MOper := [⟨(some 4), .move (.c (.int .i64 0)), none⟩]
def b10_2 : SCode := .region r10_2
def b10_3 : SCode := .seq b10_2 .ret
def b10_4 : SCode := .cond (.t 11) b10_3 .skip
def b10_5 : SCode := .seq b10_1 b10_4
abbrev r10_6 : List MOper := [⟨(some 5), .move (.c (.int .i64 0)), none⟩]
def b10_6 : SCode := .region r10_6
abbrev r10_7 : List MOper := [⟨(some 12), .move (.t 1), none⟩,
  ⟨(some 13), .lenSl (.t 12), none⟩,
  ⟨(some 14), .move (.c (.int .i64 0)), none⟩]
def b10_7 : SCode := .region r10_7
abbrev r10_8 : List MOper := [⟨(some 15), .bin .lss .num (.t 14) (.t 13), none⟩]
def b10_8 : SCode := .region r10_8
def b10_9 : SCode := .cond (.t 15) .skip (.exit 0)
abbrev r10_10 : List MOper := [⟨(some 16), .indexAddr 27 (.t 12) (.t 14), none⟩,
  ⟨(some 17), .loadN 27 (.t 16), none⟩,
  ⟨(some 7), .alloc [.int .i64 0, .int .i64 0, .int .i64 0, .int .i64 0, .int .i64 0, .int .i64 0, .int .i64 0, .int .i64 0, .str [], .str [], .str [], .str [], .int .i64 0, .int .i64 0, .int .i64 0, .int .i64 0, .bool false, .str [], .nilslice, .str [], .bool false, .str [], .str [], .nilslice, .nilslice, .int .i64 0, .nilslice], none⟩,
  ⟨none, .store 27 (.t 7) (.t 17), none⟩]
def b10_10 : SCode := .region r10_10
abbrev r10_11 : List MOper := [⟨(some 19), .loadN 27 (.t 7), none⟩,
  ⟨(some 20), .call 26 [(.t 19)], none⟩,
  ⟨(some 18), .move (.t 20), none⟩,
  ⟨(some 21), .extract (.t 18) 0, none⟩,
  ⟨(some 22), .extract (.t 18) 1, none⟩,
  ⟨(some 8), .move (.t 21), none⟩,
  ⟨(some 9), .move (.t 22), none⟩]
def b10_11 : SCode := .region r10_11
abbrev t10_12 : LTree := (.quiet ⟨(some 23), .move (.t 9), none⟩ 0
  (.quiet ⟨(some 24), .bin .eql .num (.t 23) (.c (.int .i64 0)), none⟩ 1
  (.quiet ⟨(some 25), .move (.t 24), none⟩ 2
  (.quiet ⟨(some 26), .move (.t 0), (some (25, true))⟩ 3
  (.quiet ⟨(some 27), .nilCheck (.t 26), (some (25, true))⟩ 4
  (.quiet ⟨(some 28), .fieldAddr 0 (.t 27), (some (25, true))⟩ 5
  (.quiet ⟨(some 29), .load1 (.t 28), (some (25, true))⟩ 6
  (.quiet ⟨(some 30), .move (.t 8), (some (25, true))⟩ 7
  (.quiet ⟨(some 31), .ofBytes (.t 30), (some (25, true))⟩ 8
  (.loud ⟨(some 32), .call 27 [(.t 29), (.t 31)], (some (25, true))⟩ []
  (.quiet ⟨(some 33), .pick (.t 25) (.t 32) (.c (.bool false)), none⟩ 10
  .leaf) .stop))))))))))
def b10_12 : SCode := .draw t10_12
abbrev r10_13 : List MOper := [⟨(some 34), .move (.t 5), none⟩,
  ⟨(some 35), .bin .add .num (.t 34) (.c (.int .i64 1)), none⟩,
  ⟨(some 5), .move (.t 35), none⟩]
def b10_13 : SCode := .region r10_13
def b10_14 : SCode := .cond (.t 33) b10_13 .skip
def b10_15 : SCode := .seq b10_12 b10_14
def b10_16 : SCode := .seq b10_11 b10_15
def b10_17 : SCode := .seq b10_10 b10_16
def b10_18 : SCode := .block 1 b10_17
abbrev r10_19 : List MOper := [⟨(some 36), .bin .add .num (.t 14) (.c (.int .i64 1)), none⟩,
  ⟨(some 14), .move (.t 36), none⟩]
def b10_19 : SCode := .region r10_19
def b10_20 : SCode := .seq b10_18 b10_19
def b10_21 : SCode := .seq b10_9 b10_20
def b10_22 : SCode := .seq b10_8 b10_21
def b10_23 : SCode := .loop b10_22
def b10_24 : SCode := .block 0 b10_23
def b10_25 : SCode := .seq b10_7 b10_24
abbrev r10_26 : List MOper := [⟨(some 37), .move (.t 5), none⟩,
  ⟨(some 4), .move (.t 37), none⟩]
def b10_26 : SCode := .region r10_26
def b10_27 : SCode := .seq b10_26 .ret
def b10_28 : SCode := .seq b10_25 b10_27
def b10_29 : SCode := .seq b10_6 b10_28
def b10_30 : SCode := .seq b10_5 b10_29
def b10_31 : SCode := .seq b10_0 b10_30
def s10 : SFunc := ⟨38, [.t 4], b10_31⟩
theorem c10 : sFn Try.prog 10 = some s10 := by kernel_rfl
theorem Z10 : XR b10_0 r10_0 ∧ XR b10_1 r10_1 ∧ XR b10_2 r10_2 ∧ XS b10_3 b10_2 .ret ∧ XC b10_4 (.t 11) b10_3 .skip ∧ XS b10_5 b10_1 b10_4 ∧ XR b10_6 r10_6 ∧ XR b10_7 r10_7 ∧ XR b10_8 r10_8 ∧ XC b10_9 (.t 15) .skip (.exit 0) ∧ XR b10_10 r10_10 ∧ XR b10_11 r10_11 ∧ XT b10_12 t10_12 ∧ XR b10_13 r10_13 ∧ XC b10_14 (.t 33) b10_13 .skip ∧ XS b10_15 b10_12 b10_14 ∧ XS b10_16 b10_11 b10_15 ∧ XS b10_17 b10_10 b10_16 ∧ XB b10_18 1 b10_17 ∧ XR b10_19 r10_19 ∧ XS b10_20 b10_18 b10_19 ∧ XS b10_21 b10_9 b10_20 ∧ XS b10_22 b10_8 b10_21 ∧ XB b10_24 0 b10_23 ∧ XS b10_25 b10_7 b10_24 ∧ XR b10_26 r10_26 ∧ XS b10_27 b10_26 .ret ∧ XS b10_28 b10_25 b10_27 ∧ XS b10_29 b10_6 b10_28 ∧ XS b10_30 b10_5 b10_29 ∧ XS b10_31 b10_0 b10_30 ∧ XY s10 38 b10_31 [.t 4] := ⟨rfl, rfl, rfl, rfl, sC_cond, rfl, rfl, rfl, rfl, sC_cond, rfl, rfl, rfl, rfl, sC_cond, rfl, rfl, rfl, rfl, rfl, rfl, rfl, rfl, rfl, rfl, rfl, rfl, rfl, rfl, rfl, rfl, rfl⟩

set_option maxHeartbeats 4000000
set_option maxRecDepth 10000
def packZD (args : List AV) (σ : AHeap) (K : AV → AHeap → Prop) : Prop := ∃ (cs : List AV) (n : NoteV), args = [.agg cs] ∧ cs.map nz1 = n.cells ∧ n.sz ∧ K (packN n) σ
theorem packZD_ok (args : List AV) (σ : AHeap) (K : AV → AHeap → Prop) (h : packZD args σ K) : Tri Try.prog 26 args σ K := by
  obtain ⟨cs, n, rfl, hc, hs, h⟩ := h
  refine Tri.nz ?_
  rw [hc]
  exact packD_ok _ _ _ ⟨n, rfl, hs, h⟩
def U4 : PCall := rowQ 26 packZD (rowQ 27 pushD noCall)
theorem U4_app {f : FuncId} {args : List AV} {σ : AHeap} {K : AV → AHeap → Prop} : U4 f args σ K = rowQ 26 packZD (rowQ 27 pushD noCall) f args σ K := _root_.id rfl
theorem U4_sound : Sound Try.prog U4 := rowQ_sound packZD_ok (rowQ_sound pushD_ok (noCall_sound _))
def send1 (p : Nat × List (List UInt8)) (n : NoteV) : Nat × List (List UInt8) := if mayB n = true ∧ p.2.length < 512 then (p.1 + 1, p.2 ++ [n.bytes]) else p
def sendS (ss : List (List UInt8)) (l : List NoteV) : Nat × List (List UInt8) := l.foldl send1 (0, ss)
theorem sendS_take {ss : List (List UInt8)} {l : List NoteV} {i : Nat} {n : NoteV} (h : l[i]? = some n) : sendS ss (l.take (i + 1)) = send1 (sendS ss (l.take i)) n := by
  rw [List.take_add_one, h, sendS, List.foldl_append]; rfl
theorem sub_row27 {css : List (List AV)} {J cs : List AV} {i : Nat} (hl : ∀ r ∈ css, r.length = 27) (hi : css[i]? = some cs) : sub (css.flatten ++ J) (i * 27) 27 = some cs := by
  have key : ∀ (css : List (List AV)) (i : Nat), (∀ r ∈ css, r.length = 27) → css[i]? = some cs → (css.flatten ++ J).drop (i * 27) = cs ++ (css.drop (i + 1)).flatten ++ J := by
    intro css
    induction css with
    | nil => intro i _ h; simp at h
    | cons r rs ih =>
      intro i hl hi
      cases i with
      | zero => simp at hi; subst hi; simp
      | succ i =>
        have hr := hl r (by simp)
        have := ih i (fun x hx => hl x (by simp [hx])) (by simpa using hi)
        rw [List.flatten_cons, List.append_assoc, show (i + 1) * 27 = r.length + i * 27 by omega, List.drop_append, List.drop_eq_nil_of_le (by omega), List.nil_append, Nat.add_sub_cancel_left, this]
        simp
  have hc := hl cs (List.mem_of_getElem? hi)
  have hd := key css i hl hi
  unfold sub
  have hle : i * 27 + 27 ≤ (css.flatten ++ J).length := by
    have := congrArg List.length hd
    simp only [List.length_drop, List.length_append] at this
    rw [List.length_append]; omega
  rw [if_pos hle, hd, List.append_assoc, List.take_append_of_le_length (by omega), List.take_of_length_le (by omega)]
def sdI (σ0 : AHeap) (M S d : Nat) (cap : Option Nat) (ns : List NoteV) (ss : List (List UInt8)) (D : Option Nat) (m : Nat) (e : Env) (σ : AHeap) : Prop :=
  ∃ (i : Nat) (D' : Option Nat), i ≤ ns.length ∧ m = ns.length - i ∧ (sendS ss (ns.take i)).1 ≤ i ∧ Ml σ M S (sendS ss (ns.take i)).2 D' ∧ FrS σ0 σ S D D' ∧ e 0 = .ptr M 0 ∧ e 5 = .int .i64 ((sendS ss (ns.take i)).1 : Int) ∧ e 12 = .slice d 0 ns.length cap 27 ∧ e 13 = .int .i64 (ns.length : Int) ∧ e 14 = .int .i64 (i : Int)
theorem sd_step (σ0 : AHeap) (M S d : Nat) (cap : Option Nat) (ns : List NoteV) (css : List (List AV)) (J : List AV) (ss : List (List UInt8)) (D : Option Nat) (hd : hget σ0 d = some (css.flatten ++ J)) (hdS : d ≠ S) (hdD : D ≠ some d) (hcl : css.length = ns.length) (hc : ∀ (i : Nat) cs n, css[i]? = some cs → ns[i]? = some n → cs.map nz1 = n.cells)
    (hsz : ∀ n ∈ ns, n.sz) (hl : ns.length ≤ 100000) (Q : AV → AHeap → Prop) (hQ : ∀ σ' D', Ml σ' M S (sendS ss ns).2 D' → FrS σ0 σ' S D D' → Q (.int .i64 ((sendS ss ns).1 : Int)) σ') (n0 m : Nat) (e : Env) (σ : AHeap) (h : sdI σ0 M S d cap ns ss D m e σ) :
    sC U4 n0 b10_22 (unw U4 n0 (loopR U4 n0 (RetQ [.t 4] Q) (.block 0 (.seq b10_27 .fin)) (sdI σ0 M S d cap ns ss D) m) .fin) e σ := by
  obtain ⟨i, D', hi, hm, hcnt, hml, hfr, e0, e5, e12, e13, e14⟩ := h
  rcases Nat.lt_or_ge i ns.length with hlt | hge
  · have hlt' : (i : Int) < (ns.length : Int) := by omega
    have hge0 : (0 : Int) ≤ (i : Int) := by omega
    obtain ⟨n, hn⟩ : ∃ n, ns[i]? = some n := ⟨_, List.getElem?_eq_getElem hlt⟩
    obtain ⟨cs, hcs⟩ : ∃ cs, css[i]? = some cs := ⟨_, List.getElem?_eq_getElem (by omega)⟩
    have hcc := hc i cs n hcs hn
    have hlen : cs.length = 27 := by have := congrArg List.length hcc; rw [List.length_map] at this; rw [this]; rfl
    have hl27 : ∀ r ∈ css, r.length = 27 := fun r hr => by
      obtain ⟨j, hj⟩ := List.getElem?_of_mem hr
      obtain ⟨n', hn'⟩ : ∃ n', ns[j]? = some n' := ⟨_, List.getElem?_eq_getElem (by have := (List.getElem?_eq_some_iff.1 hj).1; omega)⟩
      have := congrArg List.length (hc j r n' hj hn')
      rw [List.length_map] at this; rw [this]; rfl
    have hcell : (cs.all fun x => x.isCell) = true := nz_cells (by rw [hcc]; rfl)
    obtain ⟨gd, gD⟩ := hfr d _ hd hdS hdD
    have hsub := sub_row27 (J := J) hl27 hcs
    have hput : put (bareC 0 0 0 0 0) 0 cs = some cs := put_all (by rw [hlen]; rfl)
    have hs27 : sub cs 0 27 = some cs := sub_all (by omega)
    have hw : IntKind.wrap .i64 ((i : Int) + 1) = ((i + 1 : Nat) : Int) := by rw [Gz.wrap64 (by omega)]; omega
    have hwc : IntKind.wrap .i64 (((sendS ss (ns.take i)).1 : Int) + 1) = (((sendS ss (ns.take i)).1 + 1 : Nat) : Int) := by rw [Gz.wrap64 (by omega)]; omega
    have hst := sendS_take (ss := ss) hn
    have pn : ∀ c : List AV, hget (hpush σ c) σ.length = some c := fun c => push_new rfl
    have sn : ∀ c c' : List AV, hget (hset (hpush σ c) σ.length c') σ.length = some c' := fun c c' => set_same (pn c)
    have al : ∀ (c c' : List AV) {j : Nat} {y : List AV}, hget σ j = some y → hget (hset (hpush σ c) σ.length c') j = some y := fun c c' {j y} hj => al_frame hj
    have fr1 : ∀ c c' : List AV, FrS σ (hset (hpush σ c) σ.length c') S D' D' := fun c c' j y hj _ h2 => ⟨al c c' hj, h2⟩
    have sp1 : ∀ c c' : List AV, Sp (hset (hpush σ c) σ.length c') S (sendS ss (ns.take i)).2 D' := fun c c' => sp_frame hml.sp fun j y hj _ => al c c' hj
    have ml1 : ∀ c c' : List AV, Ml (hset (hpush σ c) σ.length c') M S (sendS ss (ns.take i)).2 D' := fun c c' => hml.next (sp1 c c') (fr1 c c') hml.few
    have gm1 : ∀ c c' : List AV, hget (hset (hpush σ c) σ.length c') M = some [.ptr S 0] := fun c c' => (ml1 c c').m
    simp only [U4_app, Z10, base1, baseE, ↓reduceIte, Nat.reduceAdd, Nat.reduceSub, Nat.reduceMul, Nat.reduceEqDiff, Nat.reduceLeDiff, Nat.reduceLT, Int.reduceLT, Int.reduceLE, Int.reduceEq, Int.reduceNe, Int.reduceToNat, Int.reduceAdd, Int.reduceSub, reduceCtorEq, Nat.reduceBEq, Nat.reduceBNe, loopR_exit, loopR_ret, e0, e5, e12, e13, e14, hlt', hlt, hge0, gd, hsub, hput, hs27, hlen, hcell, pn, sn, Int.toNat_natCast]
    refine ⟨cs, n, rfl, hcc, hsz n (List.mem_of_getElem? hn), ?_⟩
    cases hmay : mayB n with
    | false =>
      have hs1 : sendS ss (ns.take (i + 1)) = sendS ss (ns.take i) := by rw [hst]; unfold send1; rw [if_neg (by rw [hmay]; simp)]
      simp only [U4_app, Z10, base1, baseE, ↓reduceIte, Nat.reduceAdd, Nat.reduceSub, Nat.reduceMul, Nat.reduceEqDiff, Nat.reduceLeDiff, Nat.reduceLT, Int.reduceLT, Int.reduceLE, Int.reduceEq, Int.reduceNe, Int.reduceToNat, Int.reduceAdd, Int.reduceSub, reduceCtorEq, Nat.reduceBEq, Nat.reduceBNe, packN, hmay, e0, e5, e12, e13, e14, hw]
      rw [loopR_normal]
      exact ⟨ns.length - (i + 1), _, _, by omega, .refl _ _ _, i + 1, D', hlt, rfl, by rw [hs1]; omega, by rw [hs1]; exact ml1 _ _, hfr.trans (fr1 _ _), e0, by rw [hs1]; exact e5, e12, e13, rfl⟩
    | true =>
      simp only [U4_app, Z10, base1, baseE, ↓reduceIte, Nat.reduceAdd, Nat.reduceSub, Nat.reduceMul, Nat.reduceEqDiff, Nat.reduceLeDiff, Nat.reduceLT, Int.reduceLT, Int.reduceLE, Int.reduceEq, Int.reduceNe, Int.reduceToNat, Int.reduceAdd, Int.reduceSub, reduceCtorEq, Nat.reduceBEq, Nat.reduceBNe, packN, hmay, e0, e5, e12, e13, e14, gm1, ofRws]
      refine ⟨S, n.bytes, _, D', rfl, sp1 _ _, fun hf => ?_, fun hf σ2 D2 hs2 hf2 => ?_⟩
      · have hs1 : sendS ss (ns.take (i + 1)) = sendS ss (ns.take i) := by rw [hst]; unfold send1; rw [if_neg (by omega)]
        simp only [U4_app, Z10, base1, baseE, ↓reduceIte, Nat.reduceAdd, Nat.reduceSub, Nat.reduceMul, Nat.reduceEqDiff, Nat.reduceLeDiff, Nat.reduceLT, Int.reduceLT, Int.reduceLE, Int.reduceEq, Int.reduceNe, Int.reduceToNat, Int.reduceAdd, Int.reduceSub, reduceCtorEq, Nat.reduceBEq, Nat.reduceBNe, e0, e5, e12, e13, e14, hw, gm1, ofRws]
        rw [loopR_normal]
        exact ⟨ns.length - (i + 1), _, _, by omega, .refl _ _ _, i + 1, D', hlt, rfl, by rw [hs1]; omega, by rw [hs1]; exact ml1 _ _, hfr.trans (fr1 _ _), e0, by rw [hs1]; exact e5, e12, e13, rfl⟩
      · have hs1 : sendS ss (ns.take (i + 1)) = ((sendS ss (ns.take i)).1 + 1, (sendS ss (ns.take i)).2 ++ [n.bytes]) := by rw [hst]; unfold send1; rw [if_pos ⟨hmay, hf⟩]
        have ml2 := (ml1 _ _).next hs2 hf2 (by simp; omega)
        have gm2 := ml2.m
        simp only [U4_app, Z10, base1, baseE, ↓reduceIte, Nat.reduceAdd, Nat.reduceSub, Nat.reduceMul, Nat.reduceEqDiff, Nat.reduceLeDiff, Nat.reduceLT, Int.reduceLT, Int.reduceLE, Int.reduceEq, Int.reduceNe, Int.reduceToNat, Int.reduceAdd, Int.reduceSub, reduceCtorEq, Nat.reduceBEq, Nat.reduceBNe, e0, e5, e12, e13, e14, hw, hwc, gm2, ofRws]
        rw [loopR_normal]
        exact ⟨ns.length - (i + 1), _, _, by omega, .refl _ _ _, i + 1, D2, hlt, rfl, by rw [hs1]; simp; omega, by rw [hs1]; exact ml2, (hfr.trans (fr1 _ _)).trans hf2, e0, by rw [hs1]; rfl, e12, e13, rfl⟩
  · have hlt' : ¬ (i : Int) < (ns.length : Int) := by omega
    have hie : i = ns.length := by omega
    subst hie
    rw [List.take_length] at hml e5
    simp only [U4_app, Z10, base1, baseE, ↓reduceIte, Nat.reduceAdd, Nat.reduceSub, Nat.reduceMul, Nat.reduceEqDiff, Nat.reduceLeDiff, Nat.reduceLT, Int.reduceLT, Int.reduceLE, Int.reduceEq, Int.reduceNe, Int.reduceToNat, Int.reduceAdd, Int.reduceSub, reduceCtorEq, Nat.reduceBEq, Nat.reduceBNe, loopR_exit, loopR_ret, e0, e5, e12, e13, e14, hlt']
    exact hQ _ _ hml hfr
def msendD (args : List AV) (σ : AHeap) (K : AV → AHeap → Prop) : Prop := ∃ (M S d : Nat) (cap : Option Nat) (ns : List NoteV) (css : List (List AV)) (J : List AV) (ss : List (List UInt8)) (D : Option Nat), args = [.ptr M 0, .slice d 0 ns.length cap 27] ∧ hget σ d = some (css.flatten ++ J) ∧ d ≠ S ∧ D ≠ some d ∧ css.length = ns.length ∧
  (∀ (i : Nat) cs n, css[i]? = some cs → ns[i]? = some n → cs.map nz1 = n.cells) ∧ (∀ n ∈ ns, n.sz) ∧ ns.length ≤ 100000 ∧ Ml σ M S ss D ∧ (∀ σ' D', Ml σ' M S (sendS ss ns).2 D' → FrS σ σ' S D D' → K (.int .i64 ((sendS ss ns).1 : Int)) σ')
theorem msendD_ok (args : List AV) (σ : AHeap) (K : AV → AHeap → Prop) (h : msendD args σ K) : Tri Try.prog 10 args σ K := by
  obtain ⟨M, S, d, cap, ns, css, J, ss, D, rfl, hd, hdS, hdD, hcl, hc, hsz, hl, hm, hK⟩ := h
  refine Tri.of_s c10 U4_sound ?_
  have l0 : lenOf (.slice d 0 ns.length cap 27) = some ns.length := rfl
  simp only [U4_app, Z10, base1, baseE, ↓reduceIte, Nat.reduceAdd, Nat.reduceSub, Nat.reduceMul, Nat.reduceEqDiff, Nat.reduceLeDiff, Nat.reduceLT, Int.reduceLT, Int.reduceLE, Int.reduceEq, Int.reduceNe, Int.reduceToNat, Int.reduceAdd, Int.reduceSub, reduceCtorEq, Nat.reduceBEq, Nat.reduceBNe, l0]
  exact sC_inv (a := b10_22) (sdI σ M S d cap ns ss D) ns.length _ _ (.refl _ _ _) ⟨0, D, Nat.zero_le _, rfl, Nat.le_refl _, hm, FrS.refl _ _ _, rfl, rfl, rfl, rfl, rfl⟩ (sd_step σ M S d cap ns css J ss D hd hdS hdD hcl hc hsz hl K hK σ.length)
end Go.Proofs.Ytndlgmciplckjab.note

/- The network's first call answers yes. No condition. -/
set_option linter.unusedVariables false
set_option linter.unusedSimpArgs false
namespace Go.Proofs.Ytndlgmciplckjab.note
open Go.ChangeShapes Go.WideShapes Go.ChangeAt Go.RowKit Go.Gz
abbrev r5_0 : List MOper := [⟨(some 0), .move (.c (.bool false)), none⟩]
def b5_0 : SCode := .region r5_0
abbrev r5_1 : List MOper := [⟨(some 6), .call 7 [], none⟩,
  ⟨(some 1), .move (.t 6), none⟩]
def b5_1 : SCode := .region r5_1
abbrev r5_2 : List MOper := [⟨(some 7), .move (.t 1), none⟩,
  ⟨(some 8), .bin .eql .nilp (.t 7) (.c (.nilptr)), none⟩]
def b5_2 : SCode := .region r5_2
abbrev r5_3 : List MOper := [⟨(some 0), .move (.c (.bool false)), none⟩]
def b5_3 : SCode := .region r5_3
def b5_4 : SCode := .seq b5_3 .ret
def b5_5 : SCode := .cond (.t 8) b5_4 .skip
def b5_6 : SCode := .seq b5_2 b5_5
abbrev r5_7 : List MOper := [⟨(some 9), .move (.t 1), none⟩,
  ⟨(some 10), .build [.int .i64 0, .int .i64 0, .int .i64 0, .int .i64 0, .int .i64 0, .int .i64 0, .int .i64 0, .int .i64 0, .str [], .str [], .str [], .str [], .int .i64 0, .int .i64 0, .int .i64 0, .int .i64 0, .bool false, .str [], .nilslice, .str [], .bool false, .str [], .str [], .nilslice, .nilslice, .int .i64 0, .nilslice] [(0, 1, (.c (.int .i64 3))), (1, 1, (.c (.int .i64 100))), (2, 1, (.c (.int .i64 0)))], none⟩,
  ⟨(some 11), .build [.int .i64 0, .int .i64 0, .int .i64 0, .int .i64 0, .int .i64 0, .int .i64 0, .int .i64 0, .int .i64 0, .str [], .str [], .str [], .str [], .int .i64 0, .int .i64 0, .int .i64 0, .int .i64 0, .bool false, .str [], .nilslice, .str [], .bool false, .str [], .str [], .nilslice, .nilslice, .int .i64 0, .nilslice] [(0, 1, (.c (.int .i64 99)))], none⟩,
  ⟨(some 12), .buildSlice [.int .i64 0, .int .i64 0, .int .i64 0, .int .i64 0, .int .i64 0, .int .i64 0, .int .i64 0, .int .i64 0, .str [], .str [], .str [], .str [], .int .i64 0, .int .i64 0, .int .i64 0, .int .i64 0, .bool false, .str [], .nilslice, .str [], .bool false, .str [], .str [], .nilslice, .nilslice, .int .i64 0, .nilslice] 27 2 [(0, 27, (.t 10)), (27, 27, (.t 11))], none⟩,
  ⟨(some 13), .call 10 [(.t 9), (.t 12)], none⟩,
  ⟨(some 2), .move (.t 13), none⟩]
def b5_7 : SCode := .region r5_7
abbrev r5_8 : List MOper := [⟨(some 14), .move (.t 1), none⟩,
  ⟨(some 15), .call 13 [(.t 14), (.c (.int .i64 0))], none⟩,
  ⟨(some 3), .move (.t 15), none⟩]
def b5_8 : SCode := .region r5_8
abbrev r5_9 : List MOper := [⟨(some 17), .move (.t 1), none⟩,
  ⟨(some 18), .call 11 [(.t 17), (.c (.int .i64 0))], none⟩,
  ⟨(some 16), .move (.t 18), none⟩,
  ⟨(some 19), .extract (.t 16) 0, none⟩,
  ⟨(some 20), .extract (.t 16) 1, none⟩,
  ⟨(some 4), .alloc [.int .i64 0, .int .i64 0, .int .i64 0, .int .i64 0, .int .i64 0, .int .i64 0, .int .i64 0, .int .i64 0, .str [], .str [], .str [], .str [], .int .i64 0, .int .i64 0, .int .i64 0, .int .i64 0, .bool false, .str [], .nilslice, .str [], .bool false, .str [], .str [], .nilslice, .nilslice, .int .i64 0, .nilslice], none⟩,
  ⟨none, .store 27 (.t 4) (.t 19), none⟩,
  ⟨(some 5), .move (.t 20), none⟩]
def b5_9 : SCode := .region r5_9
abbrev r5_10 : List MOper := [⟨(some 21), .move (.t 2), none⟩,
  ⟨(some 22), .bin .eql .num (.t 21) (.c (.int .i64 1)), none⟩,
  ⟨(some 23), .move (.t 22), none⟩,
  ⟨(some 24), .move (.t 3), (some (23, true))⟩,
  ⟨(some 25), .pick (.t 23) (.t 24) (.c (.bool false)), none⟩,
  ⟨(some 26), .move (.t 25), none⟩,
  ⟨(some 27), .move (.t 5), (some (26, true))⟩,
  ⟨(some 28), .pick (.t 26) (.t 27) (.c (.bool false)), none⟩,
  ⟨(some 29), .move (.t 28), none⟩,
  ⟨(some 30), .fieldAddr 0 (.t 4), (some (29, true))⟩,
  ⟨(some 31), .load1 (.t 30), (some (29, true))⟩,
  ⟨(some 32), .bin .eql .num (.t 31) (.c (.int .i64 3)), (some (29, true))⟩,
  ⟨(some 33), .pick (.t 29) (.t 32) (.c (.bool false)), none⟩,
  ⟨(some 34), .move (.t 33), none⟩,
  ⟨(some 35), .move (.t 1), (some (34, true))⟩,
  ⟨(some 36), .call 15 [(.t 35)], (some (34, true))⟩,
  ⟨(some 37), .bin .eql .num (.t 36) (.c (.int .i64 1)), (some (34, true))⟩,
  ⟨(some 38), .pick (.t 34) (.t 37) (.c (.bool false)), none⟩,
  ⟨(some 0), .move (.t 38), none⟩]
def b5_10 : SCode := .region r5_10
def b5_11 : SCode := .seq b5_10 .ret
def b5_12 : SCode := .seq b5_9 b5_11
def b5_13 : SCode := .seq b5_8 b5_12
def b5_14 : SCode := .seq b5_7 b5_13
def b5_15 : SCode := .seq b5_6 b5_14
def b5_16 : SCode := .seq b5_1 b5_15
def b5_17 : SCode := .seq b5_0 b5_16
def s5 : SFunc := ⟨39, [.t 0], b5_17⟩
theorem c5 : sFn Try.prog 5 = some s5 := by kernel_rfl
theorem Z5 : XR b5_0 r5_0 ∧ XR b5_1 r5_1 ∧ XR b5_2 r5_2 ∧ XR b5_3 r5_3 ∧ XS b5_4 b5_3 .ret ∧ XC b5_5 (.t 8) b5_4 .skip ∧ XS b5_6 b5_2 b5_5 ∧ XR b5_7 r5_7 ∧ XR b5_8 r5_8 ∧ XR b5_9 r5_9 ∧ XR b5_10 r5_10 ∧ XS b5_11 b5_10 .ret ∧ XS b5_12 b5_9 b5_11 ∧ XS b5_13 b5_8 b5_12 ∧ XS b5_14 b5_7 b5_13 ∧ XS b5_15 b5_6 b5_14 ∧ XS b5_16 b5_1 b5_15 ∧ XS b5_17 b5_0 b5_16 ∧ XY s5 39 b5_17 [.t 0] := ⟨rfl, rfl, rfl, rfl, rfl, sC_cond, rfl, rfl, rfl, rfl, rfl, rfl, rfl, rfl, rfl, rfl, rfl, rfl, rfl⟩

set_option maxHeartbeats 4000000
set_option maxRecDepth 10000
def U5 : PCall := rowQ 7 mnewD (rowQ 10 msendD (rowQ 13 mcopyD (rowQ 15 mlenD (rowQ 11 mtakeD noCall))))
theorem U5_app {f : FuncId} {args : List AV} {σ : AHeap} {K : AV → AHeap → Prop} : U5 f args σ K = rowQ 7 mnewD (rowQ 10 msendD (rowQ 13 mcopyD (rowQ 15 mlenD (rowQ 11 mtakeD noCall)))) f args σ K := _root_.id rfl
theorem U5_sound : Sound Try.prog U5 := rowQ_sound mnewD_ok (rowQ_sound msendD_ok (rowQ_sound mcopyD_ok (rowQ_sound mlenD_ok (rowQ_sound mtakeD_ok (noCall_sound _)))))
abbrev aN1 : NoteV := bare 3 100 0 0 0
abbrev aN2 : NoteV := bare 99 0 0 0 0
theorem bare_sz (k f t e i : Int) : (bare k f t e i).sz := ⟨by show total AskV.zero.texts ≤ _; decide, by show RepV.zero.bytes.length ≤ _; decide, by show total [([] : List UInt8), []] ≤ _; decide, by simp [bare], by simp [bare], by simp [bare], by simp [bare], by simp [bare], by simp [bare], by simp [bare], by simp [bare], by simp [bare]⟩
theorem aN1_may : mayB aN1 = true := by decide +kernel
theorem aN2_may : mayB aN2 = false := by decide +kernel
theorem aSend : sendS [] [aN1, aN2] = (1, [aN1.bytes]) := by
  simp only [sendS, List.foldl_cons, List.foldl_nil, send1, aN1_may, aN2_may]
  rfl
theorem aN1_len : aN1.bytes.length ≤ 4000000 := by decide +kernel
theorem mawake_ok (σ : AHeap) (K : AV → AHeap → Prop) (h : ∀ σ', K (.bool true) σ') : Tri Try.prog 5 [] σ K := by
  refine Tri.of_s c5 U5_sound ?_
  simp only [U5_app, Z5, base1, baseE, ↓reduceIte, Nat.reduceAdd, Nat.reduceSub, Nat.reduceMul, Nat.reduceEqDiff, Nat.reduceLeDiff, Nat.reduceLT, Int.reduceLT, Int.reduceLE, Int.reduceEq, Int.reduceNe, Int.reduceToNat, Int.reduceAdd, Int.reduceSub, reduceCtorEq, Nat.reduceBEq, Nat.reduceBNe]
  refine ⟨rfl, ?_⟩
  have ml0 := ml_new (σ := σ)
  generalize hpush (hpush σ [.int .i64 512, .nilslice]) [.ptr σ.length 0] = σ1 at ml0 ⊢
  have lM := hget_lt ml0.m
  have lS : σ.length < σ1.length := by rcases ml0.sp with ⟨_, _, hh⟩ | ⟨_, _, _, _, hh, _⟩ <;> exact hget_lt hh
  have push : ∀ c : List AV, FrS σ1 (hpush σ1 c) σ.length none none := fun c j y hj _ h2 => ⟨push_old hj, h2⟩
  have mlp : ∀ c : List AV, Ml (hpush σ1 c) (σ.length + 1) σ.length [] none := fun c => ml0.next (sp_frame ml0.sp fun j y hj _ => push_old hj) (push c) (by simp)
  simp only [U5_app, Z5, base1, baseE, ↓reduceIte, Nat.reduceAdd, Nat.reduceSub, Nat.reduceMul, Nat.reduceEqDiff, Nat.reduceLeDiff, Nat.reduceLT, Int.reduceLT, Int.reduceLE, Int.reduceEq, Int.reduceNe, Int.reduceToNat, Int.reduceAdd, Int.reduceSub, reduceCtorEq, Nat.reduceBEq, Nat.reduceBNe]
  refine ⟨σ.length + 1, σ.length, σ1.length, some 2, [aN1, aN2], [bareC 3 100 0 0 0, bareC 99 0 0 0 0], [], [], none, rfl, push_new rfl, by omega, by simp, rfl, fun i cs n hc hn => ?_, fun n hn => ?_, by simp, mlp _, fun σ2 D2 m2 f2 => ?_⟩
  · match i with
    | 0 => simp at hc hn; subst hc; subst hn; rfl
    | 1 => simp at hc hn; subst hc; subst hn; rfl
    | k + 2 => simp at hc
  · simp at hn
    rcases hn with rfl | rfl <;> exact bare_sz _ _ _ _ _
  rw [aSend] at m2 ⊢
  have p1 : place 0 ([aN1.bytes] : List (List UInt8)).length = ((0 : Nat) : Int) := rfl
  simp only [U5_app, Z5, base1, baseE, ↓reduceIte, Nat.reduceAdd, Nat.reduceSub, Nat.reduceMul, Nat.reduceEqDiff, Nat.reduceLeDiff, Nat.reduceLT, Int.reduceLT, Int.reduceLE, Int.reduceEq, Int.reduceNe, Int.reduceToNat, Int.reduceAdd, Int.reduceSub, reduceCtorEq, Nat.reduceBEq, Nat.reduceBNe]
  refine ⟨σ.length + 1, σ.length, 0, [aN1.bytes], D2, rfl, by decide, m2, fun hn => ?_, fun k x hk hx hl σ3 D3 m3 f3 => ?_⟩
  · rw [p1] at hn; simp at hn
  rw [p1] at hk
  have hk0 : k = 0 := by omega
  subst hk0
  have hx0 : x = aN1.bytes := by simpa using hx.symm
  subst hx0
  have p2 : place 0 ([aN1.bytes] ++ [aN1.bytes] : List (List UInt8)).length = ((0 : Nat) : Int) := rfl
  simp only [U5_app, Z5, base1, baseE, ↓reduceIte, Nat.reduceAdd, Nat.reduceSub, Nat.reduceMul, Nat.reduceEqDiff, Nat.reduceLeDiff, Nat.reduceLT, Int.reduceLT, Int.reduceLE, Int.reduceEq, Int.reduceNe, Int.reduceToNat, Int.reduceAdd, Int.reduceSub, reduceCtorEq, Nat.reduceBEq, Nat.reduceBNe]
  refine ⟨σ.length + 1, σ.length, 0, [aN1.bytes] ++ [aN1.bytes], D3, rfl, by decide, m3, fun y hy => ?_, fun hn => ?_, fun k y hk hy σ4 D4 m4 f4 => ?_⟩
  · simp at hy; subst hy; exact aN1_len
  · rw [p2] at hn; simp at hn
  rw [p2] at hk
  have hk0 : k = 0 := by omega
  subst hk0
  have hy0 : y = aN1.bytes := by simpa using hy.symm
  subst hy0
  rw [note_good aN1_may (bare_sz _ _ _ _ _)]
  have l4 := hget_lt m4.m
  have lS4 : σ.length < σ4.length := by rcases m4.sp with ⟨_, _, hh⟩ | ⟨_, _, _, _, hh, _⟩ <;> exact hget_lt hh
  have al4 : ∀ c d : List AV, FrS σ4 (hset (hpush σ4 c) σ4.length d) σ.length D4 D4 := fun c d j z hj _ h2 => ⟨al_frame hj, h2⟩
  have ml4 : ∀ c d : List AV, Ml (hset (hpush σ4 c) σ4.length d) (σ.length + 1) σ.length (([aN1.bytes] ++ [aN1.bytes]).eraseIdx 0) D4 := fun c d => m4.next (sp_frame m4.sp fun j z hj _ => al_frame hj) (al4 c d) m4.few
  have pn : ∀ c : List AV, hget (hpush σ4 c) σ4.length = some c := fun c => push_new rfl
  have sn : ∀ c d : List AV, hget (hset (hpush σ4 c) σ4.length d) σ4.length = some d := fun c d => set_same (pn c)
  have pz : put (bareC 0 0 0 0 0) 0 (aN1, (0 : Int)).1.cells = some aN1.cells := put_all rfl
  have c0 : aN1.cells[0]? = some (.int .i64 3) := rfl
  have ncl : (aN1, (0 : Int)).1.cells.length = 27 := rfl
  have ncc : ((aN1, (0 : Int)).1.cells.all fun x => x.isCell) = true := rfl
  simp only [U5_app, Z5, base1, baseE, ↓reduceIte, Nat.reduceAdd, Nat.reduceSub, Nat.reduceMul, Nat.reduceEqDiff, Nat.reduceLeDiff, Nat.reduceLT, Int.reduceLT, Int.reduceLE, Int.reduceEq, Int.reduceNe, Int.reduceToNat, Int.reduceAdd, Int.reduceSub, reduceCtorEq, Nat.reduceBEq, Nat.reduceBNe, pn, sn, pz, c0, ncl, ncc]
  refine ⟨σ.length + 1, σ.length, _, D4, rfl, ml4 _ _, ?_⟩
  simp only [U5_app, Z5, base1, baseE, ↓reduceIte, Nat.reduceAdd, Nat.reduceSub, Nat.reduceMul, Nat.reduceEqDiff, Nat.reduceLeDiff, Nat.reduceLT, Int.reduceLT, Int.reduceLE, Int.reduceEq, Int.reduceNe, Int.reduceToNat, Int.reduceAdd, Int.reduceSub, reduceCtorEq, Nat.reduceBEq, Nat.reduceBNe]
  exact h _
def mawakeD (args : List AV) (σ : AHeap) (K : AV → AHeap → Prop) : Prop := args = [] ∧ ∀ σ', K (.bool true) σ'
theorem mawakeD_ok (args : List AV) (σ : AHeap) (K : AV → AHeap → Prop) (h : mawakeD args σ K) : Tri Try.prog 5 args σ K := by
  obtain ⟨rfl, h⟩ := h
  exact mawake_ok σ K h
end Go.Proofs.Ytndlgmciplckjab.note

/- Notes in rows: cells of one, what is sent of few. No condition. -/
set_option linter.unusedVariables false
set_option linter.unusedSimpArgs false
namespace Go.Proofs.Ytndlgmciplckjab.note
open Go.ChangeShapes Go.WideShapes Go.ChangeAt Go.RowKit Go.Gz
set_option maxHeartbeats 4000000
set_option maxRecDepth 10000
theorem cell27 {css : List (List AV)} {cs : List AV} {i j : Nat} (hl : ∀ r ∈ css, r.length = 27) (hi : css[i]? = some cs) (hj : j < 27) : css.flatten[i * 27 + j]? = cs[j]? := by
  have hc := hl cs (List.mem_of_getElem? hi)
  have hlt : j < cs.length := by omega
  rw [List.getElem?_eq_getElem hlt]
  exact flat_at hl hi (List.getElem?_eq_getElem hlt)
theorem put_one1 {cs : List AV} {k : Nat} {v : AV} (h : k < cs.length) : put cs k [v] = some (cs.set k v) := by
  unfold put
  rw [if_pos (by simp only [List.length_cons, List.length_nil]; omega), List.set_eq_take_append_cons_drop, if_pos h]
  simp
theorem set27 : ∀ {css : List (List AV)} {cs : List AV} {i j : Nat} {v : AV}, (∀ r ∈ css, r.length = 27) → css[i]? = some cs → j < 27 → css.flatten.set (i * 27 + j) v = (css.set i (cs.set j v)).flatten
  | [], cs, i, j, v, _, hi, _ => by simp at hi
  | r :: rs, cs, 0, j, v, hl, hi, hj => by
    simp at hi; subst hi
    have hr := hl r (by simp)
    simp only [List.flatten_cons, List.set_cons_zero, Nat.zero_mul, Nat.zero_add]
    rw [List.set_append_left _ _ (by omega)]
  | r :: rs, cs, i + 1, j, v, hl, hi, hj => by
    have hr := hl r (by simp)
    simp only [List.flatten_cons, List.set_cons_succ]
    rw [List.set_append_right _ _ (by omega), show (i + 1) * 27 + j - r.length = i * 27 + j by omega, set27 (fun x hx => hl x (by simp [hx])) (by simpa using hi) hj]
theorem put27 {css : List (List AV)} {cs : List AV} {i j : Nat} {v : AV} (hl : ∀ r ∈ css, r.length = 27) (hi : css[i]? = some cs) (hj : j < 27) : put css.flatten (i * 27 + j) [v] = some (css.set i (cs.set j v)).flatten := by
  have hilt := (List.getElem?_eq_some_iff.1 hi).1
  have hfl : css.flatten.length = css.length * 27 := flat_len hl
  rw [put_one1 (by rw [hfl]; omega), set27 hl hi hj]
theorem send_few : ∀ {l : List NoteV} {ss : List (List UInt8)} {c : Nat}, ss.length + l.length ≤ 512 → l.foldl send1 (c, ss) = (c + (l.filter fun n => mayB n).length, ss ++ (l.filter fun n => mayB n).map NoteV.bytes)
  | [], ss, c, _ => by simp
  | n :: l, ss, c, h => by
    simp only [List.length_cons] at h
    rw [List.foldl_cons]
    cases hm : mayB n with
    | false =>
      have : send1 (c, ss) n = (c, ss) := by unfold send1; rw [if_neg (by rw [hm]; simp)]
      rw [this, send_few (by omega), List.filter_cons_of_neg (by rw [hm]; simp)]
    | true =>
      have : send1 (c, ss) n = (c + 1, ss ++ [n.bytes]) := by unfold send1; rw [if_pos ⟨hm, by show ss.length < 512; omega⟩]
      rw [this, send_few (by simp; omega), List.filter_cons_of_pos (by rw [hm])]
      simp; omega
/-! Nothing is sent. -/

def msendOD (args : List AV) (σ : AHeap) (K : AV → AHeap → Prop) : Prop := (∃ (M S : Nat) (ss : List (List UInt8)) (D : Option Nat), args = [.ptr M 0, .nilslice] ∧ Ml σ M S ss D ∧ K (.int .i64 0) σ) ∨ msendD args σ K
theorem msendOD_ok (args : List AV) (σ : AHeap) (K : AV → AHeap → Prop) (h : msendOD args σ K) : Tri Try.prog 10 args σ K := by
  rcases h with ⟨M, S, ss, D, rfl, hm, h⟩ | h
  · refine Tri.of_s c10 U4_sound ?_
    simp only [U4_app, Z10, base1, ↓reduceIte, Nat.reduceAdd, Nat.reduceSub, Nat.reduceMul, Nat.reduceEqDiff, Nat.reduceLeDiff, Nat.reduceLT, Int.reduceLT, Int.reduceLE, Int.reduceEq, Int.reduceNe, Int.reduceToNat, Int.reduceAdd, Int.reduceSub, reduceCtorEq, Nat.reduceBEq, Nat.reduceBNe, lenOf_nilS]
    refine sC_inv (a := b10_22) (fun m e τ => τ = σ ∧ e 0 = .ptr M 0 ∧ e 5 = .int .i64 0 ∧ e 12 = .nilslice ∧ e 13 = .int .i64 0 ∧ e 14 = .int .i64 0) 0 _ _ (.refl _ _ _) ⟨rfl, rfl, rfl, rfl, rfl, rfl⟩ ?_
    rintro m e τ ⟨rfl, e0, e5, e12, e13, e14⟩
    simp only [U4_app, Z10, base1, ↓reduceIte, Nat.reduceAdd, Nat.reduceSub, Nat.reduceMul, Nat.reduceEqDiff, Nat.reduceLeDiff, Nat.reduceLT, Int.reduceLT, Int.reduceLE, Int.reduceEq, Int.reduceNe, Int.reduceToNat, Int.reduceAdd, Int.reduceSub, reduceCtorEq, Nat.reduceBEq, Nat.reduceBNe, loopR_exit, loopR_ret, e0, e5, e12, e13, e14, lenOf_nilS]
    exact h
  · exact msendD_ok args σ K h
/-! What a law of orders sends. -/
abbrev madeC (rs : List RowV) : List (List AV) := rs.map fun r => (made r).cells
def wants (rs : List RowV) : List NoteV := (rs.map made).filter fun n => mayB n
theorem wants_take {rs : List RowV} {i : Nat} {r : RowV} (h : rs[i]? = some r) : wants (rs.take (i + 1)) = if mayB (made r) = true then wants (rs.take i) ++ [made r] else wants (rs.take i) := by
  rw [List.take_add_one, h, wants, List.map_append, List.filter_append]
  show _ ++ ([made r].filter fun n => mayB n) = _
  cases hm : mayB (made r) with
  | true => rw [if_pos rfl, List.filter_cons_of_pos hm]; rfl
  | false => rw [if_neg (by simp), List.filter_cons_of_neg (by rw [hm]; simp)]; simp [wants]
theorem wants_mem {rs : List RowV} {n : NoteV} (h : n ∈ wants rs) : mayB n = true ∧ ∃ r ∈ rs, n = made r := by
  obtain ⟨h1, h2⟩ := List.mem_filter.1 h
  obtain ⟨r, hr, rfl⟩ := List.mem_map.1 h1
  exact ⟨h2, r, hr, rfl⟩
theorem wants_len (rs : List RowV) : (wants rs).length ≤ rs.length := by
  have := List.length_filter_le (fun n => mayB n) (rs.map made)
  rw [List.length_map] at this; exact this
theorem ml_keep {σ τ : AHeap} {M S : Nat} {ss : List (List UInt8)} {D : Option Nat} (h : Ml σ M S ss D) (hf : ∀ j c, hget σ j = some c → (j = M ∨ j = S ∨ D = some j) → hget τ j = some c) : Ml τ M S ss D :=
  ⟨hf _ _ h.m (.inl rfl), h.ms, h.md, sp_frame h.sp fun j c hj hjd => hf j c hj (.inr hjd), h.few⟩
theorem ml_keep0 {σ τ : AHeap} {M S : Nat} (h : Ml σ M S [] none) (hf : ∀ j c, hget σ j = some c → (j = M ∨ j = S) → hget τ j = some c) : Ml τ M S [] none :=
  ml_keep h fun j c hj hd => hf j c hj (hd.imp_right fun h => h.elim id fun h => by cases h)
theorem ml_spool {σ : AHeap} {M S : Nat} {ss : List (List UInt8)} {D : Option Nat} (h : Ml σ M S ss D) : ∃ c, hget σ S = some c := by
  rcases h.sp with ⟨_, _, hh⟩ | ⟨_, _, _, _, hh, _⟩ <;> exact ⟨_, hh⟩
theorem rec_sum (l : List (List UInt8 × List UInt8)) : ((l.flatMap fun x => txt (txt2 x)).length : Int) = 12 * l.length + sumL l := by
  have h := list_tot l
  have : ∀ l : List (List UInt8 × List UInt8), (l.flatMap fun x => txt (txt2 x)).length = 4 * l.length + (l.flatMap txt2).length := by
    intro l
    induction l with
    | nil => rfl
    | cons p l ih => simp only [List.flatMap_cons, List.length_append, txt_len, List.length_cons, ih]; omega
  have := this l
  omega
theorem sh_sum (l : List ShV) : ((l.flatMap fun x => txt x.bytes).length : Int) = 20 * l.length + sumL (l.map ShV.span) := by
  induction l with
  | nil => rfl
  | cons p l ih =>
    have e : sumL ((p :: l).map ShV.span) = (p.from_.length : Int) + p.to.length + sumL (l.map ShV.span) := by simp [sumL, ShV.span]
    rw [e]
    simp only [List.flatMap_cons, List.length_append, txt_len, sh_len, List.length_cons]; omega
theorem made_len {r : RowV} (h : r.smallP) : (made r).bytes.length ≤ 4000000 := by
  have h0 := h.sum
  have h1 := sum_nonneg r.l
  have h2 := sum_nonneg (r.sh.map ShV.span)
  have h3 := h.sh
  have h4 := h.l
  have h5 := h.lal
  have h6 := h.shl
  simp only [RowV.base] at h0
  have r1 := rec_sum r.l
  have s1 := sh_sum r.sh
  have l1 : ((r.last.map mkLa).flatMap fun x => txt x.bytes).length ≤ 2000000 := by
    have := flat_le (f := fun x : LaV => txt x.bytes) (c := 60014) (l := r.last.map mkLa) fun x hx => by
      obtain ⟨y, hy, rfl⟩ := List.mem_map.1 hx
      rw [txt_len]; have := la_len (x := mkLa y) (h.last y hy); omega
    rw [List.length_map] at this
    omega
  have rp := rep_small_len h.rep
  have ab : r.ask.bytes.length ≤ 30000 := by
    simp only [AskV.bytes, AskV.nums, AskV.texts, List.flatMap_cons, List.flatMap_nil, List.append_nil, List.length_append, txt_len, u32_len, List.length_nil]; omega
  have hd : (made r).head.length = 20 := rfl
  have hb : (made r).body.length ≤ 3000000 := by
    unfold NoteV.body
    split
    · show (txt r.ask.bytes ++ []).length ≤ _; rw [List.append_nil, txt_len]; omega
    split
    · show (txt r.rep.bytes ++ []).length ≤ _; rw [List.append_nil, txt_len]; omega
    split
    · show ([r.aep].flatMap u32 ++ [bytesSh r.sh].flatMap txt).length ≤ _
      simp only [bytesSh, List.flatMap_cons, List.flatMap_nil, List.append_nil, List.length_append, txt_len, u32_len, List.length_nil]; omega
    split
    · simp
    · show ([r.sf, r.st].flatMap txt ++ [bytesRec r.l, bytesLa (r.last.map mkLa)].flatMap txt).length ≤ _
      simp only [bytesRec, bytesLa, List.flatMap_cons, List.flatMap_nil, List.append_nil, List.length_append, txt_len, u32_len, List.length_nil]; omega
  rw [NoteV.bytes, List.length_append]; omega
end Go.Proofs.Ytndlgmciplckjab.note

/- What is lost; what deeds there are, which of them are few; a note taken out of a row of notes. No condition. -/
set_option linter.unusedVariables false
set_option linter.unusedSimpArgs false
namespace Go.Proofs.Ytndlgmciplckjab.note
open Go.ChangeShapes Go.WideShapes Go.ChangeAt Go.RowKit Go.Gz
abbrev r14_0 : List MOper := [⟨(some 4), .move (.c (.bool false)), none⟩]
def b14_0 : SCode := .region r14_0
abbrev r14_1 : List MOper := [⟨(some 7), .move (.t 0), none⟩,
  ⟨(some 8), .move (.t 1), none⟩,
  ⟨(some 9), .call 28 [(.t 7), (.t 8)], none⟩,
  ⟨(some 1), .move (.t 9), none⟩]
def b14_1 : SCode := .region r14_1
abbrev r14_2 : List MOper := [⟨(some 10), .move (.t 1), none⟩,
  ⟨(some 11), .bin .lss .num (.t 10) (.c (.int .i64 0)), none⟩]
def b14_2 : SCode := .region r14_2
abbrev r14_3 : List MOper := [⟨(some 4), .move (.c (.bool false)), none⟩]
def b14_3 : SCode := .region r14_3
def b14_4 : SCode := .seq b14_3 .ret
def b14_5 : SCode := .cond (.t 11) b14_4 .skip
def b14_6 : SCode := .seq b14_2 b14_5
abbrev r14_7 : List MOper := [⟨(some 13), .move (.t 0), none⟩,
  ⟨(some 14), .nilCheck (.t 13), none⟩,
  ⟨(some 15), .fieldAddr 0 (.t 14), none⟩,
  ⟨(some 16), .load1 (.t 15), none⟩,
  ⟨(some 17), .move (.t 1), none⟩,
  ⟨(some 18), .call 29 [(.t 16), (.t 17)], none⟩,
  ⟨(some 12), .move (.t 18), none⟩,
  ⟨(some 19), .extract (.t 12) 0, none⟩,
  ⟨(some 20), .extract (.t 12) 1, none⟩,
  ⟨(some 5), .move (.t 19), none⟩,
  ⟨(some 6), .move (.t 20), none⟩]
def b14_7 : SCode := .region r14_7
abbrev r14_8 : List MOper := [⟨(some 21), .move (.t 6), none⟩,
  ⟨(some 4), .move (.t 21), none⟩]
def b14_8 : SCode := .region r14_8
def b14_9 : SCode := .seq b14_8 .ret
def b14_10 : SCode := .seq b14_7 b14_9
def b14_11 : SCode := .seq b14_6 b14_10
def b14_12 : SCode := .seq b14_1 b14_11
def b14_13 : SCode := .seq b14_0 b14_12
def s14 : SFunc := ⟨22, [.t 4], b14_13⟩
theorem c14 : sFn Try.prog 14 = some s14 := by kernel_rfl
theorem Z14 : XR b14_0 r14_0 ∧ XR b14_1 r14_1 ∧ XR b14_2 r14_2 ∧ XR b14_3 r14_3 ∧ XS b14_4 b14_3 .ret ∧ XC b14_5 (.t 11) b14_4 .skip ∧ XS b14_6 b14_2 b14_5 ∧ XR b14_7 r14_7 ∧ XR b14_8 r14_8 ∧ XS b14_9 b14_8 .ret ∧ XS b14_10 b14_7 b14_9 ∧ XS b14_11 b14_6 b14_10 ∧ XS b14_12 b14_1 b14_11 ∧ XS b14_13 b14_0 b14_12 ∧ XY s14 22 b14_13 [.t 4] := ⟨rfl, rfl, rfl, rfl, rfl, sC_cond, rfl, rfl, rfl, rfl, rfl, rfl, rfl, rfl, rfl⟩
abbrev r6_0 : List MOper := [⟨(some 2), .move (.c (.bool false)), none⟩]
def b6_0 : SCode := .region r6_0
abbrev r6_1 : List MOper := [⟨(some 3), .move (.c (.int .i64 0)), none⟩]
def b6_1 : SCode := .region r6_1
abbrev r6_2 : List MOper := [⟨(some 4), .move (.t 3), none⟩,
  ⟨(some 5), .move (.t 0), none⟩,
  ⟨(some 6), .lenSl (.t 5), none⟩,
  ⟨(some 7), .bin .lss .num (.t 4) (.t 6), none⟩]
def b6_2 : SCode := .region r6_2
def b6_3 : SCode := .cond (.t 7) .skip (.exit 0)
def b6_4 : SCode := .seq b6_2 b6_3
abbrev r6_5 : List MOper := [⟨(some 10), .move (.t 3), none⟩,
  ⟨(some 11), .bin .geq .num (.t 10) (.c (.int .i64 100)), none⟩,
  ⟨(some 12), .move (.t 11), none⟩,
  ⟨(some 13), .move (.t 0), (some (12, false))⟩,
  ⟨(some 14), .move (.t 3), (some (12, false))⟩,
  ⟨(some 15), .indexAddr 29 (.t 13) (.t 14), (some (12, false))⟩,
  ⟨(some 16), .fieldAddr 2 (.t 15), (some (12, false))⟩,
  ⟨(some 17), .loadN 27 (.t 16), (some (12, false))⟩,
  ⟨(some 18), .call 16 [(.t 17)], (some (12, false))⟩,
  ⟨(some 19), .un .not (.t 18), (some (12, false))⟩,
  ⟨(some 20), .pick (.t 12) (.c (.bool true)) (.t 19), none⟩,
  ⟨(some 21), .move (.t 20), none⟩,
  ⟨(some 22), .move (.t 0), (some (21, false))⟩,
  ⟨(some 23), .move (.t 3), (some (21, false))⟩,
  ⟨(some 24), .indexAddr 29 (.t 22) (.t 23), (some (21, false))⟩,
  ⟨(some 25), .fieldAddr 2 (.t 24), (some (21, false))⟩,
  ⟨(some 26), .fieldAddr 23 (.t 25), (some (21, false))⟩,
  ⟨(some 27), .load1 (.t 26), (some (21, false))⟩,
  ⟨(some 28), .lenSl (.t 27), (some (21, false))⟩,
  ⟨(some 29), .bin .gtr .num (.t 28) (.c (.int .i64 20)), (some (21, false))⟩,
  ⟨(some 30), .pick (.t 21) (.c (.bool true)) (.t 29), none⟩]
def b6_5 : SCode := .region r6_5
abbrev r6_6 : List MOper := [⟨(some 2), .move (.c (.bool false)), none⟩]
def b6_6 : SCode := .region r6_6
def b6_7 : SCode := .seq b6_6 .ret
def b6_8 : SCode := .cond (.t 30) b6_7 .skip
def b6_9 : SCode := .seq b6_5 b6_8
def b6_10 : SCode := .block 1 b6_9
abbrev r6_11 : List MOper := [⟨(some 8), .move (.t 3), none⟩,
  ⟨(some 9), .bin .add .num (.t 8) (.c (.int .i64 1)), none⟩,
  ⟨(some 3), .move (.t 9), none⟩]
def b6_11 : SCode := .region r6_11
def b6_12 : SCode := .seq b6_10 b6_11
def b6_13 : SCode := .seq b6_4 b6_12
def b6_14 : SCode := .loop b6_13
def b6_15 : SCode := .block 0 b6_14
def b6_16 : SCode := .seq b6_1 b6_15
abbrev r6_17 : List MOper := [⟨(some 2), .move (.c (.bool true)), none⟩]
def b6_17 : SCode := .region r6_17
def b6_18 : SCode := .seq b6_17 .ret
def b6_19 : SCode := .seq b6_16 b6_18
def b6_20 : SCode := .seq b6_0 b6_19
def s6 : SFunc := ⟨31, [.t 2], b6_20⟩
theorem c6 : sFn Try.prog 6 = some s6 := by kernel_rfl
theorem Z6 : XR b6_0 r6_0 ∧ XR b6_1 r6_1 ∧ XR b6_2 r6_2 ∧ XC b6_3 (.t 7) .skip (.exit 0) ∧ XS b6_4 b6_2 b6_3 ∧ XR b6_5 r6_5 ∧ XR b6_6 r6_6 ∧ XS b6_7 b6_6 .ret ∧ XC b6_8 (.t 30) b6_7 .skip ∧ XS b6_9 b6_5 b6_8 ∧ XB b6_10 1 b6_9 ∧ XR b6_11 r6_11 ∧ XS b6_12 b6_10 b6_11 ∧ XS b6_13 b6_4 b6_12 ∧ XB b6_15 0 b6_14 ∧ XS b6_16 b6_1 b6_15 ∧ XR b6_17 r6_17 ∧ XS b6_18 b6_17 .ret ∧ XS b6_19 b6_16 b6_18 ∧ XS b6_20 b6_0 b6_19 ∧ XY s6 31 b6_20 [.t 2] := ⟨rfl, rfl, rfl, sC_cond, rfl, rfl, rfl, rfl, sC_cond, rfl, rfl, rfl, rfl, rfl, rfl, rfl, rfl, rfl, rfl, rfl, rfl⟩

set_option maxHeartbeats 4000000
set_option maxRecDepth 10000
def mloseD (args : List AV) (σ : AHeap) (K : AV → AHeap → Prop) : Prop := ∃ (M S : Nat) (i : Int) (ss : List (List UInt8)) (D : Option Nat), args = [.ptr M 0, .int .i64 i] ∧ i ≤ 9223372036854775807 ∧ Ml σ M S ss D ∧
  (place i ss.length < 0 → K (.bool false) σ) ∧
  (∀ (k : Nat) x, place i ss.length = (k : Int) → ss[k]? = some x → ∀ σ' D', Ml σ' M S (ss.eraseIdx k) D' → FrS σ σ' S D D' → K (.bool true) σ')
theorem mloseD_ok (args : List AV) (σ : AHeap) (K : AV → AHeap → Prop) (h : mloseD args σ K) : Tri Try.prog 14 args σ K := by
  obtain ⟨M, S, i, ss, D, rfl, hi, hm, h0, h1⟩ := h
  refine Tri.of_s c14 U3_sound ?_
  simp only [U3_app, Z14, base1, baseE, ↓reduceIte, Nat.reduceAdd, Nat.reduceSub, Nat.reduceMul, Nat.reduceEqDiff, Nat.reduceLeDiff, Nat.reduceLT, Int.reduceLT, Int.reduceLE, Int.reduceEq, Int.reduceNe, Int.reduceToNat, Int.reduceAdd, Int.reduceSub, reduceCtorEq, Nat.reduceBEq, Nat.reduceBNe]
  refine ⟨M, S, i, ss, D, rfl, hi, hm, ?_⟩
  by_cases hp : place i ss.length < 0
  · simp only [U3_app, Z14, base1, baseE, ↓reduceIte, Nat.reduceAdd, Nat.reduceSub, Nat.reduceMul, Nat.reduceEqDiff, Nat.reduceLeDiff, Nat.reduceLT, Int.reduceLT, Int.reduceLE, Int.reduceEq, Int.reduceNe, Int.reduceToNat, Int.reduceAdd, Int.reduceSub, reduceCtorEq, Nat.reduceBEq, Nat.reduceBNe, hp]
    exact h0 hp
  · obtain ⟨k, hk, hlt, _⟩ := place_some hp
    rw [hk] at hp h0 h1 ⊢
    simp only [U3_app, Z14, base1, baseE, ↓reduceIte, Nat.reduceAdd, Nat.reduceSub, Nat.reduceMul, Nat.reduceEqDiff, Nat.reduceLeDiff, Nat.reduceLT, Int.reduceLT, Int.reduceLE, Int.reduceEq, Int.reduceNe, Int.reduceToNat, Int.reduceAdd, Int.reduceSub, reduceCtorEq, Nat.reduceBEq, Nat.reduceBNe, hp, hm.m]
    refine ⟨S, (k : Int), ss, D, rfl, hm.sp, hm.few, fun hn => by omega, fun k' x hk' hx σ1 D1 hs1 hf1 => ?_⟩
    have : k' = k := by omega
    subst this
    simp only [U3_app, Z14, base1, baseE, ↓reduceIte, Nat.reduceAdd, Nat.reduceSub, Nat.reduceMul, Nat.reduceEqDiff, Nat.reduceLeDiff, Nat.reduceLT, Int.reduceLT, Int.reduceLE, Int.reduceEq, Int.reduceNe, Int.reduceToNat, Int.reduceAdd, Int.reduceSub, reduceCtorEq, Nat.reduceBEq, Nat.reduceBNe]
    exact h1 k' x rfl hx σ1 D1 (hm.next hs1 hf1 (by rw [List.length_eraseIdx, if_pos hlt]; have := hm.few; omega)) hf1
/-! Deeds. -/
structure DeedV where
  do_ : Int
  n : Int
  row : RowV
def DeedV.cells (d : DeedV) : List AV := .int .i64 d.do_ :: .int .i64 d.n :: d.row.cells
theorem deed_do (d : DeedV) : d.cells[0]? = some (.int .i64 d.do_) := rfl
theorem deed_n (d : DeedV) : d.cells[1]? = some (.int .i64 d.n) := rfl
theorem deed_row (d : DeedV) : sub d.cells 2 27 = some d.row.cells := rfl
theorem deed_all (d : DeedV) : sub d.cells 0 29 = some d.cells := rfl
theorem deed_len (d : DeedV) : d.cells.length = 29 := rfl
theorem deed_cell (d : DeedV) : (d.cells.all fun x => x.isCell) = true := rfl
theorem deed_d2 (d : DeedV) : d.cells.drop 2 = d.row.cells := rfl
theorem row_d23 (r : RowV) : (r.cells.drop 23)[0]? = some (.imm (r.l.map recC) false false) := rfl
theorem row_len (r : RowV) : r.cells.length = 27 := rfl
theorem deed_pure (d : DeedV) : pureL d.cells = true := by
  have := row_pure d.row
  simp only [AV.pure] at this
  simp only [DeedV.cells, pureL, AV.pure, this, Bool.and_self]
def T6 : PCall := rowQ 16 smallD noCall
theorem T6_app {f : FuncId} {args : List AV} {σ : AHeap} {K : AV → AHeap → Prop} : T6 f args σ K = rowQ 16 smallD noCall f args σ K := _root_.id rfl
theorem T6_sound : Sound Try.prog T6 := rowQ_sound smallD_ok (noCall_sound _)
structure DeedsSmall (l : List DeedV) : Prop where
  len : l.length ≤ 100
  row : ∀ d ∈ l, d.row.smallP
def SdQ (l : List DeedV) (r : AV) (_ : AHeap) : Prop := ∃ b, r = .bool b ∧ (b = true → DeedsSmall l)
def sdlI (l : List DeedV) (m : Nat) (e : Env) (σ : AHeap) : Prop :=
  ∃ i : Nat, i ≤ l.length ∧ i ≤ 100 ∧ m = l.length - i ∧ (∀ d ∈ l.take i, d.row.smallP) ∧ e 0 = .imm (l.map DeedV.cells) false false ∧ e 3 = .int .i64 (i : Int)
theorem sdl_step (l : List DeedV) (hl : l.length ≤ big) (hok : ∀ d ∈ l, d.row.okS) (m : Nat) (e : Env) (σ : AHeap) (h : sdlI l m e σ) :
    sC T6 0 b6_13 (unw T6 0 (loopR T6 0 (RetQ [.t 2] (SdQ l)) (.block 0 (.seq b6_18 .fin)) (sdlI l) m) .fin) e σ := by
  obtain ⟨i, hi, h100, hm, hs, e0, e3⟩ := h
  have hmap : (l.map DeedV.cells).length = l.length := by simp
  simp only [big] at hl
  rcases Nat.lt_or_ge i l.length with hlt | hge
  · have hlt' : (i : Int) < (l.length : Int) := by omega
    have hge0 : (0 : Int) ≤ (i : Int) := by omega
    obtain ⟨d, hd⟩ : ∃ d, l[i]? = some d := ⟨_, List.getElem?_eq_getElem hlt⟩
    have hdd : (l.map DeedV.cells)[i]? = some d.cells := by simp [hd]
    have hwr : IntKind.wrap .i64 ((i : Int) + 1) = ((i + 1 : Nat) : Int) := by rw [Gz.wrap64 (by omega)]; omega
    have htk : l.take (i + 1) = l.take i ++ [d] := by rw [List.take_add_one, hd]; rfl
    by_cases hb : (100 : Int) ≤ (i : Int)
    · simp only [T6_app, Z6, base1, ↓reduceIte, Nat.reduceAdd, Nat.reduceSub, Nat.reduceMul, Nat.reduceEqDiff, Nat.reduceLeDiff, Nat.reduceLT, Int.reduceLT, Int.reduceLE, Int.reduceEq, Int.reduceNe, Int.reduceToNat, Int.reduceAdd, Int.reduceSub, reduceCtorEq, Nat.reduceBEq, Nat.reduceBNe, loopR_exit, loopR_ret, lenOf_imm, e0, e3, hmap, hlt', hb]
      exact ⟨false, rfl, fun h => by cases h⟩
    · simp only [T6_app, Z6, base1, ↓reduceIte, Nat.reduceAdd, Nat.reduceSub, Nat.reduceMul, Nat.reduceEqDiff, Nat.reduceLeDiff, Nat.reduceLT, Int.reduceLT, Int.reduceLE, Int.reduceEq, Int.reduceNe, Int.reduceToNat, Int.reduceAdd, Int.reduceSub, reduceCtorEq, Nat.reduceBEq, Nat.reduceBNe, loopR_exit, loopR_ret, lenOf_imm, e0, e3, hmap, hlt', hlt, hge0, Int.toNat_natCast, hb, hdd, deed_d2, sub_row, row_d23, deed_len]
      refine ⟨d.row, rfl, hok d (List.mem_of_getElem? hd), fun b hb' => ?_⟩
      cases b with
      | false =>
        simp only [T6_app, Z6, base1, ↓reduceIte, Nat.reduceAdd, Nat.reduceSub, Nat.reduceMul, Nat.reduceEqDiff, Nat.reduceLeDiff, Nat.reduceLT, Int.reduceLT, Int.reduceLE, Int.reduceEq, Int.reduceNe, Int.reduceToNat, Int.reduceAdd, Int.reduceSub, reduceCtorEq, Nat.reduceBEq, Nat.reduceBNe, loopR_exit, loopR_ret]
        exact ⟨false, rfl, fun h => by cases h⟩
      | true =>
        have hrl : (d.row.l.map recC).length = d.row.l.length := by simp
        cases h20 : decide ((20 : Int) < (d.row.l.length : Int)) with
        | true =>
          simp only [T6_app, Z6, base1, ↓reduceIte, Nat.reduceAdd, Nat.reduceSub, Nat.reduceMul, Nat.reduceEqDiff, Nat.reduceLeDiff, Nat.reduceLT, Int.reduceLT, Int.reduceLE, Int.reduceEq, Int.reduceNe, Int.reduceToNat, Int.reduceAdd, Int.reduceSub, reduceCtorEq, Nat.reduceBEq, Nat.reduceBNe, loopR_exit, loopR_ret, lenOf_imm, e0, e3, hmap, hlt', hlt, hge0, Int.toNat_natCast, hb, hdd, deed_d2, sub_row, row_d23, deed_len, lenOf_imm, hrl, h20]
          exact ⟨false, rfl, fun h => by cases h⟩
        | false =>
          simp only [T6_app, Z6, base1, ↓reduceIte, Nat.reduceAdd, Nat.reduceSub, Nat.reduceMul, Nat.reduceEqDiff, Nat.reduceLeDiff, Nat.reduceLT, Int.reduceLT, Int.reduceLE, Int.reduceEq, Int.reduceNe, Int.reduceToNat, Int.reduceAdd, Int.reduceSub, reduceCtorEq, Nat.reduceBEq, Nat.reduceBNe, loopR_exit, loopR_ret, lenOf_imm, e0, e3, hmap, hlt', hlt, hge0, Int.toNat_natCast, hb, hdd, deed_d2, sub_row, row_d23, deed_len, lenOf_imm, hrl, h20, hwr]
          rw [loopR_normal]
          refine ⟨l.length - (i + 1), _, _, by omega, .refl _ _ _, i + 1, hlt, by omega, rfl, fun x hx => ?_, e0, rfl⟩
          rw [htk] at hx
          rcases List.mem_append.1 hx with h | h
          · exact hs x h
          · simp at h; subst h; exact hb' rfl
  · have hlt' : ¬ (i : Int) < (l.length : Int) := by omega
    have hie : i = l.length := by omega
    subst hie
    rw [List.take_length] at hs
    simp only [T6_app, Z6, base1, ↓reduceIte, Nat.reduceAdd, Nat.reduceSub, Nat.reduceMul, Nat.reduceEqDiff, Nat.reduceLeDiff, Nat.reduceLT, Int.reduceLT, Int.reduceLE, Int.reduceEq, Int.reduceNe, Int.reduceToNat, Int.reduceAdd, Int.reduceSub, reduceCtorEq, Nat.reduceBEq, Nat.reduceBNe, loopR_exit, loopR_ret, lenOf_imm, e0, e3, hmap, hlt']
    exact ⟨true, rfl, fun _ => ⟨h100, hs⟩⟩
theorem deeds_ok (l : List DeedV) (hl : l.length ≤ big) (hok : ∀ d ∈ l, d.row.okS) : Tri Try.prog 6 [.imm (l.map DeedV.cells) false false] [] fun r _ => r.pure = true ∧ ∃ b, r = .bool b ∧ (b = true → DeedsSmall l) := by
  have key : Tri Try.prog 6 [.imm (l.map DeedV.cells) false false] [] (SdQ l) := by
    refine Tri.of_s c6 T6_sound ?_
    simp only [T6_app, Z6, base1, baseE, ↓reduceIte, Nat.reduceAdd, Nat.reduceSub, Nat.reduceMul, Nat.reduceEqDiff, Nat.reduceLeDiff, Nat.reduceLT, Int.reduceLT, Int.reduceLE, Int.reduceEq, Int.reduceNe, Int.reduceToNat, Int.reduceAdd, Int.reduceSub, reduceCtorEq, Nat.reduceBEq, Nat.reduceBNe]
    exact sC_inv (a := b6_13) (sdlI l) l.length _ _ (.refl _ _ _) ⟨0, Nat.zero_le _, by omega, rfl, (fun d hd => by simp at hd), rfl, rfl⟩ (sdl_step l hl hok)
  exact key.mono fun r _ ⟨b, h1, h2⟩ => ⟨by rw [h1]; rfl, b, h1, h2⟩
def deedsD (args : List AV) (σ : AHeap) (K : AV → AHeap → Prop) : Prop := ∃ l : List DeedV, args = [.imm (l.map DeedV.cells) false false] ∧ l.length ≤ big ∧ (∀ d ∈ l, d.row.okS) ∧ ∀ b, (b = true → DeedsSmall l) → K (.bool b) σ
theorem deedsD_ok (args : List AV) (σ : AHeap) (K : AV → AHeap → Prop) (h : deedsD args σ K) : Tri Try.prog 6 args σ K := by
  obtain ⟨l, rfl, hl, hok, h⟩ := h
  have hp : pureLL (l.map DeedV.cells) = true := pureLL_of fun r hr => by
    obtain ⟨x, _, rfl⟩ := List.mem_map.1 hr
    exact deed_pure x
  exact (Tri.pureD (by simp only [pureL, AV.pure, hp, Bool.and_self]) (deeds_ok l hl hok) σ).mono fun x σ' ⟨⟨b, h1, h2⟩, h3⟩ => by rw [h1, h3]; exact h b h2
/-! One is taken out. -/
theorem cut_grow {σ : AHeap} {d k w b : Nat} {rows : List (List AV)} (hb : b ≤ 1000) (hd : hget σ d = some rows.flatten) (hlen : ∀ r ∈ rows, r.length = w) (hall : rows.flatten.all (fun x => x.isCell) = true) (hk : k < rows.length) (hbig : rows.length ≤ 1000000) :
    ∃ v1 τ1 v τ, evAppend w b (.slice σ.length 0 0 (some 0) w) (.slice d 0 k none w) (hpush σ []) = some (v1, τ1) ∧ v1.isCell = true ∧ v1.cells? = some [v1] ∧
      evAppend w b v1 (.slice d ((k + 1) * w) (rows.length - (k + 1)) none w) τ1 = some (v, τ) ∧ v.isCell = true ∧ v.cells? = some [v] ∧ (∀ j c, hget σ j = some c → hget τ j = some c ∧ LvD v ≠ some j) ∧ Grow τ v w (rows.eraseIdx k) := by
  have hfl : ∀ q : List (List AV), (∀ r ∈ q, r.length = w) → q.flatten.length = q.length * w := fun q hq => flat_len hq
  have hsplit : rows.flatten = (rows.take k).flatten ++ (rows.drop k).flatten := by rw [← List.flatten_append, List.take_append_drop]
  have hsplit2 : rows.flatten = (rows.take (k + 1)).flatten ++ (rows.drop (k + 1)).flatten := by rw [← List.flatten_append, List.take_append_drop]
  have ht : ∀ n, ∀ r ∈ rows.take n, r.length = w := fun n r hr => hlen r (List.mem_of_mem_take hr)
  have hdr : ∀ n, ∀ r ∈ rows.drop n, r.length = w := fun n r hr => hlen r (List.mem_of_mem_drop hr)
  have lt : (rows.take k).flatten.length = k * w := by rw [hfl _ (ht k), List.length_take, Nat.min_eq_left (by omega)]
  have lt1 : (rows.take (k + 1)).flatten.length = (k + 1) * w := by rw [hfl _ (ht (k + 1)), List.length_take, Nat.min_eq_left (by omega)]
  have ld1 : (rows.drop (k + 1)).flatten.length = (rows.length - (k + 1)) * w := by rw [hfl _ (hdr (k + 1)), List.length_drop]
  have s1 : sub rows.flatten 0 (k * w) = some (rows.take k).flatten := by
    unfold sub
    rw [if_pos (by rw [hsplit, List.length_append, lt]; omega), List.drop_zero, hsplit, List.take_append_of_le_length (by omega), List.take_of_length_le (by omega)]
  have s2 : sub rows.flatten ((k + 1) * w) ((rows.length - (k + 1)) * w) = some (rows.drop (k + 1)).flatten := by
    unfold sub
    rw [if_pos (by rw [hsplit2, List.length_append, lt1, ld1]; omega), hsplit2, List.drop_append, List.drop_eq_nil_of_le (by omega), lt1, Nat.sub_self, List.drop_zero, List.nil_append, List.take_of_length_le (by omega)]
  have c1 : (rows.take k).flatten.all (fun x => x.isCell) = true := by rw [hsplit, List.all_append] at hall; exact (Bool.and_eq_true _ _ ▸ hall).1
  have c2 : (rows.drop (k + 1)).flatten.all (fun x => x.isCell) = true := by rw [hsplit2, List.all_append] at hall; exact (Bool.and_eq_true _ _ ▸ hall).2
  have hdl := hget_lt hd
  have e1 : elemsOf (hpush σ []) w (.slice d 0 k none w) = some (rows.take k).flatten := by
    simp only [elemsOf, if_true, push_old hd, Option.bind_some]; exact s1
  have gr : ∀ n, n ≤ 1000000 → mayGrow n b = true := fun n hn => by
    simp only [mayGrow, decide_eq_true_eq]
    have : (2 * n + 768) * b ≤ (2 * n + 768) * 1000 := Nat.mul_le_mul_left _ hb
    omega
  have l1 : lenOf (.slice d 0 k none w) = some k := rfl
  have l0 : lenOf (.slice σ.length 0 0 (some 0) w) = some 0 := rfl
  have ha : evAppend w b (.slice σ.length 0 0 (some 0) w) (.slice d 0 k none w) (hpush σ []) = some (.slice (σ.length + 1) 0 k none w, hpush (hpush σ []) (rows.take k).flatten) := by
    simp only [evAppend, e1, l1, l0, gr (0 + k) (by omega), c1, Bool.and_self, if_true, grown, push_len]
  have g1 : Grow (hpush (hpush σ []) (rows.take k).flatten) (.slice (σ.length + 1) 0 k none w) w (rows.take k) :=
    .inr ⟨σ.length + 1, by rw [List.length_take, Nat.min_eq_left (by omega)], push_new (by simp [push_len]), ht k, c1⟩
  have e2 : elemsOf (hpush (hpush σ []) (rows.take k).flatten) w (.slice d ((k + 1) * w) (rows.length - (k + 1)) none w) = some (rows.drop (k + 1)).flatten := by
    simp only [elemsOf, if_true, push_old (push_old hd), Option.bind_some]; exact s2
  obtain ⟨v, τ, a1, a2, a3, a4, a5⟩ := grow_any (ys := rows.drop (k + 1)) hb g1 (by simp; omega) e2 (by show some _ = _; rw [List.length_drop]) (hdr (k + 1)) c2
  refine ⟨_, _, v, τ, ha, rfl, rfl, a1, a2, a3, fun j c hj => a4 j c (push_old (push_old hj)) (by have := hget_lt hj; simp only [LvD, ne_eq, Option.some.injEq]; omega), ?_⟩
  rw [List.eraseIdx_eq_take_drop_succ]; exact a5
end Go.Proofs.Ytndlgmciplckjab.note
