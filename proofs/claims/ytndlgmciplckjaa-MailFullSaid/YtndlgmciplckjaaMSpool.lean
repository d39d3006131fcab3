/- Spools of texts: what is pushed, looked at, picked. No condition. -/
import Derived.Test.YtndlgmciplckjaaK35
import Derived.Test.YtndlgmciplckjaaNAsk
set_option linter.unusedVariables false
set_option linter.unusedSimpArgs false
namespace Go.Proofs.Ytndlgmciplckjaa.note
open Go.ChangeShapes Go.WideShapes Go.ChangeAt Go.RowKit Go.Gz
abbrev r80_0 : List MOper := [⟨(some 6), .move (.c (.nilslice)), none⟩]
def b80_0 : SCode := .region r80_0
abbrev r80_1 : List MOper := [⟨(some 8), .move (.t 0), none⟩,
  ⟨(some 9), .move (.t 1), none⟩,
  ⟨(some 10), .move (.t 2), none⟩,
  ⟨(some 11), .move (.t 0), none⟩,
  ⟨(some 12), .lenSl (.t 11), none⟩,
  ⟨(some 13), .slice 1 (.t 8) (some (.t 9)) (some (.t 10)) (some (.t 12)), none⟩]
def b80_1 : SCode := .region r80_1
abbrev r80_2 : List MOper := [⟨(some 14), .move (.t 1), none⟩,
  ⟨(some 15), .move (.t 2), none⟩,
  ⟨(some 16), .bin .eql .num (.t 14) (.t 15), none⟩]
def b80_2 : SCode := .region r80_2
abbrev r80_3 : List MOper := [⟨(some 17), .move (.t 0), none⟩,
  ⟨(some 6), .move (.t 17), none⟩]
def b80_3 : SCode := .region r80_3
def b80_4 : SCode := .seq b80_3 .ret
def b80_5 : SCode := .cond (.t 16) b80_4 .skip
def b80_6 : SCode := .seq b80_2 b80_5
abbrev r80_7 : List MOper := [⟨(some 18), .move (.t 0), none⟩,
  ⟨(some 19), .lenSl (.t 18), none⟩,
  ⟨(some 7), .move (.t 19), none⟩]
def b80_7 : SCode := .region r80_7
abbrev t80_8 : LTree := (.quiet ⟨(some 20), .move (.t 0), none⟩ 0
  (.quiet ⟨(some 21), .move (.t 1), none⟩ 1
  (.quiet ⟨(some 22), .slice 1 (.t 20) none (some (.t 21)) none, none⟩ 2
  (.quiet ⟨(some 23), .move (.t 0), none⟩ 3
  (.quiet ⟨(some 24), .move (.t 2), none⟩ 4
  (.quiet ⟨(some 25), .slice 1 (.t 23) (some (.t 24)) none none, none⟩ 5
  (.loud ⟨(some 26), .append 1 16 (.t 22) (.t 25), none⟩ []
  (.quiet ⟨(some 0), .move (.t 26), none⟩ 7
  .leaf) .stop)))))))
def b80_8 : SCode := .draw t80_8
abbrev r80_9 : List MOper := [⟨(some 27), .move (.t 0), none⟩,
  ⟨(some 28), .move (.t 0), none⟩,
  ⟨(some 29), .lenSl (.t 28), none⟩,
  ⟨(some 30), .move (.t 7), none⟩,
  ⟨(some 31), .slice 1 (.t 27) (some (.t 29)) (some (.t 30)) none, none⟩,
  ⟨none, .copy 1 (.t 31) (.c (.agg [.str []])), none⟩]
def b80_9 : SCode := .region r80_9
abbrev r80_10 : List MOper := [⟨(some 32), .move (.t 0), none⟩,
  ⟨(some 6), .move (.t 32), none⟩]
def b80_10 : SCode := .region r80_10
def b80_11 : SCode := .seq b80_10 .ret
def b80_12 : SCode := .seq b80_9 b80_11
def b80_13 : SCode := .seq b80_8 b80_12
def b80_14 : SCode := .seq b80_7 b80_13
def b80_15 : SCode := .seq b80_6 b80_14
def b80_16 : SCode := .seq b80_1 b80_15
def b80_17 : SCode := .seq b80_0 b80_16
def s80 : SFunc := ⟨33, [.t 6], b80_17⟩
theorem c80 : sFn Try.prog 80 = some s80 := by kernel_rfl
theorem Z80 : XR b80_0 r80_0 ∧ XR b80_1 r80_1 ∧ XR b80_2 r80_2 ∧ XR b80_3 r80_3 ∧ XS b80_4 b80_3 .ret ∧ XC b80_5 (.t 16) b80_4 .skip ∧ XS b80_6 b80_2 b80_5 ∧ XR b80_7 r80_7 ∧ XT b80_8 t80_8 ∧ XR b80_9 r80_9 ∧ XR b80_10 r80_10 ∧ XS b80_11 b80_10 .ret ∧ XS b80_12 b80_9 b80_11 ∧ XS b80_13 b80_8 b80_12 ∧ XS b80_14 b80_7 b80_13 ∧ XS b80_15 b80_6 b80_14 ∧ XS b80_16 b80_1 b80_15 ∧ XS b80_17 b80_0 b80_16 ∧ XY s80 33 b80_17 [.t 6] := ⟨rfl, rfl, rfl, rfl, rfl, sC_cond, rfl, rfl, rfl, rfl, rfl, rfl, rfl, rfl, rfl, rfl, rfl, rfl, rfl⟩

set_option maxHeartbeats 4000000
set_option maxRecDepth 10000
theorem lenOf_nilS : lenOf .nilslice = some 0 := _root_.id rfl
/-! Delete. -/
abbrev strs (ss : List (List UInt8)) : List AV := ss.map AV.str
theorem sub_mid {ss : List (List UInt8)} {J : List AV} {i : Nat} (hi : i < ss.length) : sub (strs ss ++ J) (i + 1) (ss.length - (i + 1)) = some (strs (ss.drop (i + 1))) := by
  unfold sub
  rw [if_pos (by simp; omega)]
  congr 1
  rw [List.drop_append_of_le_length (by simp; omega), List.take_append_of_le_length (by simp)]
  rw [List.take_of_length_le (by simp)]
  simp [strs, List.map_drop]
theorem put_mid {ss : List (List UInt8)} {J : List AV} {i : Nat} (hi : i < ss.length) : put (strs ss ++ J) i (strs (ss.drop (i + 1))) = some (strs (ss.eraseIdx i) ++ (AV.str (ss.getLast?.getD []) :: J)) := by
  unfold put
  rw [if_pos (by simp; omega)]
  congr 1
  have hne : ss ≠ [] := by intro h; subst h; simp at hi
  have e1 : i + (strs (ss.drop (i + 1))).length = ss.length - 1 := by simp; omega
  rw [e1, List.take_append_of_le_length (by simp; omega), List.drop_append_of_le_length (by simp)]
  have e2 : (strs ss).drop (ss.length - 1) = [AV.str (ss.getLast?.getD [])] := by
    have h1 : ss.drop (ss.length - 1) = [ss.getLast?.getD []] := by
      rw [List.drop_eq_getElem_cons (by omega), List.drop_eq_nil_of_le (by omega)]
      congr 1
      rw [List.getLast?_eq_getElem?, List.getElem?_eq_getElem (by omega)]; rfl
    rw [← List.map_drop, h1]; rfl
  rw [e2, List.eraseIdx_eq_take_drop_succ]
  simp [strs, List.map_take, List.map_drop]
theorem clr_last {ss : List (List UInt8)} {x : List UInt8} {J : List AV} : put (strs ss ++ (AV.str x :: J)) ss.length [AV.str []] = some (strs ss ++ (AV.str [] :: J)) := by
  unfold put
  rw [if_pos (by simp)]
  congr 1
  rw [List.take_append_of_le_length (by simp), List.take_of_length_le (by simp)]
  rw [List.append_assoc]
  congr 1
  simp
  rw [List.drop_append]
  simp
theorem delete_ok (σ : AHeap) (D : Nat) (ss : List (List UInt8)) (J : List AV) (i : Nat) (hi : i < ss.length) (hb : ss.length ≤ 1000000) (hD : hget σ D = some (strs ss ++ J)) :
    Tri Try.prog 80 [.slice D 0 ss.length none 1, .int .i64 (i : Int), .int .i64 ((i + 1 : Nat) : Int)] σ fun r σ' => r = .slice D 0 (ss.length - 1) none 1 ∧ σ' = hset σ D (strs (ss.eraseIdx i) ++ (AV.str [] :: J)) := by
  refine Tri.tell (Q := fun r σ' => ∃ c, r = .slice D 0 (ss.length - 1) (some c) 1 ∧ σ' = hset σ D (strs (ss.eraseIdx i) ++ (AV.str [] :: J))) (Tri.ofCap fun c hc => Tri.of_s c80 (noCall_sound _) ?_) (fun r σ' ⟨c, h1, h2⟩ => ⟨.slice D 0 (ss.length - 1) none 1, fun C v hv => uncap (by rw [h1] at hv; exact hv), rfl, h2⟩)
  have hc0 : ¬ c = 0 := by omega
  have l0 : lenOf (.slice D 0 ss.length (some c) 1) = some ss.length := rfl
  have i0 : (0 : Int) ≤ (i : Int) := by omega
  have hi1 : ¬ (i : Int) = ((i + 1 : Nat) : Int) := by omega
  have lE : (ss.eraseIdx i).length = ss.length - 1 := by rw [List.length_eraseIdx, if_pos hi]
  have hs1 : evSlice 1 (.slice D 0 ss.length (some c) 1) (some (.int .i64 (i : Int))) (some (.int .i64 ((i + 1 : Nat) : Int))) (some (.int .i64 (ss.length : Int))) = some (.slice D i 1 (some (ss.length - i)) 1) := by
    have b1 : bound? (some (.int .i64 (ss.length : Int))) c c = some ss.length := by rw [bound_int, if_pos (by omega), if_pos (by omega)]; simp
    have b2 : bound? (some (.int .i64 ((i + 1 : Nat) : Int))) ss.length ss.length = some (i + 1) := by rw [bound_int, if_pos (by omega), if_pos (by omega)]; simp
    have b3 : bound? (some (.int .i64 (i : Int))) 0 (i + 1) = some i := by rw [bound_int, if_pos (by omega), if_pos (by omega)]; simp
    simp only [evSlice, topOf, b1, b2, b3]
    rw [if_pos ⟨by omega, by omega, trivial⟩]
    simp
  have hs2 : evSlice 1 (.slice D 0 ss.length (some c) 1) none (some (.int .i64 (i : Int))) none = some (.slice D 0 i (some c) 1) := by
    have b1 : bound? none c c = some c := rfl
    have b2 : bound? (some (.int .i64 (i : Int))) ss.length c = some i := by rw [bound_int, if_pos (by omega), if_pos (by omega)]; simp
    have b3 : bound? none 0 i = some 0 := rfl
    simp only [evSlice, topOf, b1, b2, b3]
    rw [if_pos ⟨by omega, by omega, trivial⟩]
    simp
  have hs3 : evSlice 1 (.slice D 0 ss.length (some c) 1) (some (.int .i64 ((i + 1 : Nat) : Int))) none none = some (.slice D (i + 1) (ss.length - (i + 1)) (some (c - (i + 1))) 1) := by
    have b1 : bound? none c c = some c := rfl
    have b2 : bound? none ss.length c = some ss.length := rfl
    have b3 : bound? (some (.int .i64 ((i + 1 : Nat) : Int))) 0 ss.length = some (i + 1) := by rw [bound_int, if_pos (by omega), if_pos (by omega)]; simp
    simp only [evSlice, topOf, b1, b2, b3]
    rw [if_pos ⟨by omega, by omega, trivial⟩]
    simp
  have ha : evAppend 1 16 (.slice D 0 i (some c) 1) (.slice D (i + 1) (ss.length - (i + 1)) (some (c - (i + 1))) 1) σ = some (.slice D 0 (ss.length - 1) (some c) 1, hset σ D (strs (ss.eraseIdx i) ++ (AV.str (ss.getLast?.getD []) :: J))) := by
    have e1 : elemsOf σ 1 (.slice D (i + 1) (ss.length - (i + 1)) (some (c - (i + 1))) 1) = some (strs (ss.drop (i + 1))) := by
      simp only [elemsOf, if_true, hD, Option.bind_some, Nat.mul_one]; exact sub_mid hi
    have l1 : lenOf (.slice D (i + 1) (ss.length - (i + 1)) (some (c - (i + 1))) 1) = some (ss.length - (i + 1)) := rfl
    have l2 : lenOf (.slice D 0 i (some c) 1) = some i := rfl
    have hg : mayGrow (i + (ss.length - (i + 1))) 16 = true := by simp only [mayGrow, decide_eq_true_eq]; omega
    have hcell : (strs (ss.drop (i + 1))).all (fun x => x.isCell) = true := by
      rw [List.all_eq_true]; intro x hx
      obtain ⟨y, _, rfl⟩ := List.mem_map.1 hx
      rfl
    have hle : i + (ss.length - (i + 1)) ≤ c := by omega
    have hp := put_mid (J := J) hi
    simp only [evAppend, e1, l1, l2, hg, hcell, Bool.and_self, if_true, if_neg hc0, if_pos hle, hD, Option.bind_some, Nat.mul_one, Nat.zero_add, hp, Option.map_some]
    rw [show i + (ss.length - (i + 1)) = ss.length - 1 by omega]
  have l3 : lenOf (.slice D 0 (ss.length - 1) (some c) 1) = some (ss.length - 1) := rfl
  have hs4 : evSlice 1 (.slice D 0 (ss.length - 1) (some c) 1) (some (.int .i64 ((ss.length - 1 : Nat) : Int))) (some (.int .i64 (ss.length : Int))) none = some (.slice D (ss.length - 1) 1 (some (c - (ss.length - 1))) 1) := by
    have b1 : bound? none c c = some c := rfl
    have b2 : bound? (some (.int .i64 (ss.length : Int))) (ss.length - 1) c = some ss.length := by rw [bound_int, if_pos (by omega), if_pos (by omega)]; simp
    have b3 : bound? (some (.int .i64 ((ss.length - 1 : Nat) : Int))) 0 ss.length = some (ss.length - 1) := by rw [bound_int, if_pos (by omega), if_pos (by omega)]; simp
    simp only [evSlice, topOf, b1, b2, b3]
    rw [if_pos ⟨by omega, by omega, trivial⟩]
    simp; omega
  have hD2 : hget (hset σ D (strs (ss.eraseIdx i) ++ (AV.str (ss.getLast?.getD []) :: J))) D = some (strs (ss.eraseIdx i) ++ (AV.str (ss.getLast?.getD []) :: J)) := set_same hD
  have hcl : evCopy 1 (.slice D (ss.length - 1) 1 (some (c - (ss.length - 1))) 1) (.agg [.str []]) (hset σ D (strs (ss.eraseIdx i) ++ (AV.str (ss.getLast?.getD []) :: J))) = some (.tuple [], hset σ D (strs (ss.eraseIdx i) ++ (AV.str [] :: J))) := by
    have hp := clr_last (ss := ss.eraseIdx i) (x := ss.getLast?.getD []) (J := J)
    rw [lE] at hp
    simp only [evCopy, hD2, Option.bind_some, List.replicate_succ, List.replicate_zero, List.flatten_cons, List.flatten_nil, List.append_nil, hp, Option.map_some, set_set]
    rfl
  simp only [Z80, base1, ↓reduceIte, Nat.reduceAdd, Nat.reduceSub, Nat.reduceMul, Nat.reduceEqDiff, Nat.reduceLeDiff, Nat.reduceLT, Int.reduceLT, Int.reduceLE, Int.reduceEq, Int.reduceNe, Int.reduceToNat, Int.reduceAdd, Int.reduceSub, reduceCtorEq, Nat.reduceBEq, Nat.reduceBNe, l0, i0, hi1, hs1, hs2, hs3, ha, l3, hs4, hcl]
  exact ⟨c, rfl⟩
def delD (args : List AV) (σ : AHeap) (K : AV → AHeap → Prop) : Prop := ∃ (D : Nat) (ss : List (List UInt8)) (J : List AV) (i : Nat), args = [.slice D 0 ss.length none 1, .int .i64 (i : Int), .int .i64 ((i + 1 : Nat) : Int)] ∧ i < ss.length ∧ ss.length ≤ 1000000 ∧ hget σ D = some (strs ss ++ J) ∧ K (.slice D 0 (ss.length - 1) none 1) (hset σ D (strs (ss.eraseIdx i) ++ (AV.str [] :: J)))
theorem delD_ok (args : List AV) (σ : AHeap) (K : AV → AHeap → Prop) (h : delD args σ K) : Tri Try.prog 80 args σ K := by
  obtain ⟨D, ss, J, i, rfl, h1, h2, h3, h4⟩ := h
  exact (delete_ok σ D ss J i h1 h2 h3).mono fun r σ' hr => by rw [hr.1, hr.2]; exact h4
/-! The spool. -/
abbrev r52_0 : List MOper := [⟨(some 2), .move (.c (.nilptr)), none⟩]
def b52_0 : SCode := .region r52_0
abbrev r52_1 : List MOper := [⟨(some 3), .move (.t 0), none⟩,
  ⟨(some 4), .build [.int .i64 0, .nilslice] [(0, 1, (.t 3))], none⟩,
  ⟨(some 5), .box (.t 4), none⟩,
  ⟨(some 2), .move (.t 5), none⟩]
def b52_1 : SCode := .region r52_1
def b52_2 : SCode := .seq b52_1 .ret
def b52_3 : SCode := .seq b52_0 b52_2
def s52 : SFunc := ⟨6, [.t 2], b52_3⟩
theorem c52 : sFn Try.prog 52 = some s52 := by kernel_rfl
theorem Z52 : XR b52_0 r52_0 ∧ XR b52_1 r52_1 ∧ XS b52_2 b52_1 .ret ∧ XS b52_3 b52_0 b52_2 ∧ XY s52 6 b52_3 [.t 2] := ⟨rfl, rfl, rfl, rfl, rfl⟩
abbrev r53_0 : List MOper := [⟨(some 4), .move (.c (.bool false)), none⟩]
def b53_0 : SCode := .region r53_0
abbrev t53_1 : LTree := (.quiet ⟨(some 5), .move (.t 0), none⟩ 0
  (.quiet ⟨(some 6), .bin .eql .nilp (.t 5) (.c (.nilptr)), none⟩ 1
  (.quiet ⟨(some 7), .move (.t 6), none⟩ 2
  (.quiet ⟨(some 8), .move (.t 0), (some (7, false))⟩ 3
  (.quiet ⟨(some 9), .nilCheck (.t 8), (some (7, false))⟩ 4
  (.quiet ⟨(some 10), .fieldAddr 1 (.t 9), (some (7, false))⟩ 5
  (.quiet ⟨(some 11), .load1 (.t 10), (some (7, false))⟩ 6
  (.quiet ⟨(some 12), .lenSl (.t 11), (some (7, false))⟩ 7
  (.quiet ⟨(some 13), .move (.t 0), (some (7, false))⟩ 8
  (.quiet ⟨(some 14), .nilCheck (.t 13), (some (7, false))⟩ 9
  (.quiet ⟨(some 15), .fieldAddr 0 (.t 14), (some (7, false))⟩ 10
  (.quiet ⟨(some 16), .load1 (.t 15), (some (7, false))⟩ 11
  (.quiet ⟨(some 17), .bin .geq .num (.t 12) (.t 16), (some (7, false))⟩ 12
  (.quiet ⟨(some 18), .pick (.t 7) (.c (.bool true)) (.t 17), none⟩ 13
  .leaf))))))))))))))
def b53_1 : SCode := .draw t53_1
abbrev r53_2 : List MOper := [⟨(some 4), .move (.c (.bool false)), none⟩]
def b53_2 : SCode := .region r53_2
def b53_3 : SCode := .seq b53_2 .ret
def b53_4 : SCode := .cond (.t 18) b53_3 .skip
def b53_5 : SCode := .seq b53_1 b53_4
abbrev r53_6 : List MOper := [⟨(some 19), .move (.t 0), none⟩,
  ⟨(some 20), .move (.t 0), none⟩,
  ⟨(some 21), .nilCheck (.t 20), none⟩,
  ⟨(some 22), .fieldAddr 1 (.t 21), none⟩,
  ⟨(some 23), .load1 (.t 22), none⟩,
  ⟨(some 24), .move (.t 1), none⟩,
  ⟨(some 25), .buildSlice [.str []] 1 1 [(0, 1, (.t 24))], none⟩,
  ⟨(some 26), .append 1 16 (.t 23) (.t 25), none⟩,
  ⟨(some 27), .nilCheck (.t 19), none⟩,
  ⟨(some 28), .fieldAddr 1 (.t 27), none⟩,
  ⟨none, .store 1 (.t 28) (.t 26), none⟩]
def b53_6 : SCode := .region r53_6
abbrev r53_7 : List MOper := [⟨(some 4), .move (.c (.bool true)), none⟩]
def b53_7 : SCode := .region r53_7
def b53_8 : SCode := .seq b53_7 .ret
def b53_9 : SCode := .seq b53_6 b53_8
def b53_10 : SCode := .seq b53_5 b53_9
def b53_11 : SCode := .seq b53_0 b53_10
def s53 : SFunc := ⟨29, [.t 4], b53_11⟩
theorem c53 : sFn Try.prog 53 = some s53 := by kernel_rfl
theorem Z53 : XR b53_0 r53_0 ∧ XT b53_1 t53_1 ∧ XR b53_2 r53_2 ∧ XS b53_3 b53_2 .ret ∧ XC b53_4 (.t 18) b53_3 .skip ∧ XS b53_5 b53_1 b53_4 ∧ XR b53_6 r53_6 ∧ XR b53_7 r53_7 ∧ XS b53_8 b53_7 .ret ∧ XS b53_9 b53_6 b53_8 ∧ XS b53_10 b53_5 b53_9 ∧ XS b53_11 b53_0 b53_10 ∧ XY s53 29 b53_11 [.t 4] := ⟨rfl, rfl, rfl, rfl, sC_cond, rfl, rfl, rfl, rfl, rfl, rfl, rfl, rfl⟩
abbrev r55_0 : List MOper := [⟨(some 4), .move (.c (.str [])), none⟩,
  ⟨(some 5), .move (.c (.bool false)), none⟩]
def b55_0 : SCode := .region r55_0
abbrev r55_1 : List MOper := [⟨(some 7), .move (.t 0), none⟩,
  ⟨(some 8), .bin .eql .nilp (.t 7) (.c (.nilptr)), none⟩,
  ⟨(some 9), .move (.t 8), none⟩,
  ⟨(some 10), .move (.t 1), (some (9, false))⟩,
  ⟨(some 11), .bin .lss .num (.t 10) (.c (.int .i64 0)), (some (9, false))⟩,
  ⟨(some 12), .pick (.t 9) (.c (.bool true)) (.t 11), none⟩,
  ⟨(some 13), .move (.t 12), none⟩,
  ⟨(some 14), .move (.t 1), (some (13, false))⟩,
  ⟨(some 15), .move (.t 0), (some (13, false))⟩,
  ⟨(some 16), .nilCheck (.t 15), (some (13, false))⟩,
  ⟨(some 17), .fieldAddr 1 (.t 16), (some (13, false))⟩,
  ⟨(some 18), .load1 (.t 17), (some (13, false))⟩,
  ⟨(some 19), .lenSl (.t 18), (some (13, false))⟩,
  ⟨(some 20), .bin .geq .num (.t 14) (.t 19), (some (13, false))⟩,
  ⟨(some 21), .pick (.t 13) (.c (.bool true)) (.t 20), none⟩]
def b55_1 : SCode := .region r55_1
abbrev r55_2 : List MOper := [⟨(some 6), .move (.c (.str [])), none⟩]
def b55_2 : SCode := .region r55_2
abbrev r55_3 : List MOper := [⟨(some 22), .move (.t 6), none⟩,
  ⟨(some 4), .move (.t 22), none⟩,
  ⟨(some 5), .move (.c (.bool false)), none⟩]
def b55_3 : SCode := .region r55_3
def b55_4 : SCode := .seq b55_3 .ret
def b55_5 : SCode := .seq b55_2 b55_4
def b55_6 : SCode := .cond (.t 21) b55_5 .skip
def b55_7 : SCode := .seq b55_1 b55_6
abbrev r55_8 : List MOper := [⟨(some 23), .move (.t 0), none⟩,
  ⟨(some 24), .nilCheck (.t 23), none⟩,
  ⟨(some 25), .fieldAddr 1 (.t 24), none⟩,
  ⟨(some 26), .load1 (.t 25), none⟩,
  ⟨(some 27), .move (.t 1), none⟩,
  ⟨(some 28), .indexAddr 1 (.t 26) (.t 27), none⟩,
  ⟨(some 29), .load1 (.t 28), none⟩,
  ⟨(some 4), .move (.t 29), none⟩,
  ⟨(some 5), .move (.c (.bool true)), none⟩]
def b55_8 : SCode := .region r55_8
def b55_9 : SCode := .seq b55_8 .ret
def b55_10 : SCode := .seq b55_7 b55_9
def b55_11 : SCode := .seq b55_0 b55_10
def s55 : SFunc := ⟨30, [.t 4, .t 5], b55_11⟩
theorem c55 : sFn Try.prog 55 = some s55 := by kernel_rfl
theorem Z55 : XR b55_0 r55_0 ∧ XR b55_1 r55_1 ∧ XR b55_2 r55_2 ∧ XR b55_3 r55_3 ∧ XS b55_4 b55_3 .ret ∧ XS b55_5 b55_2 b55_4 ∧ XC b55_6 (.t 21) b55_5 .skip ∧ XS b55_7 b55_1 b55_6 ∧ XR b55_8 r55_8 ∧ XS b55_9 b55_8 .ret ∧ XS b55_10 b55_7 b55_9 ∧ XS b55_11 b55_0 b55_10 ∧ XY s55 30 b55_11 [.t 4, .t 5] := ⟨rfl, rfl, rfl, rfl, rfl, rfl, sC_cond, rfl, rfl, rfl, rfl, rfl, rfl⟩
abbrev r56_0 : List MOper := [⟨(some 2), .move (.c (.int .i64 0)), none⟩]
def b56_0 : SCode := .region r56_0
abbrev r56_1 : List MOper := [⟨(some 3), .move (.t 0), none⟩,
  ⟨(some 4), .bin .eql .nilp (.t 3) (.c (.nilptr)), none⟩]
def b56_1 : SCode := .region r56_1
abbrev r56_2 : List MOper := [⟨(some 2), .move (.c (.int .i64 0)), none⟩]
def b56_2 : SCode := .region r56_2
def b56_3 : SCode := .seq b56_2 .ret
def b56_4 : SCode := .cond (.t 4) b56_3 .skip
def b56_5 : SCode := .seq b56_1 b56_4
abbrev r56_6 : List MOper := [⟨(some 5), .move (.t 0), none⟩,
  ⟨(some 6), .nilCheck (.t 5), none⟩,
  ⟨(some 7), .fieldAddr 1 (.t 6), none⟩,
  ⟨(some 8), .load1 (.t 7), none⟩,
  ⟨(some 9), .lenSl (.t 8), none⟩,
  ⟨(some 2), .move (.t 9), none⟩]
def b56_6 : SCode := .region r56_6
def b56_7 : SCode := .seq b56_6 .ret
def b56_8 : SCode := .seq b56_5 b56_7
def b56_9 : SCode := .seq b56_0 b56_8
def s56 : SFunc := ⟨10, [.t 2], b56_9⟩
theorem c56 : sFn Try.prog 56 = some s56 := by kernel_rfl
theorem Z56 : XR b56_0 r56_0 ∧ XR b56_1 r56_1 ∧ XR b56_2 r56_2 ∧ XS b56_3 b56_2 .ret ∧ XC b56_4 (.t 4) b56_3 .skip ∧ XS b56_5 b56_1 b56_4 ∧ XR b56_6 r56_6 ∧ XS b56_7 b56_6 .ret ∧ XS b56_8 b56_5 b56_7 ∧ XS b56_9 b56_0 b56_8 ∧ XY s56 10 b56_9 [.t 2] := ⟨rfl, rfl, rfl, rfl, sC_cond, rfl, rfl, rfl, rfl, rfl, rfl⟩
abbrev r57_0 : List MOper := [⟨(some 4), .move (.c (.str [])), none⟩,
  ⟨(some 5), .move (.c (.bool false)), none⟩]
def b57_0 : SCode := .region r57_0
abbrev r57_1 : List MOper := [⟨(some 9), .move (.t 0), none⟩,
  ⟨(some 10), .move (.t 1), none⟩,
  ⟨(some 11), .call 55 [(.t 9), (.t 10)], none⟩,
  ⟨(some 8), .move (.t 11), none⟩,
  ⟨(some 12), .extract (.t 8) 0, none⟩,
  ⟨(some 13), .extract (.t 8) 1, none⟩,
  ⟨(some 6), .move (.t 12), none⟩,
  ⟨(some 7), .move (.t 13), none⟩]
def b57_1 : SCode := .region r57_1
abbrev r57_2 : List MOper := [⟨(some 14), .move (.t 7), none⟩]
def b57_2 : SCode := .region r57_2
abbrev r57_3 : List MOper := [⟨(some 15), .move (.t 0), none⟩,
  ⟨(some 16), .move (.t 0), none⟩,
  ⟨(some 17), .nilCheck (.t 16), none⟩,
  ⟨(some 18), .fieldAddr 1 (.t 17), none⟩,
  ⟨(some 19), .load1 (.t 18), none⟩,
  ⟨(some 20), .move (.t 1), none⟩,
  ⟨(some 21), .move (.t 1), none⟩,
  ⟨(some 22), .bin .add .num (.t 21) (.c (.int .i64 1)), none⟩,
  ⟨(some 23), .call 80 [(.t 19), (.t 20), (.t 22)], none⟩,
  ⟨(some 24), .nilCheck (.t 15), none⟩,
  ⟨(some 25), .fieldAddr 1 (.t 24), none⟩,
  ⟨none, .store 1 (.t 25) (.t 23), none⟩]
def b57_3 : SCode := .region r57_3
def b57_4 : SCode := .cond (.t 14) b57_3 .skip
def b57_5 : SCode := .seq b57_2 b57_4
abbrev r57_6 : List MOper := [⟨(some 26), .move (.t 6), none⟩,
  ⟨(some 27), .move (.t 7), none⟩,
  ⟨(some 4), .move (.t 26), none⟩,
  ⟨(some 5), .move (.t 27), none⟩]
def b57_6 : SCode := .region r57_6
def b57_7 : SCode := .seq b57_6 .ret
def b57_8 : SCode := .seq b57_5 b57_7
def b57_9 : SCode := .seq b57_1 b57_8
def b57_10 : SCode := .seq b57_0 b57_9
def s57 : SFunc := ⟨28, [.t 4, .t 5], b57_10⟩
theorem c57 : sFn Try.prog 57 = some s57 := by kernel_rfl
theorem Z57 : XR b57_0 r57_0 ∧ XR b57_1 r57_1 ∧ XR b57_2 r57_2 ∧ XR b57_3 r57_3 ∧ XC b57_4 (.t 14) b57_3 .skip ∧ XS b57_5 b57_2 b57_4 ∧ XR b57_6 r57_6 ∧ XS b57_7 b57_6 .ret ∧ XS b57_8 b57_5 b57_7 ∧ XS b57_9 b57_1 b57_8 ∧ XS b57_10 b57_0 b57_9 ∧ XY s57 28 b57_10 [.t 4, .t 5] := ⟨rfl, rfl, rfl, rfl, sC_cond, rfl, rfl, rfl, rfl, rfl, rfl, rfl⟩

/-- A spool at a block: its texts, in which block they lie. -/
def Sp (σ : AHeap) (S : Nat) (ss : List (List UInt8)) (D : Option Nat) : Prop :=
  (D = none ∧ ss = [] ∧ hget σ S = some [.int .i64 512, .nilslice]) ∨ (∃ d J, D = some d ∧ d ≠ S ∧ hget σ S = some [.int .i64 512, .slice d 0 ss.length none 1] ∧ hget σ d = some (strs ss ++ J))
/-- All but the spool stays. -/
def FrS (σ σ' : AHeap) (S : Nat) (D D' : Option Nat) : Prop := ∀ j c, hget σ j = some c → j ≠ S → D ≠ some j → hget σ' j = some c ∧ D' ≠ some j
theorem FrS.refl (σ : AHeap) (S : Nat) (D : Option Nat) : FrS σ σ S D D := fun j c hj _ h2 => ⟨hj, h2⟩
theorem FrS.trans {σ σ' σ'' : AHeap} {S : Nat} {D D' D'' : Option Nat} (h : FrS σ σ' S D D') (k : FrS σ' σ'' S D' D'') : FrS σ σ'' S D D'' := fun j c hj h1 h2 => by
  obtain ⟨a, b⟩ := h j c hj h1 h2
  exact k j c a h1 b
theorem sp_new {σ : AHeap} : Sp (hpush σ [.int .i64 512, .nilslice]) σ.length [] none := .inl ⟨rfl, rfl, push_new rfl⟩
theorem sp_frame {σ σ' : AHeap} {S : Nat} {ss : List (List UInt8)} {D : Option Nat} (h : Sp σ S ss D) (hf : ∀ j c, hget σ j = some c → (j = S ∨ D = some j) → hget σ' j = some c) : Sp σ' S ss D := by
  rcases h with ⟨rfl, rfl, h⟩ | ⟨d, J, rfl, hd, h, hb⟩
  · exact .inl ⟨rfl, rfl, hf _ _ h (.inl rfl)⟩
  · exact .inr ⟨d, J, rfl, hd, hf _ _ h (.inl rfl), hf _ _ hb (.inr rfl)⟩
def newD (args : List AV) (σ : AHeap) (K : AV → AHeap → Prop) : Prop := args = [.int .i64 512] ∧ K (.ptr σ.length 0) (hpush σ [.int .i64 512, .nilslice])
theorem newD_ok (args : List AV) (σ : AHeap) (K : AV → AHeap → Prop) (h : newD args σ K) : Tri Try.prog 52 args σ K := by
  obtain ⟨rfl, h⟩ := h
  refine Tri.of_s c52 (noCall_sound _) ?_
  simp only [Z52, base1, baseE, ↓reduceIte, Nat.reduceAdd, Nat.reduceSub, Nat.reduceMul, Nat.reduceEqDiff, Nat.reduceLeDiff, Nat.reduceLT, Int.reduceLT, Int.reduceLE, Int.reduceEq, Int.reduceNe, Int.reduceToNat, Int.reduceAdd, Int.reduceSub, reduceCtorEq, Nat.reduceBEq, Nat.reduceBNe]
  exact h
def slenD (args : List AV) (σ : AHeap) (K : AV → AHeap → Prop) : Prop := ∃ (S : Nat) (ss : List (List UInt8)) (D : Option Nat), args = [.ptr S 0] ∧ Sp σ S ss D ∧ K (.int .i64 (ss.length : Int)) σ
theorem slenD_ok (args : List AV) (σ : AHeap) (K : AV → AHeap → Prop) (h : slenD args σ K) : Tri Try.prog 56 args σ K := by
  obtain ⟨S, ss, D, rfl, hs, h⟩ := h
  refine Tri.of_s c56 (noCall_sound _) ?_
  rcases hs with ⟨rfl, rfl, hg⟩ | ⟨d, J, rfl, hd, hg, hb⟩
  · simp only [Z56, base1, baseE, ↓reduceIte, Nat.reduceAdd, Nat.reduceSub, Nat.reduceMul, Nat.reduceEqDiff, Nat.reduceLeDiff, Nat.reduceLT, Int.reduceLT, Int.reduceLE, Int.reduceEq, Int.reduceNe, Int.reduceToNat, Int.reduceAdd, Int.reduceSub, reduceCtorEq, Nat.reduceBEq, Nat.reduceBNe, hg]
    exact h
  · simp only [Z56, base1, baseE, ↓reduceIte, Nat.reduceAdd, Nat.reduceSub, Nat.reduceMul, Nat.reduceEqDiff, Nat.reduceLeDiff, Nat.reduceLT, Int.reduceLT, Int.reduceLE, Int.reduceEq, Int.reduceNe, Int.reduceToNat, Int.reduceAdd, Int.reduceSub, reduceCtorEq, Nat.reduceBEq, Nat.reduceBNe, hg]
    exact h
def pushD (args : List AV) (σ : AHeap) (K : AV → AHeap → Prop) : Prop := ∃ (S : Nat) (x : List UInt8) (ss : List (List UInt8)) (D : Option Nat), args = [.ptr S 0, .str x] ∧ Sp σ S ss D ∧
  (512 ≤ ss.length → K (.bool false) σ) ∧ (ss.length < 512 → ∀ σ' D', Sp σ' S (ss ++ [x]) D' → FrS σ σ' S D D' → K (.bool true) σ')
theorem pushD_ok (args : List AV) (σ : AHeap) (K : AV → AHeap → Prop) (h : pushD args σ K) : Tri Try.prog 53 args σ K := by
  obtain ⟨S, x, ss, D, rfl, hs, h0, h1⟩ := h
  refine Tri.of_s c53 (noCall_sound _) ?_
  rcases hs with ⟨rfl, rfl, hg⟩ | ⟨d, J, rfl, hd, hg, hb⟩
  · have hl := hget_lt hg
    have e1 : elemsOf (hpush σ [AV.str x]) 1 (.slice σ.length 0 1 (some 1) 1) = some [.str x] := by
      simp only [elemsOf, if_true, push_new rfl, Option.bind_some, Nat.mul_one]; exact sub_all rfl
    have ha : evAppend 1 16 .nilslice (.slice σ.length 0 1 (some 1) 1) (hpush σ [AV.str x]) = some (.slice (σ.length + 1) 0 1 none 1, hpush (hpush σ [AV.str x]) [.str x]) := by
      have l0 : lenOf .nilslice = some 0 := rfl
      have l1 : lenOf (.slice σ.length 0 1 (some 1) 1) = some 1 := rfl
      have hm : mayGrow (0 + 1) 16 = true := rfl
      have hc : ([AV.str x].all fun x => x.isCell) = true := rfl
      simp only [evAppend, e1, l0, l1, hm, hc, Bool.and_self, if_true, grown, push_len]
      rfl
    have g1 : hget (hpush (hpush σ [AV.str x]) [.str x]) S = some [.int .i64 512, .nilslice] := push_old (push_old hg)
    have gp : hget (hpush σ [AV.str x]) S = some [.int .i64 512, .nilslice] := push_old hg
    simp only [Z53, base1, ↓reduceIte, Nat.reduceAdd, Nat.reduceSub, Nat.reduceMul, Nat.reduceEqDiff, Nat.reduceLeDiff, Nat.reduceLT, Int.reduceLT, Int.reduceLE, Int.reduceEq, Int.reduceNe, Int.reduceToNat, Int.reduceAdd, Int.reduceSub, reduceCtorEq, Nat.reduceBEq, Nat.reduceBNe, lenOf_nilS, hg, gp, ha, g1]
    refine h1 (by simp) _ (some (σ.length + 1)) (.inr ⟨σ.length + 1, [], rfl, by omega, set_same g1, ?_⟩) (fun j c hj hjS _ => ⟨?_, ?_⟩)
    · rw [set_other (by omega)]; exact push_new (by simp [push_len])
    · rw [set_other (fun e => hjS e.symm)]; exact push_old (push_old hj)
    · have := hget_lt hj; intro e; cases e; omega
  · have hl := hget_lt hg
    have hdl := hget_lt hb
    have ls : lenOf (.slice d 0 ss.length none 1) = some ss.length := rfl
    by_cases hf : (512 : Int) ≤ (ss.length : Int)
    · simp only [Z53, base1, ↓reduceIte, Nat.reduceAdd, Nat.reduceSub, Nat.reduceMul, Nat.reduceEqDiff, Nat.reduceLeDiff, Nat.reduceLT, Int.reduceLT, Int.reduceLE, Int.reduceEq, Int.reduceNe, Int.reduceToNat, Int.reduceAdd, Int.reduceSub, reduceCtorEq, Nat.reduceBEq, Nat.reduceBNe, ls, hg, hf]
      exact h0 (by omega)
    · have hlt : ss.length < 512 := by omega
      have bD : hget (hpush σ [AV.str x]) d = some (strs ss ++ J) := push_old hb
      have e1 : elemsOf (hpush σ [AV.str x]) 1 (.slice σ.length 0 1 (some 1) 1) = some [.str x] := by
        simp only [elemsOf, if_true, push_new rfl, Option.bind_some, Nat.mul_one]; exact sub_all rfl
      have e2 : elemsOf (hpush σ [AV.str x]) 1 (.slice d 0 ss.length none 1) = some (strs ss) := by
        simp only [elemsOf, if_true, bD, Option.bind_some, Nat.mul_one]
        unfold sub
        rw [if_pos (by simp)]
        congr 1
        rw [List.drop_zero, List.take_append_of_le_length (by simp), List.take_of_length_le (by simp)]
      have ha : evAppend 1 16 (.slice d 0 ss.length none 1) (.slice σ.length 0 1 (some 1) 1) (hpush σ [AV.str x]) = some (.slice (σ.length + 1) 0 (ss.length + 1) none 1, hpush (hkill (hpush σ [AV.str x]) d) (strs (ss ++ [x]))) := by
        have l1 : lenOf (.slice σ.length 0 1 (some 1) 1) = some 1 := rfl
        have hm : mayGrow (ss.length + 1) 16 = true := by simp only [mayGrow, decide_eq_true_eq]; omega
        have hc : ([AV.str x].all fun x => x.isCell) = true := rfl
        simp only [evAppend, e1, e2, ls, l1, hm, hc, Bool.and_self, if_true, grown, push_len, kill_len, Option.map_some]
        simp [strs]
      have g1 : hget (hpush (hkill (hpush σ [AV.str x]) d) (strs (ss ++ [x]))) S = some [.int .i64 512, .slice d 0 ss.length none 1] := push_old ((kill_other hd).trans (push_old hg))
      have gp : hget (hpush σ [AV.str x]) S = some [.int .i64 512, .slice d 0 ss.length none 1] := push_old hg
      simp only [Z53, base1, ↓reduceIte, Nat.reduceAdd, Nat.reduceSub, Nat.reduceMul, Nat.reduceEqDiff, Nat.reduceLeDiff, Nat.reduceLT, Int.reduceLT, Int.reduceLE, Int.reduceEq, Int.reduceNe, Int.reduceToNat, Int.reduceAdd, Int.reduceSub, reduceCtorEq, Nat.reduceBEq, Nat.reduceBNe, ls, hg, hf, gp, ha, g1]
      refine h1 hlt _ (some (σ.length + 1)) (.inr ⟨σ.length + 1, [], rfl, by omega, ?_, ?_⟩) (fun j c hj hjS hjD => ⟨?_, ?_⟩)
      · rw [set_same g1]; simp
      · rw [set_other (by omega)]; rw [List.append_nil]; exact push_new (by simp [push_len, kill_len])
      · rw [set_other (fun e => hjS e.symm)]; exact push_old ((kill_other (fun e => hjD (by rw [e]))).trans (push_old hj))
      · have := hget_lt hj; intro e; cases e; omega
def atD (args : List AV) (σ : AHeap) (K : AV → AHeap → Prop) : Prop := ∃ (S : Nat) (i : Int) (ss : List (List UInt8)) (D : Option Nat), args = [.ptr S 0, .int .i64 i] ∧ Sp σ S ss D ∧ ss.length ≤ 512 ∧
  (i < 0 ∨ (ss.length : Int) ≤ i → K (.tuple [.str [], .bool false]) σ) ∧ (∀ (k : Nat) x, i = (k : Int) → ss[k]? = some x → K (.tuple [.str x, .bool true]) σ)
theorem atD_ok (args : List AV) (σ : AHeap) (K : AV → AHeap → Prop) (h : atD args σ K) : Tri Try.prog 55 args σ K := by
  obtain ⟨S, i, ss, D, rfl, hs, hl, h0, h1⟩ := h
  refine Tri.of_s c55 (noCall_sound _) ?_
  by_cases hn : i < 0
  · simp only [Z55, base1, baseE, ↓reduceIte, Nat.reduceAdd, Nat.reduceSub, Nat.reduceMul, Nat.reduceEqDiff, Nat.reduceLeDiff, Nat.reduceLT, Int.reduceLT, Int.reduceLE, Int.reduceEq, Int.reduceNe, Int.reduceToNat, Int.reduceAdd, Int.reduceSub, reduceCtorEq, Nat.reduceBEq, Nat.reduceBNe, hn]
    exact h0 (.inl hn)
  · rcases hs with ⟨rfl, rfl, hg⟩ | ⟨d, J, rfl, hd, hg, hb⟩
    · have hge : (0 : Int) ≤ i := by omega
      simp only [Z55, base1, baseE, ↓reduceIte, Nat.reduceAdd, Nat.reduceSub, Nat.reduceMul, Nat.reduceEqDiff, Nat.reduceLeDiff, Nat.reduceLT, Int.reduceLT, Int.reduceLE, Int.reduceEq, Int.reduceNe, Int.reduceToNat, Int.reduceAdd, Int.reduceSub, reduceCtorEq, Nat.reduceBEq, Nat.reduceBNe, hn, hg, hge]
      exact h0 (.inr (by simpa using hge))
    · by_cases hge : (ss.length : Int) ≤ i
      · simp only [Z55, base1, baseE, ↓reduceIte, Nat.reduceAdd, Nat.reduceSub, Nat.reduceMul, Nat.reduceEqDiff, Nat.reduceLeDiff, Nat.reduceLT, Int.reduceLT, Int.reduceLE, Int.reduceEq, Int.reduceNe, Int.reduceToNat, Int.reduceAdd, Int.reduceSub, reduceCtorEq, Nat.reduceBEq, Nat.reduceBNe, hn, hg, hge]
        exact h0 (.inr hge)
      · obtain ⟨k, rfl⟩ := Int.eq_ofNat_of_zero_le (by omega : 0 ≤ i)
        have hk : k < ss.length := by omega
        have hk0 : (0 : Int) ≤ (k : Int) := by omega
        obtain ⟨x, hx⟩ : ∃ x, ss[k]? = some x := ⟨_, List.getElem?_eq_getElem hk⟩
        have hxx : (strs ss ++ J)[k]? = some (.str x) := by
          rw [List.getElem?_append_left (by simpa using hk)]; simp [strs, hx]
        simp only [Z55, base1, baseE, ↓reduceIte, Nat.reduceAdd, Nat.reduceSub, Nat.reduceMul, Nat.reduceEqDiff, Nat.reduceLeDiff, Nat.reduceLT, Int.reduceLT, Int.reduceLE, Int.reduceEq, Int.reduceNe, Int.reduceToNat, Int.reduceAdd, Int.reduceSub, reduceCtorEq, Nat.reduceBEq, Nat.reduceBNe, hn, hg, hge, hb, hxx, hk, hk0, Int.toNat_natCast]
        exact h1 k x rfl hx
def PK : PCall := rowQ 55 atD (rowQ 80 delD noCall)
theorem PK_app {f : FuncId} {args : List AV} {σ : AHeap} {K : AV → AHeap → Prop} : PK f args σ K = rowQ 55 atD (rowQ 80 delD noCall) f args σ K := _root_.id rfl
theorem PK_sound : Sound Try.prog PK := rowQ_sound atD_ok (rowQ_sound delD_ok (noCall_sound _))
def pickD (args : List AV) (σ : AHeap) (K : AV → AHeap → Prop) : Prop := ∃ (S : Nat) (i : Int) (ss : List (List UInt8)) (D : Option Nat), args = [.ptr S 0, .int .i64 i] ∧ Sp σ S ss D ∧ ss.length ≤ 512 ∧
  (i < 0 ∨ (ss.length : Int) ≤ i → K (.tuple [.str [], .bool false]) σ) ∧ (∀ (k : Nat) x, i = (k : Int) → ss[k]? = some x → ∀ σ' D', Sp σ' S (ss.eraseIdx k) D' → FrS σ σ' S D D' → K (.tuple [.str x, .bool true]) σ')
theorem pickD_ok (args : List AV) (σ : AHeap) (K : AV → AHeap → Prop) (h : pickD args σ K) : Tri Try.prog 57 args σ K := by
  obtain ⟨S, i, ss, D, rfl, hs, hl, h0, h1⟩ := h
  refine Tri.of_s c57 PK_sound ?_
  simp only [PK_app, Z57, base1, baseE, ↓reduceIte, Nat.reduceAdd, Nat.reduceSub, Nat.reduceMul, Nat.reduceEqDiff, Nat.reduceLeDiff, Nat.reduceLT, Int.reduceLT, Int.reduceLE, Int.reduceEq, Int.reduceNe, Int.reduceToNat, Int.reduceAdd, Int.reduceSub, reduceCtorEq, Nat.reduceBEq, Nat.reduceBNe]
  refine ⟨S, i, ss, D, rfl, hs, hl, fun hn => ?_, fun k x hk hx => ?_⟩
  · simp only [PK_app, Z57, base1, baseE, ↓reduceIte, Nat.reduceAdd, Nat.reduceSub, Nat.reduceMul, Nat.reduceEqDiff, Nat.reduceLeDiff, Nat.reduceLT, Int.reduceLT, Int.reduceLE, Int.reduceEq, Int.reduceNe, Int.reduceToNat, Int.reduceAdd, Int.reduceSub, reduceCtorEq, Nat.reduceBEq, Nat.reduceBNe]
    exact h0 hn
  · subst hk
    have hlt := (List.getElem?_eq_some_iff.1 hx).1
    have hw : IntKind.wrap .i64 ((k : Int) + 1) = ((k + 1 : Nat) : Int) := by rw [Gz.wrap64 (by omega)]; omega
    rcases hs with ⟨rfl, rfl, hg⟩ | ⟨d, J, rfl, hd, hg, hb⟩
    · simp at hlt
    · simp only [PK_app, Z57, base1, baseE, ↓reduceIte, Nat.reduceAdd, Nat.reduceSub, Nat.reduceMul, Nat.reduceEqDiff, Nat.reduceLeDiff, Nat.reduceLT, Int.reduceLT, Int.reduceLE, Int.reduceEq, Int.reduceNe, Int.reduceToNat, Int.reduceAdd, Int.reduceSub, reduceCtorEq, Nat.reduceBEq, Nat.reduceBNe, hg, hw]
      refine ⟨d, ss, J, k, rfl, hlt, by omega, hb, ?_⟩
      have g1 : hget (hset σ d (strs (ss.eraseIdx k) ++ (AV.str [] :: J))) S = some [.int .i64 512, .slice d 0 ss.length none 1] := (set_other hd).trans hg
      simp only [PK_app, Z57, base1, baseE, ↓reduceIte, Nat.reduceAdd, Nat.reduceSub, Nat.reduceMul, Nat.reduceEqDiff, Nat.reduceLeDiff, Nat.reduceLT, Int.reduceLT, Int.reduceLE, Int.reduceEq, Int.reduceNe, Int.reduceToNat, Int.reduceAdd, Int.reduceSub, reduceCtorEq, Nat.reduceBEq, Nat.reduceBNe, g1]
      refine h1 k x rfl hx _ (some d) (.inr ⟨d, AV.str [] :: J, rfl, hd, ?_, ?_⟩) (fun j c hj hjS hjD => ⟨?_, hjD⟩)
      · rw [set_same g1, List.length_eraseIdx, if_pos hlt]
      · rw [set_other (fun e => hd e.symm)]; exact set_same hb
      · rw [set_other (fun e => hjS e.symm), set_other (fun e => hjD (by rw [e]))]; exact hj
end Go.Proofs.Ytndlgmciplckjaa.note
