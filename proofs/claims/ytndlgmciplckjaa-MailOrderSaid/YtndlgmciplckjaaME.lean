/- Spools of texts: what is pushed, looked at, picked. No condition. -/
import Derived.Test.YtndlgmciplckjaaK35
import Derived.Test.YtndlgmciplckjaaNA
import Derived.Test.YtndlgmciplckjaaNE
import Derived.Test.YtndlgmciplckjaaNC
import Derived.Test.YtndlgmciplckjaaND
set_option linter.unusedVariables false
set_option linter.unusedSimpArgs false
namespace Go.Proofs.Ytndlgmciplckjaa.note
open Go.ChangeShapes Go.WideShapes Go.ChangeAt Go.RowKit Go.Gz
abbrev r80_0 : List MOper := [⟨(some 6), .move (.c (.nilslice)), none⟩]
def b80_0 : SCode := .region r80_0
abbrev r80_1 : List MOper := [⟨(some 8), .move (.t 0), none⟩,
  ⟨(some 9), .move (.t 1), none⟩,
  ⟨(some 10), .move (.t 2), none⟩,
  ⟨(some 11), .move (.t 0), none⟩,
  ⟨(some 12), .lenSl (.t 11), none⟩,
  ⟨(some 13), .slice 1 (.t 8) (some (.t 9)) (some (.t 10)) (some (.t 12)), none⟩]
def b80_1 : SCode := .region r80_1
abbrev r80_2 : List MOper := [⟨(some 14), .move (.t 1), none⟩,
  ⟨(some 15), .move (.t 2), none⟩,
  ⟨(some 16), .bin .eql .num (.t 14) (.t 15), none⟩]
def b80_2 : SCode := .region r80_2
abbrev r80_3 : List MOper := [⟨(some 17), .move (.t 0), none⟩,
  ⟨(some 6), .move (.t 17), none⟩]
def b80_3 : SCode := .region r80_3
def b80_4 : SCode := .seq b80_3 .ret
def b80_5 : SCode := .cond (.t 16) b80_4 .skip
def b80_6 : SCode := .seq b80_2 b80_5
abbrev r80_7 : List MOper := [⟨(some 18), .move (.t 0), none⟩,
  ⟨(some 19), .lenSl (.t 18), none⟩,
  ⟨(some 7), .move (.t 19), none⟩]
def b80_7 : SCode := .region r80_7
abbrev t80_8 : LTree := (.quiet ⟨(some 20), .move (.t 0), none⟩ 0
  (.quiet ⟨(some 21), .move (.t 1), none⟩ 1
  (.quiet ⟨(some 22), .slice 1 (.t 20) none (some (.t 21)) none, none⟩ 2
  (.quiet ⟨(some 23), .move (.t 0), none⟩ 3
  (.quiet ⟨(some 24), .move (.t 2), none⟩ 4
  (.quiet ⟨(some 25), .slice 1 (.t 23) (some (.t 24)) none none, none⟩ 5
  (.loud ⟨(some 26), .append 1 16 (.t 22) (.t 25), none⟩ []
  (.quiet ⟨(some 0), .move (.t 26), none⟩ 7
  .leaf) .stop)))))))
def b80_8 : SCode := .draw t80_8
abbrev r80_9 : List MOper := [⟨(some 27), .move (.t 0), none⟩,
  ⟨(some 28), .move (.t 0), none⟩,
  ⟨(some 29), .lenSl (.t 28), none⟩,
  ⟨(some 30), .move (.t 7), none⟩,
  ⟨(some 31), .slice 1 (.t 27) (some (.t 29)) (some (.t 30)) none, none⟩,
  ⟨none, .copy 1 (.t 31) (.c (.agg [.str []])), none⟩]
def b80_9 : SCode := .region r80_9
abbrev r80_10 : List MOper := [⟨(some 32), .move (.t 0), none⟩,
  ⟨(some 6), .move (.t 32), none⟩]
def b80_10 : SCode := .region r80_10
def b80_11 : SCode := .seq b80_10 .ret
def b80_12 : SCode := .seq b80_9 b80_11
def b80_13 : SCode := .seq b80_8 b80_12
def b80_14 : SCode := .seq b80_7 b80_13
def b80_15 : SCode := .seq b80_6 b80_14
def b80_16 : SCode := .seq b80_1 b80_15
def b80_17 : SCode := .seq b80_0 b80_16
def s80 : SFunc := ⟨33, [.t 6], b80_17⟩
theorem c80 : sFn Try.prog 80 = some s80 := by kernel_rfl
theorem Z80 : XR b80_0 r80_0 ∧ XR b80_1 r80_1 ∧ XR b80_2 r80_2 ∧ XR b80_3 r80_3 ∧ XS b80_4 b80_3 .ret ∧ XC b80_5 (.t 16) b80_4 .skip ∧ XS b80_6 b80_2 b80_5 ∧ XR b80_7 r80_7 ∧ XT b80_8 t80_8 ∧ XR b80_9 r80_9 ∧ XR b80_10 r80_10 ∧ XS b80_11 b80_10 .ret ∧ XS b80_12 b80_9 b80_11 ∧ XS b80_13 b80_8 b80_12 ∧ XS b80_14 b80_7 b80_13 ∧ XS b80_15 b80_6 b80_14 ∧ XS b80_16 b80_1 b80_15 ∧ XS b80_17 b80_0 b80_16 ∧ XY s80 33 b80_17 [.t 6] := ⟨rfl, rfl, rfl, rfl, rfl, sC_cond, rfl, rfl, rfl, rfl, rfl, rfl, rfl, rfl, rfl, rfl, rfl, rfl, rfl⟩

set_option maxHeartbeats 4000000
set_option maxRecDepth 10000
theorem lenOf_nilS : lenOf .nilslice = some 0 := _root_.id rfl
/-! Delete. -/
abbrev strs (ss : List (List UInt8)) : List AV := ss.map AV.str
theorem sub_mid {ss : List (List UInt8)} {J : List AV} {i : Nat} (hi : i < ss.length) : sub (strs ss ++ J) (i + 1) (ss.length - (i + 1)) = some (strs (ss.drop (i + 1))) := by
  unfold sub
  rw [if_pos (by simp; omega)]
  congr 1
  rw [List.drop_append_of_le_length (by simp; omega), List.take_append_of_le_length (by simp)]
  rw [List.take_of_length_le (by simp)]
  simp [strs, List.map_drop]
theorem put_mid {ss : List (List UInt8)} {J : List AV} {i : Nat} (hi : i < ss.length) : put (strs ss ++ J) i (strs (ss.drop (i + 1))) = some (strs (ss.eraseIdx i) ++ (AV.str (ss.getLast?.getD []) :: J)) := by
  unfold put
  rw [if_pos (by simp; omega)]
  congr 1
  have hne : ss ≠ [] := by intro h; subst h; simp at hi
  have e1 : i + (strs (ss.drop (i + 1))).length = ss.length - 1 := by simp; omega
  rw [e1, List.take_append_of_le_length (by simp; omega), List.drop_append_of_le_length (by simp)]
  have e2 : (strs ss).drop (ss.length - 1) = [AV.str (ss.getLast?.getD [])] := by
    have h1 : ss.drop (ss.length - 1) = [ss.getLast?.getD []] := by
      rw [List.drop_eq_getElem_cons (by omega), List.drop_eq_nil_of_le (by omega)]
      congr 1
      rw [List.getLast?_eq_getElem?, List.getElem?_eq_getElem (by omega)]; rfl
    rw [← List.map_drop, h1]; rfl
  rw [e2, List.eraseIdx_eq_take_drop_succ]
  simp [strs, List.map_take, List.map_drop]
theorem clr_last {ss : List (List UInt8)} {x : List UInt8} {J : List AV} : put (strs ss ++ (AV.str x :: J)) ss.length [AV.str []] = some (strs ss ++ (AV.str [] :: J)) := by
  unfold put
  rw [if_pos (by simp)]
  congr 1
  rw [List.take_append_of_le_length (by simp), List.take_of_length_le (by simp)]
  rw [List.append_assoc]
  congr 1
  simp
  rw [List.drop_append]
  simp
theorem delete_ok (σ : AHeap) (D : Nat) (ss : List (List UInt8)) (J : List AV) (i : Nat) (hi : i < ss.length) (hb : ss.length ≤ 1000000) (hD : hget σ D = some (strs ss ++ J)) :
    Tri Try.prog 80 [.slice D 0 ss.length none 1, .int .i64 (i : Int), .int .i64 ((i + 1 : Nat) : Int)] σ fun r σ' => r = .slice D 0 (ss.length - 1) none 1 ∧ σ' = hset σ D (strs (ss.eraseIdx i) ++ (AV.str [] :: J)) := by
  refine Tri.tell (Q := fun r σ' => ∃ c, r = .slice D 0 (ss.length - 1) (some c) 1 ∧ σ' = hset σ D (strs (ss.eraseIdx i) ++ (AV.str [] :: J))) (Tri.ofCap fun c hc => Tri.of_s c80 (noCall_sound _) ?_) (fun r σ' ⟨c, h1, h2⟩ => ⟨.slice D 0 (ss.length - 1) none 1, fun C v hv => uncap (by rw [h1] at hv; exact hv), rfl, h2⟩)
  have hc0 : ¬ c = 0 := by omega
  have l0 : lenOf (.slice D 0 ss.length (some c) 1) = some ss.length := rfl
  have i0 : (0 : Int) ≤ (i : Int) := by omega
  have hi1 : ¬ (i : Int) = ((i + 1 : Nat) : Int) := by omega
  have lE : (ss.eraseIdx i).length = ss.length - 1 := by rw [List.length_eraseIdx, if_pos hi]
  have hs1 : evSlice 1 (.slice D 0 ss.length (some c) 1) (some (.int .i64 (i : Int))) (some (.int .i64 ((i + 1 : Nat) : Int))) (some (.int .i64 (ss.length : Int))) = some (.slice D i 1 (some (ss.length - i)) 1) := by
    have b1 : bound? (some (.int .i64 (ss.length : Int))) c c = some ss.length := by rw [bound_int, if_pos (by omega), if_pos (by omega)]; simp
    have b2 : bound? (some (.int .i64 ((i + 1 : Nat) : Int))) ss.length ss.length = some (i + 1) := by rw [bound_int, if_pos (by omega), if_pos (by omega)]; simp
    have b3 : bound? (some (.int .i64 (i : Int))) 0 (i + 1) = some i := by rw [bound_int, if_pos (by omega), if_pos (by omega)]; simp
    simp only [evSlice, topOf, b1, b2, b3]
    rw [if_pos ⟨by omega, by omega, trivial⟩]
    simp
  have hs2 : evSlice 1 (.slice D 0 ss.length (some c) 1) none (some (.int .i64 (i : Int))) none = some (.slice D 0 i (some c) 1) := by
    have b1 : bound? none c c = some c := rfl
    have b2 : bound? (some (.int .i64 (i : Int))) ss.length c = some i := by rw [bound_int, if_pos (by omega), if_pos (by omega)]; simp
    have b3 : bound? none 0 i = some 0 := rfl
    simp only [evSlice, topOf, b1, b2, b3]
    rw [if_pos ⟨by omega, by omega, trivial⟩]
    simp
  have hs3 : evSlice 1 (.slice D 0 ss.length (some c) 1) (some (.int .i64 ((i + 1 : Nat) : Int))) none none = some (.slice D (i + 1) (ss.length - (i + 1)) (some (c - (i + 1))) 1) := by
    have b1 : bound? none c c = some c := rfl
    have b2 : bound? none ss.length c = some ss.length := rfl
    have b3 : bound? (some (.int .i64 ((i + 1 : Nat) : Int))) 0 ss.length = some (i + 1) := by rw [bound_int, if_pos (by omega), if_pos (by omega)]; simp
    simp only [evSlice, topOf, b1, b2, b3]
    rw [if_pos ⟨by omega, by omega, trivial⟩]
    simp
  have ha : evAppend 1 16 (.slice D 0 i (some c) 1) (.slice D (i + 1) (ss.length - (i + 1)) (some (c - (i + 1))) 1) σ = some (.slice D 0 (ss.length - 1) (some c) 1, hset σ D (strs (ss.eraseIdx i) ++ (AV.str (ss.getLast?.getD []) :: J))) := by
    have e1 : elemsOf σ 1 (.slice D (i + 1) (ss.length - (i + 1)) (some (c - (i + 1))) 1) = some (strs (ss.drop (i + 1))) := by
      simp only [elemsOf, if_true, hD, Option.bind_some, Nat.mul_one]; exact sub_mid hi
    have l1 : lenOf (.slice D (i + 1) (ss.length - (i + 1)) (some (c - (i + 1))) 1) = some (ss.length - (i + 1)) := rfl
    have l2 : lenOf (.slice D 0 i (some c) 1) = some i := rfl
    have hg : mayGrow (i + (ss.length - (i + 1))) 16 = true := by simp only [mayGrow, decide_eq_true_eq]; omega
    have hcell : (strs (ss.drop (i + 1))).all (fun x => x.isCell) = true := by
      rw [List.all_eq_true]; intro x hx
      obtain ⟨y, _, rfl⟩ := List.mem_map.1 hx
      rfl
    have hle : i + (ss.length - (i + 1)) ≤ c := by omega
    have hp := put_mid (J := J) hi
    simp only [evAppend, e1, l1, l2, hg, hcell, Bool.and_self, if_true, if_neg hc0, if_pos hle, hD, Option.bind_some, Nat.mul_one, Nat.zero_add, hp, Option.map_some]
    rw [show i + (ss.length - (i + 1)) = ss.length - 1 by omega]
  have l3 : lenOf (.slice D 0 (ss.length - 1) (some c) 1) = some (ss.length - 1) := rfl
  have hs4 : evSlice 1 (.slice D 0 (ss.length - 1) (some c) 1) (some (.int .i64 ((ss.length - 1 : Nat) : Int))) (some (.int .i64 (ss.length : Int))) none = some (.slice D (ss.length - 1) 1 (some (c - (ss.length - 1))) 1) := by
    have b1 : bound? none c c = some c := rfl
    have b2 : bound? (some (.int .i64 (ss.length : Int))) (ss.length - 1) c = some ss.length := by rw [bound_int, if_pos (by omega), if_pos (by omega)]; simp
    have b3 : bound? (some (.int .i64 ((ss.length - 1 : Nat) : Int))) 0 ss.length = some (ss.length - 1) := by rw [bound_int, if_pos (by omega), if_pos (by omega)]; simp
    simp only [evSlice, topOf, b1, b2, b3]
    rw [if_pos ⟨by omega, by omega, trivial⟩]
    simp; omega
  have hD2 : hget (hset σ D (strs (ss.eraseIdx i) ++ (AV.str (ss.getLast?.getD []) :: J))) D = some (strs (ss.eraseIdx i) ++ (AV.str (ss.getLast?.getD []) :: J)) := set_same hD
  have hcl : evCopy 1 (.slice D (ss.length - 1) 1 (some (c - (ss.length - 1))) 1) (.agg [.str []]) (hset σ D (strs (ss.eraseIdx i) ++ (AV.str (ss.getLast?.getD []) :: J))) = some (.tuple [], hset σ D (strs (ss.eraseIdx i) ++ (AV.str [] :: J))) := by
    have hp := clr_last (ss := ss.eraseIdx i) (x := ss.getLast?.getD []) (J := J)
    rw [lE] at hp
    simp only [evCopy, hD2, Option.bind_some, List.replicate_succ, List.replicate_zero, List.flatten_cons, List.flatten_nil, List.append_nil, hp, Option.map_some, set_set]
    rfl
  simp only [Z80, base1, ↓reduceIte, Nat.reduceAdd, Nat.reduceSub, Nat.reduceMul, Nat.reduceEqDiff, Nat.reduceLeDiff, Nat.reduceLT, Int.reduceLT, Int.reduceLE, Int.reduceEq, Int.reduceNe, Int.reduceToNat, Int.reduceAdd, Int.reduceSub, reduceCtorEq, Nat.reduceBEq, Nat.reduceBNe, l0, i0, hi1, hs1, hs2, hs3, ha, l3, hs4, hcl]
  exact ⟨c, rfl⟩
def delD (args : List AV) (σ : AHeap) (K : AV → AHeap → Prop) : Prop := ∃ (D : Nat) (ss : List (List UInt8)) (J : List AV) (i : Nat), args = [.slice D 0 ss.length none 1, .int .i64 (i : Int), .int .i64 ((i + 1 : Nat) : Int)] ∧ i < ss.length ∧ ss.length ≤ 1000000 ∧ hget σ D = some (strs ss ++ J) ∧ K (.slice D 0 (ss.length - 1) none 1) (hset σ D (strs (ss.eraseIdx i) ++ (AV.str [] :: J)))
theorem delD_ok (args : List AV) (σ : AHeap) (K : AV → AHeap → Prop) (h : delD args σ K) : Tri Try.prog 80 args σ K := by
  obtain ⟨D, ss, J, i, rfl, h1, h2, h3, h4⟩ := h
  exact (delete_ok σ D ss J i h1 h2 h3).mono fun r σ' hr => by rw [hr.1, hr.2]; exact h4
/-! The spool. -/
abbrev r52_0 : List MOper := [⟨(some 2), .move (.c (.nilptr)), none⟩]
def b52_0 : SCode := .region r52_0
abbrev r52_1 : List MOper := [⟨(some 3), .move (.t 0), none⟩,
  ⟨(some 4), .build [.int .i64 0, .nilslice] [(0, 1, (.t 3))], none⟩,
  ⟨(some 5), .box (.t 4), none⟩,
  ⟨(some 2), .move (.t 5), none⟩]
def b52_1 : SCode := .region r52_1
def b52_2 : SCode := .seq b52_1 .ret
def b52_3 : SCode := .seq b52_0 b52_2
def s52 : SFunc := ⟨6, [.t 2], b52_3⟩
theorem c52 : sFn Try.prog 52 = some s52 := by kernel_rfl
theorem Z52 : XR b52_0 r52_0 ∧ XR b52_1 r52_1 ∧ XS b52_2 b52_1 .ret ∧ XS b52_3 b52_0 b52_2 ∧ XY s52 6 b52_3 [.t 2] := ⟨rfl, rfl, rfl, rfl, rfl⟩
abbrev r53_0 : List MOper := [⟨(some 4), .move (.c (.bool false)), none⟩]
def b53_0 : SCode := .region r53_0
abbrev t53_1 : LTree := (.quiet ⟨(some 5), .move (.t 0), none⟩ 0
  (.quiet ⟨(some 6), .bin .eql .nilp (.t 5) (.c (.nilptr)), none⟩ 1
  (.quiet ⟨(some 7), .move (.t 6), none⟩ 2
  (.quiet ⟨(some 8), .move (.t 0), (some (7, false))⟩ 3
  (.quiet ⟨(some 9), .nilCheck (.t 8), (some (7, false))⟩ 4
  (.quiet ⟨(some 10), .fieldAddr 1 (.t 9), (some (7, false))⟩ 5
  (.quiet ⟨(some 11), .load1 (.t 10), (some (7, false))⟩ 6
  (.quiet ⟨(some 12), .lenSl (.t 11), (some (7, false))⟩ 7
  (.quiet ⟨(some 13), .move (.t 0), (some (7, false))⟩ 8
  (.quiet ⟨(some 14), .nilCheck (.t 13), (some (7, false))⟩ 9
  (.quiet ⟨(some 15), .fieldAddr 0 (.t 14), (some (7, false))⟩ 10
  (.quiet ⟨(some 16), .load1 (.t 15), (some (7, false))⟩ 11
  (.quiet ⟨(some 17), .bin .geq .num (.t 12) (.t 16), (some (7, false))⟩ 12
  (.quiet ⟨(some 18), .pick (.t 7) (.c (.bool true)) (.t 17), none⟩ 13
  .leaf))))))))))))))
def b53_1 : SCode := .draw t53_1
abbrev r53_2 : List MOper := [⟨(some 4), .move (.c (.bool false)), none⟩]
def b53_2 : SCode := .region r53_2
def b53_3 : SCode := .seq b53_2 .ret
def b53_4 : SCode := .cond (.t 18) b53_3 .skip
def b53_5 : SCode := .seq b53_1 b53_4
abbrev r53_6 : List MOper := [⟨(some 19), .move (.t 0), none⟩,
  ⟨(some 20), .move (.t 0), none⟩,
  ⟨(some 21), .nilCheck (.t 20), none⟩,
  ⟨(some 22), .fieldAddr 1 (.t 21), none⟩,
  ⟨(some 23), .load1 (.t 22), none⟩,
  ⟨(some 24), .move (.t 1), none⟩,
  ⟨(some 25), .buildSlice [.str []] 1 1 [(0, 1, (.t 24))], none⟩,
  ⟨(some 26), .append 1 16 (.t 23) (.t 25), none⟩,
  ⟨(some 27), .nilCheck (.t 19), none⟩,
  ⟨(some 28), .fieldAddr 1 (.t 27), none⟩,
  ⟨none, .store 1 (.t 28) (.t 26), none⟩]
def b53_6 : SCode := .region r53_6
abbrev r53_7 : List MOper := [⟨(some 4), .move (.c (.bool true)), none⟩]
def b53_7 : SCode := .region r53_7
def b53_8 : SCode := .seq b53_7 .ret
def b53_9 : SCode := .seq b53_6 b53_8
def b53_10 : SCode := .seq b53_5 b53_9
def b53_11 : SCode := .seq b53_0 b53_10
def s53 : SFunc := ⟨29, [.t 4], b53_11⟩
theorem c53 : sFn Try.prog 53 = some s53 := by kernel_rfl
theorem Z53 : XR b53_0 r53_0 ∧ XT b53_1 t53_1 ∧ XR b53_2 r53_2 ∧ XS b53_3 b53_2 .ret ∧ XC b53_4 (.t 18) b53_3 .skip ∧ XS b53_5 b53_1 b53_4 ∧ XR b53_6 r53_6 ∧ XR b53_7 r53_7 ∧ XS b53_8 b53_7 .ret ∧ XS b53_9 b53_6 b53_8 ∧ XS b53_10 b53_5 b53_9 ∧ XS b53_11 b53_0 b53_10 ∧ XY s53 29 b53_11 [.t 4] := ⟨rfl, rfl, rfl, rfl, sC_cond, rfl, rfl, rfl, rfl, rfl, rfl, rfl, rfl⟩
abbrev r55_0 : List MOper := [⟨(some 4), .move (.c (.str [])), none⟩,
  ⟨(some 5), .move (.c (.bool false)), none⟩]
def b55_0 : SCode := .region r55_0
abbrev r55_1 : List MOper := [⟨(some 7), .move (.t 0), none⟩,
  ⟨(some 8), .bin .eql .nilp (.t 7) (.c (.nilptr)), none⟩,
  ⟨(some 9), .move (.t 8), none⟩,
  ⟨(some 10), .move (.t 1), (some (9, false))⟩,
  ⟨(some 11), .bin .lss .num (.t 10) (.c (.int .i64 0)), (some (9, false))⟩,
  ⟨(some 12), .pick (.t 9) (.c (.bool true)) (.t 11), none⟩,
  ⟨(some 13), .move (.t 12), none⟩,
  ⟨(some 14), .move (.t 1), (some (13, false))⟩,
  ⟨(some 15), .move (.t 0), (some (13, false))⟩,
  ⟨(some 16), .nilCheck (.t 15), (some (13, false))⟩,
  ⟨(some 17), .fieldAddr 1 (.t 16), (some (13, false))⟩,
  ⟨(some 18), .load1 (.t 17), (some (13, false))⟩,
  ⟨(some 19), .lenSl (.t 18), (some (13, false))⟩,
  ⟨(some 20), .bin .geq .num (.t 14) (.t 19), (some (13, false))⟩,
  ⟨(some 21), .pick (.t 13) (.c (.bool true)) (.t 20), none⟩]
def b55_1 : SCode := .region r55_1
abbrev r55_2 : List MOper := [⟨(some 6), .move (.c (.str [])), none⟩]
def b55_2 : SCode := .region r55_2
abbrev r55_3 : List MOper := [⟨(some 22), .move (.t 6), none⟩,
  ⟨(some 4), .move (.t 22), none⟩,
  ⟨(some 5), .move (.c (.bool false)), none⟩]
def b55_3 : SCode := .region r55_3
def b55_4 : SCode := .seq b55_3 .ret
def b55_5 : SCode := .seq b55_2 b55_4
def b55_6 : SCode := .cond (.t 21) b55_5 .skip
def b55_7 : SCode := .seq b55_1 b55_6
abbrev r55_8 : List MOper := [⟨(some 23), .move (.t 0), none⟩,
  ⟨(some 24), .nilCheck (.t 23), none⟩,
  ⟨(some 25), .fieldAddr 1 (.t 24), none⟩,
  ⟨(some 26), .load1 (.t 25), none⟩,
  ⟨(some 27), .move (.t 1), none⟩,
  ⟨(some 28), .indexAddr 1 (.t 26) (.t 27), none⟩,
  ⟨(some 29), .load1 (.t 28), none⟩,
  ⟨(some 4), .move (.t 29), none⟩,
  ⟨(some 5), .move (.c (.bool true)), none⟩]
def b55_8 : SCode := .region r55_8
def b55_9 : SCode := .seq b55_8 .ret
def b55_10 : SCode := .seq b55_7 b55_9
def b55_11 : SCode := .seq b55_0 b55_10
def s55 : SFunc := ⟨30, [.t 4, .t 5], b55_11⟩
theorem c55 : sFn Try.prog 55 = some s55 := by kernel_rfl
theorem Z55 : XR b55_0 r55_0 ∧ XR b55_1 r55_1 ∧ XR b55_2 r55_2 ∧ XR b55_3 r55_3 ∧ XS b55_4 b55_3 .ret ∧ XS b55_5 b55_2 b55_4 ∧ XC b55_6 (.t 21) b55_5 .skip ∧ XS b55_7 b55_1 b55_6 ∧ XR b55_8 r55_8 ∧ XS b55_9 b55_8 .ret ∧ XS b55_10 b55_7 b55_9 ∧ XS b55_11 b55_0 b55_10 ∧ XY s55 30 b55_11 [.t 4, .t 5] := ⟨rfl, rfl, rfl, rfl, rfl, rfl, sC_cond, rfl, rfl, rfl, rfl, rfl, rfl⟩
abbrev r56_0 : List MOper := [⟨(some 2), .move (.c (.int .i64 0)), none⟩]
def b56_0 : SCode := .region r56_0
abbrev r56_1 : List MOper := [⟨(some 3), .move (.t 0), none⟩,
  ⟨(some 4), .bin .eql .nilp (.t 3) (.c (.nilptr)), none⟩]
def b56_1 : SCode := .region r56_1
abbrev r56_2 : List MOper := [⟨(some 2), .move (.c (.int .i64 0)), none⟩]
def b56_2 : SCode := .region r56_2
def b56_3 : SCode := .seq b56_2 .ret
def b56_4 : SCode := .cond (.t 4) b56_3 .skip
def b56_5 : SCode := .seq b56_1 b56_4
abbrev r56_6 : List MOper := [⟨(some 5), .move (.t 0), none⟩,
  ⟨(some 6), .nilCheck (.t 5), none⟩,
  ⟨(some 7), .fieldAddr 1 (.t 6), none⟩,
  ⟨(some 8), .load1 (.t 7), none⟩,
  ⟨(some 9), .lenSl (.t 8), none⟩,
  ⟨(some 2), .move (.t 9), none⟩]
def b56_6 : SCode := .region r56_6
def b56_7 : SCode := .seq b56_6 .ret
def b56_8 : SCode := .seq b56_5 b56_7
def b56_9 : SCode := .seq b56_0 b56_8
def s56 : SFunc := ⟨10, [.t 2], b56_9⟩
theorem c56 : sFn Try.prog 56 = some s56 := by kernel_rfl
theorem Z56 : XR b56_0 r56_0 ∧ XR b56_1 r56_1 ∧ XR b56_2 r56_2 ∧ XS b56_3 b56_2 .ret ∧ XC b56_4 (.t 4) b56_3 .skip ∧ XS b56_5 b56_1 b56_4 ∧ XR b56_6 r56_6 ∧ XS b56_7 b56_6 .ret ∧ XS b56_8 b56_5 b56_7 ∧ XS b56_9 b56_0 b56_8 ∧ XY s56 10 b56_9 [.t 2] := ⟨rfl, rfl, rfl, rfl, sC_cond, rfl, rfl, rfl, rfl, rfl, rfl⟩
abbrev r57_0 : List MOper := [⟨(some 4), .move (.c (.str [])), none⟩,
  ⟨(some 5), .move (.c (.bool false)), none⟩]
def b57_0 : SCode := .region r57_0
abbrev r57_1 : List MOper := [⟨(some 9), .move (.t 0), none⟩,
  ⟨(some 10), .move (.t 1), none⟩,
  ⟨(some 11), .call 55 [(.t 9), (.t 10)], none⟩,
  ⟨(some 8), .move (.t 11), none⟩,
  ⟨(some 12), .extract (.t 8) 0, none⟩,
  ⟨(some 13), .extract (.t 8) 1, none⟩,
  ⟨(some 6), .move (.t 12), none⟩,
  ⟨(some 7), .move (.t 13), none⟩]
def b57_1 : SCode := .region r57_1
abbrev r57_2 : List MOper := [⟨(some 14), .move (.t 7), none⟩]
def b57_2 : SCode := .region r57_2
abbrev r57_3 : List MOper := [⟨(some 15), .move (.t 0), none⟩,
  ⟨(some 16), .move (.t 0), none⟩,
  ⟨(some 17), .nilCheck (.t 16), none⟩,
  ⟨(some 18), .fieldAddr 1 (.t 17), none⟩,
  ⟨(some 19), .load1 (.t 18), none⟩,
  ⟨(some 20), .move (.t 1), none⟩,
  ⟨(some 21), .move (.t 1), none⟩,
  ⟨(some 22), .bin .add .num (.t 21) (.c (.int .i64 1)), none⟩,
  ⟨(some 23), .call 80 [(.t 19), (.t 20), (.t 22)], none⟩,
  ⟨(some 24), .nilCheck (.t 15), none⟩,
  ⟨(some 25), .fieldAddr 1 (.t 24), none⟩,
  ⟨none, .store 1 (.t 25) (.t 23), none⟩]
def b57_3 : SCode := .region r57_3
def b57_4 : SCode := .cond (.t 14) b57_3 .skip
def b57_5 : SCode := .seq b57_2 b57_4
abbrev r57_6 : List MOper := [⟨(some 26), .move (.t 6), none⟩,
  ⟨(some 27), .move (.t 7), none⟩,
  ⟨(some 4), .move (.t 26), none⟩,
  ⟨(some 5), .move (.t 27), none⟩]
def b57_6 : SCode := .region r57_6
def b57_7 : SCode := .seq b57_6 .ret
def b57_8 : SCode := .seq b57_5 b57_7
def b57_9 : SCode := .seq b57_1 b57_8
def b57_10 : SCode := .seq b57_0 b57_9
def s57 : SFunc := ⟨28, [.t 4, .t 5], b57_10⟩
theorem c57 : sFn Try.prog 57 = some s57 := by kernel_rfl
theorem Z57 : XR b57_0 r57_0 ∧ XR b57_1 r57_1 ∧ XR b57_2 r57_2 ∧ XR b57_3 r57_3 ∧ XC b57_4 (.t 14) b57_3 .skip ∧ XS b57_5 b57_2 b57_4 ∧ XR b57_6 r57_6 ∧ XS b57_7 b57_6 .ret ∧ XS b57_8 b57_5 b57_7 ∧ XS b57_9 b57_1 b57_8 ∧ XS b57_10 b57_0 b57_9 ∧ XY s57 28 b57_10 [.t 4, .t 5] := ⟨rfl, rfl, rfl, rfl, sC_cond, rfl, rfl, rfl, rfl, rfl, rfl, rfl⟩

/-- A spool at a block: its texts, in which block they lie. -/
def Sp (σ : AHeap) (S : Nat) (ss : List (List UInt8)) (D : Option Nat) : Prop :=
  (D = none ∧ ss = [] ∧ hget σ S = some [.int .i64 512, .nilslice]) ∨ (∃ d J, D = some d ∧ d ≠ S ∧ hget σ S = some [.int .i64 512, .slice d 0 ss.length none 1] ∧ hget σ d = some (strs ss ++ J))
/-- All but the spool stays. -/
def FrS (σ σ' : AHeap) (S : Nat) (D D' : Option Nat) : Prop := ∀ j c, hget σ j = some c → j ≠ S → D ≠ some j → hget σ' j = some c ∧ D' ≠ some j
theorem FrS.refl (σ : AHeap) (S : Nat) (D : Option Nat) : FrS σ σ S D D := fun j c hj _ h2 => ⟨hj, h2⟩
theorem FrS.trans {σ σ' σ'' : AHeap} {S : Nat} {D D' D'' : Option Nat} (h : FrS σ σ' S D D') (k : FrS σ' σ'' S D' D'') : FrS σ σ'' S D D'' := fun j c hj h1 h2 => by
  obtain ⟨a, b⟩ := h j c hj h1 h2
  exact k j c a h1 b
theorem sp_new {σ : AHeap} : Sp (hpush σ [.int .i64 512, .nilslice]) σ.length [] none := .inl ⟨rfl, rfl, push_new rfl⟩
theorem sp_frame {σ σ' : AHeap} {S : Nat} {ss : List (List UInt8)} {D : Option Nat} (h : Sp σ S ss D) (hf : ∀ j c, hget σ j = some c → (j = S ∨ D = some j) → hget σ' j = some c) : Sp σ' S ss D := by
  rcases h with ⟨rfl, rfl, h⟩ | ⟨d, J, rfl, hd, h, hb⟩
  · exact .inl ⟨rfl, rfl, hf _ _ h (.inl rfl)⟩
  · exact .inr ⟨d, J, rfl, hd, hf _ _ h (.inl rfl), hf _ _ hb (.inr rfl)⟩
def newD (args : List AV) (σ : AHeap) (K : AV → AHeap → Prop) : Prop := args = [.int .i64 512] ∧ K (.ptr σ.length 0) (hpush σ [.int .i64 512, .nilslice])
theorem newD_ok (args : List AV) (σ : AHeap) (K : AV → AHeap → Prop) (h : newD args σ K) : Tri Try.prog 52 args σ K := by
  obtain ⟨rfl, h⟩ := h
  refine Tri.of_s c52 (noCall_sound _) ?_
  simp only [Z52, base1, baseE, ↓reduceIte, Nat.reduceAdd, Nat.reduceSub, Nat.reduceMul, Nat.reduceEqDiff, Nat.reduceLeDiff, Nat.reduceLT, Int.reduceLT, Int.reduceLE, Int.reduceEq, Int.reduceNe, Int.reduceToNat, Int.reduceAdd, Int.reduceSub, reduceCtorEq, Nat.reduceBEq, Nat.reduceBNe]
  exact h
def slenD (args : List AV) (σ : AHeap) (K : AV → AHeap → Prop) : Prop := ∃ (S : Nat) (ss : List (List UInt8)) (D : Option Nat), args = [.ptr S 0] ∧ Sp σ S ss D ∧ K (.int .i64 (ss.length : Int)) σ
theorem slenD_ok (args : List AV) (σ : AHeap) (K : AV → AHeap → Prop) (h : slenD args σ K) : Tri Try.prog 56 args σ K := by
  obtain ⟨S, ss, D, rfl, hs, h⟩ := h
  refine Tri.of_s c56 (noCall_sound _) ?_
  rcases hs with ⟨rfl, rfl, hg⟩ | ⟨d, J, rfl, hd, hg, hb⟩
  · simp only [Z56, base1, baseE, ↓reduceIte, Nat.reduceAdd, Nat.reduceSub, Nat.reduceMul, Nat.reduceEqDiff, Nat.reduceLeDiff, Nat.reduceLT, Int.reduceLT, Int.reduceLE, Int.reduceEq, Int.reduceNe, Int.reduceToNat, Int.reduceAdd, Int.reduceSub, reduceCtorEq, Nat.reduceBEq, Nat.reduceBNe, hg]
    exact h
  · simp only [Z56, base1, baseE, ↓reduceIte, Nat.reduceAdd, Nat.reduceSub, Nat.reduceMul, Nat.reduceEqDiff, Nat.reduceLeDiff, Nat.reduceLT, Int.reduceLT, Int.reduceLE, Int.reduceEq, Int.reduceNe, Int.reduceToNat, Int.reduceAdd, Int.reduceSub, reduceCtorEq, Nat.reduceBEq, Nat.reduceBNe, hg]
    exact h
def pushD (args : List AV) (σ : AHeap) (K : AV → AHeap → Prop) : Prop := ∃ (S : Nat) (x : List UInt8) (ss : List (List UInt8)) (D : Option Nat), args = [.ptr S 0, .str x] ∧ Sp σ S ss D ∧
  (512 ≤ ss.length → K (.bool false) σ) ∧ (ss.length < 512 → ∀ σ' D', Sp σ' S (ss ++ [x]) D' → FrS σ σ' S D D' → K (.bool true) σ')
theorem pushD_ok (args : List AV) (σ : AHeap) (K : AV → AHeap → Prop) (h : pushD args σ K) : Tri Try.prog 53 args σ K := by
  obtain ⟨S, x, ss, D, rfl, hs, h0, h1⟩ := h
  refine Tri.of_s c53 (noCall_sound _) ?_
  rcases hs with ⟨rfl, rfl, hg⟩ | ⟨d, J, rfl, hd, hg, hb⟩
  · have hl := hget_lt hg
    have e1 : elemsOf (hpush σ [AV.str x]) 1 (.slice σ.length 0 1 (some 1) 1) = some [.str x] := by
      simp only [elemsOf, if_true, push_new rfl, Option.bind_some, Nat.mul_one]; exact sub_all rfl
    have ha : evAppend 1 16 .nilslice (.slice σ.length 0 1 (some 1) 1) (hpush σ [AV.str x]) = some (.slice (σ.length + 1) 0 1 none 1, hpush (hpush σ [AV.str x]) [.str x]) := by
      have l0 : lenOf .nilslice = some 0 := rfl
      have l1 : lenOf (.slice σ.length 0 1 (some 1) 1) = some 1 := rfl
      have hm : mayGrow (0 + 1) 16 = true := rfl
      have hc : ([AV.str x].all fun x => x.isCell) = true := rfl
      simp only [evAppend, e1, l0, l1, hm, hc, Bool.and_self, if_true, grown, push_len]
      rfl
    have g1 : hget (hpush (hpush σ [AV.str x]) [.str x]) S = some [.int .i64 512, .nilslice] := push_old (push_old hg)
    have gp : hget (hpush σ [AV.str x]) S = some [.int .i64 512, .nilslice] := push_old hg
    simp only [Z53, base1, ↓reduceIte, Nat.reduceAdd, Nat.reduceSub, Nat.reduceMul, Nat.reduceEqDiff, Nat.reduceLeDiff, Nat.reduceLT, Int.reduceLT, Int.reduceLE, Int.reduceEq, Int.reduceNe, Int.reduceToNat, Int.reduceAdd, Int.reduceSub, reduceCtorEq, Nat.reduceBEq, Nat.reduceBNe, lenOf_nilS, hg, gp, ha, g1]
    refine h1 (by simp) _ (some (σ.length + 1)) (.inr ⟨σ.length + 1, [], rfl, by omega, set_same g1, ?_⟩) (fun j c hj hjS _ => ⟨?_, ?_⟩)
    · rw [set_other (by omega)]; exact push_new (by simp [push_len])
    · rw [set_other (fun e => hjS e.symm)]; exact push_old (push_old hj)
    · have := hget_lt hj; intro e; cases e; omega
  · have hl := hget_lt hg
    have hdl := hget_lt hb
    have ls : lenOf (.slice d 0 ss.length none 1) = some ss.length := rfl
    by_cases hf : (512 : Int) ≤ (ss.length : Int)
    · simp only [Z53, base1, ↓reduceIte, Nat.reduceAdd, Nat.reduceSub, Nat.reduceMul, Nat.reduceEqDiff, Nat.reduceLeDiff, Nat.reduceLT, Int.reduceLT, Int.reduceLE, Int.reduceEq, Int.reduceNe, Int.reduceToNat, Int.reduceAdd, Int.reduceSub, reduceCtorEq, Nat.reduceBEq, Nat.reduceBNe, ls, hg, hf]
      exact h0 (by omega)
    · have hlt : ss.length < 512 := by omega
      have bD : hget (hpush σ [AV.str x]) d = some (strs ss ++ J) := push_old hb
      have e1 : elemsOf (hpush σ [AV.str x]) 1 (.slice σ.length 0 1 (some 1) 1) = some [.str x] := by
        simp only [elemsOf, if_true, push_new rfl, Option.bind_some, Nat.mul_one]; exact sub_all rfl
      have e2 : elemsOf (hpush σ [AV.str x]) 1 (.slice d 0 ss.length none 1) = some (strs ss) := by
        simp only [elemsOf, if_true, bD, Option.bind_some, Nat.mul_one]
        unfold sub
        rw [if_pos (by simp)]
        congr 1
        rw [List.drop_zero, List.take_append_of_le_length (by simp), List.take_of_length_le (by simp)]
      have ha : evAppend 1 16 (.slice d 0 ss.length none 1) (.slice σ.length 0 1 (some 1) 1) (hpush σ [AV.str x]) = some (.slice (σ.length + 1) 0 (ss.length + 1) none 1, hpush (hkill (hpush σ [AV.str x]) d) (strs (ss ++ [x]))) := by
        have l1 : lenOf (.slice σ.length 0 1 (some 1) 1) = some 1 := rfl
        have hm : mayGrow (ss.length + 1) 16 = true := by simp only [mayGrow, decide_eq_true_eq]; omega
        have hc : ([AV.str x].all fun x => x.isCell) = true := rfl
        simp only [evAppend, e1, e2, ls, l1, hm, hc, Bool.and_self, if_true, grown, push_len, kill_len, Option.map_some]
        simp [strs]
      have g1 : hget (hpush (hkill (hpush σ [AV.str x]) d) (strs (ss ++ [x]))) S = some [.int .i64 512, .slice d 0 ss.length none 1] := push_old ((kill_other hd).trans (push_old hg))
      have gp : hget (hpush σ [AV.str x]) S = some [.int .i64 512, .slice d 0 ss.length none 1] := push_old hg
      simp only [Z53, base1, ↓reduceIte, Nat.reduceAdd, Nat.reduceSub, Nat.reduceMul, Nat.reduceEqDiff, Nat.reduceLeDiff, Nat.reduceLT, Int.reduceLT, Int.reduceLE, Int.reduceEq, Int.reduceNe, Int.reduceToNat, Int.reduceAdd, Int.reduceSub, reduceCtorEq, Nat.reduceBEq, Nat.reduceBNe, ls, hg, hf, gp, ha, g1]
      refine h1 hlt _ (some (σ.length + 1)) (.inr ⟨σ.length + 1, [], rfl, by omega, ?_, ?_⟩) (fun j c hj hjS hjD => ⟨?_, ?_⟩)
      · rw [set_same g1]; simp
      · rw [set_other (by omega)]; rw [List.append_nil]; exact push_new (by simp [push_len, kill_len])
      · rw [set_other (fun e => hjS e.symm)]; exact push_old ((kill_other (fun e => hjD (by rw [e]))).trans (push_old hj))
      · have := hget_lt hj; intro e; cases e; omega
def atD (args : List AV) (σ : AHeap) (K : AV → AHeap → Prop) : Prop := ∃ (S : Nat) (i : Int) (ss : List (List UInt8)) (D : Option Nat), args = [.ptr S 0, .int .i64 i] ∧ Sp σ S ss D ∧ ss.length ≤ 512 ∧
  (i < 0 ∨ (ss.length : Int) ≤ i → K (.tuple [.str [], .bool false]) σ) ∧ (∀ (k : Nat) x, i = (k : Int) → ss[k]? = some x → K (.tuple [.str x, .bool true]) σ)
theorem atD_ok (args : List AV) (σ : AHeap) (K : AV → AHeap → Prop) (h : atD args σ K) : Tri Try.prog 55 args σ K := by
  obtain ⟨S, i, ss, D, rfl, hs, hl, h0, h1⟩ := h
  refine Tri.of_s c55 (noCall_sound _) ?_
  by_cases hn : i < 0
  · simp only [Z55, base1, baseE, ↓reduceIte, Nat.reduceAdd, Nat.reduceSub, Nat.reduceMul, Nat.reduceEqDiff, Nat.reduceLeDiff, Nat.reduceLT, Int.reduceLT, Int.reduceLE, Int.reduceEq, Int.reduceNe, Int.reduceToNat, Int.reduceAdd, Int.reduceSub, reduceCtorEq, Nat.reduceBEq, Nat.reduceBNe, hn]
    exact h0 (.inl hn)
  · rcases hs with ⟨rfl, rfl, hg⟩ | ⟨d, J, rfl, hd, hg, hb⟩
    · have hge : (0 : Int) ≤ i := by omega
      simp only [Z55, base1, baseE, ↓reduceIte, Nat.reduceAdd, Nat.reduceSub, Nat.reduceMul, Nat.reduceEqDiff, Nat.reduceLeDiff, Nat.reduceLT, Int.reduceLT, Int.reduceLE, Int.reduceEq, Int.reduceNe, Int.reduceToNat, Int.reduceAdd, Int.reduceSub, reduceCtorEq, Nat.reduceBEq, Nat.reduceBNe, hn, hg, hge]
      exact h0 (.inr (by simpa using hge))
    · by_cases hge : (ss.length : Int) ≤ i
      · simp only [Z55, base1, baseE, ↓reduceIte, Nat.reduceAdd, Nat.reduceSub, Nat.reduceMul, Nat.reduceEqDiff, Nat.reduceLeDiff, Nat.reduceLT, Int.reduceLT, Int.reduceLE, Int.reduceEq, Int.reduceNe, Int.reduceToNat, Int.reduceAdd, Int.reduceSub, reduceCtorEq, Nat.reduceBEq, Nat.reduceBNe, hn, hg, hge]
        exact h0 (.inr hge)
      · obtain ⟨k, rfl⟩ := Int.eq_ofNat_of_zero_le (by omega : 0 ≤ i)
        have hk : k < ss.length := by omega
        have hk0 : (0 : Int) ≤ (k : Int) := by omega
        obtain ⟨x, hx⟩ : ∃ x, ss[k]? = some x := ⟨_, List.getElem?_eq_getElem hk⟩
        have hxx : (strs ss ++ J)[k]? = some (.str x) := by
          rw [List.getElem?_append_left (by simpa using hk)]; simp [strs, hx]
        simp only [Z55, base1, baseE, ↓reduceIte, Nat.reduceAdd, Nat.reduceSub, Nat.reduceMul, Nat.reduceEqDiff, Nat.reduceLeDiff, Nat.reduceLT, Int.reduceLT, Int.reduceLE, Int.reduceEq, Int.reduceNe, Int.reduceToNat, Int.reduceAdd, Int.reduceSub, reduceCtorEq, Nat.reduceBEq, Nat.reduceBNe, hn, hg, hge, hb, hxx, hk, hk0, Int.toNat_natCast]
        exact h1 k x rfl hx
def PK : PCall := rowQ 55 atD (rowQ 80 delD noCall)
theorem PK_app {f : FuncId} {args : List AV} {σ : AHeap} {K : AV → AHeap → Prop} : PK f args σ K = rowQ 55 atD (rowQ 80 delD noCall) f args σ K := _root_.id rfl
theorem PK_sound : Sound Try.prog PK := rowQ_sound atD_ok (rowQ_sound delD_ok (noCall_sound _))
def pickD (args : List AV) (σ : AHeap) (K : AV → AHeap → Prop) : Prop := ∃ (S : Nat) (i : Int) (ss : List (List UInt8)) (D : Option Nat), args = [.ptr S 0, .int .i64 i] ∧ Sp σ S ss D ∧ ss.length ≤ 512 ∧
  (i < 0 ∨ (ss.length : Int) ≤ i → K (.tuple [.str [], .bool false]) σ) ∧ (∀ (k : Nat) x, i = (k : Int) → ss[k]? = some x → ∀ σ' D', Sp σ' S (ss.eraseIdx k) D' → FrS σ σ' S D D' → K (.tuple [.str x, .bool true]) σ')
theorem pickD_ok (args : List AV) (σ : AHeap) (K : AV → AHeap → Prop) (h : pickD args σ K) : Tri Try.prog 57 args σ K := by
  obtain ⟨S, i, ss, D, rfl, hs, hl, h0, h1⟩ := h
  refine Tri.of_s c57 PK_sound ?_
  simp only [PK_app, Z57, base1, baseE, ↓reduceIte, Nat.reduceAdd, Nat.reduceSub, Nat.reduceMul, Nat.reduceEqDiff, Nat.reduceLeDiff, Nat.reduceLT, Int.reduceLT, Int.reduceLE, Int.reduceEq, Int.reduceNe, Int.reduceToNat, Int.reduceAdd, Int.reduceSub, reduceCtorEq, Nat.reduceBEq, Nat.reduceBNe]
  refine ⟨S, i, ss, D, rfl, hs, hl, fun hn => ?_, fun k x hk hx => ?_⟩
  · simp only [PK_app, Z57, base1, baseE, ↓reduceIte, Nat.reduceAdd, Nat.reduceSub, Nat.reduceMul, Nat.reduceEqDiff, Nat.reduceLeDiff, Nat.reduceLT, Int.reduceLT, Int.reduceLE, Int.reduceEq, Int.reduceNe, Int.reduceToNat, Int.reduceAdd, Int.reduceSub, reduceCtorEq, Nat.reduceBEq, Nat.reduceBNe]
    exact h0 hn
  · subst hk
    have hlt := (List.getElem?_eq_some_iff.1 hx).1
    have hw : IntKind.wrap .i64 ((k : Int) + 1) = ((k + 1 : Nat) : Int) := by rw [Gz.wrap64 (by omega)]; omega
    rcases hs with ⟨rfl, rfl, hg⟩ | ⟨d, J, rfl, hd, hg, hb⟩
    · simp at hlt
    · simp only [PK_app, Z57, base1, baseE, ↓reduceIte, Nat.reduceAdd, Nat.reduceSub, Nat.reduceMul, Nat.reduceEqDiff, Nat.reduceLeDiff, Nat.reduceLT, Int.reduceLT, Int.reduceLE, Int.reduceEq, Int.reduceNe, Int.reduceToNat, Int.reduceAdd, Int.reduceSub, reduceCtorEq, Nat.reduceBEq, Nat.reduceBNe, hg, hw]
      refine ⟨d, ss, J, k, rfl, hlt, by omega, hb, ?_⟩
      have g1 : hget (hset σ d (strs (ss.eraseIdx k) ++ (AV.str [] :: J))) S = some [.int .i64 512, .slice d 0 ss.length none 1] := (set_other hd).trans hg
      simp only [PK_app, Z57, base1, baseE, ↓reduceIte, Nat.reduceAdd, Nat.reduceSub, Nat.reduceMul, Nat.reduceEqDiff, Nat.reduceLeDiff, Nat.reduceLT, Int.reduceLT, Int.reduceLE, Int.reduceEq, Int.reduceNe, Int.reduceToNat, Int.reduceAdd, Int.reduceSub, reduceCtorEq, Nat.reduceBEq, Nat.reduceBNe, g1]
      refine h1 k x rfl hx _ (some d) (.inr ⟨d, AV.str [] :: J, rfl, hd, ?_, ?_⟩) (fun j c hj hjS hjD => ⟨?_, hjD⟩)
      · rw [set_same g1, List.length_eraseIdx, if_pos hlt]
      · rw [set_other (fun e => hd e.symm)]; exact set_same hb
      · rw [set_other (fun e => hjS e.symm), set_other (fun e => hjD (by rw [e]))]; exact hj
end Go.Proofs.Ytndlgmciplckjaa.note

/- The network: how many are on their way, what is taken, what is told twice. No condition. -/
set_option linter.unusedVariables false
set_option linter.unusedSimpArgs false
namespace Go.Proofs.Ytndlgmciplckjaa.note
open Go.ChangeShapes Go.WideShapes Go.ChangeAt Go.RowKit Go.Gz
abbrev r19_0 : List MOper := [⟨(some 0), .move (.c (.nilptr)), none⟩]
def b19_0 : SCode := .region r19_0
abbrev r19_1 : List MOper := [⟨(some 1), .call 52 [(.c (.int .i64 512))], none⟩,
  ⟨(some 2), .build [.nilptr] [(0, 1, (.t 1))], none⟩,
  ⟨(some 3), .box (.t 2), none⟩,
  ⟨(some 0), .move (.t 3), none⟩]
def b19_1 : SCode := .region r19_1
def b19_2 : SCode := .seq b19_1 .ret
def b19_3 : SCode := .seq b19_0 b19_2
def s19 : SFunc := ⟨4, [.t 0], b19_3⟩
theorem c19 : sFn Try.prog 19 = some s19 := by kernel_rfl
theorem Z19 : XR b19_0 r19_0 ∧ XR b19_1 r19_1 ∧ XS b19_2 b19_1 .ret ∧ XS b19_3 b19_0 b19_2 ∧ XY s19 4 b19_3 [.t 0] := ⟨rfl, rfl, rfl, rfl, rfl⟩
abbrev r21_0 : List MOper := [⟨(some 4), .move (.c (.bool false)), none⟩]
def b21_0 : SCode := .region r21_0
abbrev r21_1 : List MOper := [⟨(some 7), .move (.t 0), none⟩,
  ⟨(some 8), .move (.t 1), none⟩,
  ⟨(some 9), .call 54 [(.t 7), (.t 8)], none⟩,
  ⟨(some 1), .move (.t 9), none⟩]
def b21_1 : SCode := .region r21_1
abbrev r21_2 : List MOper := [⟨(some 10), .move (.t 1), none⟩,
  ⟨(some 11), .bin .lss .num (.t 10) (.c (.int .i64 0)), none⟩]
def b21_2 : SCode := .region r21_2
abbrev r21_3 : List MOper := [⟨(some 4), .move (.c (.bool false)), none⟩]
def b21_3 : SCode := .region r21_3
def b21_4 : SCode := .seq b21_3 .ret
def b21_5 : SCode := .cond (.t 11) b21_4 .skip
def b21_6 : SCode := .seq b21_2 b21_5
abbrev r21_7 : List MOper := [⟨(some 13), .move (.t 0), none⟩,
  ⟨(some 14), .nilCheck (.t 13), none⟩,
  ⟨(some 15), .fieldAddr 0 (.t 14), none⟩,
  ⟨(some 16), .load1 (.t 15), none⟩,
  ⟨(some 17), .move (.t 1), none⟩,
  ⟨(some 18), .call 55 [(.t 16), (.t 17)], none⟩,
  ⟨(some 12), .move (.t 18), none⟩,
  ⟨(some 19), .extract (.t 12) 0, none⟩,
  ⟨(some 20), .extract (.t 12) 1, none⟩,
  ⟨(some 5), .move (.t 19), none⟩,
  ⟨(some 6), .move (.t 20), none⟩]
def b21_7 : SCode := .region r21_7
abbrev r21_8 : List MOper := [⟨(some 21), .move (.t 0), none⟩,
  ⟨(some 22), .nilCheck (.t 21), none⟩,
  ⟨(some 23), .fieldAddr 0 (.t 22), none⟩,
  ⟨(some 24), .load1 (.t 23), none⟩,
  ⟨(some 25), .move (.t 5), none⟩,
  ⟨(some 26), .call 53 [(.t 24), (.t 25)], none⟩,
  ⟨(some 4), .move (.t 26), none⟩]
def b21_8 : SCode := .region r21_8
def b21_9 : SCode := .seq b21_8 .ret
def b21_10 : SCode := .seq b21_7 b21_9
def b21_11 : SCode := .seq b21_6 b21_10
def b21_12 : SCode := .seq b21_1 b21_11
def b21_13 : SCode := .seq b21_0 b21_12
def s21 : SFunc := ⟨27, [.t 4], b21_13⟩
theorem c21 : sFn Try.prog 21 = some s21 := by kernel_rfl
theorem Z21 : XR b21_0 r21_0 ∧ XR b21_1 r21_1 ∧ XR b21_2 r21_2 ∧ XR b21_3 r21_3 ∧ XS b21_4 b21_3 .ret ∧ XC b21_5 (.t 11) b21_4 .skip ∧ XS b21_6 b21_2 b21_5 ∧ XR b21_7 r21_7 ∧ XR b21_8 r21_8 ∧ XS b21_9 b21_8 .ret ∧ XS b21_10 b21_7 b21_9 ∧ XS b21_11 b21_6 b21_10 ∧ XS b21_12 b21_1 b21_11 ∧ XS b21_13 b21_0 b21_12 ∧ XY s21 27 b21_13 [.t 4] := ⟨rfl, rfl, rfl, rfl, rfl, sC_cond, rfl, rfl, rfl, rfl, rfl, rfl, rfl, rfl, rfl⟩
abbrev r22_0 : List MOper := [⟨(some 2), .move (.c (.int .i64 0)), none⟩]
def b22_0 : SCode := .region r22_0
abbrev r22_1 : List MOper := [⟨(some 3), .move (.t 0), none⟩,
  ⟨(some 4), .bin .eql .nilp (.t 3) (.c (.nilptr)), none⟩]
def b22_1 : SCode := .region r22_1
abbrev r22_2 : List MOper := [⟨(some 2), .move (.c (.int .i64 0)), none⟩]
def b22_2 : SCode := .region r22_2
def b22_3 : SCode := .seq b22_2 .ret
def b22_4 : SCode := .cond (.t 4) b22_3 .skip
def b22_5 : SCode := .seq b22_1 b22_4
abbrev r22_6 : List MOper := [⟨(some 5), .move (.t 0), none⟩,
  ⟨(some 6), .nilCheck (.t 5), none⟩,
  ⟨(some 7), .fieldAddr 0 (.t 6), none⟩,
  ⟨(some 8), .load1 (.t 7), none⟩,
  ⟨(some 9), .call 56 [(.t 8)], none⟩,
  ⟨(some 2), .move (.t 9), none⟩]
def b22_6 : SCode := .region r22_6
def b22_7 : SCode := .seq b22_6 .ret
def b22_8 : SCode := .seq b22_5 b22_7
def b22_9 : SCode := .seq b22_0 b22_8
def s22 : SFunc := ⟨10, [.t 2], b22_9⟩
theorem c22 : sFn Try.prog 22 = some s22 := by kernel_rfl
theorem Z22 : XR b22_0 r22_0 ∧ XR b22_1 r22_1 ∧ XR b22_2 r22_2 ∧ XS b22_3 b22_2 .ret ∧ XC b22_4 (.t 4) b22_3 .skip ∧ XS b22_5 b22_1 b22_4 ∧ XR b22_6 r22_6 ∧ XS b22_7 b22_6 .ret ∧ XS b22_8 b22_5 b22_7 ∧ XS b22_9 b22_0 b22_8 ∧ XY s22 10 b22_9 [.t 2] := ⟨rfl, rfl, rfl, rfl, sC_cond, rfl, rfl, rfl, rfl, rfl, rfl⟩
abbrev r23_0 : List MOper := [⟨(some 4), .alloc [.int .i64 0, .int .i64 0, .int .i64 0, .int .i64 0, .int .i64 0, .int .i64 0, .int .i64 0, .int .i64 0, .str [], .str [], .str [], .str [], .int .i64 0, .int .i64 0, .int .i64 0, .int .i64 0, .bool false, .str [], .nilslice, .str [], .bool false, .str [], .str [], .nilslice, .nilslice, .int .i64 0, .nilslice], none⟩,
  ⟨(some 5), .move (.c (.bool false)), none⟩]
def b23_0 : SCode := .region r23_0
abbrev r23_1 : List MOper := [⟨(some 10), .move (.t 0), none⟩,
  ⟨(some 11), .move (.t 1), none⟩,
  ⟨(some 12), .call 54 [(.t 10), (.t 11)], none⟩,
  ⟨(some 1), .move (.t 12), none⟩]
def b23_1 : SCode := .region r23_1
abbrev r23_2 : List MOper := [⟨(some 13), .move (.t 1), none⟩,
  ⟨(some 14), .bin .lss .num (.t 13) (.c (.int .i64 0)), none⟩]
def b23_2 : SCode := .region r23_2
abbrev r23_3 : List MOper := [⟨(some 15), .build [.int .i64 0, .int .i64 0, .int .i64 0, .int .i64 0, .int .i64 0, .int .i64 0, .int .i64 0, .int .i64 0, .str [], .str [], .str [], .str [], .int .i64 0, .int .i64 0, .int .i64 0, .int .i64 0, .bool false, .str [], .nilslice, .str [], .bool false, .str [], .str [], .nilslice, .nilslice, .int .i64 0, .nilslice] [], none⟩,
  ⟨none, .store 27 (.t 4) (.t 15), none⟩,
  ⟨(some 5), .move (.c (.bool false)), none⟩]
def b23_3 : SCode := .region r23_3
def b23_4 : SCode := .seq b23_3 .ret
def b23_5 : SCode := .cond (.t 14) b23_4 .skip
def b23_6 : SCode := .seq b23_2 b23_5
abbrev r23_7 : List MOper := [⟨(some 17), .move (.t 0), none⟩,
  ⟨(some 18), .nilCheck (.t 17), none⟩,
  ⟨(some 19), .fieldAddr 0 (.t 18), none⟩,
  ⟨(some 20), .load1 (.t 19), none⟩,
  ⟨(some 21), .move (.t 1), none⟩,
  ⟨(some 22), .call 57 [(.t 20), (.t 21)], none⟩,
  ⟨(some 16), .move (.t 22), none⟩,
  ⟨(some 23), .extract (.t 16) 0, none⟩,
  ⟨(some 24), .extract (.t 16) 1, none⟩,
  ⟨(some 6), .move (.t 23), none⟩,
  ⟨(some 7), .move (.t 24), none⟩]
def b23_7 : SCode := .region r23_7
abbrev r23_8 : List MOper := [⟨(some 26), .move (.t 6), none⟩,
  ⟨(some 27), .toBytes (.t 26), none⟩,
  ⟨(some 28), .call 11 [(.t 27)], none⟩,
  ⟨(some 25), .move (.t 28), none⟩,
  ⟨(some 29), .extract (.t 25) 0, none⟩,
  ⟨(some 30), .extract (.t 25) 1, none⟩,
  ⟨(some 8), .alloc [.int .i64 0, .int .i64 0, .int .i64 0, .int .i64 0, .int .i64 0, .int .i64 0, .int .i64 0, .int .i64 0, .str [], .str [], .str [], .str [], .int .i64 0, .int .i64 0, .int .i64 0, .int .i64 0, .bool false, .str [], .nilslice, .str [], .bool false, .str [], .str [], .nilslice, .nilslice, .int .i64 0, .nilslice], none⟩,
  ⟨none, .store 27 (.t 8) (.t 29), none⟩,
  ⟨(some 9), .move (.t 30), none⟩]
def b23_8 : SCode := .region r23_8
abbrev r23_9 : List MOper := [⟨(some 31), .loadN 27 (.t 8), none⟩,
  ⟨(some 32), .move (.t 9), none⟩,
  ⟨(some 33), .bin .eql .num (.t 32) (.c (.int .i64 0)), none⟩,
  ⟨none, .store 27 (.t 4) (.t 31), none⟩,
  ⟨(some 5), .move (.t 33), none⟩]
def b23_9 : SCode := .region r23_9
def b23_10 : SCode := .seq b23_9 .ret
def b23_11 : SCode := .seq b23_8 b23_10
def b23_12 : SCode := .seq b23_7 b23_11
def b23_13 : SCode := .seq b23_6 b23_12
def b23_14 : SCode := .seq b23_1 b23_13
def b23_15 : SCode := .seq b23_0 b23_14
def s23 : SFunc := ⟨34, [.cN 4 27, .t 5], b23_15⟩
theorem c23 : sFn Try.prog 23 = some s23 := by kernel_rfl
theorem Z23 : XR b23_0 r23_0 ∧ XR b23_1 r23_1 ∧ XR b23_2 r23_2 ∧ XR b23_3 r23_3 ∧ XS b23_4 b23_3 .ret ∧ XC b23_5 (.t 14) b23_4 .skip ∧ XS b23_6 b23_2 b23_5 ∧ XR b23_7 r23_7 ∧ XR b23_8 r23_8 ∧ XR b23_9 r23_9 ∧ XS b23_10 b23_9 .ret ∧ XS b23_11 b23_8 b23_10 ∧ XS b23_12 b23_7 b23_11 ∧ XS b23_13 b23_6 b23_12 ∧ XS b23_14 b23_1 b23_13 ∧ XS b23_15 b23_0 b23_14 ∧ XY s23 34 b23_15 [.cN 4 27, .t 5] := ⟨rfl, rfl, rfl, rfl, rfl, sC_cond, rfl, rfl, rfl, rfl, rfl, rfl, rfl, rfl, rfl, rfl, rfl⟩
abbrev r54_0 : List MOper := [⟨(some 4), .move (.c (.int .i64 0)), none⟩]
def b54_0 : SCode := .region r54_0
abbrev r54_1 : List MOper := [⟨(some 5), .move (.t 1), none⟩,
  ⟨(some 6), .bin .lss .num (.t 5) (.c (.int .i64 0)), none⟩,
  ⟨(some 7), .move (.t 6), none⟩,
  ⟨(some 8), .move (.t 0), (some (7, false))⟩,
  ⟨(some 9), .call 22 [(.t 8)], (some (7, false))⟩,
  ⟨(some 10), .bin .eql .num (.t 9) (.c (.int .i64 0)), (some (7, false))⟩,
  ⟨(some 11), .pick (.t 7) (.c (.bool true)) (.t 10), none⟩]
def b54_1 : SCode := .region r54_1
abbrev r54_2 : List MOper := [⟨(some 4), .move (.c (.int .i64 (-1))), none⟩]
def b54_2 : SCode := .region r54_2
def b54_3 : SCode := .seq b54_2 .ret
def b54_4 : SCode := .cond (.t 11) b54_3 .skip
def b54_5 : SCode := .seq b54_1 b54_4
abbrev r54_6 : List MOper := [⟨(some 12), .move (.t 1), none⟩,
  ⟨(some 13), .move (.t 0), none⟩,
  ⟨(some 14), .call 22 [(.t 13)], none⟩,
  ⟨(some 15), .bin .rem .num (.t 12) (.t 14), none⟩,
  ⟨(some 4), .move (.t 15), none⟩]
def b54_6 : SCode := .region r54_6
def b54_7 : SCode := .seq b54_6 .ret
def b54_8 : SCode := .seq b54_5 b54_7
def b54_9 : SCode := .seq b54_0 b54_8
def s54 : SFunc := ⟨16, [.t 4], b54_9⟩
theorem c54 : sFn Try.prog 54 = some s54 := by kernel_rfl
theorem Z54 : XR b54_0 r54_0 ∧ XR b54_1 r54_1 ∧ XR b54_2 r54_2 ∧ XS b54_3 b54_2 .ret ∧ XC b54_4 (.t 11) b54_3 .skip ∧ XS b54_5 b54_1 b54_4 ∧ XR b54_6 r54_6 ∧ XS b54_7 b54_6 .ret ∧ XS b54_8 b54_5 b54_7 ∧ XS b54_9 b54_0 b54_8 ∧ XY s54 16 b54_9 [.t 4] := ⟨rfl, rfl, rfl, rfl, sC_cond, rfl, rfl, rfl, rfl, rfl, rfl⟩

set_option maxHeartbeats 4000000
set_option maxRecDepth 10000
/-- A network at a block. -/
structure Ml (σ : AHeap) (M S : Nat) (ss : List (List UInt8)) (D : Option Nat) : Prop where
  m : hget σ M = some [.ptr S 0]
  ms : M ≠ S
  md : D ≠ some M
  sp : Sp σ S ss D
  few : ss.length ≤ 512
theorem Ml.next {σ σ' : AHeap} {M S : Nat} {ss ss' : List (List UInt8)} {D D' : Option Nat} (h : Ml σ M S ss D) (hs : Sp σ' S ss' D') (hf : FrS σ σ' S D D') (hl : ss'.length ≤ 512) : Ml σ' M S ss' D' := by
  obtain ⟨h1, h2⟩ := hf M _ h.m h.ms h.md
  exact ⟨h1, h.ms, h2, hs, hl⟩
def U1 : PCall := rowQ 52 newD (rowQ 53 pushD (rowQ 55 atD (rowQ 56 slenD (rowQ 57 pickD noCall))))
theorem U1_app {f : FuncId} {args : List AV} {σ : AHeap} {K : AV → AHeap → Prop} : U1 f args σ K = rowQ 52 newD (rowQ 53 pushD (rowQ 55 atD (rowQ 56 slenD (rowQ 57 pickD noCall)))) f args σ K := _root_.id rfl
theorem U1_sound : Sound Try.prog U1 := rowQ_sound newD_ok (rowQ_sound pushD_ok (rowQ_sound atD_ok (rowQ_sound slenD_ok (rowQ_sound pickD_ok (noCall_sound _)))))
def mnewD (args : List AV) (σ : AHeap) (K : AV → AHeap → Prop) : Prop := args = [] ∧ K (.ptr (σ.length + 1) 0) (hpush (hpush σ [.int .i64 512, .nilslice]) [.ptr σ.length 0])
theorem mnewD_ok (args : List AV) (σ : AHeap) (K : AV → AHeap → Prop) (h : mnewD args σ K) : Tri Try.prog 19 args σ K := by
  obtain ⟨rfl, h⟩ := h
  refine Tri.of_s c19 U1_sound ?_
  simp only [U1_app, Z19, base1, baseE, ↓reduceIte, Nat.reduceAdd, Nat.reduceSub, Nat.reduceMul, Nat.reduceEqDiff, Nat.reduceLeDiff, Nat.reduceLT, Int.reduceLT, Int.reduceLE, Int.reduceEq, Int.reduceNe, Int.reduceToNat, Int.reduceAdd, Int.reduceSub, reduceCtorEq, Nat.reduceBEq, Nat.reduceBNe]
  refine ⟨rfl, ?_⟩
  simp only [U1_app, Z19, base1, baseE, ↓reduceIte, Nat.reduceAdd, Nat.reduceSub, Nat.reduceMul, Nat.reduceEqDiff, Nat.reduceLeDiff, Nat.reduceLT, Int.reduceLT, Int.reduceLE, Int.reduceEq, Int.reduceNe, Int.reduceToNat, Int.reduceAdd, Int.reduceSub, reduceCtorEq, Nat.reduceBEq, Nat.reduceBNe, push_len]
  exact h
theorem ml_new {σ : AHeap} : Ml (hpush (hpush σ [.int .i64 512, .nilslice]) [.ptr σ.length 0]) (σ.length + 1) σ.length [] none :=
  ⟨push_new (by simp [push_len]), by omega, by simp, .inl ⟨rfl, rfl, push_old (push_new rfl)⟩, by simp⟩
def mlenD (args : List AV) (σ : AHeap) (K : AV → AHeap → Prop) : Prop := ∃ (M S : Nat) (ss : List (List UInt8)) (D : Option Nat), args = [.ptr M 0] ∧ Ml σ M S ss D ∧ K (.int .i64 (ss.length : Int)) σ
theorem mlenD_ok (args : List AV) (σ : AHeap) (K : AV → AHeap → Prop) (h : mlenD args σ K) : Tri Try.prog 22 args σ K := by
  obtain ⟨M, S, ss, D, rfl, hm, h⟩ := h
  refine Tri.of_s c22 U1_sound ?_
  simp only [U1_app, Z22, base1, baseE, ↓reduceIte, Nat.reduceAdd, Nat.reduceSub, Nat.reduceMul, Nat.reduceEqDiff, Nat.reduceLeDiff, Nat.reduceLT, Int.reduceLT, Int.reduceLE, Int.reduceEq, Int.reduceNe, Int.reduceToNat, Int.reduceAdd, Int.reduceSub, reduceCtorEq, Nat.reduceBEq, Nat.reduceBNe, hm.m]
  refine ⟨S, ss, D, rfl, hm.sp, ?_⟩
  simp only [U1_app, Z22, base1, baseE, ↓reduceIte, Nat.reduceAdd, Nat.reduceSub, Nat.reduceMul, Nat.reduceEqDiff, Nat.reduceLeDiff, Nat.reduceLT, Int.reduceLT, Int.reduceLE, Int.reduceEq, Int.reduceNe, Int.reduceToNat, Int.reduceAdd, Int.reduceSub, reduceCtorEq, Nat.reduceBEq, Nat.reduceBNe]
  exact h
def U2 : PCall := rowQ 22 mlenD noCall
theorem U2_app {f : FuncId} {args : List AV} {σ : AHeap} {K : AV → AHeap → Prop} : U2 f args σ K = rowQ 22 mlenD noCall f args σ K := _root_.id rfl
theorem U2_sound : Sound Try.prog U2 := rowQ_sound mlenD_ok (noCall_sound _)
/-- The place on the way that a number is; none: -1. -/
def place (i : Int) (n : Nat) : Int := if i < 0 ∨ n = 0 then -1 else i.tmod n
def mplaceD (args : List AV) (σ : AHeap) (K : AV → AHeap → Prop) : Prop := ∃ (M S : Nat) (i : Int) (ss : List (List UInt8)) (D : Option Nat), args = [.ptr M 0, .int .i64 i] ∧ i ≤ 9223372036854775807 ∧ Ml σ M S ss D ∧ K (.int .i64 (place i ss.length)) σ
theorem mplaceD_ok (args : List AV) (σ : AHeap) (K : AV → AHeap → Prop) (h : mplaceD args σ K) : Tri Try.prog 54 args σ K := by
  obtain ⟨M, S, i, ss, D, rfl, hi, hm, h⟩ := h
  refine Tri.of_s c54 U2_sound ?_
  unfold place at h
  by_cases hn : i < 0
  · rw [if_pos (.inl hn)] at h
    simp only [U2_app, Z54, base1, baseE, ↓reduceIte, Nat.reduceAdd, Nat.reduceSub, Nat.reduceMul, Nat.reduceEqDiff, Nat.reduceLeDiff, Nat.reduceLT, Int.reduceLT, Int.reduceLE, Int.reduceEq, Int.reduceNe, Int.reduceToNat, Int.reduceAdd, Int.reduceSub, reduceCtorEq, Nat.reduceBEq, Nat.reduceBNe, hn]
    exact h
  · simp only [U2_app, Z54, base1, baseE, ↓reduceIte, Nat.reduceAdd, Nat.reduceSub, Nat.reduceMul, Nat.reduceEqDiff, Nat.reduceLeDiff, Nat.reduceLT, Int.reduceLT, Int.reduceLE, Int.reduceEq, Int.reduceNe, Int.reduceToNat, Int.reduceAdd, Int.reduceSub, reduceCtorEq, Nat.reduceBEq, Nat.reduceBNe, hn]
    refine ⟨M, S, ss, D, rfl, hm, ?_⟩
    by_cases h0 : ss.length = 0
    · rw [if_pos (.inr h0)] at h
      have h0' : (ss.length : Int) = 0 := by omega
      simp only [U2_app, Z54, base1, baseE, ↓reduceIte, Nat.reduceAdd, Nat.reduceSub, Nat.reduceMul, Nat.reduceEqDiff, Nat.reduceLeDiff, Nat.reduceLT, Int.reduceLT, Int.reduceLE, Int.reduceEq, Int.reduceNe, Int.reduceToNat, Int.reduceAdd, Int.reduceSub, reduceCtorEq, Nat.reduceBEq, Nat.reduceBNe, h0']
      exact h
    · rw [if_neg (by omega)] at h
      have h0' : ¬ (ss.length : Int) = 0 := by omega
      simp only [U2_app, Z54, base1, baseE, ↓reduceIte, Nat.reduceAdd, Nat.reduceSub, Nat.reduceMul, Nat.reduceEqDiff, Nat.reduceLeDiff, Nat.reduceLT, Int.reduceLT, Int.reduceLE, Int.reduceEq, Int.reduceNe, Int.reduceToNat, Int.reduceAdd, Int.reduceSub, reduceCtorEq, Nat.reduceBEq, Nat.reduceBNe, h0']
      refine ⟨M, S, ss, D, rfl, hm, ?_⟩
      simp only [U2_app, Z54, base1, baseE, ↓reduceIte, Nat.reduceAdd, Nat.reduceSub, Nat.reduceMul, Nat.reduceEqDiff, Nat.reduceLeDiff, Nat.reduceLT, Int.reduceLT, Int.reduceLE, Int.reduceEq, Int.reduceNe, Int.reduceToNat, Int.reduceAdd, Int.reduceSub, reduceCtorEq, Nat.reduceBEq, Nat.reduceBNe, h0']
      exact h
def readGD (args : List AV) (σ : AHeap) (K : AV → AHeap → Prop) : Prop := ∃ (d : Nat) (bs : List UInt8), args = [.slice d 0 bs.length none 1] ∧ hget σ d = some (bs.map byteAV) ∧ bs.length ≤ 4000000 ∧ K (ansN (readNote bs)) (hkill σ d)
theorem readGD_ok (args : List AV) (σ : AHeap) (K : AV → AHeap → Prop) (h : readGD args σ K) : Tri Try.prog 11 args σ K := by
  obtain ⟨d, bs, rfl, hd, hl, h⟩ := h
  exact (give_bytes hd (read_ok bs hl)).mono fun r σ' hr => by rw [hr.1, hr.2]; exact h
def U3 : PCall := rowQ 54 mplaceD (rowQ 11 readGD U1)
theorem U3_app {f : FuncId} {args : List AV} {σ : AHeap} {K : AV → AHeap → Prop} : U3 f args σ K = rowQ 54 mplaceD (rowQ 11 readGD (rowQ 52 newD (rowQ 53 pushD (rowQ 55 atD (rowQ 56 slenD (rowQ 57 pickD noCall)))))) f args σ K := _root_.id rfl
theorem U3_sound : Sound Try.prog U3 := rowQ_sound mplaceD_ok (rowQ_sound readGD_ok U1_sound)
theorem place_some {i : Int} {n : Nat} (h : ¬ place i n < 0) : ∃ k : Nat, place i n = (k : Int) ∧ k < n ∧ 0 ≤ i := by
  unfold place at h ⊢
  split at h
  · exact absurd (by decide) h
  · rename_i hn
    rw [if_neg hn]
    have h0 : 0 ≤ i := by omega
    have hn0 : 0 < n := by omega
    obtain ⟨c, rfl⟩ := Int.eq_ofNat_of_zero_le h0
    exact ⟨c % n, rfl, Nat.mod_lt _ hn0, h0⟩
def mcopyD (args : List AV) (σ : AHeap) (K : AV → AHeap → Prop) : Prop := ∃ (M S : Nat) (i : Int) (ss : List (List UInt8)) (D : Option Nat), args = [.ptr M 0, .int .i64 i] ∧ i ≤ 9223372036854775807 ∧ Ml σ M S ss D ∧
  (place i ss.length < 0 ∨ 512 ≤ ss.length → K (.bool false) σ) ∧ (∀ (k : Nat) x, place i ss.length = (k : Int) → ss[k]? = some x → ss.length < 512 → ∀ σ' D', Ml σ' M S (ss ++ [x]) D' → FrS σ σ' S D D' → K (.bool true) σ')
theorem mcopyD_ok (args : List AV) (σ : AHeap) (K : AV → AHeap → Prop) (h : mcopyD args σ K) : Tri Try.prog 21 args σ K := by
  obtain ⟨M, S, i, ss, D, rfl, hi, hm, h0, h1⟩ := h
  refine Tri.of_s c21 U3_sound ?_
  simp only [U3_app, Z21, base1, baseE, ↓reduceIte, Nat.reduceAdd, Nat.reduceSub, Nat.reduceMul, Nat.reduceEqDiff, Nat.reduceLeDiff, Nat.reduceLT, Int.reduceLT, Int.reduceLE, Int.reduceEq, Int.reduceNe, Int.reduceToNat, Int.reduceAdd, Int.reduceSub, reduceCtorEq, Nat.reduceBEq, Nat.reduceBNe]
  refine ⟨M, S, i, ss, D, rfl, hi, hm, ?_⟩
  by_cases hp : place i ss.length < 0
  · simp only [U3_app, Z21, base1, baseE, ↓reduceIte, Nat.reduceAdd, Nat.reduceSub, Nat.reduceMul, Nat.reduceEqDiff, Nat.reduceLeDiff, Nat.reduceLT, Int.reduceLT, Int.reduceLE, Int.reduceEq, Int.reduceNe, Int.reduceToNat, Int.reduceAdd, Int.reduceSub, reduceCtorEq, Nat.reduceBEq, Nat.reduceBNe, hp]
    exact h0 (.inl hp)
  · obtain ⟨k, hk, hlt, _⟩ := place_some hp
    rw [hk] at hp h0 h1 ⊢
    simp only [U3_app, Z21, base1, baseE, ↓reduceIte, Nat.reduceAdd, Nat.reduceSub, Nat.reduceMul, Nat.reduceEqDiff, Nat.reduceLeDiff, Nat.reduceLT, Int.reduceLT, Int.reduceLE, Int.reduceEq, Int.reduceNe, Int.reduceToNat, Int.reduceAdd, Int.reduceSub, reduceCtorEq, Nat.reduceBEq, Nat.reduceBNe, hp, hm.m]
    refine ⟨S, (k : Int), ss, D, rfl, hm.sp, hm.few, fun hn => by omega, fun k' x hk' hx => ?_⟩
    have : k' = k := by omega
    subst this
    simp only [U3_app, Z21, base1, baseE, ↓reduceIte, Nat.reduceAdd, Nat.reduceSub, Nat.reduceMul, Nat.reduceEqDiff, Nat.reduceLeDiff, Nat.reduceLT, Int.reduceLT, Int.reduceLE, Int.reduceEq, Int.reduceNe, Int.reduceToNat, Int.reduceAdd, Int.reduceSub, reduceCtorEq, Nat.reduceBEq, Nat.reduceBNe, hm.m]
    refine ⟨S, x, ss, D, rfl, hm.sp, fun hf => ?_, fun hf σ' D' hs hfr => ?_⟩
    · simp only [U3_app, Z21, base1, baseE, ↓reduceIte, Nat.reduceAdd, Nat.reduceSub, Nat.reduceMul, Nat.reduceEqDiff, Nat.reduceLeDiff, Nat.reduceLT, Int.reduceLT, Int.reduceLE, Int.reduceEq, Int.reduceNe, Int.reduceToNat, Int.reduceAdd, Int.reduceSub, reduceCtorEq, Nat.reduceBEq, Nat.reduceBNe]
      exact h0 (.inr hf)
    · simp only [U3_app, Z21, base1, baseE, ↓reduceIte, Nat.reduceAdd, Nat.reduceSub, Nat.reduceMul, Nat.reduceEqDiff, Nat.reduceLeDiff, Nat.reduceLT, Int.reduceLT, Int.reduceLE, Int.reduceEq, Int.reduceNe, Int.reduceToNat, Int.reduceAdd, Int.reduceSub, reduceCtorEq, Nat.reduceBEq, Nat.reduceBNe]
      exact h1 k' x rfl hx hf _ _ (hm.next hs hfr (by simp; omega)) hfr
abbrev zeroC : List AV := bareC 0 0 0 0 0
def mtakeD (args : List AV) (σ : AHeap) (K : AV → AHeap → Prop) : Prop := ∃ (M S : Nat) (i : Int) (ss : List (List UInt8)) (D : Option Nat), args = [.ptr M 0, .int .i64 i] ∧ i ≤ 9223372036854775807 ∧ Ml σ M S ss D ∧ (∀ x ∈ ss, x.length ≤ 4000000) ∧
  (place i ss.length < 0 → ∀ σ', Ml σ' M S ss D → FrS σ σ' S D D → K (.tuple [.agg zeroC, .bool false]) σ') ∧
  (∀ (k : Nat) x, place i ss.length = (k : Int) → ss[k]? = some x → ∀ σ' D', Ml σ' M S (ss.eraseIdx k) D' → FrS σ σ' S D D' → K (.tuple [.agg (readNote x).1.cells, .bool (decide ((readNote x).2 = 0))]) σ')
theorem mtakeD_ok (args : List AV) (σ : AHeap) (K : AV → AHeap → Prop) (h : mtakeD args σ K) : Tri Try.prog 23 args σ K := by
  obtain ⟨M, S, i, ss, D, rfl, hi, hm, hb, h0, h1⟩ := h
  refine Tri.of_s c23 U3_sound ?_
  have mlt := hget_lt hm.m
  have fr0 : ∀ c : List AV, FrS σ (hpush σ c) S D D := fun c j d hj _ h2 => ⟨push_old hj, h2⟩
  have sp0 : ∀ c : List AV, Sp (hpush σ c) S ss D := fun c => sp_frame hm.sp fun j d hj _ => push_old hj
  have m0 : ∀ c : List AV, Ml (hpush σ c) M S ss D := fun c => hm.next (sp0 c) (fr0 c) hm.few
  have slt : S < σ.length := by rcases hm.sp with ⟨_, _, h⟩ | ⟨_, _, _, _, h, _⟩ <;> exact hget_lt h
  have dlt : D ≠ some σ.length := by
    rcases hm.sp with ⟨rfl, _, _⟩ | ⟨d, _, rfl, _, _, h⟩
    · simp
    · have := hget_lt h; intro e; cases e; omega
  have pn : ∀ c : List AV, hget (hpush σ c) σ.length = some c := fun c => push_new rfl
  have sn : ∀ c d : List AV, hget (hset (hpush σ c) σ.length d) σ.length = some d := fun c d => set_same (pn c)
  simp only [U3_app, Z23, base1, baseE, ↓reduceIte, Nat.reduceAdd, Nat.reduceSub, Nat.reduceMul, Nat.reduceEqDiff, Nat.reduceLeDiff, Nat.reduceLT, Int.reduceLT, Int.reduceLE, Int.reduceEq, Int.reduceNe, Int.reduceToNat, Int.reduceAdd, Int.reduceSub, reduceCtorEq, Nat.reduceBEq, Nat.reduceBNe]
  refine ⟨M, S, i, ss, D, rfl, hi, m0 _, ?_⟩
  by_cases hp : place i ss.length < 0
  · have fr1 : ∀ c d : List AV, FrS σ (hset (hpush σ c) σ.length d) S D D := fun c d j x hj _ h2 => ⟨(set_other (by have := hget_lt hj; omega)).trans (push_old hj), h2⟩
    have sp1 : ∀ c d : List AV, Sp (hset (hpush σ c) σ.length d) S ss D := fun c d => sp_frame hm.sp fun j x hj _ => (set_other (by have := hget_lt hj; omega)).trans (push_old hj)
    simp only [U3_app, Z23, base1, baseE, ↓reduceIte, Nat.reduceAdd, Nat.reduceSub, Nat.reduceMul, Nat.reduceEqDiff, Nat.reduceLeDiff, Nat.reduceLT, Int.reduceLT, Int.reduceLE, Int.reduceEq, Int.reduceNe, Int.reduceToNat, Int.reduceAdd, Int.reduceSub, reduceCtorEq, Nat.reduceBEq, Nat.reduceBNe, hp, pn, sn]
    exact h0 hp _ (hm.next (sp1 _ _) (fr1 _ _) hm.few) (fr1 _ _)
  · obtain ⟨k, hk, hlt, _⟩ := place_some hp
    rw [hk] at hp h0 h1 ⊢
    have gm : ∀ c : List AV, hget (hpush σ c) M = some [.ptr S 0] := fun c => push_old hm.m
    simp only [U3_app, Z23, base1, baseE, ↓reduceIte, Nat.reduceAdd, Nat.reduceSub, Nat.reduceMul, Nat.reduceEqDiff, Nat.reduceLeDiff, Nat.reduceLT, Int.reduceLT, Int.reduceLE, Int.reduceEq, Int.reduceNe, Int.reduceToNat, Int.reduceAdd, Int.reduceSub, reduceCtorEq, Nat.reduceBEq, Nat.reduceBNe, hp, gm]
    refine ⟨S, (k : Int), ss, D, rfl, sp0 _, hm.few, fun hn => by omega, fun k' x hk' hx σ1 D1 hs1 hf1 => ?_⟩
    have : k' = k := by omega
    subst this
    obtain ⟨b1, b2⟩ := hf1 σ.length _ (pn _) (by omega) dlt
    have m1 : Ml σ1 M S (ss.eraseIdx k') D1 := (m0 _).next hs1 hf1 (by rw [List.length_eraseIdx, if_pos hlt]; have := hm.few; omega)
    have f1 : FrS σ σ1 S D D1 := (fr0 _).trans hf1
    simp only [U3_app, Z23, base1, baseE, ↓reduceIte, Nat.reduceAdd, Nat.reduceSub, Nat.reduceMul, Nat.reduceEqDiff, Nat.reduceLeDiff, Nat.reduceLT, Int.reduceLT, Int.reduceLE, Int.reduceEq, Int.reduceNe, Int.reduceToNat, Int.reduceAdd, Int.reduceSub, reduceCtorEq, Nat.reduceBEq, Nat.reduceBNe]
    refine ⟨σ1.length, x, rfl, push_new rfl, hb x (List.mem_of_getElem? hx), ?_⟩
    have kp' : ∀ {j : Nat} {c d : List AV}, hget σ1 j = some d → hget (hkill (hpush σ1 c) σ1.length) j = some d := fun {j c d} h => by
      have := hget_lt h
      exact (kill_other (by omega)).trans (push_old h)
    have f2 : FrS σ1 (hkill (hpush σ1 (x.map byteAV)) σ1.length) S D1 D1 := fun j c hj _ h2 => ⟨kp' hj, h2⟩
    have s2 : Sp (hkill (hpush σ1 (x.map byteAV)) σ1.length) S (ss.eraseIdx k') D1 := sp_frame hs1 fun j c hj _ => kp' hj
    have b3 := kp' (c := x.map byteAV) b1
    have m2 := m1.next s2 f2 m1.few
    have f3 := f1.trans f2
    generalize hkill (hpush σ1 (x.map byteAV)) σ1.length = σ2 at b3 m2 f3 ⊢
    have l2 := hget_lt b3
    have q1 : ∀ c : List AV, hget (hpush σ2 c) σ2.length = some c := fun c => push_new rfl
    have q2 : ∀ c d : List AV, hget (hset (hpush σ2 c) σ2.length d) σ2.length = some d := fun c d => set_same (q1 c)
    have q3 : ∀ c d : List AV, hget (hset (hpush σ2 c) σ2.length d) σ.length = some zeroC := fun c d => (set_other (by omega)).trans (push_old b3)
    have q4 : ∀ c d e : List AV, hget (hset (hset (hpush σ2 c) σ2.length d) σ.length e) σ.length = some e := fun c d e => set_same (q3 c d)
    have hz := h1 k' x rfl hx
    generalize readNote x = p at hz ⊢
    obtain ⟨n, z⟩ := p
    have pz : put zeroC 0 n.cells = some n.cells := put_all rfl
    have sbn : sub n.cells 0 27 = some n.cells := rfl
    have ncl : n.cells.length = 27 := rfl
    have ncc : (n.cells.all fun x => x.isCell) = true := rfl
    simp only [U3_app, Z23, base1, baseE, ↓reduceIte, Nat.reduceAdd, Nat.reduceSub, Nat.reduceMul, Nat.reduceEqDiff, Nat.reduceLeDiff, Nat.reduceLT, Int.reduceLT, Int.reduceLE, Int.reduceEq, Int.reduceNe, Int.reduceToNat, Int.reduceAdd, Int.reduceSub, reduceCtorEq, Nat.reduceBEq, Nat.reduceBNe, ansN, q1, q2, q3, q4, pz, sbn, ncl, ncc]
    have keep : ∀ (c d e : List AV) {j : Nat} {y : List AV}, hget σ2 j = some y → j ≠ σ.length → hget (hset (hset (hpush σ2 c) σ2.length d) σ.length e) j = some y := fun c d e {j y} hj hne => by
      have := hget_lt hj
      rw [set_other (fun h => hne h.symm), set_other (by omega)]; exact push_old hj
    have f4 : ∀ c d e : List AV, FrS σ (hset (hset (hpush σ2 c) σ2.length d) σ.length e) S D D1 := fun c d e j y hj h1' h2' => by
      obtain ⟨a1, a2⟩ := f3 j y hj h1' h2'
      exact ⟨keep c d e a1 (by have := hget_lt hj; omega), a2⟩
    have s4 : ∀ c d e : List AV, Sp (hset (hset (hpush σ2 c) σ2.length d) σ.length e) S (ss.eraseIdx k') D1 := fun c d e => sp_frame m2.sp fun j y hj hjd => keep c d e hj (by
      rcases hjd with rfl | h
      · omega
      · intro hh; subst hh; exact b2 h)
    exact hz _ D1 (hm.next (s4 _ _ _) (f4 _ _ _) m2.few) (f4 _ _ _)
end Go.Proofs.Ytndlgmciplckjaa.note

/- What is sent. No condition. -/
set_option linter.unusedVariables false
set_option linter.unusedSimpArgs false
namespace Go.Proofs.Ytndlgmciplckjaa.note
open Go.ChangeShapes Go.WideShapes Go.ChangeAt Go.RowKit Go.Gz
abbrev r20_0 : List MOper := [⟨(some 4), .move (.c (.int .i64 0)), none⟩]
def b20_0 : SCode := .region r20_0
abbrev r20_1 : List MOper := [⟨(some 10), .move (.t 0), none⟩,
  ⟨(some 11), .bin .eql .nilp (.t 10) (.c (.nilptr)), none⟩]
def b20_1 : SCode := .region r20_1
abbrev r20_2 : List MOper := [⟨(some 4), .move (.c (.int .i64 0)), none⟩]
def b20_2 : SCode := .region r20_2
def b20_3 : SCode := .seq b20_2 .ret
def b20_4 : SCode := .cond (.t 11) b20_3 .skip
def b20_5 : SCode := .seq b20_1 b20_4
abbrev r20_6 : List MOper := [⟨(some 5), .move (.c (.int .i64 0)), none⟩]
def b20_6 : SCode := .region r20_6
abbrev r20_7 : List MOper := [⟨(some 12), .move (.t 1), none⟩,
  ⟨(some 13), .lenSl (.t 12), none⟩,
  ⟨(some 14), .move (.c (.int .i64 0)), none⟩]
def b20_7 : SCode := .region r20_7
abbrev r20_8 : List MOper := [⟨(some 15), .bin .lss .num (.t 14) (.t 13), none⟩]
def b20_8 : SCode := .region r20_8
def b20_9 : SCode := .cond (.t 15) .skip (.exit 0)
abbrev r20_10 : List MOper := [⟨(some 16), .indexAddr 27 (.t 12) (.t 14), none⟩,
  ⟨(some 17), .loadN 27 (.t 16), none⟩,
  ⟨(some 7), .alloc [.int .i64 0, .int .i64 0, .int .i64 0, .int .i64 0, .int .i64 0, .int .i64 0, .int .i64 0, .int .i64 0, .str [], .str [], .str [], .str [], .int .i64 0, .int .i64 0, .int .i64 0, .int .i64 0, .bool false, .str [], .nilslice, .str [], .bool false, .str [], .str [], .nilslice, .nilslice, .int .i64 0, .nilslice], none⟩,
  ⟨none, .store 27 (.t 7) (.t 17), none⟩]
def b20_10 : SCode := .region r20_10
abbrev r20_11 : List MOper := [⟨(some 19), .loadN 27 (.t 7), none⟩,
  ⟨(some 20), .call 12 [(.t 19)], none⟩,
  ⟨(some 18), .move (.t 20), none⟩,
  ⟨(some 21), .extract (.t 18) 0, none⟩,
  ⟨(some 22), .extract (.t 18) 1, none⟩,
  ⟨(some 8), .move (.t 21), none⟩,
  ⟨(some 9), .move (.t 22), none⟩]
def b20_11 : SCode := .region r20_11
abbrev t20_12 : LTree := (.quiet ⟨(some 23), .move (.t 9), none⟩ 0
  (.quiet ⟨(some 24), .bin .eql .num (.t 23) (.c (.int .i64 0)), none⟩ 1
  (.quiet ⟨(some 25), .move (.t 24), none⟩ 2
  (.quiet ⟨(some 26), .move (.t 0), (some (25, true))⟩ 3
  (.quiet ⟨(some 27), .nilCheck (.t 26), (some (25, true))⟩ 4
  (.quiet ⟨(some 28), .fieldAddr 0 (.t 27), (some (25, true))⟩ 5
  (.quiet ⟨(some 29), .load1 (.t 28), (some (25, true))⟩ 6
  (.quiet ⟨(some 30), .move (.t 8), (some (25, true))⟩ 7
  (.quiet ⟨(some 31), .ofBytes (.t 30), (some (25, true))⟩ 8
  (.loud ⟨(some 32), .call 53 [(.t 29), (.t 31)], (some (25, true))⟩ []
  (.quiet ⟨(some 33), .pick (.t 25) (.t 32) (.c (.bool false)), none⟩ 10
  .leaf) .stop))))))))))
def b20_12 : SCode := .draw t20_12
abbrev r20_13 : List MOper := [⟨(some 34), .move (.t 5), none⟩,
  ⟨(some 35), .bin .add .num (.t 34) (.c (.int .i64 1)), none⟩,
  ⟨(some 5), .move (.t 35), none⟩]
def b20_13 : SCode := .region r20_13
def b20_14 : SCode := .cond (.t 33) b20_13 .skip
def b20_15 : SCode := .seq b20_12 b20_14
def b20_16 : SCode := .seq b20_11 b20_15
def b20_17 : SCode := .seq b20_10 b20_16
def b20_18 : SCode := .block 1 b20_17
abbrev r20_19 : List MOper := [⟨(some 36), .bin .add .num (.t 14) (.c (.int .i64 1)), none⟩,
  ⟨(some 14), .move (.t 36), none⟩]
def b20_19 : SCode := .region r20_19
def b20_20 : SCode := .seq b20_18 b20_19
def b20_21 : SCode := .seq b20_9 b20_20
def b20_22 : SCode := .seq b20_8 b20_21
def b20_23 : SCode := .loop b20_22
def b20_24 : SCode := .block 0 b20_23
def b20_25 : SCode := .seq b20_7 b20_24
abbrev r20_26 : List MOper := [⟨(some 37), .move (.t 5), none⟩,
  ⟨(some 4), .move (.t 37), none⟩]
def b20_26 : SCode := .region r20_26
def b20_27 : SCode := .seq b20_26 .ret
def b20_28 : SCode := .seq b20_25 b20_27
def b20_29 : SCode := .seq b20_6 b20_28
def b20_30 : SCode := .seq b20_5 b20_29
def b20_31 : SCode := .seq b20_0 b20_30
def s20 : SFunc := ⟨38, [.t 4], b20_31⟩
theorem c20 : sFn Try.prog 20 = some s20 := by kernel_rfl
theorem Z20 : XR b20_0 r20_0 ∧ XR b20_1 r20_1 ∧ XR b20_2 r20_2 ∧ XS b20_3 b20_2 .ret ∧ XC b20_4 (.t 11) b20_3 .skip ∧ XS b20_5 b20_1 b20_4 ∧ XR b20_6 r20_6 ∧ XR b20_7 r20_7 ∧ XR b20_8 r20_8 ∧ XC b20_9 (.t 15) .skip (.exit 0) ∧ XR b20_10 r20_10 ∧ XR b20_11 r20_11 ∧ XT b20_12 t20_12 ∧ XR b20_13 r20_13 ∧ XC b20_14 (.t 33) b20_13 .skip ∧ XS b20_15 b20_12 b20_14 ∧ XS b20_16 b20_11 b20_15 ∧ XS b20_17 b20_10 b20_16 ∧ XB b20_18 1 b20_17 ∧ XR b20_19 r20_19 ∧ XS b20_20 b20_18 b20_19 ∧ XS b20_21 b20_9 b20_20 ∧ XS b20_22 b20_8 b20_21 ∧ XB b20_24 0 b20_23 ∧ XS b20_25 b20_7 b20_24 ∧ XR b20_26 r20_26 ∧ XS b20_27 b20_26 .ret ∧ XS b20_28 b20_25 b20_27 ∧ XS b20_29 b20_6 b20_28 ∧ XS b20_30 b20_5 b20_29 ∧ XS b20_31 b20_0 b20_30 ∧ XY s20 38 b20_31 [.t 4] := ⟨rfl, rfl, rfl, rfl, sC_cond, rfl, rfl, rfl, rfl, sC_cond, rfl, rfl, rfl, rfl, sC_cond, rfl, rfl, rfl, rfl, rfl, rfl, rfl, rfl, rfl, rfl, rfl, rfl, rfl, rfl, rfl, rfl, rfl⟩

set_option maxHeartbeats 4000000
set_option maxRecDepth 10000
def packZD (args : List AV) (σ : AHeap) (K : AV → AHeap → Prop) : Prop := ∃ (cs : List AV) (n : NoteV), args = [.agg cs] ∧ cs.map nz1 = n.cells ∧ n.sz ∧ K (packN n) σ
theorem packZD_ok (args : List AV) (σ : AHeap) (K : AV → AHeap → Prop) (h : packZD args σ K) : Tri Try.prog 12 args σ K := by
  obtain ⟨cs, n, rfl, hc, hs, h⟩ := h
  refine Tri.nz ?_
  rw [hc]
  exact packD_ok _ _ _ ⟨n, rfl, hs, h⟩
def U4 : PCall := rowQ 12 packZD (rowQ 53 pushD noCall)
theorem U4_app {f : FuncId} {args : List AV} {σ : AHeap} {K : AV → AHeap → Prop} : U4 f args σ K = rowQ 12 packZD (rowQ 53 pushD noCall) f args σ K := _root_.id rfl
theorem U4_sound : Sound Try.prog U4 := rowQ_sound packZD_ok (rowQ_sound pushD_ok (noCall_sound _))
def send1 (p : Nat × List (List UInt8)) (n : NoteV) : Nat × List (List UInt8) := if mayB n = true ∧ p.2.length < 512 then (p.1 + 1, p.2 ++ [n.bytes]) else p
def sendS (ss : List (List UInt8)) (l : List NoteV) : Nat × List (List UInt8) := l.foldl send1 (0, ss)
theorem sendS_take {ss : List (List UInt8)} {l : List NoteV} {i : Nat} {n : NoteV} (h : l[i]? = some n) : sendS ss (l.take (i + 1)) = send1 (sendS ss (l.take i)) n := by
  rw [List.take_add_one, h, sendS, List.foldl_append]; rfl
theorem sub_row27 {css : List (List AV)} {J cs : List AV} {i : Nat} (hl : ∀ r ∈ css, r.length = 27) (hi : css[i]? = some cs) : sub (css.flatten ++ J) (i * 27) 27 = some cs := by
  have key : ∀ (css : List (List AV)) (i : Nat), (∀ r ∈ css, r.length = 27) → css[i]? = some cs → (css.flatten ++ J).drop (i * 27) = cs ++ (css.drop (i + 1)).flatten ++ J := by
    intro css
    induction css with
    | nil => intro i _ h; simp at h
    | cons r rs ih =>
      intro i hl hi
      cases i with
      | zero => simp at hi; subst hi; simp
      | succ i =>
        have hr := hl r (by simp)
        have := ih i (fun x hx => hl x (by simp [hx])) (by simpa using hi)
        rw [List.flatten_cons, List.append_assoc, show (i + 1) * 27 = r.length + i * 27 by omega, List.drop_append, List.drop_eq_nil_of_le (by omega), List.nil_append, Nat.add_sub_cancel_left, this]
        simp
  have hc := hl cs (List.mem_of_getElem? hi)
  have hd := key css i hl hi
  unfold sub
  have hle : i * 27 + 27 ≤ (css.flatten ++ J).length := by
    have := congrArg List.length hd
    simp only [List.length_drop, List.length_append] at this
    rw [List.length_append]; omega
  rw [if_pos hle, hd, List.append_assoc, List.take_append_of_le_length (by omega), List.take_of_length_le (by omega)]
def sdI (σ0 : AHeap) (M S d : Nat) (cap : Option Nat) (ns : List NoteV) (ss : List (List UInt8)) (D : Option Nat) (m : Nat) (e : Env) (σ : AHeap) : Prop :=
  ∃ (i : Nat) (D' : Option Nat), i ≤ ns.length ∧ m = ns.length - i ∧ (sendS ss (ns.take i)).1 ≤ i ∧ Ml σ M S (sendS ss (ns.take i)).2 D' ∧ FrS σ0 σ S D D' ∧ e 0 = .ptr M 0 ∧ e 5 = .int .i64 ((sendS ss (ns.take i)).1 : Int) ∧ e 12 = .slice d 0 ns.length cap 27 ∧ e 13 = .int .i64 (ns.length : Int) ∧ e 14 = .int .i64 (i : Int)
theorem sd_step (σ0 : AHeap) (M S d : Nat) (cap : Option Nat) (ns : List NoteV) (css : List (List AV)) (J : List AV) (ss : List (List UInt8)) (D : Option Nat) (hd : hget σ0 d = some (css.flatten ++ J)) (hdS : d ≠ S) (hdD : D ≠ some d) (hcl : css.length = ns.length) (hc : ∀ (i : Nat) cs n, css[i]? = some cs → ns[i]? = some n → cs.map nz1 = n.cells)
    (hsz : ∀ n ∈ ns, n.sz) (hl : ns.length ≤ 100000) (Q : AV → AHeap → Prop) (hQ : ∀ σ' D', Ml σ' M S (sendS ss ns).2 D' → FrS σ0 σ' S D D' → Q (.int .i64 ((sendS ss ns).1 : Int)) σ') (n0 m : Nat) (e : Env) (σ : AHeap) (h : sdI σ0 M S d cap ns ss D m e σ) :
    sC U4 n0 b20_22 (unw U4 n0 (loopR U4 n0 (RetQ [.t 4] Q) (.block 0 (.seq b20_27 .fin)) (sdI σ0 M S d cap ns ss D) m) .fin) e σ := by
  obtain ⟨i, D', hi, hm, hcnt, hml, hfr, e0, e5, e12, e13, e14⟩ := h
  rcases Nat.lt_or_ge i ns.length with hlt | hge
  · have hlt' : (i : Int) < (ns.length : Int) := by omega
    have hge0 : (0 : Int) ≤ (i : Int) := by omega
    obtain ⟨n, hn⟩ : ∃ n, ns[i]? = some n := ⟨_, List.getElem?_eq_getElem hlt⟩
    obtain ⟨cs, hcs⟩ : ∃ cs, css[i]? = some cs := ⟨_, List.getElem?_eq_getElem (by omega)⟩
    have hcc := hc i cs n hcs hn
    have hlen : cs.length = 27 := by have := congrArg List.length hcc; rw [List.length_map] at this; rw [this]; rfl
    have hl27 : ∀ r ∈ css, r.length = 27 := fun r hr => by
      obtain ⟨j, hj⟩ := List.getElem?_of_mem hr
      obtain ⟨n', hn'⟩ : ∃ n', ns[j]? = some n' := ⟨_, List.getElem?_eq_getElem (by have := (List.getElem?_eq_some_iff.1 hj).1; omega)⟩
      have := congrArg List.length (hc j r n' hj hn')
      rw [List.length_map] at this; rw [this]; rfl
    have hcell : (cs.all fun x => x.isCell) = true := nz_cells (by rw [hcc]; rfl)
    obtain ⟨gd, gD⟩ := hfr d _ hd hdS hdD
    have hsub := sub_row27 (J := J) hl27 hcs
    have hput : put (bareC 0 0 0 0 0) 0 cs = some cs := put_all (by rw [hlen]; rfl)
    have hs27 : sub cs 0 27 = some cs := sub_all (by omega)
    have hw : IntKind.wrap .i64 ((i : Int) + 1) = ((i + 1 : Nat) : Int) := by rw [Gz.wrap64 (by omega)]; omega
    have hwc : IntKind.wrap .i64 (((sendS ss (ns.take i)).1 : Int) + 1) = (((sendS ss (ns.take i)).1 + 1 : Nat) : Int) := by rw [Gz.wrap64 (by omega)]; omega
    have hst := sendS_take (ss := ss) hn
    have pn : ∀ c : List AV, hget (hpush σ c) σ.length = some c := fun c => push_new rfl
    have sn : ∀ c c' : List AV, hget (hset (hpush σ c) σ.length c') σ.length = some c' := fun c c' => set_same (pn c)
    have al : ∀ (c c' : List AV) {j : Nat} {y : List AV}, hget σ j = some y → hget (hset (hpush σ c) σ.length c') j = some y := fun c c' {j y} hj => al_frame hj
    have fr1 : ∀ c c' : List AV, FrS σ (hset (hpush σ c) σ.length c') S D' D' := fun c c' j y hj _ h2 => ⟨al c c' hj, h2⟩
    have sp1 : ∀ c c' : List AV, Sp (hset (hpush σ c) σ.length c') S (sendS ss (ns.take i)).2 D' := fun c c' => sp_frame hml.sp fun j y hj _ => al c c' hj
    have ml1 : ∀ c c' : List AV, Ml (hset (hpush σ c) σ.length c') M S (sendS ss (ns.take i)).2 D' := fun c c' => hml.next (sp1 c c') (fr1 c c') hml.few
    have gm1 : ∀ c c' : List AV, hget (hset (hpush σ c) σ.length c') M = some [.ptr S 0] := fun c c' => (ml1 c c').m
    simp only [U4_app, Z20, base1, baseE, ↓reduceIte, Nat.reduceAdd, Nat.reduceSub, Nat.reduceMul, Nat.reduceEqDiff, Nat.reduceLeDiff, Nat.reduceLT, Int.reduceLT, Int.reduceLE, Int.reduceEq, Int.reduceNe, Int.reduceToNat, Int.reduceAdd, Int.reduceSub, reduceCtorEq, Nat.reduceBEq, Nat.reduceBNe, loopR_exit, loopR_ret, e0, e5, e12, e13, e14, hlt', hlt, hge0, gd, hsub, hput, hs27, hlen, hcell, pn, sn, Int.toNat_natCast]
    refine ⟨cs, n, rfl, hcc, hsz n (List.mem_of_getElem? hn), ?_⟩
    cases hmay : mayB n with
    | false =>
      have hs1 : sendS ss (ns.take (i + 1)) = sendS ss (ns.take i) := by rw [hst]; unfold send1; rw [if_neg (by rw [hmay]; simp)]
      simp only [U4_app, Z20, base1, baseE, ↓reduceIte, Nat.reduceAdd, Nat.reduceSub, Nat.reduceMul, Nat.reduceEqDiff, Nat.reduceLeDiff, Nat.reduceLT, Int.reduceLT, Int.reduceLE, Int.reduceEq, Int.reduceNe, Int.reduceToNat, Int.reduceAdd, Int.reduceSub, reduceCtorEq, Nat.reduceBEq, Nat.reduceBNe, packN, hmay, e0, e5, e12, e13, e14, hw]
      rw [loopR_normal]
      exact ⟨ns.length - (i + 1), _, _, by omega, .refl _ _ _, i + 1, D', hlt, rfl, by rw [hs1]; omega, by rw [hs1]; exact ml1 _ _, hfr.trans (fr1 _ _), e0, by rw [hs1]; exact e5, e12, e13, rfl⟩
    | true =>
      simp only [U4_app, Z20, base1, baseE, ↓reduceIte, Nat.reduceAdd, Nat.reduceSub, Nat.reduceMul, Nat.reduceEqDiff, Nat.reduceLeDiff, Nat.reduceLT, Int.reduceLT, Int.reduceLE, Int.reduceEq, Int.reduceNe, Int.reduceToNat, Int.reduceAdd, Int.reduceSub, reduceCtorEq, Nat.reduceBEq, Nat.reduceBNe, packN, hmay, e0, e5, e12, e13, e14, gm1, ofRws]
      refine ⟨S, n.bytes, _, D', rfl, sp1 _ _, fun hf => ?_, fun hf σ2 D2 hs2 hf2 => ?_⟩
      · have hs1 : sendS ss (ns.take (i + 1)) = sendS ss (ns.take i) := by rw [hst]; unfold send1; rw [if_neg (by omega)]
        simp only [U4_app, Z20, base1, baseE, ↓reduceIte, Nat.reduceAdd, Nat.reduceSub, Nat.reduceMul, Nat.reduceEqDiff, Nat.reduceLeDiff, Nat.reduceLT, Int.reduceLT, Int.reduceLE, Int.reduceEq, Int.reduceNe, Int.reduceToNat, Int.reduceAdd, Int.reduceSub, reduceCtorEq, Nat.reduceBEq, Nat.reduceBNe, e0, e5, e12, e13, e14, hw, gm1, ofRws]
        rw [loopR_normal]
        exact ⟨ns.length - (i + 1), _, _, by omega, .refl _ _ _, i + 1, D', hlt, rfl, by rw [hs1]; omega, by rw [hs1]; exact ml1 _ _, hfr.trans (fr1 _ _), e0, by rw [hs1]; exact e5, e12, e13, rfl⟩
      · have hs1 : sendS ss (ns.take (i + 1)) = ((sendS ss (ns.take i)).1 + 1, (sendS ss (ns.take i)).2 ++ [n.bytes]) := by rw [hst]; unfold send1; rw [if_pos ⟨hmay, hf⟩]
        have ml2 := (ml1 _ _).next hs2 hf2 (by simp; omega)
        have gm2 := ml2.m
        simp only [U4_app, Z20, base1, baseE, ↓reduceIte, Nat.reduceAdd, Nat.reduceSub, Nat.reduceMul, Nat.reduceEqDiff, Nat.reduceLeDiff, Nat.reduceLT, Int.reduceLT, Int.reduceLE, Int.reduceEq, Int.reduceNe, Int.reduceToNat, Int.reduceAdd, Int.reduceSub, reduceCtorEq, Nat.reduceBEq, Nat.reduceBNe, e0, e5, e12, e13, e14, hw, hwc, gm2, ofRws]
        rw [loopR_normal]
        exact ⟨ns.length - (i + 1), _, _, by omega, .refl _ _ _, i + 1, D2, hlt, rfl, by rw [hs1]; simp; omega, by rw [hs1]; exact ml2, (hfr.trans (fr1 _ _)).trans hf2, e0, by rw [hs1]; rfl, e12, e13, rfl⟩
  · have hlt' : ¬ (i : Int) < (ns.length : Int) := by omega
    have hie : i = ns.length := by omega
    subst hie
    rw [List.take_length] at hml e5
    simp only [U4_app, Z20, base1, baseE, ↓reduceIte, Nat.reduceAdd, Nat.reduceSub, Nat.reduceMul, Nat.reduceEqDiff, Nat.reduceLeDiff, Nat.reduceLT, Int.reduceLT, Int.reduceLE, Int.reduceEq, Int.reduceNe, Int.reduceToNat, Int.reduceAdd, Int.reduceSub, reduceCtorEq, Nat.reduceBEq, Nat.reduceBNe, loopR_exit, loopR_ret, e0, e5, e12, e13, e14, hlt']
    exact hQ _ _ hml hfr
def msendD (args : List AV) (σ : AHeap) (K : AV → AHeap → Prop) : Prop := ∃ (M S d : Nat) (cap : Option Nat) (ns : List NoteV) (css : List (List AV)) (J : List AV) (ss : List (List UInt8)) (D : Option Nat), args = [.ptr M 0, .slice d 0 ns.length cap 27] ∧ hget σ d = some (css.flatten ++ J) ∧ d ≠ S ∧ D ≠ some d ∧ css.length = ns.length ∧
  (∀ (i : Nat) cs n, css[i]? = some cs → ns[i]? = some n → cs.map nz1 = n.cells) ∧ (∀ n ∈ ns, n.sz) ∧ ns.length ≤ 100000 ∧ Ml σ M S ss D ∧ (∀ σ' D', Ml σ' M S (sendS ss ns).2 D' → FrS σ σ' S D D' → K (.int .i64 ((sendS ss ns).1 : Int)) σ')
theorem msendD_ok (args : List AV) (σ : AHeap) (K : AV → AHeap → Prop) (h : msendD args σ K) : Tri Try.prog 20 args σ K := by
  obtain ⟨M, S, d, cap, ns, css, J, ss, D, rfl, hd, hdS, hdD, hcl, hc, hsz, hl, hm, hK⟩ := h
  refine Tri.of_s c20 U4_sound ?_
  have l0 : lenOf (.slice d 0 ns.length cap 27) = some ns.length := rfl
  simp only [U4_app, Z20, base1, baseE, ↓reduceIte, Nat.reduceAdd, Nat.reduceSub, Nat.reduceMul, Nat.reduceEqDiff, Nat.reduceLeDiff, Nat.reduceLT, Int.reduceLT, Int.reduceLE, Int.reduceEq, Int.reduceNe, Int.reduceToNat, Int.reduceAdd, Int.reduceSub, reduceCtorEq, Nat.reduceBEq, Nat.reduceBNe, l0]
  exact sC_inv (a := b20_22) (sdI σ M S d cap ns ss D) ns.length _ _ (.refl _ _ _) ⟨0, D, Nat.zero_le _, rfl, Nat.le_refl _, hm, FrS.refl _ _ _, rfl, rfl, rfl, rfl, rfl⟩ (sd_step σ M S d cap ns css J ss D hd hdS hdD hcl hc hsz hl K hK σ.length)
end Go.Proofs.Ytndlgmciplckjaa.note

/- The network's first call answers yes. No condition. -/
set_option linter.unusedVariables false
set_option linter.unusedSimpArgs false
namespace Go.Proofs.Ytndlgmciplckjaa.note
open Go.ChangeShapes Go.WideShapes Go.ChangeAt Go.RowKit Go.Gz
abbrev r18_0 : List MOper := [⟨(some 0), .move (.c (.bool false)), none⟩]
def b18_0 : SCode := .region r18_0
abbrev r18_1 : List MOper := [⟨(some 6), .call 19 [], none⟩,
  ⟨(some 1), .move (.t 6), none⟩]
def b18_1 : SCode := .region r18_1
abbrev r18_2 : List MOper := [⟨(some 7), .move (.t 1), none⟩,
  ⟨(some 8), .bin .eql .nilp (.t 7) (.c (.nilptr)), none⟩]
def b18_2 : SCode := .region r18_2
abbrev r18_3 : List MOper := [⟨(some 0), .move (.c (.bool false)), none⟩]
def b18_3 : SCode := .region r18_3
def b18_4 : SCode := .seq b18_3 .ret
def b18_5 : SCode := .cond (.t 8) b18_4 .skip
def b18_6 : SCode := .seq b18_2 b18_5
abbrev r18_7 : List MOper := [⟨(some 9), .move (.t 1), none⟩,
  ⟨(some 10), .build [.int .i64 0, .int .i64 0, .int .i64 0, .int .i64 0, .int .i64 0, .int .i64 0, .int .i64 0, .int .i64 0, .str [], .str [], .str [], .str [], .int .i64 0, .int .i64 0, .int .i64 0, .int .i64 0, .bool false, .str [], .nilslice, .str [], .bool false, .str [], .str [], .nilslice, .nilslice, .int .i64 0, .nilslice] [(0, 1, (.c (.int .i64 3))), (1, 1, (.c (.int .i64 100))), (2, 1, (.c (.int .i64 0)))], none⟩,
  ⟨(some 11), .build [.int .i64 0, .int .i64 0, .int .i64 0, .int .i64 0, .int .i64 0, .int .i64 0, .int .i64 0, .int .i64 0, .str [], .str [], .str [], .str [], .int .i64 0, .int .i64 0, .int .i64 0, .int .i64 0, .bool false, .str [], .nilslice, .str [], .bool false, .str [], .str [], .nilslice, .nilslice, .int .i64 0, .nilslice] [(0, 1, (.c (.int .i64 99)))], none⟩,
  ⟨(some 12), .buildSlice [.int .i64 0, .int .i64 0, .int .i64 0, .int .i64 0, .int .i64 0, .int .i64 0, .int .i64 0, .int .i64 0, .str [], .str [], .str [], .str [], .int .i64 0, .int .i64 0, .int .i64 0, .int .i64 0, .bool false, .str [], .nilslice, .str [], .bool false, .str [], .str [], .nilslice, .nilslice, .int .i64 0, .nilslice] 27 2 [(0, 27, (.t 10)), (27, 27, (.t 11))], none⟩,
  ⟨(some 13), .call 20 [(.t 9), (.t 12)], none⟩,
  ⟨(some 2), .move (.t 13), none⟩]
def b18_7 : SCode := .region r18_7
abbrev r18_8 : List MOper := [⟨(some 14), .move (.t 1), none⟩,
  ⟨(some 15), .call 21 [(.t 14), (.c (.int .i64 0))], none⟩,
  ⟨(some 3), .move (.t 15), none⟩]
def b18_8 : SCode := .region r18_8
abbrev r18_9 : List MOper := [⟨(some 17), .move (.t 1), none⟩,
  ⟨(some 18), .call 23 [(.t 17), (.c (.int .i64 0))], none⟩,
  ⟨(some 16), .move (.t 18), none⟩,
  ⟨(some 19), .extract (.t 16) 0, none⟩,
  ⟨(some 20), .extract (.t 16) 1, none⟩,
  ⟨(some 4), .alloc [.int .i64 0, .int .i64 0, .int .i64 0, .int .i64 0, .int .i64 0, .int .i64 0, .int .i64 0, .int .i64 0, .str [], .str [], .str [], .str [], .int .i64 0, .int .i64 0, .int .i64 0, .int .i64 0, .bool false, .str [], .nilslice, .str [], .bool false, .str [], .str [], .nilslice, .nilslice, .int .i64 0, .nilslice], none⟩,
  ⟨none, .store 27 (.t 4) (.t 19), none⟩,
  ⟨(some 5), .move (.t 20), none⟩]
def b18_9 : SCode := .region r18_9
abbrev r18_10 : List MOper := [⟨(some 21), .move (.t 2), none⟩,
  ⟨(some 22), .bin .eql .num (.t 21) (.c (.int .i64 1)), none⟩,
  ⟨(some 23), .move (.t 22), none⟩,
  ⟨(some 24), .move (.t 3), (some (23, true))⟩,
  ⟨(some 25), .pick (.t 23) (.t 24) (.c (.bool false)), none⟩,
  ⟨(some 26), .move (.t 25), none⟩,
  ⟨(some 27), .move (.t 5), (some (26, true))⟩,
  ⟨(some 28), .pick (.t 26) (.t 27) (.c (.bool false)), none⟩,
  ⟨(some 29), .move (.t 28), none⟩,
  ⟨(some 30), .fieldAddr 0 (.t 4), (some (29, true))⟩,
  ⟨(some 31), .load1 (.t 30), (some (29, true))⟩,
  ⟨(some 32), .bin .eql .num (.t 31) (.c (.int .i64 3)), (some (29, true))⟩,
  ⟨(some 33), .pick (.t 29) (.t 32) (.c (.bool false)), none⟩,
  ⟨(some 34), .move (.t 33), none⟩,
  ⟨(some 35), .move (.t 1), (some (34, true))⟩,
  ⟨(some 36), .call 22 [(.t 35)], (some (34, true))⟩,
  ⟨(some 37), .bin .eql .num (.t 36) (.c (.int .i64 1)), (some (34, true))⟩,
  ⟨(some 38), .pick (.t 34) (.t 37) (.c (.bool false)), none⟩,
  ⟨(some 0), .move (.t 38), none⟩]
def b18_10 : SCode := .region r18_10
def b18_11 : SCode := .seq b18_10 .ret
def b18_12 : SCode := .seq b18_9 b18_11
def b18_13 : SCode := .seq b18_8 b18_12
def b18_14 : SCode := .seq b18_7 b18_13
def b18_15 : SCode := .seq b18_6 b18_14
def b18_16 : SCode := .seq b18_1 b18_15
def b18_17 : SCode := .seq b18_0 b18_16
def s18 : SFunc := ⟨39, [.t 0], b18_17⟩
theorem c18 : sFn Try.prog 18 = some s18 := by kernel_rfl
theorem Z18 : XR b18_0 r18_0 ∧ XR b18_1 r18_1 ∧ XR b18_2 r18_2 ∧ XR b18_3 r18_3 ∧ XS b18_4 b18_3 .ret ∧ XC b18_5 (.t 8) b18_4 .skip ∧ XS b18_6 b18_2 b18_5 ∧ XR b18_7 r18_7 ∧ XR b18_8 r18_8 ∧ XR b18_9 r18_9 ∧ XR b18_10 r18_10 ∧ XS b18_11 b18_10 .ret ∧ XS b18_12 b18_9 b18_11 ∧ XS b18_13 b18_8 b18_12 ∧ XS b18_14 b18_7 b18_13 ∧ XS b18_15 b18_6 b18_14 ∧ XS b18_16 b18_1 b18_15 ∧ XS b18_17 b18_0 b18_16 ∧ XY s18 39 b18_17 [.t 0] := ⟨rfl, rfl, rfl, rfl, rfl, sC_cond, rfl, rfl, rfl, rfl, rfl, rfl, rfl, rfl, rfl, rfl, rfl, rfl, rfl⟩

set_option maxHeartbeats 4000000
set_option maxRecDepth 10000
def U5 : PCall := rowQ 19 mnewD (rowQ 20 msendD (rowQ 21 mcopyD (rowQ 22 mlenD (rowQ 23 mtakeD noCall))))
theorem U5_app {f : FuncId} {args : List AV} {σ : AHeap} {K : AV → AHeap → Prop} : U5 f args σ K = rowQ 19 mnewD (rowQ 20 msendD (rowQ 21 mcopyD (rowQ 22 mlenD (rowQ 23 mtakeD noCall)))) f args σ K := _root_.id rfl
theorem U5_sound : Sound Try.prog U5 := rowQ_sound mnewD_ok (rowQ_sound msendD_ok (rowQ_sound mcopyD_ok (rowQ_sound mlenD_ok (rowQ_sound mtakeD_ok (noCall_sound _)))))
abbrev aN1 : NoteV := bare 3 100 0 0 0
abbrev aN2 : NoteV := bare 99 0 0 0 0
theorem bare_sz (k f t e i : Int) : (bare k f t e i).sz := ⟨by show total AskV.zero.texts ≤ _; decide, by show RepV.zero.bytes.length ≤ _; decide, by show total [([] : List UInt8), []] ≤ _; decide, by simp [bare], by simp [bare], by simp [bare], by simp [bare], by simp [bare], by simp [bare], by simp [bare], by simp [bare], by simp [bare]⟩
theorem aN1_may : mayB aN1 = true := by decide +kernel
theorem aN2_may : mayB aN2 = false := by decide +kernel
theorem aSend : sendS [] [aN1, aN2] = (1, [aN1.bytes]) := by
  simp only [sendS, List.foldl_cons, List.foldl_nil, send1, aN1_may, aN2_may]
  rfl
theorem aN1_len : aN1.bytes.length ≤ 4000000 := by decide +kernel
theorem mawake_ok (σ : AHeap) (K : AV → AHeap → Prop) (h : ∀ σ', K (.bool true) σ') : Tri Try.prog 18 [] σ K := by
  refine Tri.of_s c18 U5_sound ?_
  simp only [U5_app, Z18, base1, baseE, ↓reduceIte, Nat.reduceAdd, Nat.reduceSub, Nat.reduceMul, Nat.reduceEqDiff, Nat.reduceLeDiff, Nat.reduceLT, Int.reduceLT, Int.reduceLE, Int.reduceEq, Int.reduceNe, Int.reduceToNat, Int.reduceAdd, Int.reduceSub, reduceCtorEq, Nat.reduceBEq, Nat.reduceBNe]
  refine ⟨rfl, ?_⟩
  have ml0 := ml_new (σ := σ)
  generalize hpush (hpush σ [.int .i64 512, .nilslice]) [.ptr σ.length 0] = σ1 at ml0 ⊢
  have lM := hget_lt ml0.m
  have lS : σ.length < σ1.length := by rcases ml0.sp with ⟨_, _, hh⟩ | ⟨_, _, _, _, hh, _⟩ <;> exact hget_lt hh
  have push : ∀ c : List AV, FrS σ1 (hpush σ1 c) σ.length none none := fun c j y hj _ h2 => ⟨push_old hj, h2⟩
  have mlp : ∀ c : List AV, Ml (hpush σ1 c) (σ.length + 1) σ.length [] none := fun c => ml0.next (sp_frame ml0.sp fun j y hj _ => push_old hj) (push c) (by simp)
  simp only [U5_app, Z18, base1, baseE, ↓reduceIte, Nat.reduceAdd, Nat.reduceSub, Nat.reduceMul, Nat.reduceEqDiff, Nat.reduceLeDiff, Nat.reduceLT, Int.reduceLT, Int.reduceLE, Int.reduceEq, Int.reduceNe, Int.reduceToNat, Int.reduceAdd, Int.reduceSub, reduceCtorEq, Nat.reduceBEq, Nat.reduceBNe]
  refine ⟨σ.length + 1, σ.length, σ1.length, some 2, [aN1, aN2], [bareC 3 100 0 0 0, bareC 99 0 0 0 0], [], [], none, rfl, push_new rfl, by omega, by simp, rfl, fun i cs n hc hn => ?_, fun n hn => ?_, by simp, mlp _, fun σ2 D2 m2 f2 => ?_⟩
  · match i with
    | 0 => simp at hc hn; subst hc; subst hn; rfl
    | 1 => simp at hc hn; subst hc; subst hn; rfl
    | k + 2 => simp at hc
  · simp at hn
    rcases hn with rfl | rfl <;> exact bare_sz _ _ _ _ _
  rw [aSend] at m2 ⊢
  have p1 : place 0 ([aN1.bytes] : List (List UInt8)).length = ((0 : Nat) : Int) := rfl
  simp only [U5_app, Z18, base1, baseE, ↓reduceIte, Nat.reduceAdd, Nat.reduceSub, Nat.reduceMul, Nat.reduceEqDiff, Nat.reduceLeDiff, Nat.reduceLT, Int.reduceLT, Int.reduceLE, Int.reduceEq, Int.reduceNe, Int.reduceToNat, Int.reduceAdd, Int.reduceSub, reduceCtorEq, Nat.reduceBEq, Nat.reduceBNe]
  refine ⟨σ.length + 1, σ.length, 0, [aN1.bytes], D2, rfl, by decide, m2, fun hn => ?_, fun k x hk hx hl σ3 D3 m3 f3 => ?_⟩
  · rw [p1] at hn; simp at hn
  rw [p1] at hk
  have hk0 : k = 0 := by omega
  subst hk0
  have hx0 : x = aN1.bytes := by simpa using hx.symm
  subst hx0
  have p2 : place 0 ([aN1.bytes] ++ [aN1.bytes] : List (List UInt8)).length = ((0 : Nat) : Int) := rfl
  simp only [U5_app, Z18, base1, baseE, ↓reduceIte, Nat.reduceAdd, Nat.reduceSub, Nat.reduceMul, Nat.reduceEqDiff, Nat.reduceLeDiff, Nat.reduceLT, Int.reduceLT, Int.reduceLE, Int.reduceEq, Int.reduceNe, Int.reduceToNat, Int.reduceAdd, Int.reduceSub, reduceCtorEq, Nat.reduceBEq, Nat.reduceBNe]
  refine ⟨σ.length + 1, σ.length, 0, [aN1.bytes] ++ [aN1.bytes], D3, rfl, by decide, m3, fun y hy => ?_, fun hn => ?_, fun k y hk hy σ4 D4 m4 f4 => ?_⟩
  · simp at hy; subst hy; exact aN1_len
  · rw [p2] at hn; simp at hn
  rw [p2] at hk
  have hk0 : k = 0 := by omega
  subst hk0
  have hy0 : y = aN1.bytes := by simpa using hy.symm
  subst hy0
  rw [note_good aN1_may (bare_sz _ _ _ _ _)]
  have l4 := hget_lt m4.m
  have lS4 : σ.length < σ4.length := by rcases m4.sp with ⟨_, _, hh⟩ | ⟨_, _, _, _, hh, _⟩ <;> exact hget_lt hh
  have al4 : ∀ c d : List AV, FrS σ4 (hset (hpush σ4 c) σ4.length d) σ.length D4 D4 := fun c d j z hj _ h2 => ⟨al_frame hj, h2⟩
  have ml4 : ∀ c d : List AV, Ml (hset (hpush σ4 c) σ4.length d) (σ.length + 1) σ.length (([aN1.bytes] ++ [aN1.bytes]).eraseIdx 0) D4 := fun c d => m4.next (sp_frame m4.sp fun j z hj _ => al_frame hj) (al4 c d) m4.few
  have pn : ∀ c : List AV, hget (hpush σ4 c) σ4.length = some c := fun c => push_new rfl
  have sn : ∀ c d : List AV, hget (hset (hpush σ4 c) σ4.length d) σ4.length = some d := fun c d => set_same (pn c)
  have pz : put (bareC 0 0 0 0 0) 0 (aN1, (0 : Int)).1.cells = some aN1.cells := put_all rfl
  have c0 : aN1.cells[0]? = some (.int .i64 3) := rfl
  have ncl : (aN1, (0 : Int)).1.cells.length = 27 := rfl
  have ncc : ((aN1, (0 : Int)).1.cells.all fun x => x.isCell) = true := rfl
  simp only [U5_app, Z18, base1, baseE, ↓reduceIte, Nat.reduceAdd, Nat.reduceSub, Nat.reduceMul, Nat.reduceEqDiff, Nat.reduceLeDiff, Nat.reduceLT, Int.reduceLT, Int.reduceLE, Int.reduceEq, Int.reduceNe, Int.reduceToNat, Int.reduceAdd, Int.reduceSub, reduceCtorEq, Nat.reduceBEq, Nat.reduceBNe, pn, sn, pz, c0, ncl, ncc]
  refine ⟨σ.length + 1, σ.length, _, D4, rfl, ml4 _ _, ?_⟩
  simp only [U5_app, Z18, base1, baseE, ↓reduceIte, Nat.reduceAdd, Nat.reduceSub, Nat.reduceMul, Nat.reduceEqDiff, Nat.reduceLeDiff, Nat.reduceLT, Int.reduceLT, Int.reduceLE, Int.reduceEq, Int.reduceNe, Int.reduceToNat, Int.reduceAdd, Int.reduceSub, reduceCtorEq, Nat.reduceBEq, Nat.reduceBNe]
  exact h _
def mawakeD (args : List AV) (σ : AHeap) (K : AV → AHeap → Prop) : Prop := args = [] ∧ ∀ σ', K (.bool true) σ'
theorem mawakeD_ok (args : List AV) (σ : AHeap) (K : AV → AHeap → Prop) (h : mawakeD args σ K) : Tri Try.prog 18 args σ K := by
  obtain ⟨rfl, h⟩ := h
  exact mawake_ok σ K h
end Go.Proofs.Ytndlgmciplckjaa.note

/- Notes in rows: cells of one, what is sent of few. No condition. -/
set_option linter.unusedVariables false
set_option linter.unusedSimpArgs false
namespace Go.Proofs.Ytndlgmciplckjaa.note
open Go.ChangeShapes Go.WideShapes Go.ChangeAt Go.RowKit Go.Gz
set_option maxHeartbeats 4000000
set_option maxRecDepth 10000
theorem cell27 {css : List (List AV)} {cs : List AV} {i j : Nat} (hl : ∀ r ∈ css, r.length = 27) (hi : css[i]? = some cs) (hj : j < 27) : css.flatten[i * 27 + j]? = cs[j]? := by
  have hc := hl cs (List.mem_of_getElem? hi)
  have hlt : j < cs.length := by omega
  rw [List.getElem?_eq_getElem hlt]
  exact flat_at hl hi (List.getElem?_eq_getElem hlt)
theorem put_one1 {cs : List AV} {k : Nat} {v : AV} (h : k < cs.length) : put cs k [v] = some (cs.set k v) := by
  unfold put
  rw [if_pos (by simp only [List.length_cons, List.length_nil]; omega), List.set_eq_take_append_cons_drop, if_pos h]
  simp
theorem set27 : ∀ {css : List (List AV)} {cs : List AV} {i j : Nat} {v : AV}, (∀ r ∈ css, r.length = 27) → css[i]? = some cs → j < 27 → css.flatten.set (i * 27 + j) v = (css.set i (cs.set j v)).flatten
  | [], cs, i, j, v, _, hi, _ => by simp at hi
  | r :: rs, cs, 0, j, v, hl, hi, hj => by
    simp at hi; subst hi
    have hr := hl r (by simp)
    simp only [List.flatten_cons, List.set_cons_zero, Nat.zero_mul, Nat.zero_add]
    rw [List.set_append_left _ _ (by omega)]
  | r :: rs, cs, i + 1, j, v, hl, hi, hj => by
    have hr := hl r (by simp)
    simp only [List.flatten_cons, List.set_cons_succ]
    rw [List.set_append_right _ _ (by omega), show (i + 1) * 27 + j - r.length = i * 27 + j by omega, set27 (fun x hx => hl x (by simp [hx])) (by simpa using hi) hj]
theorem put27 {css : List (List AV)} {cs : List AV} {i j : Nat} {v : AV} (hl : ∀ r ∈ css, r.length = 27) (hi : css[i]? = some cs) (hj : j < 27) : put css.flatten (i * 27 + j) [v] = some (css.set i (cs.set j v)).flatten := by
  have hilt := (List.getElem?_eq_some_iff.1 hi).1
  have hfl : css.flatten.length = css.length * 27 := flat_len hl
  rw [put_one1 (by rw [hfl]; omega), set27 hl hi hj]
theorem send_few : ∀ {l : List NoteV} {ss : List (List UInt8)} {c : Nat}, ss.length + l.length ≤ 512 → l.foldl send1 (c, ss) = (c + (l.filter fun n => mayB n).length, ss ++ (l.filter fun n => mayB n).map NoteV.bytes)
  | [], ss, c, _ => by simp
  | n :: l, ss, c, h => by
    simp only [List.length_cons] at h
    rw [List.foldl_cons]
    cases hm : mayB n with
    | false =>
      have : send1 (c, ss) n = (c, ss) := by unfold send1; rw [if_neg (by rw [hm]; simp)]
      rw [this, send_few (by omega), List.filter_cons_of_neg (by rw [hm]; simp)]
    | true =>
      have : send1 (c, ss) n = (c + 1, ss ++ [n.bytes]) := by unfold send1; rw [if_pos ⟨hm, by show ss.length < 512; omega⟩]
      rw [this, send_few (by simp; omega), List.filter_cons_of_pos (by rw [hm])]
      simp; omega
/-! Nothing is sent. -/

def msendOD (args : List AV) (σ : AHeap) (K : AV → AHeap → Prop) : Prop := (∃ (M S : Nat) (ss : List (List UInt8)) (D : Option Nat), args = [.ptr M 0, .nilslice] ∧ Ml σ M S ss D ∧ K (.int .i64 0) σ) ∨ msendD args σ K
theorem msendOD_ok (args : List AV) (σ : AHeap) (K : AV → AHeap → Prop) (h : msendOD args σ K) : Tri Try.prog 20 args σ K := by
  rcases h with ⟨M, S, ss, D, rfl, hm, h⟩ | h
  · refine Tri.of_s c20 U4_sound ?_
    simp only [U4_app, Z20, base1, ↓reduceIte, Nat.reduceAdd, Nat.reduceSub, Nat.reduceMul, Nat.reduceEqDiff, Nat.reduceLeDiff, Nat.reduceLT, Int.reduceLT, Int.reduceLE, Int.reduceEq, Int.reduceNe, Int.reduceToNat, Int.reduceAdd, Int.reduceSub, reduceCtorEq, Nat.reduceBEq, Nat.reduceBNe, lenOf_nilS]
    refine sC_inv (a := b20_22) (fun m e τ => τ = σ ∧ e 0 = .ptr M 0 ∧ e 5 = .int .i64 0 ∧ e 12 = .nilslice ∧ e 13 = .int .i64 0 ∧ e 14 = .int .i64 0) 0 _ _ (.refl _ _ _) ⟨rfl, rfl, rfl, rfl, rfl, rfl⟩ ?_
    rintro m e τ ⟨rfl, e0, e5, e12, e13, e14⟩
    simp only [U4_app, Z20, base1, ↓reduceIte, Nat.reduceAdd, Nat.reduceSub, Nat.reduceMul, Nat.reduceEqDiff, Nat.reduceLeDiff, Nat.reduceLT, Int.reduceLT, Int.reduceLE, Int.reduceEq, Int.reduceNe, Int.reduceToNat, Int.reduceAdd, Int.reduceSub, reduceCtorEq, Nat.reduceBEq, Nat.reduceBNe, loopR_exit, loopR_ret, e0, e5, e12, e13, e14, lenOf_nilS]
    exact h
  · exact msendD_ok args σ K h
/-! What a law of orders sends. -/
abbrev madeC (rs : List RowV) : List (List AV) := rs.map fun r => (made r).cells
def wants (rs : List RowV) : List NoteV := (rs.map made).filter fun n => mayB n
theorem wants_take {rs : List RowV} {i : Nat} {r : RowV} (h : rs[i]? = some r) : wants (rs.take (i + 1)) = if mayB (made r) = true then wants (rs.take i) ++ [made r] else wants (rs.take i) := by
  rw [List.take_add_one, h, wants, List.map_append, List.filter_append]
  show _ ++ ([made r].filter fun n => mayB n) = _
  cases hm : mayB (made r) with
  | true => rw [if_pos rfl, List.filter_cons_of_pos hm]; rfl
  | false => rw [if_neg (by simp), List.filter_cons_of_neg (by rw [hm]; simp)]; simp [wants]
theorem wants_mem {rs : List RowV} {n : NoteV} (h : n ∈ wants rs) : mayB n = true ∧ ∃ r ∈ rs, n = made r := by
  obtain ⟨h1, h2⟩ := List.mem_filter.1 h
  obtain ⟨r, hr, rfl⟩ := List.mem_map.1 h1
  exact ⟨h2, r, hr, rfl⟩
theorem wants_len (rs : List RowV) : (wants rs).length ≤ rs.length := by
  have := List.length_filter_le (fun n => mayB n) (rs.map made)
  rw [List.length_map] at this; exact this
theorem ml_keep {σ τ : AHeap} {M S : Nat} {ss : List (List UInt8)} {D : Option Nat} (h : Ml σ M S ss D) (hf : ∀ j c, hget σ j = some c → (j = M ∨ j = S ∨ D = some j) → hget τ j = some c) : Ml τ M S ss D :=
  ⟨hf _ _ h.m (.inl rfl), h.ms, h.md, sp_frame h.sp fun j c hj hjd => hf j c hj (.inr hjd), h.few⟩
theorem ml_keep0 {σ τ : AHeap} {M S : Nat} (h : Ml σ M S [] none) (hf : ∀ j c, hget σ j = some c → (j = M ∨ j = S) → hget τ j = some c) : Ml τ M S [] none :=
  ml_keep h fun j c hj hd => hf j c hj (hd.imp_right fun h => h.elim id fun h => by cases h)
theorem ml_spool {σ : AHeap} {M S : Nat} {ss : List (List UInt8)} {D : Option Nat} (h : Ml σ M S ss D) : ∃ c, hget σ S = some c := by
  rcases h.sp with ⟨_, _, hh⟩ | ⟨_, _, _, _, hh, _⟩ <;> exact ⟨_, hh⟩
theorem rec_sum (l : List (List UInt8 × List UInt8)) : ((l.flatMap fun x => txt (txt2 x)).length : Int) = 12 * l.length + sumL l := by
  have h := list_tot l
  have : ∀ l : List (List UInt8 × List UInt8), (l.flatMap fun x => txt (txt2 x)).length = 4 * l.length + (l.flatMap txt2).length := by
    intro l
    induction l with
    | nil => rfl
    | cons p l ih => simp only [List.flatMap_cons, List.length_append, txt_len, List.length_cons, ih]; omega
  have := this l
  omega
theorem sh_sum (l : List ShV) : ((l.flatMap fun x => txt x.bytes).length : Int) = 20 * l.length + sumL (l.map ShV.span) := by
  induction l with
  | nil => rfl
  | cons p l ih =>
    have e : sumL ((p :: l).map ShV.span) = (p.from_.length : Int) + p.to.length + sumL (l.map ShV.span) := by simp [sumL, ShV.span]
    rw [e]
    simp only [List.flatMap_cons, List.length_append, txt_len, sh_len, List.length_cons]; omega
theorem made_len {r : RowV} (h : r.smallP) : (made r).bytes.length ≤ 4000000 := by
  have h0 := h.sum
  have h1 := sum_nonneg r.l
  have h2 := sum_nonneg (r.sh.map ShV.span)
  have h3 := h.sh
  have h4 := h.l
  have h5 := h.lal
  have h6 := h.shl
  simp only [RowV.base] at h0
  have r1 := rec_sum r.l
  have s1 := sh_sum r.sh
  have l1 : ((r.last.map mkLa).flatMap fun x => txt x.bytes).length ≤ 2000000 := by
    have := flat_le (f := fun x : LaV => txt x.bytes) (c := 60014) (l := r.last.map mkLa) fun x hx => by
      obtain ⟨y, hy, rfl⟩ := List.mem_map.1 hx
      rw [txt_len]; have := la_len (x := mkLa y) (h.last y hy); omega
    rw [List.length_map] at this
    omega
  have rp := rep_small_len h.rep
  have ab : r.ask.bytes.length ≤ 30000 := by
    simp only [AskV.bytes, AskV.nums, AskV.texts, List.flatMap_cons, List.flatMap_nil, List.append_nil, List.length_append, txt_len, u32_len, List.length_nil]; omega
  have hd : (made r).head.length = 20 := rfl
  have hb : (made r).body.length ≤ 3000000 := by
    unfold NoteV.body
    split
    · show (txt r.ask.bytes ++ []).length ≤ _; rw [List.append_nil, txt_len]; omega
    split
    · show (txt r.rep.bytes ++ []).length ≤ _; rw [List.append_nil, txt_len]; omega
    split
    · show ([r.aep].flatMap u32 ++ [bytesSh r.sh].flatMap txt).length ≤ _
      simp only [bytesSh, List.flatMap_cons, List.flatMap_nil, List.append_nil, List.length_append, txt_len, u32_len, List.length_nil]; omega
    split
    · simp
    · show ([r.sf, r.st].flatMap txt ++ [bytesRec r.l, bytesLa (r.last.map mkLa)].flatMap txt).length ≤ _
      simp only [bytesRec, bytesLa, List.flatMap_cons, List.flatMap_nil, List.append_nil, List.length_append, txt_len, u32_len, List.length_nil]; omega
  rw [NoteV.bytes, List.length_append]; omega
end Go.Proofs.Ytndlgmciplckjaa.note
