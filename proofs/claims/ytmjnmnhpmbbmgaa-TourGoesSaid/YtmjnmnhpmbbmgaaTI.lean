/- Sorted rows: what is put, what pages show; how many pages. No condition. -/
import Derived.Test.YtmjnmnhpmbbmgaaTH
import Derived.Sort.Walk0
set_option linter.unusedVariables false
set_option linter.unusedSimpArgs false
namespace Go.Proofs.Ytmjnmnhpmbbmgaa.tour
open Go.ChangeShapes Go.WideShapes Go.ChangeAt Go.RowKit Go.Gz Go.Gz.H
set_option maxHeartbeats 4000000
theorem less_iff {a b : Bs} : lessBytes a b = true ↔ a < b := by
  have h1 : lessBytes a b = decide (a < b) := bytesLess_eq a b
  rw [h1]; simp
theorem less_no {a b : Bs} : lessBytes a b = false ↔ ¬ a < b := by rw [← less_iff]; simp
theorem lt_irr (a : Bs) : ¬ a < a := List.lt_irrefl a
theorem lt_tr {a b c : Bs} (h : a < b) (k : b < c) : a < c := List.lt_trans h k
theorem le_lt {a b c : Bs} (h : ¬ b < a) (k : b < c) : a < c := List.lt_of_le_of_lt (List.not_lt.1 h) k
theorem lt_le {a b c : Bs} (h : a < b) (k : ¬ c < b) : a < c := Classical.byContradiction fun n => k (le_lt n h)
theorem le_tr {a b c : Bs} (h : ¬ b < a) (k : ¬ c < b) : ¬ c < a := List.not_lt.2 (List.le_trans (List.not_lt.1 h) (List.not_lt.1 k))
theorem ne_lt {a b : Bs} (h : ¬ a < b) (k : a ≠ b) : b < a := by
  rcases List.le_total a b with h1 | h1
  · have : b ≤ a := List.not_lt.1 h
    exact absurd (List.le_antisymm h1 this) k
  · exact Classical.byContradiction fun h2 => k (List.le_antisymm (List.not_lt.1 h2) h1)
theorem nil_le (a : Bs) : ¬ a < [] := by cases a <;> simp
theorem leq_no {a b : Bs} (h : b < a) : (lessBytes a b || a == b) = false := by
  have h1 : lessBytes a b = false := less_no.2 (List.lt_asymm h)
  have h2 : a ≠ b := fun e => lt_irr b (e ▸ h)
  simp [h1, h2]
theorem leq_yes {a b : Bs} (h : a < b) : (lessBytes a b || a == b) = true := by simp [less_iff.2 h]
theorem leq_refl (a : Bs) : (lessBytes a a || a == a) = true := by simp
/-- Sorted by key. -/
def Srt (l : List Rw) : Prop := l.Pairwise fun r s => r.1 < s.1
theorem pS_iff {f e : Bs} {r : Rw} : pS f e r = true ↔ ¬ r.1 < f ∧ (e = [] ∨ r.1 < e) := by
  unfold pS
  rw [Bool.and_eq_true, Bool.or_eq_true, decide_eq_true_eq, less_iff, Bool.not_eq_true', less_no]
theorem take_at (l : List Rw) (key : Bs) : l.take (atS l key) = l.takeWhile fun r => lessBytes r.1 key := by
  unfold atS
  induction l with
  | nil => rfl
  | cons x l ih => rw [List.takeWhile_cons]; split <;> simp [ih]
theorem at_less (l : List Rw) (key : Bs) : ∀ r ∈ l.take (atS l key), r.1 < key := fun r hr => by
  rw [take_at] at hr
  have : ∀ l : List Rw, r ∈ l.takeWhile (fun r => lessBytes r.1 key) → lessBytes r.1 key = true := by
    intro l
    induction l with
    | nil => intro h; simp at h
    | cons x l ih =>
      intro h
      rw [List.takeWhile_cons] at h
      split at h
      · rcases List.mem_cons.1 h with rfl | h
        · assumption
        · exact ih h
      · simp at h
  exact less_iff.1 (this l hr)
theorem at_not (l : List Rw) (key : Bs) : ∀ r, l[atS l key]? = some r → ¬ r.1 < key := fun r hr hlt => by
  have : ∀ l : List Rw, l[(l.takeWhile (fun r => lessBytes r.1 key)).length]? = some r → lessBytes r.1 key = false := by
    intro l
    induction l with
    | nil => intro h; simp at h
    | cons x l ih =>
      intro h
      rw [List.takeWhile_cons] at h
      split at h
      · exact ih (by simpa using h)
      · simp at h; subst h; exact Bool.eq_false_iff.2 ‹¬ _›
  have h1 := this l hr
  rw [less_iff.2 hlt] at h1; cases h1
theorem srt_drop {l : List Rw} (h : Srt l) {k : Nat} {x : Rw} (hx : l[k]? = some x) : ∀ r ∈ l.drop (k + 1), x.1 < r.1 := fun r hr => by
  obtain ⟨j, hj⟩ := List.mem_iff_getElem?.1 hr
  rw [List.getElem?_drop] at hj
  have h1 := List.getElem?_eq_some_iff.1 hx
  have h2 := List.getElem?_eq_some_iff.1 hj
  have := List.pairwise_iff_getElem.1 h k (k + 1 + j) h1.1 h2.1 (by omega)
  rw [h1.2, h2.2] at this; exact this
/-- What was put stands where it belongs. -/
theorem put_srt {l : List Rw} (h : Srt l) (key : Bs) (r : Bs × Bs) : Srt (putS l key r) := by
  have ha := at_less l key
  have hn := at_not l key
  have hk := at_le l key
  -- what stands behind
  have behind : ∀ s ∈ l.drop (if fdK l key then atS l key + 1 else atS l key), key < s.1 := by
    intro s hs
    cases hx : l[atS l key]? with
    | none =>
      have hl : l.length ≤ atS l key := by simpa using hx
      exfalso
      split at hs
      · rw [List.drop_eq_nil_of_le (by omega)] at hs; simp at hs
      · rw [List.drop_eq_nil_of_le hl] at hs; simp at hs
    | some x =>
      have hxn := hn x hx
      have hd := srt_drop h hx
      cases hf : fdK l key with
      | true =>
        rw [hf] at hs
        have hxk : x.1 = key := by
          unfold fdK at hf
          rw [hx] at hf
          exact of_decide_eq_true hf
        have := hd s (by simpa using hs)
        rw [hxk] at this; exact this
      | false =>
        rw [hf] at hs
        have hxk : x.1 ≠ key := by
          unfold fdK at hf
          rw [hx] at hf
          exact of_decide_eq_false hf
        have hkx : key < x.1 := ne_lt hxn hxk
        have hlt := (List.getElem?_eq_some_iff.1 hx).1
        have hcons : l.drop (atS l key) = x :: l.drop (atS l key + 1) := by
          rw [List.drop_eq_getElem_cons hlt, (List.getElem?_eq_some_iff.1 hx).2]
        simp only [Bool.false_eq_true, if_false] at hs
        rw [hcons] at hs
        rcases List.mem_cons.1 hs with rfl | hs
        · exact hkx
        · exact lt_tr hkx (hd s hs)
  unfold putS Srt
  rw [List.pairwise_append, List.pairwise_cons]
  refine ⟨List.Pairwise.sublist (List.take_sublist _ _) h, ⟨behind, List.Pairwise.sublist (List.drop_sublist _ _) h⟩, fun x hx y hy => ?_⟩
  rcases List.mem_cons.1 hy with rfl | hy
  · exact ha x hx
  · exact lt_tr (ha x hx) (behind y hy)
/-- The next page begins where the last one ended. -/
theorem page_next {l : List Rw} (h : Srt l) (f e : Bs) (n : Nat) (x : Rw) (hx : (l.filter (pS f e))[n]? = some x) : l.filter (pS x.1 e) = (l.filter (pS f e)).drop n := by
  have hq : Srt (l.filter (pS f e)) := List.Pairwise.sublist List.filter_sublist h
  have hxm := List.mem_of_getElem? hx
  have hxp := pS_iff.1 (List.mem_filter.1 hxm).2
  have e1 : l.filter (pS x.1 e) = (l.filter (pS f e)).filter (pS x.1 e) := by
    rw [List.filter_filter]
    refine List.filter_congr fun y _ => ?_
    cases hy : pS x.1 e y with
    | false => simp
    | true =>
      have h1 := pS_iff.1 hy
      have : pS f e y = true := pS_iff.2 ⟨le_tr hxp.1 h1.1, h1.2⟩
      simp [this]
  rw [e1]
  have hqp : ∀ y ∈ l.filter (pS f e), pS f e y = true := fun y hy => (List.mem_filter.1 hy).2
  generalize l.filter (pS f e) = q at hx hq hxm hqp
  have hlt := (List.getElem?_eq_some_iff.1 hx).1
  have hs : q = q.take n ++ q.drop n := (List.take_append_drop n q).symm
  conv => lhs; rw [hs]
  rw [List.filter_append]
  have hc : q.drop n = x :: q.drop (n + 1) := by rw [List.drop_eq_getElem_cons hlt, (List.getElem?_eq_some_iff.1 hx).2]
  have f1 : (q.take n).filter (pS x.1 e) = [] := by
    rw [List.filter_eq_nil_iff]
    intro y hy hp
    have h1 := pS_iff.1 hp
    obtain ⟨j, hj⟩ := List.mem_iff_getElem?.1 hy
    rw [List.getElem?_take] at hj
    split at hj
    · rename_i hjn
      have a1 := List.getElem?_eq_some_iff.1 hj
      have a2 := List.getElem?_eq_some_iff.1 hx
      have := List.pairwise_iff_getElem.1 hq j n a1.1 a2.1 hjn
      rw [a1.2, a2.2] at this
      exact h1.1 this
    · cases hj
  rw [f1, List.nil_append, List.filter_eq_self]
  intro y hy
  have hyq := pS_iff.1 (hqp y (List.mem_of_mem_drop hy))
  refine pS_iff.2 ⟨fun hlt' => ?_, hyq.2⟩
  rw [hc] at hy
  rcases List.mem_cons.1 hy with rfl | hy
  · exact lt_irr _ hlt'
  · exact lt_irr _ (lt_tr hlt' (srt_drop hq hx y hy))
/-- How many pages. -/
def pc (n m : Nat) : Nat := (m - 1) / n + 1
theorem pc_one {n m : Nat} (hn : 1 ≤ n) (h : m ≤ n) : pc n m = 1 := by
  unfold pc
  rw [Nat.div_eq_of_lt (by omega)]
theorem pc_more {n m : Nat} (hn : 1 ≤ n) (h : n < m) : pc n m = 1 + pc n (m - n) := by
  unfold pc
  rw [show m - 1 = (m - n - 1) + n by omega, Nat.add_div_right _ (by omega)]; omega
theorem pc_mono {n m : Nat} (hn : 1 ≤ n) : pc (n + 1) m ≤ pc n m := Nat.add_le_add_right (Nat.div_le_div_left (by omega) (by omega)) 1
theorem pc_le {n m : Nat} (hn : 1 ≤ n) : pc n m ≤ m + 1 := by
  unfold pc
  have := Nat.div_le_self (m - 1) n
  omega
end Go.Proofs.Ytmjnmnhpmbbmgaa.tour

/- One tour through a store of one span. No condition. -/
set_option linter.unusedVariables false
set_option linter.unusedSimpArgs false
namespace Go.Proofs.Ytmjnmnhpmbbmgaa.tour
open Go.ChangeShapes Go.WideShapes Go.ChangeAt Go.RowKit Go.Gz Go.Gz.H
abbrev r6_0 : List MOper := [⟨(some 3), .box (.t 1), none⟩,
  ⟨(some 4), .move (.c (.bool false)), none⟩]
def b6_0 : SCode := .region r6_0
abbrev r6_1 : List MOper := [⟨(some 19), .call 9 [], none⟩,
  ⟨(some 20), .un .not (.t 19), none⟩]
def b6_1 : SCode := .region r6_1
abbrev r6_2 : List MOper := [⟨(some 4), .move (.c (.bool false)), none⟩]
def b6_2 : SCode := .region r6_2
def b6_3 : SCode := .seq b6_2 .ret
def b6_4 : SCode := .cond (.t 20) b6_3 .skip
def b6_5 : SCode := .seq b6_1 b6_4
abbrev r6_6 : List MOper := [⟨(some 21), .move (.t 0), none⟩,
  ⟨(some 22), .lenSl (.t 21), none⟩,
  ⟨(some 23), .bin .gtr .num (.t 22) (.c (.int .i64 20)), none⟩,
  ⟨(some 24), .move (.t 23), none⟩,
  ⟨(some 25), .indexArrAddr 2 1 (.t 3) (.c (.int .i64 0)), (some (24, false))⟩,
  ⟨(some 26), .load1 (.t 25), (some (24, false))⟩,
  ⟨(some 27), .lenStr (.t 26), (some (24, false))⟩,
  ⟨(some 28), .bin .gtr .num (.t 27) (.c (.int .i64 300)), (some (24, false))⟩,
  ⟨(some 29), .pick (.t 24) (.c (.bool true)) (.t 28), none⟩,
  ⟨(some 30), .move (.t 29), none⟩,
  ⟨(some 31), .indexArrAddr 2 1 (.t 3) (.c (.int .i64 1)), (some (30, false))⟩,
  ⟨(some 32), .load1 (.t 31), (some (30, false))⟩,
  ⟨(some 33), .lenStr (.t 32), (some (30, false))⟩,
  ⟨(some 34), .bin .gtr .num (.t 33) (.c (.int .i64 300)), (some (30, false))⟩,
  ⟨(some 35), .pick (.t 30) (.c (.bool true)) (.t 34), none⟩]
def b6_6 : SCode := .region r6_6
abbrev r6_7 : List MOper := [⟨(some 4), .move (.c (.bool true)), none⟩]
def b6_7 : SCode := .region r6_7
def b6_8 : SCode := .seq b6_7 .ret
def b6_9 : SCode := .cond (.t 35) b6_8 .skip
def b6_10 : SCode := .seq b6_6 b6_9
abbrev r6_11 : List MOper := [⟨(some 36), .call 17 [], none⟩,
  ⟨(some 37), .build [.nilslice, .nilslice, .int .i64 0, .bool false, .int .i64 0, .nilslice, .int .i64 0] [(0, 4, (.t 36)), (4, 1, (.c (.int .i64 1000)))], none⟩,
  ⟨(some 38), .box (.t 37), none⟩,
  ⟨(some 5), .move (.t 38), none⟩]
def b6_11 : SCode := .region r6_11
abbrev r6_12 : List MOper := [⟨(some 39), .move (.t 5), none⟩,
  ⟨(some 40), .build [.str [], .str []] [], none⟩,
  ⟨(some 41), .call 18 [(.t 39), (.t 40), (.c (.int .i64 1)), (.c (.nilslice)), (.c (.nilslice))], none⟩,
  ⟨(some 42), .bin .neq .num (.t 41) (.c (.int .i64 0)), none⟩]
def b6_12 : SCode := .region r6_12
abbrev r6_13 : List MOper := [⟨(some 4), .move (.c (.bool false)), none⟩]
def b6_13 : SCode := .region r6_13
def b6_14 : SCode := .seq b6_13 .ret
def b6_15 : SCode := .cond (.t 42) b6_14 .skip
def b6_16 : SCode := .seq b6_12 b6_15
abbrev r6_17 : List MOper := [⟨(some 6), .move (.c (.int .i64 0)), none⟩]
def b6_17 : SCode := .region r6_17
abbrev r6_18 : List MOper := [⟨(some 43), .move (.t 6), none⟩,
  ⟨(some 44), .move (.t 0), none⟩,
  ⟨(some 45), .lenSl (.t 44), none⟩,
  ⟨(some 46), .bin .lss .num (.t 43) (.t 45), none⟩]
def b6_18 : SCode := .region r6_18
def b6_19 : SCode := .cond (.t 46) .skip (.exit 0)
def b6_20 : SCode := .seq b6_18 b6_19
abbrev r6_21 : List MOper := [⟨(some 49), .move (.t 5), none⟩,
  ⟨(some 50), .move (.t 6), none⟩,
  ⟨(some 51), .bin .add .num (.t 50) (.c (.int .i64 1)), none⟩,
  ⟨(some 52), .move (.t 0), none⟩,
  ⟨(some 53), .move (.t 6), none⟩,
  ⟨(some 54), .indexAddr 1 (.t 52) (.t 53), none⟩,
  ⟨(some 55), .load1 (.t 54), none⟩,
  ⟨(some 56), .build [.int .i64 0, .int .i64 0, .int .i64 0, .str [], .str [], .str [], .str [], .int .i64 0] [(0, 1, (.c (.int .i64 1))), (2, 1, (.t 51)), (3, 1, (.t 55))], none⟩,
  ⟨(some 57), .call 19 [(.t 49), (.t 56)], none⟩]
def b6_21 : SCode := .region r6_21
def b6_22 : SCode := .block 1 b6_21
abbrev r6_23 : List MOper := [⟨(some 47), .move (.t 6), none⟩,
  ⟨(some 48), .bin .add .num (.t 47) (.c (.int .i64 1)), none⟩,
  ⟨(some 6), .move (.t 48), none⟩]
def b6_23 : SCode := .region r6_23
def b6_24 : SCode := .seq b6_22 b6_23
def b6_25 : SCode := .seq b6_20 b6_24
def b6_26 : SCode := .loop b6_25
def b6_27 : SCode := .block 0 b6_26
def b6_28 : SCode := .seq b6_17 b6_27
abbrev r6_29 : List MOper := [⟨(some 7), .move (.c (.nilslice)), none⟩]
def b6_29 : SCode := .region r6_29
abbrev r6_30 : List MOper := [⟨(some 8), .move (.c (.int .i64 1073741824)), none⟩]
def b6_30 : SCode := .region r6_30
abbrev r6_31 : List MOper := [⟨(some 9), .move (.c (.int .i64 1)), none⟩]
def b6_31 : SCode := .region r6_31
abbrev r6_32 : List MOper := [⟨(some 58), .move (.t 9), none⟩,
  ⟨(some 59), .bin .leq .num (.t 58) (.c (.int .i64 16)), none⟩]
def b6_32 : SCode := .region r6_32
def b6_33 : SCode := .cond (.t 59) .skip (.exit 2)
def b6_34 : SCode := .seq b6_32 b6_33
abbrev r6_35 : List MOper := [⟨(some 63), .indexArrAddr 2 1 (.t 3) (.c (.int .i64 0)), none⟩,
  ⟨(some 64), .load1 (.t 63), none⟩,
  ⟨(some 65), .indexArrAddr 2 1 (.t 3) (.c (.int .i64 1)), none⟩,
  ⟨(some 66), .load1 (.t 65), none⟩,
  ⟨(some 67), .move (.t 9), none⟩,
  ⟨(some 68), .call 11 [(.t 64), (.t 66), (.t 67)], none⟩,
  ⟨(some 62), .move (.t 68), none⟩,
  ⟨(some 69), .extract (.t 62) 0, none⟩,
  ⟨(some 70), .extract (.t 62) 1, none⟩,
  ⟨(some 10), .move (.t 69), none⟩,
  ⟨(some 11), .move (.t 70), none⟩]
def b6_35 : SCode := .region r6_35
abbrev r6_36 : List MOper := [⟨(some 71), .move (.t 11), none⟩,
  ⟨(some 72), .bin .neq .num (.t 71) (.c (.int .i64 0)), none⟩,
  ⟨(some 73), .move (.t 72), none⟩,
  ⟨(some 74), .move (.t 10), (some (73, false))⟩,
  ⟨(some 75), .bin .eql .nilp (.t 74) (.c (.nilptr)), (some (73, false))⟩,
  ⟨(some 76), .pick (.t 73) (.c (.bool true)) (.t 75), none⟩]
def b6_36 : SCode := .region r6_36
abbrev r6_37 : List MOper := [⟨(some 4), .move (.c (.bool false)), none⟩]
def b6_37 : SCode := .region r6_37
def b6_38 : SCode := .seq b6_37 .ret
def b6_39 : SCode := .cond (.t 76) b6_38 .skip
def b6_40 : SCode := .seq b6_36 b6_39
abbrev r6_41 : List MOper := [⟨(some 12), .move (.c (.int .i64 0)), none⟩]
def b6_41 : SCode := .region r6_41
abbrev r6_42 : List MOper := [⟨(some 77), .move (.t 12), none⟩,
  ⟨(some 78), .bin .lss .num (.t 77) (.c (.int .i64 60)), none⟩,
  ⟨(some 79), .move (.t 78), none⟩,
  ⟨(some 80), .move (.t 10), (some (79, true))⟩,
  ⟨(some 81), .call 13 [(.t 80)], (some (79, true))⟩,
  ⟨(some 82), .un .not (.t 81), (some (79, true))⟩,
  ⟨(some 83), .pick (.t 79) (.t 82) (.c (.bool false)), none⟩]
def b6_42 : SCode := .region r6_42
def b6_43 : SCode := .cond (.t 83) .skip (.exit 4)
def b6_44 : SCode := .seq b6_42 b6_43
abbrev r6_45 : List MOper := [⟨(some 87), .move (.t 10), none⟩,
  ⟨(some 88), .call 12 [(.t 87)], none⟩,
  ⟨(some 86), .move (.t 88), none⟩,
  ⟨(some 89), .extract (.t 86) 0, none⟩,
  ⟨(some 90), .extract (.t 86) 1, none⟩,
  ⟨(some 91), .extract (.t 86) 2, none⟩,
  ⟨(some 92), .extract (.t 86) 3, none⟩,
  ⟨(some 13), .move (.t 89), none⟩,
  ⟨(some 14), .move (.t 90), none⟩,
  ⟨(some 15), .move (.t 91), none⟩,
  ⟨(some 16), .move (.t 92), none⟩]
def b6_45 : SCode := .region r6_45
abbrev r6_46 : List MOper := [⟨(some 94), .move (.t 5), none⟩,
  ⟨(some 95), .move (.t 13), none⟩,
  ⟨(some 96), .move (.t 14), none⟩,
  ⟨(some 97), .move (.t 15), none⟩,
  ⟨(some 98), .build [.int .i64 0, .int .i64 0, .int .i64 0, .str [], .str [], .str [], .str [], .int .i64 0] [(0, 1, (.c (.int .i64 4))), (5, 1, (.t 95)), (6, 1, (.t 96)), (7, 1, (.t 97))], none⟩,
  ⟨(some 99), .call 19 [(.t 94), (.t 98)], none⟩,
  ⟨(some 93), .move (.t 99), none⟩,
  ⟨(some 100), .extract (.t 93) 0, none⟩,
  ⟨(some 101), .extract (.t 93) 1, none⟩,
  ⟨(some 17), .alloc [.int .i64 0, .int .i64 0, .int .i64 0, .bool false, .str [], .nilslice, .str [], .bool false], none⟩,
  ⟨none, .store 8 (.t 17) (.t 100), none⟩,
  ⟨(some 18), .move (.t 101), none⟩]
def b6_46 : SCode := .region r6_46
abbrev r6_47 : List MOper := [⟨(some 102), .move (.t 10), none⟩,
  ⟨(some 103), .loadN 8 (.t 17), none⟩,
  ⟨(some 104), .call 14 [(.t 102), (.t 103)], none⟩,
  ⟨(some 105), .bin .neq .num (.t 104) (.c (.int .i64 0)), none⟩]
def b6_47 : SCode := .region r6_47
abbrev r6_48 : List MOper := [⟨(some 4), .move (.c (.bool false)), none⟩]
def b6_48 : SCode := .region r6_48
def b6_49 : SCode := .seq b6_48 .ret
def b6_50 : SCode := .cond (.t 105) b6_49 .skip
def b6_51 : SCode := .seq b6_47 b6_50
def b6_52 : SCode := .seq b6_46 b6_51
def b6_53 : SCode := .seq b6_45 b6_52
def b6_54 : SCode := .block 5 b6_53
abbrev r6_55 : List MOper := [⟨(some 84), .move (.t 12), none⟩,
  ⟨(some 85), .bin .add .num (.t 84) (.c (.int .i64 1)), none⟩,
  ⟨(some 12), .move (.t 85), none⟩]
def b6_55 : SCode := .region r6_55
def b6_56 : SCode := .seq b6_54 b6_55
def b6_57 : SCode := .seq b6_44 b6_56
def b6_58 : SCode := .loop b6_57
def b6_59 : SCode := .block 4 b6_58
def b6_60 : SCode := .seq b6_41 b6_59
abbrev r6_61 : List MOper := [⟨(some 106), .move (.t 9), none⟩,
  ⟨(some 107), .bin .eql .num (.t 106) (.c (.int .i64 1)), none⟩]
def b6_61 : SCode := .region r6_61
abbrev r6_62 : List MOper := [⟨(some 108), .move (.t 10), none⟩,
  ⟨(some 109), .call 15 [(.t 108)], none⟩,
  ⟨(some 7), .move (.t 109), none⟩]
def b6_62 : SCode := .region r6_62
def b6_63 : SCode := .cond (.t 107) b6_62 .skip
def b6_64 : SCode := .seq b6_61 b6_63
abbrev r6_65 : List MOper := [⟨(some 110), .move (.t 10), none⟩,
  ⟨(some 111), .call 13 [(.t 110)], none⟩,
  ⟨(some 112), .un .not (.t 111), none⟩,
  ⟨(some 113), .move (.t 112), none⟩,
  ⟨(some 114), .move (.t 10), (some (113, false))⟩,
  ⟨(some 115), .call 15 [(.t 114)], (some (113, false))⟩,
  ⟨(some 116), .move (.t 7), (some (113, false))⟩,
  ⟨(some 117), .call 20 [(.t 115), (.t 116)], (some (113, false))⟩,
  ⟨(some 118), .un .not (.t 117), (some (113, false))⟩,
  ⟨(some 119), .pick (.t 113) (.c (.bool true)) (.t 118), none⟩,
  ⟨(some 120), .move (.t 119), none⟩,
  ⟨(some 121), .move (.t 10), (some (120, false))⟩,
  ⟨(some 122), .call 16 [(.t 121)], (some (120, false))⟩,
  ⟨(some 123), .lenSl (.t 122), (some (120, false))⟩,
  ⟨(some 124), .move (.t 8), (some (120, false))⟩,
  ⟨(some 125), .bin .gtr .num (.t 123) (.t 124), (some (120, false))⟩,
  ⟨(some 126), .pick (.t 120) (.c (.bool true)) (.t 125), none⟩]
def b6_65 : SCode := .region r6_65
abbrev r6_66 : List MOper := [⟨(some 4), .move (.c (.bool false)), none⟩]
def b6_66 : SCode := .region r6_66
def b6_67 : SCode := .seq b6_66 .ret
def b6_68 : SCode := .cond (.t 126) b6_67 .skip
def b6_69 : SCode := .seq b6_65 b6_68
abbrev r6_70 : List MOper := [⟨(some 127), .move (.t 10), none⟩,
  ⟨(some 128), .call 16 [(.t 127)], none⟩,
  ⟨(some 129), .lenSl (.t 128), none⟩,
  ⟨(some 8), .move (.t 129), none⟩]
def b6_70 : SCode := .region r6_70
def b6_71 : SCode := .seq b6_69 b6_70
def b6_72 : SCode := .seq b6_64 b6_71
def b6_73 : SCode := .seq b6_60 b6_72
def b6_74 : SCode := .seq b6_40 b6_73
def b6_75 : SCode := .seq b6_35 b6_74
def b6_76 : SCode := .block 3 b6_75
abbrev r6_77 : List MOper := [⟨(some 60), .move (.t 9), none⟩,
  ⟨(some 61), .bin .add .num (.t 60) (.c (.int .i64 1)), none⟩,
  ⟨(some 9), .move (.t 61), none⟩]
def b6_77 : SCode := .region r6_77
def b6_78 : SCode := .seq b6_76 b6_77
def b6_79 : SCode := .seq b6_34 b6_78
def b6_80 : SCode := .loop b6_79
def b6_81 : SCode := .block 2 b6_80
def b6_82 : SCode := .seq b6_31 b6_81
abbrev r6_83 : List MOper := [⟨(some 4), .move (.c (.bool true)), none⟩]
def b6_83 : SCode := .region r6_83
def b6_84 : SCode := .seq b6_83 .ret
def b6_85 : SCode := .seq b6_82 b6_84
def b6_86 : SCode := .seq b6_30 b6_85
def b6_87 : SCode := .seq b6_29 b6_86
def b6_88 : SCode := .seq b6_28 b6_87
def b6_89 : SCode := .seq b6_16 b6_88
def b6_90 : SCode := .seq b6_11 b6_89
def b6_91 : SCode := .seq b6_10 b6_90
def b6_92 : SCode := .seq b6_5 b6_91
def b6_93 : SCode := .seq b6_0 b6_92
def s6 : SFunc := ⟨130, [.t 4], b6_93⟩
theorem c6 : sFn Try.prog 6 = some s6 := by kernel_rfl
theorem x6_71 : XS b6_71 b6_69 b6_70 := rfl
theorem x6_87 : XS b6_87 b6_29 b6_86 := rfl
theorem Z6 : XR b6_0 r6_0 ∧ XR b6_1 r6_1 ∧ XR b6_2 r6_2 ∧ XS b6_3 b6_2 .ret ∧ XC b6_4 (.t 20) b6_3 .skip ∧ XS b6_5 b6_1 b6_4 ∧ XR b6_6 r6_6 ∧ XR b6_7 r6_7 ∧ XS b6_8 b6_7 .ret ∧ XC b6_9 (.t 35) b6_8 .skip ∧ XS b6_10 b6_6 b6_9 ∧ XR b6_11 r6_11 ∧ XR b6_12 r6_12 ∧ XR b6_13 r6_13 ∧ XS b6_14 b6_13 .ret ∧ XC b6_15 (.t 42) b6_14 .skip ∧ XS b6_16 b6_12 b6_15 ∧ XR b6_17 r6_17 ∧ XR b6_18 r6_18 ∧ XC b6_19 (.t 46) .skip (.exit 0) ∧ XS b6_20 b6_18 b6_19 ∧ XR b6_21 r6_21 ∧ XB b6_22 1 b6_21 ∧ XR b6_23 r6_23 ∧ XS b6_24 b6_22 b6_23 ∧ XS b6_25 b6_20 b6_24 ∧ XB b6_27 0 b6_26 ∧ XS b6_28 b6_17 b6_27 ∧ XR b6_29 r6_29 ∧ XR b6_30 r6_30 ∧ XR b6_31 r6_31 ∧ XR b6_32 r6_32 ∧ XC b6_33 (.t 59) .skip (.exit 2) ∧ XS b6_34 b6_32 b6_33 ∧ XR b6_35 r6_35 ∧ XR b6_36 r6_36 ∧ XR b6_37 r6_37 ∧ XS b6_38 b6_37 .ret ∧ XC b6_39 (.t 76) b6_38 .skip ∧ XS b6_40 b6_36 b6_39 ∧ XR b6_41 r6_41 ∧ XR b6_42 r6_42 ∧ XC b6_43 (.t 83) .skip (.exit 4) ∧ XS b6_44 b6_42 b6_43 ∧ XR b6_45 r6_45 ∧ XR b6_46 r6_46 ∧ XR b6_47 r6_47 ∧ XR b6_48 r6_48 ∧ XS b6_49 b6_48 .ret ∧ XC b6_50 (.t 105) b6_49 .skip ∧ XS b6_51 b6_47 b6_50 ∧ XS b6_52 b6_46 b6_51 ∧ XS b6_53 b6_45 b6_52 ∧ XB b6_54 5 b6_53 ∧ XR b6_55 r6_55 ∧ XS b6_56 b6_54 b6_55 ∧ XS b6_57 b6_44 b6_56 ∧ XB b6_59 4 b6_58 ∧ XS b6_60 b6_41 b6_59 ∧ XR b6_61 r6_61 ∧ XR b6_62 r6_62 ∧ XC b6_63 (.t 107) b6_62 .skip ∧ XS b6_64 b6_61 b6_63 ∧ XR b6_65 r6_65 ∧ XR b6_66 r6_66 ∧ XS b6_67 b6_66 .ret ∧ XC b6_68 (.t 126) b6_67 .skip ∧ XS b6_69 b6_65 b6_68 ∧ XR b6_70 r6_70 ∧ XS b6_72 b6_64 b6_71 ∧ XS b6_73 b6_60 b6_72 ∧ XS b6_74 b6_40 b6_73 ∧ XS b6_75 b6_35 b6_74 ∧ XB b6_76 3 b6_75 ∧ XR b6_77 r6_77 ∧ XS b6_78 b6_76 b6_77 ∧ XS b6_79 b6_34 b6_78 ∧ XB b6_81 2 b6_80 ∧ XS b6_82 b6_31 b6_81 ∧ XR b6_83 r6_83 ∧ XS b6_84 b6_83 .ret ∧ XS b6_85 b6_82 b6_84 ∧ XS b6_86 b6_30 b6_85 ∧ XS b6_88 b6_28 b6_87 ∧ XS b6_89 b6_16 b6_88 ∧ XS b6_90 b6_11 b6_89 ∧ XS b6_91 b6_10 b6_90 ∧ XS b6_92 b6_5 b6_91 ∧ XS b6_93 b6_0 b6_92 ∧ XY s6 130 b6_93 [.t 4] := ⟨rfl, rfl, rfl, rfl, sC_cond, rfl, rfl, rfl, rfl, sC_cond, rfl, rfl, rfl, rfl, rfl, sC_cond, rfl, rfl, rfl, sC_cond, rfl, rfl, rfl, rfl, rfl, rfl, rfl, rfl, rfl, rfl, rfl, rfl, sC_cond, rfl, rfl, rfl, rfl, rfl, sC_cond, rfl, rfl, rfl, sC_cond, rfl, rfl, rfl, rfl, rfl, rfl, sC_cond, rfl, rfl, rfl, rfl, rfl, rfl, rfl, rfl, rfl, rfl, rfl, sC_cond, rfl, rfl, rfl, rfl, sC_cond, rfl, rfl, rfl, rfl, rfl, rfl, rfl, rfl, rfl, rfl, rfl, rfl, rfl, rfl, rfl, rfl, rfl, rfl, rfl, rfl, rfl, rfl, rfl⟩

set_option maxHeartbeats 4000000
set_option maxRecDepth 10000
def doD (args : List AV) (σ : AHeap) (K : AV → AHeap → Prop) : Prop :=
  (∃ (S s : Nat) (Lv : AV) (hs : List HD) (text : Bs), args = [.ptr S 0, .agg (askW s text)] ∧ StoreAt σ S Lv hs ∧ (∀ h ∈ hs, nxtO h.o s = true ∧ h.rows.length < 1000) ∧ text.length ≤ 140737488351232 ∧ doPutK σ S Lv hs text s K) ∨
  (∃ (S i q lim : Nat) (Lv : AV) (hs : List HD) (h : HD) (frm to : Bs), args = [.ptr S 0, .agg (askP q frm to lim)] ∧ StoreAt σ S Lv hs ∧ hs[i]? = some h ∧ lastI hs frm hs.length = (i : Int) ∧ 1 ≤ lim ∧ lim ≤ 16 ∧ doPgK σ q h frm to lim K)
theorem doD_ok (args : List AV) (σ : AHeap) (K : AV → AHeap → Prop) (h : doD args σ K) : Tri Try.prog 19 args σ K := by
  rcases h with ⟨S, s, Lv, hs, text, rfl, h1, h2, h3, h4⟩ | ⟨S, i, q, lim, Lv, hs, h, frm, to, rfl, h1, h2, h3, h4, h5, h6⟩
  · exact do_put h1 h2 h3 h4
  · exact do_page h1 h2 h3 h4 h5 h6
def U6 : PCall := rowQ 9 awakeD (rowQ 17 tableD (rowQ 18 holdD (rowQ 19 doD (rowQ 11 tnewD (rowQ 12 tnextD (rowQ 13 toverD (rowQ 14 ttakeD (rowQ 15 trecsD (rowQ 16 tspansD (rowQ 20 recsD noCall))))))))))
theorem U6_app {f : FuncId} {args : List AV} {σ : AHeap} {K : AV → AHeap → Prop} : U6 f args σ K = rowQ 9 awakeD (rowQ 17 tableD (rowQ 18 holdD (rowQ 19 doD (rowQ 11 tnewD (rowQ 12 tnextD (rowQ 13 toverD (rowQ 14 ttakeD (rowQ 15 trecsD (rowQ 16 tspansD (rowQ 20 recsD noCall)))))))))) f args σ K := _root_.id rfl
theorem U6_sound : Sound Try.prog U6 := rowQ_sound awakeD_ok (rowQ_sound tableD_ok (rowQ_sound holdD_ok (rowQ_sound doD_ok (rowQ_sound tnewD_ok (rowQ_sound tnextD_ok (rowQ_sound toverD_ok (rowQ_sound ttakeD_ok (rowQ_sound trecsD_ok (rowQ_sound tspansD_ok (rowQ_sound recsD_ok (noCall_sound _)))))))))))
abbrev recsS (rows : List Rw) (a b : Bs) : List Rec := (rows.filter (pS a b)).map fun r => r.2
def pgT (rows : List Rw) (a b : Bs) (n : Nat) : Nat := if emT a b = true then 0 else pc n (rows.filter (pS a b)).length
theorem pgT_le {rows : List Rw} {a b : Bs} {n : Nat} (hn : 1 ≤ n) : pgT rows a b n ≤ rows.length + 1 := by
  unfold pgT
  split
  · omega
  · have := pc_le (m := (rows.filter (pS a b)).length) hn
    have := List.length_filter_le (pS a b) rows
    omega
theorem void_recs {rows : List Rw} {a b : Bs} (h : emT a b = true) : rows.filter (pS a b) = [] := by
  unfold emT at h
  rw [Bool.and_eq_true, decide_eq_true_eq, Bool.or_eq_true, less_iff] at h
  rw [List.filter_eq_nil_iff]
  intro r _ hp
  obtain ⟨h1, h2⟩ := pS_iff.1 hp
  have h3 := h2.resolve_left h.1
  rcases h.2 with h4 | h4
  · exact h1 (lt_tr h3 h4)
  · have : b = a := by simpa using h4
    subst this; exact h1 h3
def limE (B S T : Nat) (Fv : AV) (last n : Nat) (e : Env) : Prop := e 3 = .ptr B 0 ∧ e 5 = .ptr S 0 ∧ e 7 = Fv ∧ e 8 = .int .i64 (last : Int) ∧ e 9 = .int .i64 (n : Int) ∧ e 10 = .ptr T 0
def lpI (σ1 : AHeap) (B S T : Nat) (Fv : AV) (last n : Nat) (a b : Bs) (rows : List Rw) (m : Nat) (e : Env) (σ : AHeap) : Prop :=
  ∃ (cur : Bs) (ov : Bool) (Lt Pt : AV) (rs ps : List Rec), m = 60 - ps.length ∧ limE B S T Fv last n e ∧ e 12 = .int .i64 (ps.length : Int) ∧ Kp σ1 σ ∧ TourAt σ T cur b n ov Lt rs Pt ps ∧ (∀ j c, hget σ1 j = some c → ¬ OwnT T Lt Pt j) ∧
    (ov = true → rs = recsS rows a b ∧ ps.length = pgT rows a b n) ∧ (ov = false → rs ++ recsS rows cur b = recsS rows a b ∧ ps.length + pc n (rows.filter (pS cur b)).length = pgT rows a b n)
theorem hs_all (cur : Bs) : hsS [] [] cur = true := by
  unfold hsS
  rw [less_no.2 (nil_le cur)]; rfl
theorem lim_inner {n0 B S T last n : Nat} {Fv Lv : AV} {h : HD} {a b : Bs} {R : MExit → Env → AHeap → Prop} {k : Cont} {e : Env} {σ1 σ : AHeap}
    (hn : 1 ≤ n) (hn16 : n ≤ 16) (hS1 : StoreAt σ1 S Lv [h]) (hf : h.f = []) (ht : h.t = []) (hs : Srt h.rows) (hl : h.rows.length ≤ 20) (hE : limE B S T Fv last n e) (e12 : e 12 = .int .i64 0)
    (hk : Kp σ1 σ) (hT : TourAt σ T a b n (emT a b) .nilslice [] .nilslice []) (hTf : ∀ j c, hget σ1 j = some c → T ≠ j)
    (hK : ∀ e' σ' cur Lt Pt ps, limE B S T Fv last n e' → Kp σ1 σ' → TourAt σ' T cur b n true Lt (recsS h.rows a b) Pt ps → ps.length = pgT h.rows a b n → unw U6 n0 R k (.exit 4) e' σ') :
    sC U6 n0 b6_58 (unw U6 n0 R k) e σ := by
  have hE0 := hE
  obtain ⟨e3, e5, e7, e8, e9, e10⟩ := hE
  refine sC_inv (a := b6_57) (lpI σ1 B S T Fv last n a b h.rows) 60 _ _ (.refl _ _ _) ⟨a, emT a b, _, _, [], [], rfl, hE0, e12, hk, hT, fun j c hj ho => ?_, fun hv => ⟨?_, ?_⟩, fun hv => ⟨rfl, ?_⟩⟩ ?_
  · rcases ho with e | e | e
    · exact hTf j c hj e.symm
    · cases e
    · cases e
  · rw [recsS, void_recs hv]; rfl
  · unfold pgT; rw [if_pos hv]; rfl
  · unfold pgT; rw [hv, if_neg (by decide)]; simp
  clear hE0 e3 e5 e7 e8 e9 e10 e12 hk hT
  rintro m e σ ⟨cur, ov, Lt, Pt, rs, ps, hm, hE, e12, hk, hT, hO, hov, hno⟩
  have hE0 := hE
  obtain ⟨e3, e5, e7, e8, e9, e10⟩ := hE
  have hpl := pgT_le (rows := h.rows) (a := a) (b := b) hn
  have hps : ps.length ≤ 21 := by
    cases ov with
    | true => have := (hov rfl).2; omega
    | false => have := (hno rfl).2; omega
  have h60 : (ps.length : Int) < 60 := by omega
  have hTT := hT.tt
  simp only [U6_app, Z6, x6_71, x6_87, base1, ↓reduceIte, Nat.reduceAdd, Nat.reduceSub, Nat.reduceMul, Nat.reduceEqDiff, Nat.reduceLeDiff, Nat.reduceLT, Int.reduceLT, Int.reduceLE, Int.reduceEq, Int.reduceNe, Int.reduceToNat, Int.reduceAdd, Int.reduceSub, reduceCtorEq, Nat.reduceBEq, Nat.reduceBNe, loopR_exit, loopR_ret, e3, e5, e7, e8, e9, e10, e12, h60]
  refine ⟨T, cur, b, n, ov, Lt, Pt, rfl, hTT, ?_⟩
  cases ov with
  | true =>
    simp only [U6_app, Z6, x6_71, x6_87, base1, ↓reduceIte, Nat.reduceAdd, Nat.reduceSub, Nat.reduceMul, Nat.reduceEqDiff, Nat.reduceLeDiff, Nat.reduceLT, Int.reduceLT, Int.reduceLE, Int.reduceEq, Int.reduceNe, Int.reduceToNat, Int.reduceAdd, Int.reduceSub, reduceCtorEq, Nat.reduceBEq, Nat.reduceBNe, loopR_exit, loopR_ret, e3, e5, e7, e8, e9, e10, e12, h60]
    obtain ⟨o1, o2⟩ := hov rfl
    subst o1
    exact hK _ _ cur Lt Pt ps ⟨e3, e5, e7, e8, e9, e10⟩ hk hT o2
  | false =>
    obtain ⟨g1, g2⟩ := hno rfl
    simp only [U6_app, Z6, x6_71, x6_87, base1, ↓reduceIte, Nat.reduceAdd, Nat.reduceSub, Nat.reduceMul, Nat.reduceEqDiff, Nat.reduceLeDiff, Nat.reduceLT, Int.reduceLT, Int.reduceLE, Int.reduceEq, Int.reduceNe, Int.reduceToNat, Int.reduceAdd, Int.reduceSub, reduceCtorEq, Nat.reduceBEq, Nat.reduceBNe, loopR_exit, loopR_ret, e3, e5, e7, e8, e9, e10, e12, h60]
    refine ⟨T, cur, b, n, false, Lt, Pt, rfl, hTT, ?_⟩
    simp only [U6_app, Z6, x6_71, x6_87, base1, ↓reduceIte, Nat.reduceAdd, Nat.reduceSub, Nat.reduceMul, Nat.reduceEqDiff, Nat.reduceLeDiff, Nat.reduceLT, Int.reduceLT, Int.reduceLE, Int.reduceEq, Int.reduceNe, Int.reduceToNat, Int.reduceAdd, Int.reduceSub, reduceCtorEq, Nat.reduceBEq, Nat.reduceBNe, loopR_exit, loopR_ret, e3, e5, e7, e8, e9, e10, e12, h60]
    have hlast : lastI [h] cur 1 = ((0 : Nat) : Int) := by
      unfold lastI
      simp [hf, ht, hs_all]
    have hend : endS b [] = b := by
      unfold endS
      split
      · rfl
      · rename_i hh
        exact (Classical.byContradiction fun hb => hh ⟨fun e => hb e.symm, .inl rfl⟩)
    refine .inr ⟨S, 0, 0, n, Lv, [h], h, cur, b, rfl, hk.store hS1, rfl, hlast, hn, hn16, fun σ2 Lr k2 hg hfresh => ?_⟩
    rw [ht, hend] at hg
    rw [ht, hend]
    generalize hnx : pgNext h.rows cur b n = nx at hg ⊢
    generalize hmo : moreS nx b = more
    have hp2 : hget (hpush σ2 [.int .i64 0, .int .i64 0, .int .i64 0, .bool false, .str [], .nilslice, .str [], .bool false]) σ2.length = some [.int .i64 0, .int .i64 0, .int .i64 0, .bool false, .str [], .nilslice, .str [], .bool false] := push_new rfl
    have z8 : put [.int .i64 0, .int .i64 0, .int .i64 0, .bool false, .str [], .nilslice, .str [], .bool false] 0 (repP 0 Lr nx more) = some (repP 0 Lr nx more) := rfl
    have s8 : sub (repP 0 Lr nx more) 0 8 = some (repP 0 Lr nx more) := rfl
    have kp3 : Kp σ2 (hset (hpush σ2 [.int .i64 0, .int .i64 0, .int .i64 0, .bool false, .str [], .nilslice, .str [], .bool false]) σ2.length (repP 0 Lr nx more)) := Kp.pushSet
    have hZ3 := set_same (c := repP 0 Lr nx more) hp2
    have hcl : Lr.isCell = true := grow_cell hg
    have hg3 := kp3.grow hg
    have k03 := k2.trans kp3
    generalize hσ3 : hset (hpush σ2 [.int .i64 0, .int .i64 0, .int .i64 0, .bool false, .str [], .nilslice, .str [], .bool false]) σ2.length (repP 0 Lr nx more) = σ3 at kp3 hZ3 hg3 k03
    simp only [U6_app, Z6, x6_71, x6_87, base1, ↓reduceIte, Nat.reduceAdd, Nat.reduceSub, Nat.reduceMul, Nat.reduceEqDiff, Nat.reduceLeDiff, Nat.reduceLT, Int.reduceLT, Int.reduceLE, Int.reduceEq, Int.reduceNe, Int.reduceToNat, Int.reduceAdd, Int.reduceSub, reduceCtorEq, Nat.reduceBEq, Nat.reduceBNe, loopR_exit, loopR_ret, e3, e5, e7, e8, e9, e10, e12, h60, hp2, z8, s8, hcl, hσ3, hZ3]
    have hT3 := k03.tour hT
    have hqn : (h.rows.filter (pS cur b)).length ≤ h.rows.length := List.length_filter_le _ _
    have hrl : rs.length ≤ 20 := by
      have h1 := congrArg List.length g1
      have h2 := List.length_filter_le (pS a b) h.rows
      simp only [recsS, List.length_append, List.length_map] at h1
      omega
    have hLr : ∀ d, LvD Lr = some d → ¬ OwnT T Lt Pt d := fun d hd ho => by
      rcases ho with e | e | e
      · subst e; exact hfresh _ _ hTT hd
      · obtain ⟨c, hc⟩ := grow_live hT.lv e; exact hfresh _ _ hc hd
      · obtain ⟨c, hc⟩ := grow_live hT.pv e; exact hfresh _ _ hc hd
    have hwr : IntKind.wrap .i64 ((ps.length : Int) + 1) = ((ps.length + 1 : Nat) : Int) := by rw [Gz.wrap64 (by omega)]; omega
    -- the page's place
    have key : (more = true → (lessBytes nx cur || nx == cur) = false) ∧ (b = [] ∨ (lessBytes nx b || nx == b) = true) ∧
        ((more = false ∧ rs ++ pgRecs h.rows cur b n = recsS h.rows a b ∧ ps.length + 1 = pgT h.rows a b n) ∨ (more = true ∧ (rs ++ pgRecs h.rows cur b n) ++ recsS h.rows nx b = recsS h.rows a b ∧ ps.length + 1 + pc n (h.rows.filter (pS nx b)).length = pgT h.rows a b n)) := by
      rcases Nat.lt_or_ge n (h.rows.filter (pS cur b)).length with hlt | hge
      · obtain ⟨x, hx⟩ : ∃ x, (h.rows.filter (pS cur b))[n]? = some x := ⟨_, List.getElem?_eq_getElem hlt⟩
        have hnx' : nx = x.1 := by rw [← hnx]; unfold pgNext; rw [hx]
        subst hnx'
        have hxp := pS_iff.1 (List.mem_filter.1 (List.mem_of_getElem? hx)).2
        obtain ⟨y, hy⟩ : ∃ y, (h.rows.filter (pS cur b))[0]? = some y := ⟨_, List.getElem?_eq_getElem (by omega)⟩
        have hyp := pS_iff.1 (List.mem_filter.1 (List.mem_of_getElem? hy)).2
        have hq : Srt (h.rows.filter (pS cur b)) := List.Pairwise.sublist List.filter_sublist hs
        have hyx : y.1 < x.1 := by
          have a1 := List.getElem?_eq_some_iff.1 hy
          have a2 := List.getElem?_eq_some_iff.1 hx
          have := List.pairwise_iff_getElem.1 hq 0 n a1.1 a2.1 (by omega)
          rw [a1.2, a2.2] at this; exact this
        have hcx : cur < x.1 := le_lt hyp.1 hyx
        have hx0 : x.1 ≠ [] := fun e => nil_le cur (e ▸ hcx)
        have hm1 : more = true := by
          rw [← hmo]; unfold moreS
          rcases hxp.2 with e | e
          · simp [hx0, e]
          · simp [hx0, less_iff.2 e]
        have hpn := page_next hs cur b n x hx
        have hcat : pgRecs h.rows cur b n ++ recsS h.rows x.1 b = recsS h.rows cur b := by
          unfold pgRecs recsS
          rw [hpn, ← List.map_append, List.take_append_drop]
        refine ⟨fun _ => leq_no hcx, hxp.2.imp _root_.id leq_yes, .inr ⟨hm1, ?_, ?_⟩⟩
        · rw [List.append_assoc, hcat]; exact g1
        · rw [hpn, List.length_drop, ← g2, pc_more hn hlt]; omega
      · have hnx' : nx = b := by rw [← hnx]; unfold pgNext; rw [List.getElem?_eq_none hge]
        subst hnx'
        have hm0 : more = false := by
          rw [← hmo]; unfold moreS
          rw [less_no.2 (lt_irr nx)]
          cases nx <;> simp
        refine ⟨(fun hh => by rw [hm0] at hh; cases hh), .inr (leq_refl _), .inl ⟨hm0, ?_, ?_⟩⟩
        · unfold pgRecs
          rw [List.take_of_length_le hge]; exact g1
        · rw [← g2, pc_one hn hge]
    obtain ⟨c1, c2, c3⟩ := key
    have hpr : (pgRecs h.rows cur b n).length ≤ 20 := by
      unfold pgRecs
      rw [List.length_map, List.length_take]; omega
    refine ⟨T, cur, b, nx, n, 0, more, Lt, Pt, Lr, rs, pgRecs h.rows cur b n, ps, rfl, hT3, hg3, hLr, c1, c2, by omega, by omega, fun σ4 Lt' Pt' hT4 f4 => ?_⟩
    simp only [U6_app, Z6, x6_71, x6_87, base1, ↓reduceIte, Nat.reduceAdd, Nat.reduceSub, Nat.reduceMul, Nat.reduceEqDiff, Nat.reduceLeDiff, Nat.reduceLT, Int.reduceLT, Int.reduceLE, Int.reduceEq, Int.reduceNe, Int.reduceToNat, Int.reduceAdd, Int.reduceSub, reduceCtorEq, Nat.reduceBEq, Nat.reduceBNe, loopR_exit, loopR_ret, e3, e5, e7, e8, e9, e10, e12, h60, hwr]
    rw [loopR_normal]
    refine ⟨60 - (ps.length + 1), _, _, by omega, .refl _ _ _, nx, !more, Lt', Pt', _, _, by simp, ⟨e3, e5, e7, e8, e9, e10⟩, by rw [List.length_append]; rfl, fun j c hj => (f4 _ _ (k03 _ _ (hk _ _ hj)) (hO _ _ hj)).1, hT4, fun j c hj => (f4 _ _ (k03 _ _ (hk _ _ hj)) (hO _ _ hj)).2, fun hv => ?_, fun hv => ?_⟩
    · rcases c3 with ⟨m1, m2, m3⟩ | ⟨m1, _⟩
      · exact ⟨m2, by simp [m3]⟩
      · rw [m1] at hv; cases hv
    · rcases c3 with ⟨m1, _⟩ | ⟨m1, m2, m3⟩
      · rw [m1] at hv; cases hv
      · exact ⟨m2, by simpa using m3⟩
end Go.Proofs.Ytmjnmnhpmbbmgaa.tour
