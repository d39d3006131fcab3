/- The table that stores are given, as a call makes it. No condition. -/
import Derived.Test.YtmjnmnhpmbbmgaaTG
set_option linter.unusedVariables false
set_option linter.unusedSimpArgs false
namespace Go.Proofs.Ytmjnmnhpmbbmgaa.tour
open Go.ChangeShapes Go.WideShapes Go.ChangeAt Go.RowKit Go.Gz Go.Gz.H
abbrev r17_0 : List MOper := [⟨(some 0), .alloc [.nilslice, .nilslice, .int .i64 0, .bool false], none⟩]
def b17_0 : SCode := .region r17_0
abbrev r17_1 : List MOper := [⟨(some 1), .buildSlice [.int .i32 0] 1 2 [(0, 1, (.c (.int .i32 101))), (1, 1, (.c (.int .i32 769)))], none⟩,
  ⟨(some 2), .build [.int .i32 0, .int .i64 0, .nilslice] [(0, 1, (.c (.int .i32 233))), (2, 1, (.t 1))], none⟩,
  ⟨(some 3), .build [.int .i32 0, .int .i64 0, .nilslice] [(0, 1, (.c (.int .i32 769))), (1, 1, (.c (.int .i64 230)))], none⟩,
  ⟨(some 4), .buildSlice [.int .i32 0, .int .i64 0, .nilslice] 3 2 [(0, 3, (.t 2)), (3, 3, (.t 3))], none⟩,
  ⟨(some 5), .buildSlice [.int .i32 0] 1 1 [(0, 1, (.c (.int .i32 97)))], none⟩,
  ⟨(some 6), .build [.int .i64 0, .int .i64 0, .int .i64 0] [(0, 1, (.c (.int .i64 10))), (1, 1, (.c (.int .i64 32))), (2, 1, (.c (.int .i64 2)))], none⟩,
  ⟨(some 7), .buildSlice [.int .i64 0, .int .i64 0, .int .i64 0] 3 1 [(0, 3, (.t 6))], none⟩,
  ⟨(some 8), .build [.nilslice, .nilslice] [(0, 1, (.t 5)), (1, 1, (.t 7))], none⟩,
  ⟨(some 9), .buildSlice [.int .i32 0] 1 1 [(0, 1, (.c (.int .i32 98)))], none⟩,
  ⟨(some 10), .build [.int .i64 0, .int .i64 0, .int .i64 0] [(0, 1, (.c (.int .i64 11))), (1, 1, (.c (.int .i64 32))), (2, 1, (.c (.int .i64 2)))], none⟩,
  ⟨(some 11), .buildSlice [.int .i64 0, .int .i64 0, .int .i64 0] 3 1 [(0, 3, (.t 10))], none⟩,
  ⟨(some 12), .build [.nilslice, .nilslice] [(0, 1, (.t 9)), (1, 1, (.t 11))], none⟩,
  ⟨(some 13), .buildSlice [.int .i32 0] 1 1 [(0, 1, (.c (.int .i32 99)))], none⟩,
  ⟨(some 14), .build [.int .i64 0, .int .i64 0, .int .i64 0] [(0, 1, (.c (.int .i64 12))), (1, 1, (.c (.int .i64 32))), (2, 1, (.c (.int .i64 2)))], none⟩,
  ⟨(some 15), .buildSlice [.int .i64 0, .int .i64 0, .int .i64 0] 3 1 [(0, 3, (.t 14))], none⟩,
  ⟨(some 16), .build [.nilslice, .nilslice] [(0, 1, (.t 13)), (1, 1, (.t 15))], none⟩,
  ⟨(some 17), .buildSlice [.int .i32 0] 1 1 [(0, 1, (.c (.int .i32 101)))], none⟩,
  ⟨(some 18), .build [.int .i64 0, .int .i64 0, .int .i64 0] [(0, 1, (.c (.int .i64 13))), (1, 1, (.c (.int .i64 32))), (2, 1, (.c (.int .i64 2)))], none⟩,
  ⟨(some 19), .buildSlice [.int .i64 0, .int .i64 0, .int .i64 0] 3 1 [(0, 3, (.t 18))], none⟩,
  ⟨(some 20), .build [.nilslice, .nilslice] [(0, 1, (.t 17)), (1, 1, (.t 19))], none⟩,
  ⟨(some 21), .buildSlice [.int .i32 0] 1 1 [(0, 1, (.c (.int .i32 769)))], none⟩,
  ⟨(some 22), .build [.int .i64 0, .int .i64 0, .int .i64 0] [(1, 1, (.c (.int .i64 41))), (2, 1, (.c (.int .i64 2)))], none⟩,
  ⟨(some 23), .buildSlice [.int .i64 0, .int .i64 0, .int .i64 0] 3 1 [(0, 3, (.t 22))], none⟩,
  ⟨(some 24), .build [.nilslice, .nilslice] [(0, 1, (.t 21)), (1, 1, (.t 23))], none⟩,
  ⟨(some 25), .buildSlice [.nilslice, .nilslice] 2 5 [(0, 2, (.t 8)), (2, 2, (.t 12)), (4, 2, (.t 16)), (6, 2, (.t 20)), (8, 2, (.t 24))], none⟩,
  ⟨(some 26), .build [.nilslice, .nilslice, .int .i64 0, .bool false] [(0, 1, (.t 4)), (1, 1, (.t 25))], none⟩,
  ⟨none, .store 4 (.t 0) (.t 26), none⟩]
def b17_1 : SCode := .region r17_1
def b17_2 : SCode := .seq b17_1 .ret
def b17_3 : SCode := .seq b17_0 b17_2
def s17 : SFunc := ⟨27, [.cN 0 4], b17_3⟩
theorem c17 : sFn Try.prog 17 = some s17 := by kernel_rfl
theorem Z17 : XR b17_0 r17_0 ∧ XR b17_1 r17_1 ∧ XS b17_2 b17_1 .ret ∧ XS b17_3 b17_0 b17_2 ∧ XY s17 27 b17_3 [.cN 0 4] := ⟨rfl, rfl, rfl, rfl, rfl⟩

set_option maxHeartbeats 4000000
set_option maxRecDepth 10000
/-- Rows of w cells each. -/
def chunk (w : Nat) : Nat → List AV → List (List AV)
  | 0, _ => []
  | k + 1, zs => zs.take w :: chunk w k (zs.drop w)
theorem chunk_len {w : Nat} : ∀ {k : Nat} {zs : List AV}, (chunk w k zs).length = k
  | 0, _ => rfl
  | k + 1, zs => by simp [chunk, chunk_len]
theorem chunk_flat {w : Nat} : ∀ {k : Nat} {zs : List AV}, zs.length = k * w → (chunk w k zs).flatten = zs
  | 0, zs, h => by simp at h; subst h; rfl
  | k + 1, zs, h => by
    rw [Nat.add_mul, Nat.one_mul] at h
    simp only [chunk, List.flatten_cons]
    rw [chunk_flat (by rw [List.length_drop]; omega), List.take_append_drop]
theorem chunk_row {w : Nat} : ∀ {k : Nat} {zs : List AV}, zs.length = k * w → ∀ r ∈ chunk w k zs, r.length = w
  | 0, zs, h, r, hr => by simp [chunk] at hr
  | k + 1, zs, h, r, hr => by
    rw [Nat.add_mul, Nat.one_mul] at h
    simp only [chunk, List.mem_cons] at hr
    rcases hr with rfl | hr
    · rw [List.length_take]; omega
    · exact chunk_row (by rw [List.length_drop]; omega) r hr
def allO (f : AV → Option AV) : List AV → Option (List AV)
  | [] => some []
  | x :: r => match f x, allO f r with
    | some y, some s => some (y :: s)
    | _, _ => none
theorem allO_at {f : AV → Option AV} : ∀ {xs ys : List AV}, allO f xs = some ys → xs.length = ys.length ∧ ∀ (i : Nat) x y, xs[i]? = some x → ys[i]? = some y → f x = some y
  | [], ys, h => by simp [allO] at h; subst h; exact ⟨rfl, fun i x y h => by simp at h⟩
  | x :: r, ys, h => by
    unfold allO at h
    split at h
    · rename_i y s h1 h2
      cases h
      obtain ⟨l, a⟩ := allO_at h2
      refine ⟨by simp [l], fun i u v hu hv => ?_⟩
      match i with
      | 0 => simp at hu hv; subst hu; subst hv; exact h1
      | i + 1 => exact a i u v (by simpa using hu) (by simpa using hv)
    · cases h
/-- What a value shows, as rows that nothing writes. -/
def frzV (σ : AHeap) : Nat → AV → Option AV
  | 0, x => if x.pure then some x else none
  | n + 1, .slice s off len cap esz => match (hget σ s).bind fun cells => sub cells off (len * esz) with
    | some ys => match allO (frzV σ n) ys with
      | some zs => if zs.length = len * esz then some (.imm (chunk esz len zs) false false) else none
      | none => none
    | none => none
  | n + 1, .agg xs => match allO (frzV σ n) xs with
    | some ys => some (.agg ys)
    | none => none
  | n + 1, x => if x.pure then some x else none
theorem frzV_ok {σ : AHeap} : ∀ {n : Nat} {x y : AV}, frzV σ n x = some y → Frz σ x y := by
  have pr : ∀ {x y : AV}, (if x.pure then some x else none) = some y → Frz σ x y := fun {x y} h => by
    split at h
    · cases h; exact .pure (by assumption)
    · cases h
  intro n
  induction n with
  | zero => intro x y h; exact pr (by simpa [frzV] using h)
  | succ n ih =>
    intro x y h
    cases x with
    | slice s off len cap esz =>
      simp only [frzV] at h
      split at h
      · rename_i ys h1
        split at h
        · rename_i zs h2
          split at h
          · rename_i h3
            cases h
            obtain ⟨cells, hc, hs⟩ := Option.bind_eq_some_iff.1 h1
            obtain ⟨l, a⟩ := allO_at h2
            exact .slice hc hs chunk_len (chunk_row h3) fun i y z hy hz => ih (a i y z hy (by rw [← chunk_flat h3]; exact hz))
          · cases h
        · cases h
      · cases h
    | agg xs =>
      simp only [frzV] at h
      split at h
      · rename_i ys h1
        cases h
        obtain ⟨l, a⟩ := allO_at h1
        exact .agg l fun i u v hu hv => ih (a i u v hu hv)
      · cases h
    | _ => exact pr (by simpa only [frzV] using h)
theorem table_ok : Tri Try.prog 17 [] [] fun r _ => r.pure = true ∧ r = .agg tabC := by
  refine Tri.frozen (Q := fun r σ => frzV σ 5 r = some (.agg tabC)) (Tri.of_s c17 (noCall_sound _) ?_) (fun r σ h => ⟨_, frzV_ok h, by rw [AV.pure]; exact tab_pure, rfl⟩)
  simp only [Z17, base1, ↓reduceIte, Nat.reduceAdd, Nat.reduceSub, Nat.reduceMul, Nat.reduceEqDiff, Nat.reduceLeDiff, Nat.reduceLT, Int.reduceLT, Int.reduceLE, Int.reduceEq, Int.reduceNe, Int.reduceToNat, Int.reduceAdd, Int.reduceSub, reduceCtorEq, Nat.reduceBEq, Nat.reduceBNe]
  rfl
def tableD (args : List AV) (σ : AHeap) (K : AV → AHeap → Prop) : Prop := args = [] ∧ K (.agg tabC) σ
theorem tableD_ok (args : List AV) (σ : AHeap) (K : AV → AHeap → Prop) (h : tableD args σ K) : Tri Try.prog 17 args σ K := by
  obtain ⟨rfl, h⟩ := h
  exact (Tri.pureD rfl table_ok σ).mono fun x σ' hr => by rw [hr.1, hr.2]; exact h
end Go.Proofs.Ytmjnmnhpmbbmgaa.tour

/- A tour: made, told, asked. No condition. -/
set_option linter.unusedVariables false
set_option linter.unusedSimpArgs false
namespace Go.Proofs.Ytmjnmnhpmbbmgaa.tour
open Go.ChangeShapes Go.WideShapes Go.ChangeAt Go.RowKit Go.Gz Go.Gz.H
abbrev r30_0 : List MOper := [⟨(some 1), .box (.t 0), none⟩,
  ⟨(some 2), .move (.c (.bool false)), none⟩]
def b30_0 : SCode := .region r30_0
abbrev r30_1 : List MOper := [⟨(some 3), .fieldAddr 1 (.t 1), none⟩,
  ⟨(some 4), .load1 (.t 3), none⟩,
  ⟨(some 5), .bin .neq .num (.t 4) (.c (.str [])), none⟩,
  ⟨(some 6), .move (.t 5), none⟩,
  ⟨(some 7), .fieldAddr 1 (.t 1), (some (6, true))⟩,
  ⟨(some 8), .load1 (.t 7), (some (6, true))⟩,
  ⟨(some 9), .fieldAddr 0 (.t 1), (some (6, true))⟩,
  ⟨(some 10), .load1 (.t 9), (some (6, true))⟩,
  ⟨(some 11), .bin .leq .num (.t 8) (.t 10), (some (6, true))⟩,
  ⟨(some 12), .pick (.t 6) (.t 11) (.c (.bool false)), none⟩,
  ⟨(some 2), .move (.t 12), none⟩]
def b30_1 : SCode := .region r30_1
def b30_2 : SCode := .seq b30_1 .ret
def b30_3 : SCode := .seq b30_0 b30_2
def s30 : SFunc := ⟨13, [.t 2], b30_3⟩
theorem c30 : sFn Try.prog 30 = some s30 := by kernel_rfl
theorem Z30 : XR b30_0 r30_0 ∧ XR b30_1 r30_1 ∧ XS b30_2 b30_1 .ret ∧ XS b30_3 b30_0 b30_2 ∧ XY s30 13 b30_3 [.t 2] := ⟨rfl, rfl, rfl, rfl, rfl⟩
abbrev r11_0 : List MOper := [⟨(some 6), .move (.c (.nilptr)), none⟩,
  ⟨(some 7), .move (.c (.int .i64 0)), none⟩]
def b11_0 : SCode := .region r11_0
abbrev r11_1 : List MOper := [⟨(some 10), .move (.t 2), none⟩,
  ⟨(some 11), .bin .lss .num (.t 10) (.c (.int .i64 1)), none⟩,
  ⟨(some 12), .move (.t 11), none⟩,
  ⟨(some 13), .move (.t 2), (some (12, false))⟩,
  ⟨(some 14), .bin .gtr .num (.t 13) (.c (.int .i64 16)), (some (12, false))⟩,
  ⟨(some 15), .pick (.t 12) (.c (.bool true)) (.t 14), none⟩,
  ⟨(some 9), .move (.t 15), none⟩]
def b11_1 : SCode := .region r11_1
abbrev r11_2 : List MOper := [⟨(some 6), .move (.c (.nilptr)), none⟩,
  ⟨(some 7), .move (.c (.int .i64 1)), none⟩]
def b11_2 : SCode := .region r11_2
def b11_3 : SCode := .seq b11_2 .ret
abbrev r11_4 : List MOper := [⟨(some 17), .move (.t 0), none⟩,
  ⟨(some 18), .lenStr (.t 17), none⟩,
  ⟨(some 19), .bin .gtr .num (.t 18) (.c (.int .i64 640)), none⟩,
  ⟨(some 20), .move (.t 19), none⟩,
  ⟨(some 21), .move (.t 1), (some (20, false))⟩,
  ⟨(some 22), .lenStr (.t 21), (some (20, false))⟩,
  ⟨(some 23), .bin .gtr .num (.t 22) (.c (.int .i64 640)), (some (20, false))⟩,
  ⟨(some 24), .pick (.t 20) (.c (.bool true)) (.t 23), none⟩,
  ⟨(some 16), .move (.t 24), none⟩]
def b11_4 : SCode := .region r11_4
abbrev r11_5 : List MOper := [⟨(some 6), .move (.c (.nilptr)), none⟩,
  ⟨(some 7), .move (.c (.int .i64 3)), none⟩]
def b11_5 : SCode := .region r11_5
def b11_6 : SCode := .seq b11_5 .ret
def b11_7 : SCode := .cond (.t 16) b11_6 .skip
def b11_8 : SCode := .seq b11_4 b11_7
def b11_9 : SCode := .cond (.t 9) b11_3 b11_8
def b11_10 : SCode := .seq b11_1 b11_9
def b11_11 : SCode := .block 0 b11_10
abbrev r11_12 : List MOper := [⟨(some 25), .move (.t 0), none⟩,
  ⟨(some 26), .move (.t 1), none⟩,
  ⟨(some 27), .build [.str [], .str []] [(0, 1, (.t 25)), (1, 1, (.t 26))], none⟩,
  ⟨(some 28), .move (.t 2), none⟩,
  ⟨(some 29), .build [.str [], .str [], .int .i64 0, .bool false, .nilslice, .nilslice] [(0, 2, (.t 27)), (2, 1, (.t 28))], none⟩,
  ⟨(some 30), .box (.t 29), none⟩,
  ⟨(some 8), .move (.t 30), none⟩]
def b11_12 : SCode := .region r11_12
abbrev r11_13 : List MOper := [⟨(some 31), .move (.t 8), none⟩,
  ⟨(some 32), .move (.t 8), none⟩,
  ⟨(some 33), .nilCheck (.t 32), none⟩,
  ⟨(some 34), .fieldAddr 0 (.t 33), none⟩,
  ⟨(some 35), .loadN 2 (.t 34), none⟩,
  ⟨(some 36), .call 30 [(.t 35)], none⟩,
  ⟨(some 37), .nilCheck (.t 31), none⟩,
  ⟨(some 38), .fieldAddr 3 (.t 37), none⟩,
  ⟨none, .store 1 (.t 38) (.t 36), none⟩]
def b11_13 : SCode := .region r11_13
abbrev r11_14 : List MOper := [⟨(some 39), .move (.t 8), none⟩,
  ⟨(some 6), .move (.t 39), none⟩,
  ⟨(some 7), .move (.c (.int .i64 0)), none⟩]
def b11_14 : SCode := .region r11_14
def b11_15 : SCode := .seq b11_14 .ret
def b11_16 : SCode := .seq b11_13 b11_15
def b11_17 : SCode := .seq b11_12 b11_16
def b11_18 : SCode := .seq b11_11 b11_17
def b11_19 : SCode := .seq b11_0 b11_18
def s11 : SFunc := ⟨40, [.t 6, .t 7], b11_19⟩
theorem c11 : sFn Try.prog 11 = some s11 := by kernel_rfl
theorem Z11 : XR b11_0 r11_0 ∧ XR b11_1 r11_1 ∧ XR b11_2 r11_2 ∧ XS b11_3 b11_2 .ret ∧ XR b11_4 r11_4 ∧ XR b11_5 r11_5 ∧ XS b11_6 b11_5 .ret ∧ XC b11_7 (.t 16) b11_6 .skip ∧ XS b11_8 b11_4 b11_7 ∧ XC b11_9 (.t 9) b11_3 b11_8 ∧ XS b11_10 b11_1 b11_9 ∧ XB b11_11 0 b11_10 ∧ XR b11_12 r11_12 ∧ XR b11_13 r11_13 ∧ XR b11_14 r11_14 ∧ XS b11_15 b11_14 .ret ∧ XS b11_16 b11_13 b11_15 ∧ XS b11_17 b11_12 b11_16 ∧ XS b11_18 b11_11 b11_17 ∧ XS b11_19 b11_0 b11_18 ∧ XY s11 40 b11_19 [.t 6, .t 7] := ⟨rfl, rfl, rfl, rfl, rfl, rfl, rfl, sC_cond, rfl, sC_cond, rfl, rfl, rfl, rfl, rfl, rfl, rfl, rfl, rfl, rfl, rfl⟩
abbrev r12_0 : List MOper := [⟨(some 2), .move (.c (.str [])), none⟩,
  ⟨(some 3), .move (.c (.str [])), none⟩,
  ⟨(some 4), .move (.c (.int .i64 0)), none⟩,
  ⟨(some 5), .move (.c (.bool false)), none⟩]
def b12_0 : SCode := .region r12_0
abbrev r12_1 : List MOper := [⟨(some 6), .move (.t 0), none⟩,
  ⟨(some 7), .bin .eql .nilp (.t 6) (.c (.nilptr)), none⟩,
  ⟨(some 8), .move (.t 7), none⟩,
  ⟨(some 9), .move (.t 0), (some (8, false))⟩,
  ⟨(some 10), .nilCheck (.t 9), (some (8, false))⟩,
  ⟨(some 11), .fieldAddr 3 (.t 10), (some (8, false))⟩,
  ⟨(some 12), .load1 (.t 11), (some (8, false))⟩,
  ⟨(some 13), .pick (.t 8) (.c (.bool true)) (.t 12), none⟩]
def b12_1 : SCode := .region r12_1
abbrev r12_2 : List MOper := [⟨(some 2), .move (.c (.str [])), none⟩,
  ⟨(some 3), .move (.c (.str [])), none⟩,
  ⟨(some 4), .move (.c (.int .i64 0)), none⟩,
  ⟨(some 5), .move (.c (.bool false)), none⟩]
def b12_2 : SCode := .region r12_2
def b12_3 : SCode := .seq b12_2 .ret
def b12_4 : SCode := .cond (.t 13) b12_3 .skip
def b12_5 : SCode := .seq b12_1 b12_4
abbrev t12_6 : LTree := (.quiet ⟨(some 14), .move (.t 0), none⟩ 0
  (.quiet ⟨(some 15), .nilCheck (.t 14), none⟩ 1
  (.quiet ⟨(some 16), .fieldAddr 0 (.t 15), none⟩ 2
  (.quiet ⟨(some 17), .fieldAddr 0 (.t 16), none⟩ 3
  (.quiet ⟨(some 18), .load1 (.t 17), none⟩ 4
  (.quiet ⟨(some 19), .move (.t 0), none⟩ 5
  (.quiet ⟨(some 20), .nilCheck (.t 19), none⟩ 6
  (.quiet ⟨(some 21), .fieldAddr 0 (.t 20), none⟩ 7
  (.quiet ⟨(some 22), .fieldAddr 1 (.t 21), none⟩ 8
  (.quiet ⟨(some 23), .load1 (.t 22), none⟩ 9
  (.quiet ⟨(some 24), .move (.t 0), none⟩ 10
  (.quiet ⟨(some 25), .nilCheck (.t 24), none⟩ 11
  (.quiet ⟨(some 26), .fieldAddr 2 (.t 25), none⟩ 12
  (.quiet ⟨(some 27), .load1 (.t 26), none⟩ 13
  (.quiet ⟨(some 2), .move (.t 18), none⟩ 14
  (.quiet ⟨(some 3), .move (.t 23), none⟩ 15
  (.quiet ⟨(some 4), .move (.t 27), none⟩ 16
  (.quiet ⟨(some 5), .move (.c (.bool true)), none⟩ 17
  .leaf))))))))))))))))))
def b12_6 : SCode := .draw t12_6
def b12_7 : SCode := .seq b12_6 .ret
def b12_8 : SCode := .seq b12_5 b12_7
def b12_9 : SCode := .seq b12_0 b12_8
def s12 : SFunc := ⟨28, [.t 2, .t 3, .t 4, .t 5], b12_9⟩
theorem c12 : sFn Try.prog 12 = some s12 := by kernel_rfl
theorem Z12 : XR b12_0 r12_0 ∧ XR b12_1 r12_1 ∧ XR b12_2 r12_2 ∧ XS b12_3 b12_2 .ret ∧ XC b12_4 (.t 13) b12_3 .skip ∧ XS b12_5 b12_1 b12_4 ∧ XT b12_6 t12_6 ∧ XS b12_7 b12_6 .ret ∧ XS b12_8 b12_5 b12_7 ∧ XS b12_9 b12_0 b12_8 ∧ XY s12 28 b12_9 [.t 2, .t 3, .t 4, .t 5] := ⟨rfl, rfl, rfl, rfl, sC_cond, rfl, rfl, rfl, rfl, rfl, rfl⟩
abbrev r13_0 : List MOper := [⟨(some 2), .move (.c (.bool false)), none⟩]
def b13_0 : SCode := .region r13_0
abbrev r13_1 : List MOper := [⟨(some 3), .move (.t 0), none⟩,
  ⟨(some 4), .bin .neq .nilp (.t 3) (.c (.nilptr)), none⟩,
  ⟨(some 5), .move (.t 4), none⟩,
  ⟨(some 6), .move (.t 0), (some (5, true))⟩,
  ⟨(some 7), .nilCheck (.t 6), (some (5, true))⟩,
  ⟨(some 8), .fieldAddr 3 (.t 7), (some (5, true))⟩,
  ⟨(some 9), .load1 (.t 8), (some (5, true))⟩,
  ⟨(some 10), .pick (.t 5) (.t 9) (.c (.bool false)), none⟩,
  ⟨(some 2), .move (.t 10), none⟩]
def b13_1 : SCode := .region r13_1
def b13_2 : SCode := .seq b13_1 .ret
def b13_3 : SCode := .seq b13_0 b13_2
def s13 : SFunc := ⟨11, [.t 2], b13_3⟩
theorem c13 : sFn Try.prog 13 = some s13 := by kernel_rfl
theorem Z13 : XR b13_0 r13_0 ∧ XR b13_1 r13_1 ∧ XS b13_2 b13_1 .ret ∧ XS b13_3 b13_0 b13_2 ∧ XY s13 11 b13_3 [.t 2] := ⟨rfl, rfl, rfl, rfl, rfl⟩
abbrev r14_0 : List MOper := [⟨(some 3), .box (.t 1), none⟩,
  ⟨(some 4), .move (.c (.int .i64 0)), none⟩]
def b14_0 : SCode := .region r14_0
abbrev r14_1 : List MOper := [⟨(some 6), .move (.t 0), none⟩,
  ⟨(some 7), .bin .eql .nilp (.t 6) (.c (.nilptr)), none⟩,
  ⟨(some 5), .move (.t 7), none⟩]
def b14_1 : SCode := .region r14_1
abbrev r14_2 : List MOper := [⟨(some 4), .move (.c (.int .i64 1)), none⟩]
def b14_2 : SCode := .region r14_2
def b14_3 : SCode := .seq b14_2 .ret
abbrev r14_4 : List MOper := [⟨(some 9), .move (.t 0), none⟩,
  ⟨(some 10), .nilCheck (.t 9), none⟩,
  ⟨(some 11), .fieldAddr 3 (.t 10), none⟩,
  ⟨(some 12), .load1 (.t 11), none⟩,
  ⟨(some 8), .move (.t 12), none⟩]
def b14_4 : SCode := .region r14_4
abbrev r14_5 : List MOper := [⟨(some 4), .move (.c (.int .i64 10)), none⟩]
def b14_5 : SCode := .region r14_5
def b14_6 : SCode := .seq b14_5 .ret
abbrev r14_7 : List MOper := [⟨(some 14), .fieldAddr 2 (.t 3), none⟩,
  ⟨(some 15), .load1 (.t 14), none⟩,
  ⟨(some 16), .bin .neq .num (.t 15) (.c (.int .i64 0)), none⟩,
  ⟨(some 13), .move (.t 16), none⟩]
def b14_7 : SCode := .region r14_7
abbrev r14_8 : List MOper := [⟨(some 17), .fieldAddr 2 (.t 3), none⟩,
  ⟨(some 18), .load1 (.t 17), none⟩,
  ⟨(some 4), .move (.t 18), none⟩]
def b14_8 : SCode := .region r14_8
def b14_9 : SCode := .seq b14_8 .ret
abbrev t14_10 : LTree := (.quiet ⟨(some 20), .fieldAddr 7 (.t 3), none⟩ 0
  (.quiet ⟨(some 21), .load1 (.t 20), none⟩ 1
  (.quiet ⟨(some 22), .move (.t 21), none⟩ 2
  (.quiet ⟨(some 23), .fieldAddr 6 (.t 3), (some (22, true))⟩ 3
  (.quiet ⟨(some 24), .load1 (.t 23), (some (22, true))⟩ 4
  (.quiet ⟨(some 25), .move (.t 0), (some (22, true))⟩ 5
  (.quiet ⟨(some 26), .nilCheck (.t 25), (some (22, true))⟩ 6
  (.quiet ⟨(some 27), .fieldAddr 0 (.t 26), (some (22, true))⟩ 7
  (.quiet ⟨(some 28), .fieldAddr 0 (.t 27), (some (22, true))⟩ 8
  (.quiet ⟨(some 29), .load1 (.t 28), (some (22, true))⟩ 9
  (.quiet ⟨(some 30), .bin .leq .num (.t 24) (.t 29), (some (22, true))⟩ 10
  (.quiet ⟨(some 31), .pick (.t 22) (.t 30) (.c (.bool false)), none⟩ 11
  (.quiet ⟨(some 19), .move (.t 31), none⟩ 12
  .leaf)))))))))))))
def b14_10 : SCode := .draw t14_10
abbrev t14_11 : LTree := (.quiet ⟨(some 32), .move (.t 0), none⟩ 0
  (.quiet ⟨(some 33), .nilCheck (.t 32), none⟩ 1
  (.quiet ⟨(some 34), .fieldAddr 0 (.t 33), none⟩ 2
  (.quiet ⟨(some 35), .fieldAddr 1 (.t 34), none⟩ 3
  (.quiet ⟨(some 36), .load1 (.t 35), none⟩ 4
  (.quiet ⟨(some 37), .bin .neq .num (.t 36) (.c (.str [])), none⟩ 5
  (.quiet ⟨(some 38), .move (.t 37), none⟩ 6
  (.quiet ⟨(some 39), .fieldAddr 6 (.t 3), (some (38, true))⟩ 7
  (.quiet ⟨(some 40), .load1 (.t 39), (some (38, true))⟩ 8
  (.quiet ⟨(some 41), .move (.t 0), (some (38, true))⟩ 9
  (.quiet ⟨(some 42), .nilCheck (.t 41), (some (38, true))⟩ 10
  (.quiet ⟨(some 43), .fieldAddr 0 (.t 42), (some (38, true))⟩ 11
  (.quiet ⟨(some 44), .fieldAddr 1 (.t 43), (some (38, true))⟩ 12
  (.quiet ⟨(some 45), .load1 (.t 44), (some (38, true))⟩ 13
  (.quiet ⟨(some 46), .bin .gtr .num (.t 40) (.t 45), (some (38, true))⟩ 14
  (.quiet ⟨(some 47), .pick (.t 38) (.t 46) (.c (.bool false)), none⟩ 15
  (.quiet ⟨(some 19), .move (.t 47), none⟩ 16
  .leaf)))))))))))))))))
def b14_11 : SCode := .draw t14_11
def b14_12 : SCode := .cond (.t 19) .skip b14_11
def b14_13 : SCode := .seq b14_10 b14_12
abbrev r14_14 : List MOper := [⟨(some 4), .move (.c (.int .i64 5)), none⟩]
def b14_14 : SCode := .region r14_14
def b14_15 : SCode := .seq b14_14 .ret
def b14_16 : SCode := .cond (.t 19) b14_15 .skip
def b14_17 : SCode := .seq b14_13 b14_16
def b14_18 : SCode := .cond (.t 13) b14_9 b14_17
def b14_19 : SCode := .seq b14_7 b14_18
def b14_20 : SCode := .cond (.t 8) b14_6 b14_19
def b14_21 : SCode := .seq b14_4 b14_20
def b14_22 : SCode := .cond (.t 5) b14_3 b14_21
def b14_23 : SCode := .seq b14_1 b14_22
def b14_24 : SCode := .block 0 b14_23
abbrev t14_25 : LTree := (.quiet ⟨(some 48), .move (.t 0), none⟩ 0
  (.quiet ⟨(some 49), .move (.t 0), none⟩ 1
  (.quiet ⟨(some 50), .nilCheck (.t 49), none⟩ 2
  (.quiet ⟨(some 51), .fieldAddr 4 (.t 50), none⟩ 3
  (.quiet ⟨(some 52), .load1 (.t 51), none⟩ 4
  (.quiet ⟨(some 53), .fieldAddr 5 (.t 3), none⟩ 5
  (.quiet ⟨(some 54), .load1 (.t 53), none⟩ 6
  (.loud ⟨(some 55), .append 2 32 (.t 52) (.t 54), none⟩ []
  (.quiet ⟨(some 56), .nilCheck (.t 48), none⟩ 8
  (.quiet ⟨(some 57), .fieldAddr 4 (.t 56), none⟩ 9
  (.loud ⟨none, .store 1 (.t 57) (.t 55), none⟩ []
  .leaf .stop))) .stop))))))))
def b14_25 : SCode := .draw t14_25
abbrev t14_26 : LTree := (.quiet ⟨(some 58), .move (.t 0), none⟩ 0
  (.quiet ⟨(some 59), .move (.t 0), none⟩ 1
  (.quiet ⟨(some 60), .nilCheck (.t 59), none⟩ 2
  (.quiet ⟨(some 61), .fieldAddr 5 (.t 60), none⟩ 3
  (.quiet ⟨(some 62), .load1 (.t 61), none⟩ 4
  (.quiet ⟨(some 63), .move (.t 0), none⟩ 5
  (.quiet ⟨(some 64), .nilCheck (.t 63), none⟩ 6
  (.quiet ⟨(some 65), .fieldAddr 0 (.t 64), none⟩ 7
  (.quiet ⟨(some 66), .fieldAddr 0 (.t 65), none⟩ 8
  (.quiet ⟨(some 67), .load1 (.t 66), none⟩ 9
  (.quiet ⟨(some 68), .fieldAddr 6 (.t 3), none⟩ 10
  (.quiet ⟨(some 69), .load1 (.t 68), none⟩ 11
  (.quiet ⟨(some 70), .build [.str [], .str []] [(0, 1, (.t 67)), (1, 1, (.t 69))], none⟩ 12
  (.loud ⟨(some 71), .buildSlice [.str [], .str []] 2 1 [(0, 2, (.t 70))], none⟩ [4]
  (.loud ⟨(some 72), .append 2 32 (.t 62) (.t 71), none⟩ []
  (.quiet ⟨(some 73), .nilCheck (.t 58), none⟩ 15
  (.quiet ⟨(some 74), .fieldAddr 5 (.t 73), none⟩ 16
  (.loud ⟨none, .store 1 (.t 74) (.t 72), none⟩ []
  .leaf .stop))) .stop) .stop))))))))))))))
def b14_26 : SCode := .draw t14_26
abbrev t14_27 : LTree := (.quiet ⟨(some 75), .move (.t 0), none⟩ 0
  (.quiet ⟨(some 76), .move (.t 0), none⟩ 1
  (.quiet ⟨(some 77), .fieldAddr 6 (.t 3), none⟩ 2
  (.quiet ⟨(some 78), .load1 (.t 77), none⟩ 3
  (.quiet ⟨(some 79), .fieldAddr 7 (.t 3), none⟩ 4
  (.quiet ⟨(some 80), .load1 (.t 79), none⟩ 5
  (.quiet ⟨(some 81), .un .not (.t 80), none⟩ 6
  (.quiet ⟨(some 82), .nilCheck (.t 75), none⟩ 7
  (.quiet ⟨(some 83), .fieldAddr 0 (.t 82), none⟩ 8
  (.quiet ⟨(some 84), .fieldAddr 0 (.t 83), none⟩ 9
  (.loud ⟨none, .store 1 (.t 84) (.t 78), none⟩ [5]
  (.quiet ⟨(some 85), .nilCheck (.t 76), none⟩ 11
  (.quiet ⟨(some 86), .fieldAddr 3 (.t 85), none⟩ 12
  (.loud ⟨none, .store 1 (.t 86) (.t 81), none⟩ []
  .leaf .stop))) .stop)))))))))))
def b14_27 : SCode := .draw t14_27
abbrev r14_28 : List MOper := [⟨(some 4), .move (.c (.int .i64 0)), none⟩]
def b14_28 : SCode := .region r14_28
def b14_29 : SCode := .seq b14_28 .ret
def b14_30 : SCode := .seq b14_27 b14_29
def b14_31 : SCode := .seq b14_26 b14_30
def b14_32 : SCode := .seq b14_25 b14_31
def b14_33 : SCode := .seq b14_24 b14_32
def b14_34 : SCode := .seq b14_0 b14_33
def s14 : SFunc := ⟨87, [.t 4], b14_34⟩
theorem c14 : sFn Try.prog 14 = some s14 := by kernel_rfl
theorem x14_32 : XS b14_32 b14_25 b14_31 := rfl
theorem Z14 : XR b14_0 r14_0 ∧ XR b14_1 r14_1 ∧ XR b14_2 r14_2 ∧ XS b14_3 b14_2 .ret ∧ XR b14_4 r14_4 ∧ XR b14_5 r14_5 ∧ XS b14_6 b14_5 .ret ∧ XR b14_7 r14_7 ∧ XR b14_8 r14_8 ∧ XS b14_9 b14_8 .ret ∧ XT b14_10 t14_10 ∧ XT b14_11 t14_11 ∧ XC b14_12 (.t 19) .skip b14_11 ∧ XS b14_13 b14_10 b14_12 ∧ XR b14_14 r14_14 ∧ XS b14_15 b14_14 .ret ∧ XC b14_16 (.t 19) b14_15 .skip ∧ XS b14_17 b14_13 b14_16 ∧ XC b14_18 (.t 13) b14_9 b14_17 ∧ XS b14_19 b14_7 b14_18 ∧ XC b14_20 (.t 8) b14_6 b14_19 ∧ XS b14_21 b14_4 b14_20 ∧ XC b14_22 (.t 5) b14_3 b14_21 ∧ XS b14_23 b14_1 b14_22 ∧ XB b14_24 0 b14_23 ∧ XT b14_25 t14_25 ∧ XT b14_26 t14_26 ∧ XT b14_27 t14_27 ∧ XR b14_28 r14_28 ∧ XS b14_29 b14_28 .ret ∧ XS b14_30 b14_27 b14_29 ∧ XS b14_31 b14_26 b14_30 ∧ XS b14_33 b14_24 b14_32 ∧ XS b14_34 b14_0 b14_33 ∧ XY s14 87 b14_34 [.t 4] := ⟨rfl, rfl, rfl, rfl, rfl, rfl, rfl, rfl, rfl, rfl, rfl, rfl, sC_cond, rfl, rfl, rfl, sC_cond, rfl, sC_cond, rfl, sC_cond, rfl, sC_cond, rfl, rfl, rfl, rfl, rfl, rfl, rfl, rfl, rfl, rfl, rfl, rfl⟩

set_option maxHeartbeats 4000000
set_option maxRecDepth 10000
def emT (f t : Bs) : Bool := decide (t ≠ []) && (lessBytes t f || t == f)
theorem emptyT_ok (f t : Bs) : Tri Try.prog 30 [.agg [.str f, .str t]] [] fun r _ => r.pure = true ∧ r = .bool (emT f t) := by
  refine Tri.of_s c30 (noCall_sound _) ?_
  unfold emT
  by_cases h1 : t = []
  · simp only [Z30, base1, ↓reduceIte, Nat.reduceAdd, Nat.reduceSub, Nat.reduceMul, Nat.reduceEqDiff, Nat.reduceLeDiff, Nat.reduceLT, Int.reduceLT, Int.reduceLE, Int.reduceEq, Int.reduceNe, Int.reduceToNat, Int.reduceAdd, Int.reduceSub, reduceCtorEq, Nat.reduceBEq, Nat.reduceBNe, h1]; first | exact ⟨rfl, rfl⟩ | exact ⟨rfl, trivial⟩ | exact rfl
  · simp only [Z30, base1, ↓reduceIte, Nat.reduceAdd, Nat.reduceSub, Nat.reduceMul, Nat.reduceEqDiff, Nat.reduceLeDiff, Nat.reduceLT, Int.reduceLT, Int.reduceLE, Int.reduceEq, Int.reduceNe, Int.reduceToNat, Int.reduceAdd, Int.reduceSub, reduceCtorEq, Nat.reduceBEq, Nat.reduceBNe, h1]; first | exact ⟨rfl, rfl⟩ | exact ⟨rfl, trivial⟩ | exact rfl
def emptyTD (args : List AV) (σ : AHeap) (K : AV → AHeap → Prop) : Prop := ∃ f t : Bs, args = [.agg [.str f, .str t]] ∧ K (.bool (emT f t)) σ
theorem emptyTD_ok (args : List AV) (σ : AHeap) (K : AV → AHeap → Prop) (h : emptyTD args σ K) : Tri Try.prog 30 args σ K := by
  obtain ⟨f, t, rfl, h⟩ := h
  exact (Tri.pureD rfl (emptyT_ok f t) σ).mono fun x σ' hr => by rw [hr.1, hr.2]; exact h
theorem emptyTD_eq {f t : Bs} {σ : AHeap} {K : AV → AHeap → Prop} : emptyTD [.agg [.str f, .str t]] σ K = K (.bool (emT f t)) σ := by
  refine propext ⟨fun ⟨f', t', h, hk⟩ => ?_, fun h => ⟨f, t, rfl, h⟩⟩
  simp only [List.cons.injEq, AV.agg.injEq, AV.str.injEq, and_true] at h
  rw [h.1, h.2]; exact hk
/-- A tour in the heap. -/
abbrev tourC (f t : Bs) (n : Int) (ov : Bool) (Lv Pv : AV) : List AV := [.str f, .str t, .int .i64 n, .bool ov, Lv, Pv]
structure TourAt (σ : AHeap) (T : Nat) (f t : Bs) (n : Int) (ov : Bool) (Lv : AV) (rs : List Rec) (Pv : AV) (ps : List Rec) : Prop where
  tt : hget σ T = some (tourC f t n ov Lv Pv)
  lv : Grow σ Lv 2 (recC rs)
  pv : Grow σ Pv 2 (recC ps)
  tl : LvD Lv ≠ some T
  tp : LvD Pv ≠ some T
  lp : ∀ d, LvD Lv = some d → LvD Pv ≠ some d
  ln : rs = [] → Lv = .nilslice
  pn : ps = [] → Pv = .nilslice
def OwnT (T : Nat) (Lv Pv : AV) (j : Nat) : Prop := j = T ∨ LvD Lv = some j ∨ LvD Pv = some j
theorem TourAt.frame {σ τ : AHeap} {T : Nat} {f t : Bs} {n : Int} {ov : Bool} {Lv Pv : AV} {rs ps : List Rec} (h : TourAt σ T f t n ov Lv rs Pv ps) (hf : ∀ j c, hget σ j = some c → OwnT T Lv Pv j → hget τ j = some c) : TourAt τ T f t n ov Lv rs Pv ps :=
  ⟨hf _ _ h.tt (.inl rfl), grow_frame h.lv fun j c hj hd => hf j c hj (.inr (.inl hd)), grow_frame h.pv fun j c hj hd => hf j c hj (.inr (.inr hd)), h.tl, h.tp, h.lp, h.ln, h.pn⟩
theorem Kp.tour {σ τ : AHeap} {T : Nat} {f t : Bs} {n : Int} {ov : Bool} {Lv Pv : AV} {rs ps : List Rec} (hk : Kp σ τ) (h : TourAt σ T f t n ov Lv rs Pv ps) : TourAt τ T f t n ov Lv rs Pv ps := h.frame fun j c hj _ => hk j c hj
def U11 : PCall := rowQ 30 emptyTD noCall
theorem U11_app {f : FuncId} {args : List AV} {σ : AHeap} {K : AV → AHeap → Prop} : U11 f args σ K = rowQ 30 emptyTD noCall f args σ K := _root_.id rfl
theorem U11_sound : Sound Try.prog U11 := rowQ_sound emptyTD_ok (noCall_sound _)
def tnewD (args : List AV) (σ : AHeap) (K : AV → AHeap → Prop) : Prop := ∃ (f t : Bs) (n : Nat), args = [.str f, .str t, .int .i64 (n : Int)] ∧ 1 ≤ n ∧ n ≤ 16 ∧ f.length ≤ 640 ∧ t.length ≤ 640 ∧ ∀ σ' T, Kp σ σ' → (∀ j c, hget σ j = some c → T ≠ j) → TourAt σ' T f t n (emT f t) .nilslice [] .nilslice [] → K (.tuple [.ptr T 0, .int .i64 0]) σ'
theorem tnewD_ok (args : List AV) (σ : AHeap) (K : AV → AHeap → Prop) (h : tnewD args σ K) : Tri Try.prog 11 args σ K := by
  obtain ⟨f, t, n, rfl, h1, h2, h3, h4, h⟩ := h
  refine Tri.of_s c11 U11_sound ?_
  have n1 : ¬ (n : Int) < 1 := by omega
  have n2 : ¬ (16 : Int) < (n : Int) := by omega
  have n3 : ¬ (640 : Int) < (f.length : Int) := by omega
  have n4 : ¬ (640 : Int) < (t.length : Int) := by omega
  have hp := push_new (σ := σ) (c := tourC f t n false .nilslice .nilslice) rfl
  have s2 : sub (tourC f t n false .nilslice .nilslice) 0 2 = some [.str f, .str t] := rfl
  have p3 : put (tourC f t n false .nilslice .nilslice) 3 [.bool (emT f t)] = some (tourC f t n (emT f t) .nilslice .nilslice) := rfl
  have c3 : ∀ x y, (tourC f t n x y .nilslice).length = 6 := fun x y => rfl
  simp only [U11_app, emptyTD_eq, Z11, base1, ↓reduceIte, Nat.reduceAdd, Nat.reduceSub, Nat.reduceMul, Nat.reduceEqDiff, Nat.reduceLeDiff, Nat.reduceLT, Int.reduceLT, Int.reduceLE, Int.reduceEq, Int.reduceNe, Int.reduceToNat, Int.reduceAdd, Int.reduceSub, reduceCtorEq, Nat.reduceBEq, Nat.reduceBNe, n1, n2, n3, n4, hp, s2, p3]
  refine h _ _ (fun j c hj => by rw [set_other (by have := hget_lt hj; omega)]; exact push_old hj) (fun j c hj => by have := hget_lt hj; omega) ⟨set_same hp, .inl ⟨rfl, rfl⟩, .inl ⟨rfl, rfl⟩, by simp [LvD], by simp [LvD], (fun d hd => by cases hd), (fun _ => rfl), (fun _ => rfl)⟩
def tnextD (args : List AV) (σ : AHeap) (K : AV → AHeap → Prop) : Prop := ∃ (T : Nat) (f t : Bs) (n : Int) (ov : Bool) (Lv Pv : AV), args = [.ptr T 0] ∧ hget σ T = some (tourC f t n ov Lv Pv) ∧ K (if ov = true then .tuple [.str [], .str [], .int .i64 0, .bool false] else .tuple [.str f, .str t, .int .i64 n, .bool true]) σ
theorem tnextD_ok (args : List AV) (σ : AHeap) (K : AV → AHeap → Prop) (h : tnextD args σ K) : Tri Try.prog 12 args σ K := by
  obtain ⟨T, f, t, n, ov, Lv, Pv, rfl, hT, h⟩ := h
  refine Tri.of_s c12 (noCall_sound _) ?_
  have t0 : (tourC f t n ov Lv Pv)[0]? = some (.str f) := rfl
  have t1 : (tourC f t n ov Lv Pv)[1]? = some (.str t) := rfl
  have t2 : (tourC f t n ov Lv Pv)[2]? = some (.int .i64 n) := rfl
  have t3 : (tourC f t n ov Lv Pv)[3]? = some (.bool ov) := rfl
  cases ov with
  | true => simp only [Z12, base1, ↓reduceIte, Nat.reduceAdd, Nat.reduceSub, Nat.reduceMul, Nat.reduceEqDiff, Nat.reduceLeDiff, Nat.reduceLT, Int.reduceLT, Int.reduceLE, Int.reduceEq, Int.reduceNe, Int.reduceToNat, Int.reduceAdd, Int.reduceSub, reduceCtorEq, Nat.reduceBEq, Nat.reduceBNe, hT, t0, t1, t2, t3]; exact h
  | false => simp only [Z12, base1, ↓reduceIte, Nat.reduceAdd, Nat.reduceSub, Nat.reduceMul, Nat.reduceEqDiff, Nat.reduceLeDiff, Nat.reduceLT, Int.reduceLT, Int.reduceLE, Int.reduceEq, Int.reduceNe, Int.reduceToNat, Int.reduceAdd, Int.reduceSub, reduceCtorEq, Nat.reduceBEq, Nat.reduceBNe, hT, t0, t1, t2, t3]; exact h
def toverD (args : List AV) (σ : AHeap) (K : AV → AHeap → Prop) : Prop := ∃ (T : Nat) (f t : Bs) (n : Int) (ov : Bool) (Lv Pv : AV), args = [.ptr T 0] ∧ hget σ T = some (tourC f t n ov Lv Pv) ∧ K (.bool ov) σ
theorem toverD_ok (args : List AV) (σ : AHeap) (K : AV → AHeap → Prop) (h : toverD args σ K) : Tri Try.prog 13 args σ K := by
  obtain ⟨T, f, t, n, ov, Lv, Pv, rfl, hT, h⟩ := h
  refine Tri.of_s c13 (noCall_sound _) ?_
  have t3 : (tourC f t n ov Lv Pv)[3]? = some (.bool ov) := rfl
  simp only [Z13, base1, ↓reduceIte, Nat.reduceAdd, Nat.reduceSub, Nat.reduceMul, Nat.reduceEqDiff, Nat.reduceLeDiff, Nat.reduceLT, Int.reduceLT, Int.reduceLE, Int.reduceEq, Int.reduceNe, Int.reduceToNat, Int.reduceAdd, Int.reduceSub, reduceCtorEq, Nat.reduceBEq, Nat.reduceBNe, hT, t3]
  exact h
end Go.Proofs.Ytmjnmnhpmbbmgaa.tour

/- A tour takes a page that goes on. No condition. -/
set_option linter.unusedVariables false
set_option linter.unusedSimpArgs false
namespace Go.Proofs.Ytmjnmnhpmbbmgaa.tour
open Go.ChangeShapes Go.WideShapes Go.ChangeAt Go.RowKit Go.Gz Go.Gz.H
set_option maxHeartbeats 4000000
set_option maxRecDepth 10000
theorem grow_elems {σ : AHeap} {Lv : AV} {w : Nat} {rows : List (List AV)} (h : Grow σ Lv w rows) : elemsOf σ w Lv = some rows.flatten ∧ lenOf Lv = some rows.length ∧ (∀ r ∈ rows, r.length = w) ∧ rows.flatten.all (fun x => x.isCell) = true := by
  rcases h with ⟨rfl, rfl⟩ | ⟨d, rfl, hd, h3, hc⟩
  · exact ⟨rfl, rfl, fun r hr => by simp at hr, rfl⟩
  · refine ⟨?_, rfl, h3, hc⟩
    simp only [elemsOf, if_true, hd, Option.bind_some]
    exact sub_all (flat_len h3).symm
theorem grow_live {σ : AHeap} {Lv : AV} {w : Nat} {rows : List (List AV)} {d : Nat} (hg : Grow σ Lv w rows) (hd : LvD Lv = some d) : ∃ c, hget σ d = some c := by
  rcases hg with ⟨e, _⟩ | ⟨d', e, hc, _⟩
  · rw [e] at hd; cases hd
  · rw [e] at hd; cases hd; exact ⟨_, hc⟩
def takeK (σ : AHeap) (T : Nat) (f t nx : Bs) (n : Int) (more : Bool) (Lv Pv : AV) (rs rr ps : List Rec) (K : AV → AHeap → Prop) : Prop :=
  ∀ σ' Lv' Pv', TourAt σ' T nx t n (!more) Lv' (rs ++ rr) Pv' (ps ++ [(f, nx)]) → (∀ j c, hget σ j = some c → ¬ OwnT T Lv Pv j → hget σ' j = some c ∧ ¬ OwnT T Lv' Pv' j) → K (.int .i64 0) σ'
def ttakeD (args : List AV) (σ : AHeap) (K : AV → AHeap → Prop) : Prop := ∃ (T : Nat) (f t nx : Bs) (n : Int) (q : Nat) (more : Bool) (Lv Pv Lr : AV) (rs rr ps : List Rec), args = [.ptr T 0, .agg (repP q Lr nx more)] ∧ TourAt σ T f t n false Lv rs Pv ps ∧ Grow σ Lr 2 (recC rr) ∧ (∀ d, LvD Lr = some d → ¬ OwnT T Lv Pv d) ∧
  (more = true → (lessBytes nx f || nx == f) = false) ∧ (t = [] ∨ (lessBytes nx t || nx == t) = true) ∧ rs.length + rr.length ≤ 1000000 ∧ ps.length ≤ 1000000 ∧ takeK σ T f t nx n more Lv Pv rs rr ps K
theorem ttakeD_ok (args : List AV) (σ : AHeap) (K : AV → AHeap → Prop) (h : ttakeD args σ K) : Tri Try.prog 14 args σ K := by
  obtain ⟨T, f, t, nx, n, q, more, Lv, Pv, Lr, rs, rr, ps, rfl, hT, hg, hLr, c1, c2, l1, l2, h⟩ := h
  refine Tri.of_s c14 (noCall_sound _) ?_
  simp only [Z14, base1, ↓reduceIte, Nat.reduceAdd, Nat.reduceSub, Nat.reduceMul, Nat.reduceEqDiff, Nat.reduceLeDiff, Nat.reduceLT, Int.reduceLT, Int.reduceLE, Int.reduceEq, Int.reduceNe, Int.reduceToNat, Int.reduceAdd, Int.reduceSub, reduceCtorEq, Nat.reduceBEq, Nat.reduceBNe]
  have kp1 : Kp σ (hpush σ (repP q Lr nx more)) := Kp.push
  have hX := push_new (σ := σ) (c := repP q Lr nx more) rfl
  have hT1 := kp1.tour hT
  have hg1 := kp1.grow hg
  have gX : ∀ j c, hget σ j = some c → j ≠ σ.length := fun j c hj => by have := hget_lt hj; omega
  have xT : T ≠ σ.length := gX _ _ hT.tt
  have xL : LvD Lv ≠ some σ.length := fun e => by obtain ⟨c, hc⟩ := grow_live hT.lv e; exact gX _ _ hc rfl
  have xP : LvD Pv ≠ some σ.length := fun e => by obtain ⟨c, hc⟩ := grow_live hT.pv e; exact gX _ _ hc rfl
  generalize hσ1 : hpush σ (repP q Lr nx more) = σ1 at kp1 hX hT1 hg1
  generalize hxx : σ.length = X at hX gX xT xL xP
  have hTT := hT1.tt
  have t0 : (tourC f t n false Lv Pv)[0]? = some (.str f) := rfl
  have t1 : (tourC f t n false Lv Pv)[1]? = some (.str t) := rfl
  have t3 : (tourC f t n false Lv Pv)[3]? = some (.bool false) := rfl
  have t4 : (tourC f t n false Lv Pv)[4]? = some Lv := rfl
  have r2 : (repP q Lr nx more)[2]? = some (.int .i64 0) := rfl
  have r5 : (repP q Lr nx more)[5]? = some Lr := rfl
  have r6 : (repP q Lr nx more)[6]? = some (.str nx) := rfl
  have r7 : (repP q Lr nx more)[7]? = some (.bool more) := rfl
  obtain ⟨g1, g2, g3, g4⟩ := grow_elems hg1
  obtain ⟨v, τ, b1, b2, b3, b4, b5⟩ := grow_any (b := 32) (by decide) hT1.lv (ys := recC rr) (by simp; omega) g1 g2 g3 g4
  -- behind the looks
  have rest : ∀ e : Env, e 0 = .ptr T 0 → e 3 = .ptr X 0 → sC noCall X b14_32 (unw noCall X (RetQ [.t 4] K) .fin) e σ1 := by
    intro e e0 e3
    have hTτ := (b4 _ _ hTT hT1.tl).1
    have hXτ := (b4 _ _ hX xL).1
    have vT : LvD v ≠ some T := (b4 _ _ hTT hT1.tl).2
    have vX : LvD v ≠ some X := (b4 _ _ hX xL).2
    have p4 : ∀ x, put (tourC f t n false Lv Pv) 4 [x] = some (tourC f t n false x Pv) := fun x => rfl
    have h3T := set_same (c := tourC f t n false v Pv) hTτ
    have h3X : hget (hset τ T (tourC f t n false v Pv)) X = some (repP q Lr nx more) := by rw [set_other xT]; exact hXτ
    have hPτ : Grow (hset τ T (tourC f t n false v Pv)) Pv 2 (recC ps) := grow_frame hT1.pv fun j c hj hd => by
      rw [set_other (fun e => hT1.tp (by rw [hd, e]))]
      exact (b4 _ _ hj fun e => hT1.lp j e hd).1
    have hLτ : Grow (hset τ T (tourC f t n false v Pv)) v 2 (recC rs ++ recC rr) := grow_frame b5 fun j c hj hd => by rw [set_other (fun e => vT (by rw [hd, e]))]; exact hj
    have vP : ∀ d, LvD v = some d → LvD Pv ≠ some d := fun d hd hp => by
      obtain ⟨c, hc⟩ := grow_live hT1.pv hp
      exact (b4 _ _ hc fun e => hT1.lp d e hp).2 hd
    have fr3 : ∀ j c, hget σ j = some c → j ≠ T → LvD Lv ≠ some j → hget (hset τ T (tourC f t n false v Pv)) j = some c ∧ LvD v ≠ some j := fun j c hj a b => by
      rw [set_other (Ne.symm a)]
      exact b4 _ _ (kp1 _ _ hj) b
    have cT : (tourC f t n false v Pv)[5]? = some Pv := rfl
    have c0 : (tourC f t n false v Pv)[0]? = some (.str f) := rfl
    simp only [Z14, x14_32, base1, ↓reduceIte, Nat.reduceAdd, Nat.reduceSub, Nat.reduceMul, Nat.reduceEqDiff, Nat.reduceLeDiff, Nat.reduceLT, Int.reduceLT, Int.reduceLE, Int.reduceEq, Int.reduceNe, Int.reduceToNat, Int.reduceAdd, Int.reduceSub, reduceCtorEq, Nat.reduceBEq, Nat.reduceBNe, e0, e3, hTT, hX, t4, r5, b1, b2, b3, hTτ, hXτ, p4]
    generalize hset τ T (tourC f t n false v Pv) = σ3 at h3T h3X hPτ hLτ fr3 ⊢
    obtain ⟨w, υ, d1, d2, d3, d4, d5⟩ := grow_one (b := 32) (by decide) hPτ (by simp; omega) [.str f, .str nx] rfl rfl
    have pT : LvD Pv ≠ some T := hT.tp
    have hTυ := (d4 _ _ h3T pT).1
    have hXυ := (d4 _ _ h3X xP).1
    have wT : LvD w ≠ some T := (d4 _ _ h3T pT).2
    have p5 : ∀ x, put (tourC f t n false v Pv) 5 [x] = some (tourC f t n false v x) := fun x => rfl
    have h4T := set_same (c := tourC f t n false v w) hTυ
    have h4X : hget (hset υ T (tourC f t n false v w)) X = some (repP q Lr nx more) := by rw [set_other xT]; exact hXυ
    have q0 : ∀ x, put (tourC f t n false v w) 0 [.str x] = some (tourC x t n false v w) := fun x => rfl
    have q3 : ∀ x, put (tourC nx t n false v w) 3 [.bool x] = some (tourC nx t n x v w) := fun x => rfl
    have pTT := push_old (c := [AV.str f, .str nx]) h3T
    have s1 : ∀ A B : List AV, hset (hset υ T A) T B = hset υ T B := fun A B => set_set
    have hU : ∀ A, hget (hset υ T A) T = some A := fun A => set_same hTυ
    have hUX : ∀ A, hget (hset υ T A) X = some (repP q Lr nx more) := fun A => by rw [set_other xT]; exact hXυ
    simp only [Z14, x14_32, base1, ↓reduceIte, Nat.reduceAdd, Nat.reduceSub, Nat.reduceMul, Nat.reduceEqDiff, Nat.reduceLeDiff, Nat.reduceLT, Int.reduceLT, Int.reduceLE, Int.reduceEq, Int.reduceNe, Int.reduceToNat, Int.reduceAdd, Int.reduceSub, reduceCtorEq, Nat.reduceBEq, Nat.reduceBNe, e0, e3, h3T, h3X, cT, c0, r6, r7, pTT, d1, d2, d3, hTυ, hXυ, p5, q0, q3, hU, hUX, s1]
    have fin : ∀ j c, hget σ j = some c → j ≠ T → LvD Lv ≠ some j → LvD Pv ≠ some j → hget (hset υ T (tourC nx t n (!more) v w)) j = some c ∧ LvD v ≠ some j ∧ LvD w ≠ some j := fun j c hj a b d => by
      obtain ⟨x1, x2⟩ := fr3 j c hj a b
      obtain ⟨x3, x4⟩ := d4 _ _ x1 d
      exact ⟨by rw [set_other (Ne.symm a)]; exact x3, x2, x4⟩
    refine h (hset υ T (tourC nx t n (!more) v w)) v w ⟨hU _, ?_, ?_, vT, wT, fun d hd hw => ?_, fun h0 => ?_, fun h0 => by simp at h0⟩ fun j c hj hn => ?_
    · refine grow_frame (rows := recC (rs ++ rr)) (by rw [recC, List.map_append]; exact hLτ) fun j c hj hd => ?_
      rw [set_other (fun e => vT (by rw [hd, e]))]
      exact (d4 _ _ hj (vP j hd)).1
    · refine grow_frame (rows := recC (ps ++ [(f, nx)])) (by rw [recC, List.map_append]; exact d5) fun j c hj hd => ?_
      rw [set_other (fun e => wT (by rw [hd, e]))]
      exact hj
    · obtain ⟨c, hc⟩ := grow_live hLτ hd
      exact (d4 _ _ hc (vP d hd)).2 hw
    · have h1 := List.append_eq_nil_iff.1 h0
      obtain ⟨r1, r2⟩ := h1
      subst r1; subst r2
      have hLn := hT.ln rfl
      subst hLn
      have g0 : lenOf Lr = some 0 := g2
      have gr : mayGrow (0 + 0) 32 = true := by decide
      have ln : lenOf AV.nilslice = some 0 := rfl
      simp only [evAppend, g1, g0, g4, gr, ln, Bool.and_self, if_true, Option.some.injEq, Prod.mk.injEq] at b1
      exact b1.1.symm
    · have a1 : j ≠ T := fun e => hn (.inl e)
      have a2 : LvD Lv ≠ some j := fun e => hn (.inr (.inl e))
      have a3 : LvD Pv ≠ some j := fun e => hn (.inr (.inr e))
      obtain ⟨y1, y2, y3⟩ := fin j c hj a1 a2 a3
      exact ⟨y1, fun ho => by rcases ho with e | e | e <;> first | exact a1 e | exact y2 e | exact y3 e⟩
  simp only [Z14, base1, ↓reduceIte, Nat.reduceAdd, Nat.reduceSub, Nat.reduceMul, Nat.reduceEqDiff, Nat.reduceLeDiff, Nat.reduceLT, Int.reduceLT, Int.reduceLE, Int.reduceEq, Int.reduceNe, Int.reduceToNat, Int.reduceAdd, Int.reduceSub, reduceCtorEq, Nat.reduceBEq, Nat.reduceBNe, hσ1, hxx, hTT, hX, t3, r2, r7]
  cases more with
  | true =>
    have hle := c1 rfl
    by_cases n1 : t = []
    · subst n1
      simp only [Z14, base1, ↓reduceIte, Nat.reduceAdd, Nat.reduceSub, Nat.reduceMul, Nat.reduceEqDiff, Nat.reduceLeDiff, Nat.reduceLT, Int.reduceLT, Int.reduceLE, Int.reduceEq, Int.reduceNe, Int.reduceToNat, Int.reduceAdd, Int.reduceSub, reduceCtorEq, Nat.reduceBEq, Nat.reduceBNe, hTT, hX, t0, t1, r6, hle]
      exact rest _ rfl rfl
    · have n2 : (lessBytes nx t || nx == t) = true := c2.resolve_left n1
      simp only [Z14, base1, ↓reduceIte, Nat.reduceAdd, Nat.reduceSub, Nat.reduceMul, Nat.reduceEqDiff, Nat.reduceLeDiff, Nat.reduceLT, Int.reduceLT, Int.reduceLE, Int.reduceEq, Int.reduceNe, Int.reduceToNat, Int.reduceAdd, Int.reduceSub, reduceCtorEq, Nat.reduceBEq, Nat.reduceBNe, hTT, hX, t0, t1, r6, hle, n1, n2]
      exact rest _ rfl rfl
  | false =>
    by_cases n1 : t = []
    · subst n1
      simp only [Z14, base1, ↓reduceIte, Nat.reduceAdd, Nat.reduceSub, Nat.reduceMul, Nat.reduceEqDiff, Nat.reduceLeDiff, Nat.reduceLT, Int.reduceLT, Int.reduceLE, Int.reduceEq, Int.reduceNe, Int.reduceToNat, Int.reduceAdd, Int.reduceSub, reduceCtorEq, Nat.reduceBEq, Nat.reduceBNe, hTT, hX, t0, t1, r6]
      exact rest _ rfl rfl
    · have n2 : (lessBytes nx t || nx == t) = true := c2.resolve_left n1
      simp only [Z14, base1, ↓reduceIte, Nat.reduceAdd, Nat.reduceSub, Nat.reduceMul, Nat.reduceEqDiff, Nat.reduceLeDiff, Nat.reduceLT, Int.reduceLT, Int.reduceLE, Int.reduceEq, Int.reduceNe, Int.reduceToNat, Int.reduceAdd, Int.reduceSub, reduceCtorEq, Nat.reduceBEq, Nat.reduceBNe, hTT, hX, t0, t1, r6, n1, n2]
      exact rest _ rfl rfl
end Go.Proofs.Ytmjnmnhpmbbmgaa.tour

/- What a tour has told; two rows of records; the layer's first call answers yes. No condition. -/
set_option linter.unusedVariables false
set_option linter.unusedSimpArgs false
namespace Go.Proofs.Ytmjnmnhpmbbmgaa.tour
open Go.ChangeShapes Go.WideShapes Go.ChangeAt Go.RowKit Go.Gz Go.Gz.H
abbrev r31_0 : List MOper := [⟨(some 2), .move (.c (.nilslice)), none⟩]
def b31_0 : SCode := .region r31_0
abbrev r31_1 : List MOper := [⟨(some 3), .move (.t 0), none⟩,
  ⟨(some 4), .bin .eql .nils (.t 3) (.c (.nilslice)), none⟩]
def b31_1 : SCode := .region r31_1
abbrev r31_2 : List MOper := [⟨(some 2), .move (.c (.nilslice)), none⟩]
def b31_2 : SCode := .region r31_2
def b31_3 : SCode := .seq b31_2 .ret
def b31_4 : SCode := .cond (.t 4) b31_3 .skip
def b31_5 : SCode := .seq b31_1 b31_4
abbrev r31_6 : List MOper := [⟨(some 5), .buildSlice [.str [], .str []] 2 0 [], none⟩,
  ⟨(some 6), .move (.t 0), none⟩,
  ⟨(some 7), .append 2 32 (.t 5) (.t 6), none⟩,
  ⟨(some 2), .move (.t 7), none⟩]
def b31_6 : SCode := .region r31_6
def b31_7 : SCode := .seq b31_6 .ret
def b31_8 : SCode := .seq b31_5 b31_7
def b31_9 : SCode := .seq b31_0 b31_8
def s31 : SFunc := ⟨8, [.t 2], b31_9⟩
theorem c31 : sFn Try.prog 31 = some s31 := by kernel_rfl
theorem Z31 : XR b31_0 r31_0 ∧ XR b31_1 r31_1 ∧ XR b31_2 r31_2 ∧ XS b31_3 b31_2 .ret ∧ XC b31_4 (.t 4) b31_3 .skip ∧ XS b31_5 b31_1 b31_4 ∧ XR b31_6 r31_6 ∧ XS b31_7 b31_6 .ret ∧ XS b31_8 b31_5 b31_7 ∧ XS b31_9 b31_0 b31_8 ∧ XY s31 8 b31_9 [.t 2] := ⟨rfl, rfl, rfl, rfl, sC_cond, rfl, rfl, rfl, rfl, rfl, rfl⟩
abbrev r32_0 : List MOper := [⟨(some 2), .move (.c (.nilslice)), none⟩]
def b32_0 : SCode := .region r32_0
abbrev r32_1 : List MOper := [⟨(some 3), .move (.t 0), none⟩,
  ⟨(some 4), .bin .eql .nils (.t 3) (.c (.nilslice)), none⟩]
def b32_1 : SCode := .region r32_1
abbrev r32_2 : List MOper := [⟨(some 2), .move (.c (.nilslice)), none⟩]
def b32_2 : SCode := .region r32_2
def b32_3 : SCode := .seq b32_2 .ret
def b32_4 : SCode := .cond (.t 4) b32_3 .skip
def b32_5 : SCode := .seq b32_1 b32_4
abbrev r32_6 : List MOper := [⟨(some 5), .buildSlice [.str [], .str []] 2 0 [], none⟩,
  ⟨(some 6), .move (.t 0), none⟩,
  ⟨(some 7), .append 2 32 (.t 5) (.t 6), none⟩,
  ⟨(some 2), .move (.t 7), none⟩]
def b32_6 : SCode := .region r32_6
def b32_7 : SCode := .seq b32_6 .ret
def b32_8 : SCode := .seq b32_5 b32_7
def b32_9 : SCode := .seq b32_0 b32_8
def s32 : SFunc := ⟨8, [.t 2], b32_9⟩
theorem c32 : sFn Try.prog 32 = some s32 := by kernel_rfl
theorem Z32 : XR b32_0 r32_0 ∧ XR b32_1 r32_1 ∧ XR b32_2 r32_2 ∧ XS b32_3 b32_2 .ret ∧ XC b32_4 (.t 4) b32_3 .skip ∧ XS b32_5 b32_1 b32_4 ∧ XR b32_6 r32_6 ∧ XS b32_7 b32_6 .ret ∧ XS b32_8 b32_5 b32_7 ∧ XS b32_9 b32_0 b32_8 ∧ XY s32 8 b32_9 [.t 2] := ⟨rfl, rfl, rfl, rfl, sC_cond, rfl, rfl, rfl, rfl, rfl, rfl⟩
abbrev r15_0 : List MOper := [⟨(some 2), .move (.c (.nilslice)), none⟩]
def b15_0 : SCode := .region r15_0
abbrev r15_1 : List MOper := [⟨(some 3), .move (.t 0), none⟩,
  ⟨(some 4), .bin .eql .nilp (.t 3) (.c (.nilptr)), none⟩]
def b15_1 : SCode := .region r15_1
abbrev r15_2 : List MOper := [⟨(some 2), .move (.c (.nilslice)), none⟩]
def b15_2 : SCode := .region r15_2
def b15_3 : SCode := .seq b15_2 .ret
def b15_4 : SCode := .cond (.t 4) b15_3 .skip
def b15_5 : SCode := .seq b15_1 b15_4
abbrev r15_6 : List MOper := [⟨(some 5), .move (.t 0), none⟩,
  ⟨(some 6), .nilCheck (.t 5), none⟩,
  ⟨(some 7), .fieldAddr 4 (.t 6), none⟩,
  ⟨(some 8), .load1 (.t 7), none⟩,
  ⟨(some 9), .call 31 [(.t 8)], none⟩,
  ⟨(some 2), .move (.t 9), none⟩]
def b15_6 : SCode := .region r15_6
def b15_7 : SCode := .seq b15_6 .ret
def b15_8 : SCode := .seq b15_5 b15_7
def b15_9 : SCode := .seq b15_0 b15_8
def s15 : SFunc := ⟨10, [.t 2], b15_9⟩
theorem c15 : sFn Try.prog 15 = some s15 := by kernel_rfl
theorem Z15 : XR b15_0 r15_0 ∧ XR b15_1 r15_1 ∧ XR b15_2 r15_2 ∧ XS b15_3 b15_2 .ret ∧ XC b15_4 (.t 4) b15_3 .skip ∧ XS b15_5 b15_1 b15_4 ∧ XR b15_6 r15_6 ∧ XS b15_7 b15_6 .ret ∧ XS b15_8 b15_5 b15_7 ∧ XS b15_9 b15_0 b15_8 ∧ XY s15 10 b15_9 [.t 2] := ⟨rfl, rfl, rfl, rfl, sC_cond, rfl, rfl, rfl, rfl, rfl, rfl⟩
abbrev r16_0 : List MOper := [⟨(some 2), .move (.c (.nilslice)), none⟩]
def b16_0 : SCode := .region r16_0
abbrev r16_1 : List MOper := [⟨(some 3), .move (.t 0), none⟩,
  ⟨(some 4), .bin .eql .nilp (.t 3) (.c (.nilptr)), none⟩]
def b16_1 : SCode := .region r16_1
abbrev r16_2 : List MOper := [⟨(some 2), .move (.c (.nilslice)), none⟩]
def b16_2 : SCode := .region r16_2
def b16_3 : SCode := .seq b16_2 .ret
def b16_4 : SCode := .cond (.t 4) b16_3 .skip
def b16_5 : SCode := .seq b16_1 b16_4
abbrev r16_6 : List MOper := [⟨(some 5), .move (.t 0), none⟩,
  ⟨(some 6), .nilCheck (.t 5), none⟩,
  ⟨(some 7), .fieldAddr 5 (.t 6), none⟩,
  ⟨(some 8), .load1 (.t 7), none⟩,
  ⟨(some 9), .call 32 [(.t 8)], none⟩,
  ⟨(some 2), .move (.t 9), none⟩]
def b16_6 : SCode := .region r16_6
def b16_7 : SCode := .seq b16_6 .ret
def b16_8 : SCode := .seq b16_5 b16_7
def b16_9 : SCode := .seq b16_0 b16_8
def s16 : SFunc := ⟨10, [.t 2], b16_9⟩
theorem c16 : sFn Try.prog 16 = some s16 := by kernel_rfl
theorem Z16 : XR b16_0 r16_0 ∧ XR b16_1 r16_1 ∧ XR b16_2 r16_2 ∧ XS b16_3 b16_2 .ret ∧ XC b16_4 (.t 4) b16_3 .skip ∧ XS b16_5 b16_1 b16_4 ∧ XR b16_6 r16_6 ∧ XS b16_7 b16_6 .ret ∧ XS b16_8 b16_5 b16_7 ∧ XS b16_9 b16_0 b16_8 ∧ XY s16 10 b16_9 [.t 2] := ⟨rfl, rfl, rfl, rfl, sC_cond, rfl, rfl, rfl, rfl, rfl, rfl⟩
abbrev r20_0 : List MOper := [⟨(some 4), .move (.c (.bool false)), none⟩]
def b20_0 : SCode := .region r20_0
abbrev r20_1 : List MOper := [⟨(some 6), .move (.t 0), none⟩,
  ⟨(some 7), .lenSl (.t 6), none⟩,
  ⟨(some 8), .move (.t 1), none⟩,
  ⟨(some 9), .lenSl (.t 8), none⟩,
  ⟨(some 10), .bin .neq .num (.t 7) (.t 9), none⟩]
def b20_1 : SCode := .region r20_1
abbrev r20_2 : List MOper := [⟨(some 4), .move (.c (.bool false)), none⟩]
def b20_2 : SCode := .region r20_2
def b20_3 : SCode := .seq b20_2 .ret
def b20_4 : SCode := .cond (.t 10) b20_3 .skip
def b20_5 : SCode := .seq b20_1 b20_4
abbrev r20_6 : List MOper := [⟨(some 5), .move (.c (.int .i64 0)), none⟩]
def b20_6 : SCode := .region r20_6
abbrev r20_7 : List MOper := [⟨(some 11), .move (.t 5), none⟩,
  ⟨(some 12), .move (.t 0), none⟩,
  ⟨(some 13), .lenSl (.t 12), none⟩,
  ⟨(some 14), .bin .lss .num (.t 11) (.t 13), none⟩]
def b20_7 : SCode := .region r20_7
def b20_8 : SCode := .cond (.t 14) .skip (.exit 0)
def b20_9 : SCode := .seq b20_7 b20_8
abbrev t20_10 : LTree := (.quiet ⟨(some 17), .move (.t 0), none⟩ 0
  (.quiet ⟨(some 18), .move (.t 5), none⟩ 1
  (.quiet ⟨(some 19), .indexAddr 2 (.t 17) (.t 18), none⟩ 2
  (.quiet ⟨(some 20), .loadN 2 (.t 19), none⟩ 3
  (.quiet ⟨(some 21), .move (.t 1), none⟩ 4
  (.quiet ⟨(some 22), .move (.t 5), none⟩ 5
  (.quiet ⟨(some 23), .indexAddr 2 (.t 21) (.t 22), none⟩ 6
  (.quiet ⟨(some 24), .loadN 2 (.t 23), none⟩ 7
  (.quiet ⟨(some 25), .bin .neq (.flat [.s, .s]) (.t 20) (.t 24), none⟩ 8
  .leaf)))))))))
def b20_10 : SCode := .draw t20_10
abbrev r20_11 : List MOper := [⟨(some 4), .move (.c (.bool false)), none⟩]
def b20_11 : SCode := .region r20_11
def b20_12 : SCode := .seq b20_11 .ret
def b20_13 : SCode := .cond (.t 25) b20_12 .skip
def b20_14 : SCode := .seq b20_10 b20_13
def b20_15 : SCode := .block 1 b20_14
abbrev r20_16 : List MOper := [⟨(some 15), .move (.t 5), none⟩,
  ⟨(some 16), .bin .add .num (.t 15) (.c (.int .i64 1)), none⟩,
  ⟨(some 5), .move (.t 16), none⟩]
def b20_16 : SCode := .region r20_16
def b20_17 : SCode := .seq b20_15 b20_16
def b20_18 : SCode := .seq b20_9 b20_17
def b20_19 : SCode := .loop b20_18
def b20_20 : SCode := .block 0 b20_19
def b20_21 : SCode := .seq b20_6 b20_20
abbrev r20_22 : List MOper := [⟨(some 4), .move (.c (.bool true)), none⟩]
def b20_22 : SCode := .region r20_22
def b20_23 : SCode := .seq b20_22 .ret
def b20_24 : SCode := .seq b20_21 b20_23
def b20_25 : SCode := .seq b20_5 b20_24
def b20_26 : SCode := .seq b20_0 b20_25
def s20 : SFunc := ⟨26, [.t 4], b20_26⟩
theorem c20 : sFn Try.prog 20 = some s20 := by kernel_rfl
theorem Z20 : XR b20_0 r20_0 ∧ XR b20_1 r20_1 ∧ XR b20_2 r20_2 ∧ XS b20_3 b20_2 .ret ∧ XC b20_4 (.t 10) b20_3 .skip ∧ XS b20_5 b20_1 b20_4 ∧ XR b20_6 r20_6 ∧ XR b20_7 r20_7 ∧ XC b20_8 (.t 14) .skip (.exit 0) ∧ XS b20_9 b20_7 b20_8 ∧ XT b20_10 t20_10 ∧ XR b20_11 r20_11 ∧ XS b20_12 b20_11 .ret ∧ XC b20_13 (.t 25) b20_12 .skip ∧ XS b20_14 b20_10 b20_13 ∧ XB b20_15 1 b20_14 ∧ XR b20_16 r20_16 ∧ XS b20_17 b20_15 b20_16 ∧ XS b20_18 b20_9 b20_17 ∧ XB b20_20 0 b20_19 ∧ XS b20_21 b20_6 b20_20 ∧ XR b20_22 r20_22 ∧ XS b20_23 b20_22 .ret ∧ XS b20_24 b20_21 b20_23 ∧ XS b20_25 b20_5 b20_24 ∧ XS b20_26 b20_0 b20_25 ∧ XY s20 26 b20_26 [.t 4] := ⟨rfl, rfl, rfl, rfl, sC_cond, rfl, rfl, rfl, sC_cond, rfl, rfl, rfl, rfl, sC_cond, rfl, rfl, rfl, rfl, rfl, rfl, rfl, rfl, rfl, rfl, rfl, rfl, rfl⟩

set_option maxHeartbeats 4000000
set_option maxRecDepth 10000
theorem awakeRun : bF (cFn Try.prog) 100 50 9 [] [] isYes = true := by kernel_rfl
theorem awakeOk (σ : AHeap) : Tri Try.prog 9 [] σ fun r σ' => r = .bool true ∧ σ' = σ :=
  Tri.frame (f := 9) (Q := fun r => r = .bool true) (by intro x hx; cases hx) ((Tri.run 100 50 isYes awakeRun).mono fun r σ' h => by
    have h1 : r = .bool true := isYes_ok h
    subst h1; exact ⟨rfl, rfl⟩) σ
def awakeD (args : List AV) (σ : AHeap) (K : AV → AHeap → Prop) : Prop := args = [] ∧ K (.bool true) σ
theorem awakeD_ok (args : List AV) (σ : AHeap) (K : AV → AHeap → Prop) (h : awakeD args σ K) : Tri Try.prog 9 args σ K := by
  obtain ⟨rfl, h⟩ := h
  exact (awakeOk σ).mono fun r σ' hr => by rw [hr.1, hr.2]; exact h
theorem awakeD_eq {σ : AHeap} {K : AV → AHeap → Prop} : awakeD [] σ K = K (.bool true) σ := propext ⟨fun h => h.2, fun h => ⟨rfl, h⟩⟩
/-! A copy. -/
def seenK (σ : AHeap) (rs : List Rec) (K : AV → AHeap → Prop) : Prop := ∀ σ' v, Kp σ σ' → (∀ j c, hget σ j = some c → LvD v ≠ some j) → Grow σ' v 2 (recC rs) → K v σ'
theorem clone_grow {σ : AHeap} {d n w b : Nat} {rows : List (List AV)} (hb : b ≤ 1000) (hg : Grow σ (.slice d 0 n none w) w rows) (hn : n = rows.length) (hbig : rows.length ≤ 1000000) :
    ∃ v τ, evAppend w b (.slice σ.length 0 0 (some 0) w) (.slice d 0 n none w) (hpush σ []) = some (v, τ) ∧ v.isCell = true ∧ v.cells? = some [v] ∧ Kp σ τ ∧ (∀ j c, hget σ j = some c → LvD v ≠ some j) ∧ Grow τ v w rows := by
  have k1 : Kp σ (hpush σ []) := Kp.push
  obtain ⟨e1, e2, e3, e4⟩ := grow_elems (k1.grow hg)
  have l0 : lenOf (.slice σ.length 0 0 (some 0) w) = some 0 := rfl
  have gr : mayGrow (0 + rows.length) b = true := by
    simp only [mayGrow, decide_eq_true_eq]
    have : (2 * (0 + rows.length) + 768) * b ≤ (2 * (0 + rows.length) + 768) * 1000 := Nat.mul_le_mul_left _ hb
    omega
  rw [Nat.zero_add] at gr
  refine ⟨.slice (σ.length + 1) 0 rows.length none w, hpush (hpush σ []) rows.flatten, ?_, rfl, rfl, k1.trans Kp.push, fun j c hj e => ?_, .inr ⟨σ.length + 1, rfl, push_new (by simp [push_len]), e3, e4⟩⟩
  · simp only [evAppend, e1, e2, l0, gr, e4, Bool.and_self, if_true, grown, push_len, Nat.zero_add]
  · have := hget_lt hj
    simp only [LvD, Option.some.injEq] at e; omega
def cloneD (args : List AV) (σ : AHeap) (K : AV → AHeap → Prop) : Prop := ∃ (Lv : AV) (rs : List Rec), args = [Lv] ∧ Grow σ Lv 2 (recC rs) ∧ (rs = [] → Lv = .nilslice) ∧ rs.length ≤ 1000000 ∧ seenK σ rs K
theorem cloneD_ok (args : List AV) (σ : AHeap) (K : AV → AHeap → Prop) (h : cloneD args σ K) : Tri Try.prog 31 args σ K := by
  obtain ⟨Lv, rs, rfl, hg, hne, hl, h⟩ := h
  refine Tri.of_s c31 (noCall_sound _) ?_
  rcases hg with ⟨rfl, h0⟩ | ⟨d, rfl, hd⟩
  · simp only [Z31, base1, ↓reduceIte, Nat.reduceAdd, Nat.reduceSub, Nat.reduceMul, Nat.reduceEqDiff, Nat.reduceLeDiff, Nat.reduceLT, Int.reduceLT, Int.reduceLE, Int.reduceEq, Int.reduceNe, Int.reduceToNat, Int.reduceAdd, Int.reduceSub, reduceCtorEq, Nat.reduceBEq, Nat.reduceBNe]
    exact h σ _ (Kp.refl σ) (fun _ _ _ => by simp [LvD]) (.inl ⟨rfl, h0⟩)
  · have hpos : 0 < (recC rs).length := by
      cases rs with
      | nil => cases hne rfl
      | cons => simp
    obtain ⟨v, τ, a1, a2, a3, a4, a5, a6⟩ := clone_grow (b := 32) (by decide) (.inr ⟨d, rfl, hd⟩) rfl (by simp; omega)
    simp only [Z31, base1, ↓reduceIte, Nat.reduceAdd, Nat.reduceSub, Nat.reduceMul, Nat.reduceEqDiff, Nat.reduceLeDiff, Nat.reduceLT, Int.reduceLT, Int.reduceLE, Int.reduceEq, Int.reduceNe, Int.reduceToNat, Int.reduceAdd, Int.reduceSub, reduceCtorEq, Nat.reduceBEq, Nat.reduceBNe, hpos, a1, a2, a3]
    exact h τ v a4 a5 a6
theorem cloneD2_ok (args : List AV) (σ : AHeap) (K : AV → AHeap → Prop) (h : cloneD args σ K) : Tri Try.prog 32 args σ K := by
  obtain ⟨Lv, rs, rfl, hg, hne, hl, h⟩ := h
  refine Tri.of_s c32 (noCall_sound _) ?_
  rcases hg with ⟨rfl, h0⟩ | ⟨d, rfl, hd⟩
  · simp only [Z32, base1, ↓reduceIte, Nat.reduceAdd, Nat.reduceSub, Nat.reduceMul, Nat.reduceEqDiff, Nat.reduceLeDiff, Nat.reduceLT, Int.reduceLT, Int.reduceLE, Int.reduceEq, Int.reduceNe, Int.reduceToNat, Int.reduceAdd, Int.reduceSub, reduceCtorEq, Nat.reduceBEq, Nat.reduceBNe]
    exact h σ _ (Kp.refl σ) (fun _ _ _ => by simp [LvD]) (.inl ⟨rfl, h0⟩)
  · have hpos : 0 < (recC rs).length := by
      cases rs with
      | nil => cases hne rfl
      | cons => simp
    obtain ⟨v, τ, a1, a2, a3, a4, a5, a6⟩ := clone_grow (b := 32) (by decide) (.inr ⟨d, rfl, hd⟩) rfl (by simp; omega)
    simp only [Z32, base1, ↓reduceIte, Nat.reduceAdd, Nat.reduceSub, Nat.reduceMul, Nat.reduceEqDiff, Nat.reduceLeDiff, Nat.reduceLT, Int.reduceLT, Int.reduceLE, Int.reduceEq, Int.reduceNe, Int.reduceToNat, Int.reduceAdd, Int.reduceSub, reduceCtorEq, Nat.reduceBEq, Nat.reduceBNe, hpos, a1, a2, a3]
    exact h τ v a4 a5 a6
def U15 : PCall := rowQ 31 cloneD (rowQ 32 cloneD noCall)
theorem U15_app {f : FuncId} {args : List AV} {σ : AHeap} {K : AV → AHeap → Prop} : U15 f args σ K = rowQ 31 cloneD (rowQ 32 cloneD noCall) f args σ K := _root_.id rfl
theorem U15_sound : Sound Try.prog U15 := rowQ_sound cloneD_ok (rowQ_sound cloneD2_ok (noCall_sound _))
def trecsD (args : List AV) (σ : AHeap) (K : AV → AHeap → Prop) : Prop := ∃ (T : Nat) (f t : Bs) (n : Int) (ov : Bool) (Lv Pv : AV) (rs ps : List Rec), args = [.ptr T 0] ∧ TourAt σ T f t n ov Lv rs Pv ps ∧ rs.length ≤ 1000000 ∧ seenK σ rs K
theorem trecsD_ok (args : List AV) (σ : AHeap) (K : AV → AHeap → Prop) (h : trecsD args σ K) : Tri Try.prog 15 args σ K := by
  obtain ⟨T, f, t, n, ov, Lv, Pv, rs, ps, rfl, hT, hl, h⟩ := h
  refine Tri.of_s c15 U15_sound ?_
  have t4 : (tourC f t n ov Lv Pv)[4]? = some Lv := rfl
  have hTT := hT.tt
  simp only [U15_app, Z15, base1, ↓reduceIte, Nat.reduceAdd, Nat.reduceSub, Nat.reduceMul, Nat.reduceEqDiff, Nat.reduceLeDiff, Nat.reduceLT, Int.reduceLT, Int.reduceLE, Int.reduceEq, Int.reduceNe, Int.reduceToNat, Int.reduceAdd, Int.reduceSub, reduceCtorEq, Nat.reduceBEq, Nat.reduceBNe, hTT, t4]
  exact ⟨Lv, rs, rfl, hT.lv, hT.ln, hl, fun σ' v k1 k2 k3 => by
    simp only [U15_app, Z15, base1, ↓reduceIte, Nat.reduceAdd, Nat.reduceSub, Nat.reduceMul, Nat.reduceEqDiff, Nat.reduceLeDiff, Nat.reduceLT, Int.reduceLT, Int.reduceLE, Int.reduceEq, Int.reduceNe, Int.reduceToNat, Int.reduceAdd, Int.reduceSub, reduceCtorEq, Nat.reduceBEq, Nat.reduceBNe]
    exact h σ' v k1 k2 k3⟩
def tspansD (args : List AV) (σ : AHeap) (K : AV → AHeap → Prop) : Prop := ∃ (T : Nat) (f t : Bs) (n : Int) (ov : Bool) (Lv Pv : AV) (rs ps : List Rec), args = [.ptr T 0] ∧ TourAt σ T f t n ov Lv rs Pv ps ∧ ps.length ≤ 1000000 ∧ seenK σ ps K
theorem tspansD_ok (args : List AV) (σ : AHeap) (K : AV → AHeap → Prop) (h : tspansD args σ K) : Tri Try.prog 16 args σ K := by
  obtain ⟨T, f, t, n, ov, Lv, Pv, rs, ps, rfl, hT, hl, h⟩ := h
  refine Tri.of_s c16 U15_sound ?_
  have t5 : (tourC f t n ov Lv Pv)[5]? = some Pv := rfl
  have hTT := hT.tt
  simp only [U15_app, Z16, base1, ↓reduceIte, Nat.reduceAdd, Nat.reduceSub, Nat.reduceMul, Nat.reduceEqDiff, Nat.reduceLeDiff, Nat.reduceLT, Int.reduceLT, Int.reduceLE, Int.reduceEq, Int.reduceNe, Int.reduceToNat, Int.reduceAdd, Int.reduceSub, reduceCtorEq, Nat.reduceBEq, Nat.reduceBNe, hTT, t5]
  exact ⟨Pv, ps, rfl, hT.pv, hT.pn, hl, fun σ' v k1 k2 k3 => by
    simp only [U15_app, Z16, base1, ↓reduceIte, Nat.reduceAdd, Nat.reduceSub, Nat.reduceMul, Nat.reduceEqDiff, Nat.reduceLeDiff, Nat.reduceLT, Int.reduceLT, Int.reduceLE, Int.reduceEq, Int.reduceNe, Int.reduceToNat, Int.reduceAdd, Int.reduceSub, reduceCtorEq, Nat.reduceBEq, Nat.reduceBNe]
    exact h σ' v k1 k2 k3⟩
/-! Two rows that are the same. -/
def rqI (σ0 : AHeap) (Av Bv : AV) (rs : List Rec) (m : Nat) (e : Env) (σ : AHeap) : Prop := ∃ k : Nat, k ≤ rs.length ∧ m = rs.length - k ∧ σ = σ0 ∧ e 0 = Av ∧ e 1 = Bv ∧ e 5 = .int .i64 (k : Int)
def recsD (args : List AV) (σ : AHeap) (K : AV → AHeap → Prop) : Prop := ∃ (Av Bv : AV) (rs : List Rec), args = [Av, Bv] ∧ Grow σ Av 2 (recC rs) ∧ Grow σ Bv 2 (recC rs) ∧ rs.length ≤ 1000000 ∧ K (.bool true) σ
theorem recsD_ok (args : List AV) (σ : AHeap) (K : AV → AHeap → Prop) (h : recsD args σ K) : Tri Try.prog 20 args σ K := by
  obtain ⟨Av, Bv, rs, rfl, hA, hB, hl, h⟩ := h
  refine Tri.of_s c20 (noCall_sound _) ?_
  have la : lenSl Av = some rs.length := grow_lenS ⟨hA, by simp⟩
  have lb : lenSl Bv = some rs.length := grow_lenS ⟨hB, by simp⟩
  simp only [Z20, base1, ↓reduceIte, Nat.reduceAdd, Nat.reduceSub, Nat.reduceMul, Nat.reduceEqDiff, Nat.reduceLeDiff, Nat.reduceLT, Int.reduceLT, Int.reduceLE, Int.reduceEq, Int.reduceNe, Int.reduceToNat, Int.reduceAdd, Int.reduceSub, reduceCtorEq, Nat.reduceBEq, Nat.reduceBNe, la, lb, Option.map_some]
  refine sC_inv (a := b20_18) (rqI σ Av Bv rs) rs.length _ _ (.refl _ _ _) ⟨0, Nat.zero_le _, rfl, rfl, rfl, rfl, rfl⟩ ?_
  rintro m e σ' ⟨k, hk, hm, rfl, e0, e1, e5⟩
  have hwr : IntKind.wrap .i64 ((k : Int) + 1) = ((k + 1 : Nat) : Int) := by rw [Gz.wrap64 (by omega)]; omega
  by_cases hlt' : (k : Int) < (rs.length : Int)
  · have hlt : k < rs.length := by omega
    have hge0 : (0 : Int) ≤ (k : Int) := by omega
    obtain ⟨r, hr⟩ : ∃ r, rs[k]? = some r := ⟨_, List.getElem?_eq_getElem hlt⟩
    have row : (recC rs)[k]? = some [.str r.1, .str r.2] := by rw [recC, List.getElem?_map, hr]; rfl
    have ll : (recC rs).length = rs.length := by simp
    rcases hA with ⟨rfl, h0⟩ | ⟨d, rfl, hd, h3, _⟩
    · have : rs = [] := by simpa using h0
      subst this; cases hr
    · rcases hB with ⟨rfl, h0⟩ | ⟨d', rfl, hd', h3', _⟩
      · have : rs = [] := by simpa using h0
        subst this; cases hr
      · have c1 : sub (recC rs).flatten (k * 2) 2 = some [.str r.1, .str r.2] := flat_sub (j := 0) h3 row (by decide)
        have l0 : ∀ d, lenOf (.slice d 0 rs.length none 2) = some rs.length := fun d => rfl
        rw [ll] at e0 e1
        simp only [Z20, base1, ↓reduceIte, Nat.reduceAdd, Nat.reduceSub, Nat.reduceMul, Nat.reduceEqDiff, Nat.reduceLeDiff, Nat.reduceLT, Int.reduceLT, Int.reduceLE, Int.reduceEq, Int.reduceNe, Int.reduceToNat, Int.reduceAdd, Int.reduceSub, reduceCtorEq, Nat.reduceBEq, Nat.reduceBNe, loopR_exit, loopR_ret, e0, e1, e5, l0, Option.map_some, hlt', hlt, hge0, Int.toNat_natCast, hd, hd', c1, hwr]
        rw [loopR_normal]
        exact ⟨rs.length - (k + 1), _, _, by omega, .refl _ _ _, k + 1, hlt, rfl, rfl, by rw [ll]; exact e0, by rw [ll]; exact e1, rfl⟩
  · simp only [Z20, base1, ↓reduceIte, Nat.reduceAdd, Nat.reduceSub, Nat.reduceMul, Nat.reduceEqDiff, Nat.reduceLeDiff, Nat.reduceLT, Int.reduceLT, Int.reduceLE, Int.reduceEq, Int.reduceNe, Int.reduceToNat, Int.reduceAdd, Int.reduceSub, reduceCtorEq, Nat.reduceBEq, Nat.reduceBNe, loopR_exit, loopR_ret, e0, e1, e5, la, lb, Option.map_some, hlt']
    exact h
end Go.Proofs.Ytmjnmnhpmbbmgaa.tour
