/- The reference's writer: the same bytes as the packer's. No condition. -/
import Derived.Test.YtndlgmciplckjaaNAsk
set_option linter.unusedVariables false
set_option linter.unusedSimpArgs false
namespace Go.Proofs.Ytndlgmciplckjaa.note
open Go.ChangeShapes Go.WideShapes Go.ChangeAt Go.RowKit Go.Gz
abbrev r89_0 : List MOper := [⟨(some 2), .move (.c (.nilslice)), none⟩,
  ⟨(some 3), .move (.c (.bool false)), none⟩]
def b89_0 : SCode := .region r89_0
abbrev r89_1 : List MOper := [⟨(some 4), .move (.t 0), none⟩,
  ⟨(some 5), .bin .shr .num (.t 4) (.c (.int .u64 24)), none⟩,
  ⟨(some 6), .convInt .u8 (.t 5), none⟩,
  ⟨(some 7), .move (.t 0), none⟩,
  ⟨(some 8), .bin .shr .num (.t 7) (.c (.int .u64 16)), none⟩,
  ⟨(some 9), .convInt .u8 (.t 8), none⟩,
  ⟨(some 10), .move (.t 0), none⟩,
  ⟨(some 11), .bin .shr .num (.t 10) (.c (.int .u64 8)), none⟩,
  ⟨(some 12), .convInt .u8 (.t 11), none⟩,
  ⟨(some 13), .move (.t 0), none⟩,
  ⟨(some 14), .convInt .u8 (.t 13), none⟩,
  ⟨(some 15), .buildSlice [.int .u8 0] 1 4 [(0, 1, (.t 6)), (1, 1, (.t 9)), (2, 1, (.t 12)), (3, 1, (.t 14))], none⟩,
  ⟨(some 16), .move (.t 0), none⟩,
  ⟨(some 17), .bin .geq .num (.t 16) (.c (.int .i64 0)), none⟩,
  ⟨(some 18), .move (.t 17), none⟩,
  ⟨(some 19), .move (.t 0), (some (18, true))⟩,
  ⟨(some 20), .bin .lss .num (.t 19) (.c (.int .i64 268435456)), (some (18, true))⟩,
  ⟨(some 21), .pick (.t 18) (.t 20) (.c (.bool false)), none⟩,
  ⟨(some 2), .move (.t 15), none⟩,
  ⟨(some 3), .move (.t 21), none⟩]
def b89_1 : SCode := .region r89_1
def b89_2 : SCode := .seq b89_1 .ret
def b89_3 : SCode := .seq b89_0 b89_2
def s89 : SFunc := ⟨22, [.t 2, .t 3], b89_3⟩
theorem c89 : sFn Try.prog 89 = some s89 := by kernel_rfl
theorem Z89 : XR b89_0 r89_0 ∧ XR b89_1 r89_1 ∧ XS b89_2 b89_1 .ret ∧ XS b89_3 b89_0 b89_2 ∧ XY s89 22 b89_3 [.t 2, .t 3] := ⟨rfl, rfl, rfl, rfl, rfl⟩
abbrev r76_0 : List MOper := [⟨(some 7), .move (.t 1), none⟩,
  ⟨(some 8), .call 89 [(.t 7)], none⟩,
  ⟨(some 6), .move (.t 8), none⟩,
  ⟨(some 9), .extract (.t 6) 0, none⟩,
  ⟨(some 10), .extract (.t 6) 1, none⟩,
  ⟨(some 4), .move (.t 9), none⟩,
  ⟨(some 5), .move (.t 10), none⟩]
def b76_0 : SCode := .region r76_0
abbrev t76_1 : LTree := (.quiet ⟨(some 11), .move (.t 0), none⟩ 0
  (.quiet ⟨(some 12), .move (.t 0), none⟩ 1
  (.quiet ⟨(some 13), .move (.t 0), none⟩ 2
  (.quiet ⟨(some 14), .nilCheck (.t 13), none⟩ 3
  (.quiet ⟨(some 15), .fieldAddr 0 (.t 14), none⟩ 4
  (.quiet ⟨(some 16), .load1 (.t 15), none⟩ 5
  (.quiet ⟨(some 17), .move (.t 4), none⟩ 6
  (.quiet ⟨(some 19), .move (.t 0), none⟩ 8
  (.quiet ⟨(some 20), .nilCheck (.t 19), none⟩ 9
  (.quiet ⟨(some 21), .fieldAddr 1 (.t 20), none⟩ 10
  (.quiet ⟨(some 22), .load1 (.t 21), none⟩ 11
  (.loud ⟨(some 18), .append 1 1 (.t 16) (.t 17), none⟩ [11]
  (.quiet ⟨(some 23), .move (.t 22), none⟩ 12
  (.quiet ⟨(some 24), .move (.t 5), (some (23, false))⟩ 13
  (.quiet ⟨(some 25), .un .not (.t 24), (some (23, false))⟩ 14
  (.quiet ⟨(some 26), .pick (.t 23) (.c (.bool true)) (.t 25), none⟩ 15
  (.quiet ⟨(some 27), .nilCheck (.t 11), none⟩ 16
  (.quiet ⟨(some 28), .fieldAddr 0 (.t 27), none⟩ 17
  (.loud ⟨none, .store 1 (.t 28) (.t 18), none⟩ []
  (.quiet ⟨(some 29), .nilCheck (.t 12), none⟩ 19
  (.quiet ⟨(some 30), .fieldAddr 1 (.t 29), none⟩ 20
  (.loud ⟨none, .store 1 (.t 30) (.t 26), none⟩ []
  .leaf .stop))) .stop))))))) .stop))))))))))))
def b76_1 : SCode := .draw t76_1
def b76_2 : SCode := .seq b76_0 b76_1
def s76 : SFunc := ⟨31, [], b76_2⟩
theorem c76 : sFn Try.prog 76 = some s76 := by kernel_rfl
theorem Z76 : XR b76_0 r76_0 ∧ XT b76_1 t76_1 ∧ XS b76_2 b76_0 b76_1 ∧ XY s76 31 b76_2 [] := ⟨rfl, rfl, rfl, rfl⟩
abbrev r77_0 : List MOper := [⟨(some 4), .move (.t 0), none⟩,
  ⟨(some 5), .move (.t 1), none⟩,
  ⟨(some 6), .lenStr (.t 5), none⟩,
  ⟨(some 7), .call 76 [(.t 4), (.t 6)], none⟩]
def b77_0 : SCode := .region r77_0
abbrev r77_1 : List MOper := [⟨(some 8), .move (.t 0), none⟩,
  ⟨(some 9), .move (.t 0), none⟩,
  ⟨(some 10), .nilCheck (.t 9), none⟩,
  ⟨(some 11), .fieldAddr 0 (.t 10), none⟩,
  ⟨(some 12), .load1 (.t 11), none⟩,
  ⟨(some 13), .move (.t 1), none⟩,
  ⟨(some 14), .append 1 1 (.t 12) (.t 13), none⟩,
  ⟨(some 15), .nilCheck (.t 8), none⟩,
  ⟨(some 16), .fieldAddr 0 (.t 15), none⟩,
  ⟨none, .store 1 (.t 16) (.t 14), none⟩]
def b77_1 : SCode := .region r77_1
def b77_2 : SCode := .seq b77_0 b77_1
def s77 : SFunc := ⟨17, [], b77_2⟩
theorem c77 : sFn Try.prog 77 = some s77 := by kernel_rfl
theorem Z77 : XR b77_0 r77_0 ∧ XR b77_1 r77_1 ∧ XS b77_2 b77_0 b77_1 ∧ XY s77 17 b77_2 [] := ⟨rfl, rfl, rfl, rfl⟩
abbrev r78_0 : List MOper := [⟨(some 4), .move (.t 1), none⟩]
def b78_0 : SCode := .region r78_0
abbrev r78_1 : List MOper := [⟨(some 5), .move (.t 0), none⟩,
  ⟨(some 6), .move (.t 0), none⟩,
  ⟨(some 7), .nilCheck (.t 6), none⟩,
  ⟨(some 8), .fieldAddr 0 (.t 7), none⟩,
  ⟨(some 9), .load1 (.t 8), none⟩,
  ⟨(some 10), .buildSlice [.int .u8 0] 1 1 [(0, 1, (.c (.int .u8 1)))], none⟩,
  ⟨(some 11), .append 1 1 (.t 9) (.t 10), none⟩,
  ⟨(some 12), .nilCheck (.t 5), none⟩,
  ⟨(some 13), .fieldAddr 0 (.t 12), none⟩,
  ⟨none, .store 1 (.t 13) (.t 11), none⟩]
def b78_1 : SCode := .region r78_1
abbrev r78_2 : List MOper := [⟨(some 14), .move (.t 0), none⟩,
  ⟨(some 15), .move (.t 0), none⟩,
  ⟨(some 16), .nilCheck (.t 15), none⟩,
  ⟨(some 17), .fieldAddr 0 (.t 16), none⟩,
  ⟨(some 18), .load1 (.t 17), none⟩,
  ⟨(some 19), .buildSlice [.int .u8 0] 1 1 [(0, 1, (.c (.int .u8 0)))], none⟩,
  ⟨(some 20), .append 1 1 (.t 18) (.t 19), none⟩,
  ⟨(some 21), .nilCheck (.t 14), none⟩,
  ⟨(some 22), .fieldAddr 0 (.t 21), none⟩,
  ⟨none, .store 1 (.t 22) (.t 20), none⟩]
def b78_2 : SCode := .region r78_2
def b78_3 : SCode := .cond (.t 4) b78_1 b78_2
def b78_4 : SCode := .seq b78_0 b78_3
def s78 : SFunc := ⟨23, [], b78_4⟩
theorem c78 : sFn Try.prog 78 = some s78 := by kernel_rfl
theorem Z78 : XR b78_0 r78_0 ∧ XR b78_1 r78_1 ∧ XR b78_2 r78_2 ∧ XC b78_3 (.t 4) b78_1 b78_2 ∧ XS b78_4 b78_0 b78_3 ∧ XY s78 23 b78_4 [] := ⟨rfl, rfl, rfl, sC_cond, rfl, rfl⟩
abbrev r49_0 : List MOper := [⟨(some 1), .box (.t 0), none⟩,
  ⟨(some 2), .move (.c (.nilslice)), none⟩,
  ⟨(some 3), .move (.c (.int .i64 0)), none⟩]
def b49_0 : SCode := .region r49_0
abbrev r49_1 : List MOper := [⟨(some 5), .build [.nilslice, .bool false] [], none⟩,
  ⟨(some 6), .box (.t 5), none⟩,
  ⟨(some 4), .move (.t 6), none⟩]
def b49_1 : SCode := .region r49_1
abbrev r49_2 : List MOper := [⟨(some 7), .move (.t 4), none⟩,
  ⟨(some 8), .fieldAddr 0 (.t 1), none⟩,
  ⟨(some 9), .load1 (.t 8), none⟩,
  ⟨(some 10), .call 76 [(.t 7), (.t 9)], none⟩]
def b49_2 : SCode := .region r49_2
abbrev r49_3 : List MOper := [⟨(some 11), .move (.t 4), none⟩,
  ⟨(some 12), .fieldAddr 1 (.t 1), none⟩,
  ⟨(some 13), .load1 (.t 12), none⟩,
  ⟨(some 14), .call 76 [(.t 11), (.t 13)], none⟩]
def b49_3 : SCode := .region r49_3
abbrev r49_4 : List MOper := [⟨(some 15), .move (.t 4), none⟩,
  ⟨(some 16), .fieldAddr 2 (.t 1), none⟩,
  ⟨(some 17), .load1 (.t 16), none⟩,
  ⟨(some 18), .call 76 [(.t 15), (.t 17)], none⟩]
def b49_4 : SCode := .region r49_4
abbrev r49_5 : List MOper := [⟨(some 19), .move (.t 4), none⟩,
  ⟨(some 20), .fieldAddr 7 (.t 1), none⟩,
  ⟨(some 21), .load1 (.t 20), none⟩,
  ⟨(some 22), .call 76 [(.t 19), (.t 21)], none⟩]
def b49_5 : SCode := .region r49_5
abbrev r49_6 : List MOper := [⟨(some 23), .move (.t 4), none⟩,
  ⟨(some 24), .fieldAddr 3 (.t 1), none⟩,
  ⟨(some 25), .load1 (.t 24), none⟩,
  ⟨(some 26), .call 77 [(.t 23), (.t 25)], none⟩]
def b49_6 : SCode := .region r49_6
abbrev r49_7 : List MOper := [⟨(some 27), .move (.t 4), none⟩,
  ⟨(some 28), .fieldAddr 4 (.t 1), none⟩,
  ⟨(some 29), .load1 (.t 28), none⟩,
  ⟨(some 30), .call 77 [(.t 27), (.t 29)], none⟩]
def b49_7 : SCode := .region r49_7
abbrev r49_8 : List MOper := [⟨(some 31), .move (.t 4), none⟩,
  ⟨(some 32), .fieldAddr 5 (.t 1), none⟩,
  ⟨(some 33), .load1 (.t 32), none⟩,
  ⟨(some 34), .call 77 [(.t 31), (.t 33)], none⟩]
def b49_8 : SCode := .region r49_8
abbrev r49_9 : List MOper := [⟨(some 35), .move (.t 4), none⟩,
  ⟨(some 36), .fieldAddr 6 (.t 1), none⟩,
  ⟨(some 37), .load1 (.t 36), none⟩,
  ⟨(some 38), .call 77 [(.t 35), (.t 37)], none⟩]
def b49_9 : SCode := .region r49_9
abbrev r49_10 : List MOper := [⟨(some 39), .move (.t 4), none⟩,
  ⟨(some 40), .nilCheck (.t 39), none⟩,
  ⟨(some 41), .fieldAddr 1 (.t 40), none⟩,
  ⟨(some 42), .load1 (.t 41), none⟩,
  ⟨(some 43), .move (.t 42), none⟩,
  ⟨(some 44), .move (.t 4), (some (43, false))⟩,
  ⟨(some 45), .nilCheck (.t 44), (some (43, false))⟩,
  ⟨(some 46), .fieldAddr 0 (.t 45), (some (43, false))⟩,
  ⟨(some 47), .load1 (.t 46), (some (43, false))⟩,
  ⟨(some 48), .lenSl (.t 47), (some (43, false))⟩,
  ⟨(some 49), .bin .gtr .num (.t 48) (.c (.int .i64 32768)), (some (43, false))⟩,
  ⟨(some 50), .pick (.t 43) (.c (.bool true)) (.t 49), none⟩]
def b49_10 : SCode := .region r49_10
abbrev r49_11 : List MOper := [⟨(some 2), .move (.c (.nilslice)), none⟩,
  ⟨(some 3), .move (.c (.int .i64 1)), none⟩]
def b49_11 : SCode := .region r49_11
def b49_12 : SCode := .seq b49_11 .ret
def b49_13 : SCode := .cond (.t 50) b49_12 .skip
def b49_14 : SCode := .seq b49_10 b49_13
abbrev r49_15 : List MOper := [⟨(some 51), .move (.t 4), none⟩,
  ⟨(some 52), .nilCheck (.t 51), none⟩,
  ⟨(some 53), .fieldAddr 0 (.t 52), none⟩,
  ⟨(some 54), .load1 (.t 53), none⟩,
  ⟨(some 2), .move (.t 54), none⟩,
  ⟨(some 3), .move (.c (.int .i64 0)), none⟩]
def b49_15 : SCode := .region r49_15
def b49_16 : SCode := .seq b49_15 .ret
def b49_17 : SCode := .seq b49_14 b49_16
def b49_18 : SCode := .seq b49_9 b49_17
def b49_19 : SCode := .seq b49_8 b49_18
def b49_20 : SCode := .seq b49_7 b49_19
def b49_21 : SCode := .seq b49_6 b49_20
def b49_22 : SCode := .seq b49_5 b49_21
def b49_23 : SCode := .seq b49_4 b49_22
def b49_24 : SCode := .seq b49_3 b49_23
def b49_25 : SCode := .seq b49_2 b49_24
def b49_26 : SCode := .seq b49_1 b49_25
def b49_27 : SCode := .seq b49_0 b49_26
def s49 : SFunc := ⟨55, [.t 2, .t 3], b49_27⟩
theorem c49 : sFn Try.prog 49 = some s49 := by kernel_rfl
theorem Z49 : XR b49_0 r49_0 ∧ XR b49_1 r49_1 ∧ XR b49_2 r49_2 ∧ XR b49_3 r49_3 ∧ XR b49_4 r49_4 ∧ XR b49_5 r49_5 ∧ XR b49_6 r49_6 ∧ XR b49_7 r49_7 ∧ XR b49_8 r49_8 ∧ XR b49_9 r49_9 ∧ XR b49_10 r49_10 ∧ XR b49_11 r49_11 ∧ XS b49_12 b49_11 .ret ∧ XC b49_13 (.t 50) b49_12 .skip ∧ XS b49_14 b49_10 b49_13 ∧ XR b49_15 r49_15 ∧ XS b49_16 b49_15 .ret ∧ XS b49_17 b49_14 b49_16 ∧ XS b49_18 b49_9 b49_17 ∧ XS b49_19 b49_8 b49_18 ∧ XS b49_20 b49_7 b49_19 ∧ XS b49_21 b49_6 b49_20 ∧ XS b49_22 b49_5 b49_21 ∧ XS b49_23 b49_4 b49_22 ∧ XS b49_24 b49_3 b49_23 ∧ XS b49_25 b49_2 b49_24 ∧ XS b49_26 b49_1 b49_25 ∧ XS b49_27 b49_0 b49_26 ∧ XY s49 55 b49_27 [.t 2, .t 3] := ⟨rfl, rfl, rfl, rfl, rfl, rfl, rfl, rfl, rfl, rfl, rfl, rfl, rfl, sC_cond, rfl, rfl, rfl, rfl, rfl, rfl, rfl, rfl, rfl, rfl, rfl, rfl, rfl, rfl, rfl⟩

set_option maxHeartbeats 4000000
set_option maxRecDepth 10000
def V0 : PCall := rowF 89 noCall s89 noCall
theorem V0_app {f : FuncId} {args : List AV} {σ : AHeap} {K : AV → AHeap → Prop} : V0 f args σ K = rowF 89 noCall s89 noCall f args σ K := _root_.id rfl
theorem V0_sound : Sound Try.prog V0 := rowF_sound c89 (noCall_sound _) (noCall_sound _)
def wnumD (args : List AV) (σ : AHeap) (K : AV → AHeap → Prop) : Prop :=
  ∃ (id : Nat) (n : Int) (bs : List UInt8) (bad : Bool) (D : Option Nat), args = [.ptr id 0, .int .i64 n] ∧ bs.length + 4 ≤ 1000000000 ∧ Pk σ id bs bad D ∧
    ∀ σ' D', Pk σ' id (bs ++ u32 n) (bad || badN n) D' → Fr σ σ' id D D' → K (.tuple []) σ'
theorem wnumD_ok (args : List AV) (σ : AHeap) (K : AV → AHeap → Prop) (h : wnumD args σ K) : Tri Try.prog 76 args σ K := by
  obtain ⟨id, x, bs, bad, D, rfl, hsz, hp, hK⟩ := h
  refine Tri.of_s c76 V0_sound ?_
  obtain ⟨hp1, hf1⟩ := pk_push hp ((u32 x).map byteAV)
  have he : elemsOf (hpush σ ((u32 x).map byteAV)) 1 (.slice σ.length 0 4 (some 4) 1) = some ((u32 x).map byteAV) := by
    simp only [elemsOf, if_true, push_new rfl, Option.bind_some, Nat.mul_one]
    exact sub_all rfl
  have key : ∀ B, ∃ P v σ2 D', hget σ id = some [P, .bool bad] ∧ evAppend 1 1 P (.slice σ.length 0 4 (some 4) 1) (hpush σ ((u32 x).map byteAV)) = some (v, σ2) ∧ v.isCell = true ∧ hget (hpush σ ((u32 x).map byteAV)) id = some [P, .bool bad] ∧ hget σ2 id = some [P, .bool bad] ∧ Pk (hset σ2 id [v, .bool B]) id (bs ++ u32 x) B D' ∧ Fr σ (hset σ2 id [v, .bool B]) id D D' := by
    intro B
    obtain ⟨P, v, σ2, D', a1, a2, a3, a4, a5, a6⟩ := app_step hp1 (u32 x) (.inl (by simp [u32])) B he rfl (by rw [u32_len]; omega)
    obtain ⟨P', hP'⟩ := pk_get hp
    have : P' = P := by
      have := push_old (c := (u32 x).map byteAV) hP'
      rw [this] at a1; simp at a1; exact a1
    subst this
    exact ⟨P', v, σ2, D', hP', a2, a3, a1, a4, a5, hf1.trans a6⟩
  obtain ⟨P, v, σ2, D', hP, a2, a3, a1, a4, a5, a6⟩ := key (bad || badN x)
  have a3' := cell_cells a3
  rw [u32_map] at a2 a1
  have b1 : ∀ c : List AV, hget (hset σ2 id c) id = some c := fun c => set_same a4
  have b2 : ∀ c d : List AV, hset (hset σ2 id c) id d = hset σ2 id d := fun c d => set_set
  by_cases hneg : x < 0
  · have h1 : ¬ (0 : Int) ≤ x := by omega
    have hb : badN x = true := by simp [badN, hneg]
    rw [hb, Bool.or_true] at a5 a6 hK
    cases bad <;> (simp only [V0_app, Z76, Z89, base1, ↓reduceIte, Nat.reduceAdd, Nat.reduceSub, Nat.reduceMul, Nat.reduceEqDiff, Nat.reduceLeDiff, Nat.reduceLT, Int.reduceLT, Int.reduceLE, Int.reduceEq, Int.reduceNe, Int.reduceToNat, Int.reduceAdd, Int.reduceSub, reduceCtorEq, Nat.reduceBEq, Nat.reduceBNe, hP, shr24, shr16, shr8, a1, a2, a3, a3', a4, b1, b2, h1]; exact hK _ _ a5 a6)
  · have h1 : (0 : Int) ≤ x := by omega
    by_cases hbig : x < 268435456
    · have hb : badN x = false := by simp [badN]; omega
      rw [hb, Bool.or_false] at a5 a6 hK
      cases bad <;> (simp only [V0_app, Z76, Z89, base1, ↓reduceIte, Nat.reduceAdd, Nat.reduceSub, Nat.reduceMul, Nat.reduceEqDiff, Nat.reduceLeDiff, Nat.reduceLT, Int.reduceLT, Int.reduceLE, Int.reduceEq, Int.reduceNe, Int.reduceToNat, Int.reduceAdd, Int.reduceSub, reduceCtorEq, Nat.reduceBEq, Nat.reduceBNe, hP, shr24, shr16, shr8, a1, a2, a3, a3', a4, b1, b2, h1, hbig]; exact hK _ _ a5 a6)
    · have hb : badN x = true := by simp [badN]; omega
      rw [hb, Bool.or_true] at a5 a6 hK
      cases bad <;> (simp only [V0_app, Z76, Z89, base1, ↓reduceIte, Nat.reduceAdd, Nat.reduceSub, Nat.reduceMul, Nat.reduceEqDiff, Nat.reduceLeDiff, Nat.reduceLT, Int.reduceLT, Int.reduceLE, Int.reduceEq, Int.reduceNe, Int.reduceToNat, Int.reduceAdd, Int.reduceSub, reduceCtorEq, Nat.reduceBEq, Nat.reduceBNe, hP, shr24, shr16, shr8, a1, a2, a3, a3', a4, b1, b2, h1, hbig]; exact hK _ _ a5 a6)
def V1 : PCall := rowQ 76 wnumD noCall
theorem V1_app {f : FuncId} {args : List AV} {σ : AHeap} {K : AV → AHeap → Prop} : V1 f args σ K = rowQ 76 wnumD noCall f args σ K := _root_.id rfl
theorem V1_sound : Sound Try.prog V1 := rowQ_sound wnumD_ok (noCall_sound _)
def wtextD (args : List AV) (σ : AHeap) (K : AV → AHeap → Prop) : Prop :=
  ∃ (id : Nat) (s : List UInt8) (bs : List UInt8) (bad : Bool) (D : Option Nat), args = [.ptr id 0, .str s] ∧ bs.length + (4 + s.length) ≤ 1000000000 ∧ Pk σ id bs bad D ∧
    ∀ σ' D', Pk σ' id (bs ++ txt s) (bad || badT s) D' → Fr σ σ' id D D' → K (.tuple []) σ'
theorem wtextD_ok (args : List AV) (σ : AHeap) (K : AV → AHeap → Prop) (h : wtextD args σ K) : Tri Try.prog 77 args σ K := by
  obtain ⟨id, x, bs, bad, D, rfl, hsz, hp, hK⟩ := h
  refine Tri.of_s c77 V1_sound ?_
  simp only [V1_app, Z77, base1, ↓reduceIte, Nat.reduceAdd, Nat.reduceSub, Nat.reduceMul, Nat.reduceEqDiff, Nat.reduceLeDiff, Nat.reduceLT, Int.reduceLT, Int.reduceLE, Int.reduceEq, Int.reduceNe, Int.reduceToNat, Int.reduceAdd, Int.reduceSub, reduceCtorEq, Nat.reduceBEq, Nat.reduceBNe]
  refine ⟨id, _, bs, bad, D, rfl, by omega, hp, fun σ1 D1 q1 f1 => ?_⟩
  have he : elemsOf σ1 1 (.str x) = some (x.map byteAV) := rfl
  obtain ⟨P, v, σ2, D', a1, a2, a3, a4, a5, a6⟩ := app_step q1 x (.inr (by simp [u32])) (bad || badN (x.length : Int)) he rfl (by simp only [List.length_append, u32_len]; omega)
  have a3' := cell_cells a3
  simp only [V1_app, Z77, base1, ↓reduceIte, Nat.reduceAdd, Nat.reduceSub, Nat.reduceMul, Nat.reduceEqDiff, Nat.reduceLeDiff, Nat.reduceLT, Int.reduceLT, Int.reduceLE, Int.reduceEq, Int.reduceNe, Int.reduceToNat, Int.reduceAdd, Int.reduceSub, reduceCtorEq, Nat.reduceBEq, Nat.reduceBNe, a1, a2, a3, a3', a4]
  refine hK _ _ ?_ (f1.trans a6)
  rw [List.append_assoc] at a5
  exact a5
def wtruthD (args : List AV) (σ : AHeap) (K : AV → AHeap → Prop) : Prop :=
  ∃ (id : Nat) (t : Bool) (bs : List UInt8) (bad : Bool) (D : Option Nat), args = [.ptr id 0, .bool t] ∧ bs.length + 1 ≤ 1000000000 ∧ Pk σ id bs bad D ∧
    ∀ σ' D', Pk σ' id (bs ++ tb t) bad D' → Fr σ σ' id D D' → K (.tuple []) σ'
theorem wtruthD_ok (args : List AV) (σ : AHeap) (K : AV → AHeap → Prop) (h : wtruthD args σ K) : Tri Try.prog 78 args σ K := by
  obtain ⟨id, t, bs, bad, D, rfl, h1, h2, h3⟩ := h
  refine Tri.of_s c78 (noCall_sound _) ?_
  have key : ∀ b : UInt8, ∃ P v σ2 D', hget σ id = some [P, .bool bad] ∧ evAppend 1 1 P (.slice σ.length 0 1 (some 1) 1) (hpush σ [byteAV b]) = some (v, σ2) ∧ v.isCell = true ∧ v.cells? = some [v] ∧ hget σ2 id = some [P, .bool bad] ∧ Pk (hset σ2 id [v, .bool bad]) id (bs ++ [b]) bad D' ∧ Fr σ (hset σ2 id [v, .bool bad]) id D D' := by
    intro b
    obtain ⟨p1, f1⟩ := pk_push h2 [byteAV b]
    have he : elemsOf (hpush σ [byteAV b]) 1 (.slice σ.length 0 1 (some 1) 1) = some ([b].map byteAV) := by
      simp only [elemsOf, if_true, push_new rfl, Option.bind_some, Nat.mul_one]
      exact sub_all rfl
    obtain ⟨P, v, σ2, D', a1, a2, a3, a4, a5, a6⟩ := app_step p1 [b] (.inl (by simp)) bad he rfl (by simpa using h1)
    obtain ⟨P', hP'⟩ := pk_get h2
    have : P' = P := by
      have := push_old (c := [byteAV b]) hP'
      rw [this] at a1; simp at a1; exact a1
    subst this
    exact ⟨P', v, σ2, D', hP', a2, a3, cell_cells a3, a4, a5, f1.trans a6⟩
  cases t with
  | true =>
    obtain ⟨P, v, σ2, D', a1, a2, a3, a3', a4, a5, a6⟩ := key 1
    have hb : byteAV 1 = .int .u8 1 := rfl
    rw [hb] at a2
    simp only [Z78, base1, ↓reduceIte, Nat.reduceAdd, Nat.reduceSub, Nat.reduceMul, Nat.reduceEqDiff, Nat.reduceLeDiff, Nat.reduceLT, Int.reduceLT, Int.reduceLE, Int.reduceEq, Int.reduceNe, Int.reduceToNat, Int.reduceAdd, Int.reduceSub, reduceCtorEq, Nat.reduceBEq, Nat.reduceBNe, a1, a2, a3, a3', a4]
    exact h3 _ _ a5 a6
  | false =>
    obtain ⟨P, v, σ2, D', a1, a2, a3, a3', a4, a5, a6⟩ := key 0
    have hb : byteAV 0 = .int .u8 0 := rfl
    rw [hb] at a2
    simp only [Z78, base1, ↓reduceIte, Nat.reduceAdd, Nat.reduceSub, Nat.reduceMul, Nat.reduceEqDiff, Nat.reduceLeDiff, Nat.reduceLT, Int.reduceLT, Int.reduceLE, Int.reduceEq, Int.reduceNe, Int.reduceToNat, Int.reduceAdd, Int.reduceSub, reduceCtorEq, Nat.reduceBEq, Nat.reduceBNe, a1, a2, a3, a3', a4]
    exact h3 _ _ a5 a6
def V2 : PCall := rowQ 76 wnumD (rowQ 77 wtextD (rowQ 78 wtruthD noCall))
theorem V2_app {f : FuncId} {args : List AV} {σ : AHeap} {K : AV → AHeap → Prop} : V2 f args σ K = rowQ 76 wnumD (rowQ 77 wtextD (rowQ 78 wtruthD noCall)) f args σ K := _root_.id rfl
theorem V2_sound : Sound Try.prog V2 := rowQ_sound wnumD_ok (rowQ_sound wtextD_ok (rowQ_sound wtruthD_ok (noCall_sound _)))
theorem refAsk_ok (a : AskV) (hsz : total a.texts ≤ 900000000) : Tri Try.prog 49 [.agg a.cells] [] fun r _ => r.cleanD ∧ r = packR a.bad a.bytes := by
  refine pack_less (Tri.of_s c49 V2_sound ?_)
  obtain ⟨do_, client, seq, text, val, from_, to, limit⟩ := a
  simp only [AskV.cells, AskV.texts, total, List.flatMap_cons, List.flatMap_nil, List.append_nil, List.length_append, txt, u32_len] at hsz ⊢
  simp only [V2_app, Z49, base1, baseE, ↓reduceIte, Nat.reduceAdd, Nat.reduceSub, Nat.reduceMul, Nat.reduceEqDiff, Nat.reduceLeDiff, Nat.reduceLT, Int.reduceLT, Int.reduceLE, Int.reduceEq, Int.reduceNe, Int.reduceToNat, Int.reduceAdd, Int.reduceSub, reduceCtorEq, Nat.reduceBEq, Nat.reduceBNe]
  refine ⟨1, do_, [], false, none, rfl, by decide, .inl ⟨rfl, rfl, rfl⟩, fun σ1 D1 q1 f1 => ?_⟩
  obtain ⟨g1, k1⟩ := f1 0 _ rfl (by decide) (by simp)
  simp only [V2_app, Z49, base1, baseE, ↓reduceIte, Nat.reduceAdd, Nat.reduceSub, Nat.reduceMul, Nat.reduceEqDiff, Nat.reduceLeDiff, Nat.reduceLT, Int.reduceLT, Int.reduceLE, Int.reduceEq, Int.reduceNe, Int.reduceToNat, Int.reduceAdd, Int.reduceSub, reduceCtorEq, Nat.reduceBEq, Nat.reduceBNe, g1]
  refine ⟨1, client, _, _, D1, rfl, by simp [u32], q1, fun σ2 D2 q2 f2 => ?_⟩
  obtain ⟨g2, k2⟩ := f2 0 _ g1 (by decide) k1
  simp only [V2_app, Z49, base1, baseE, ↓reduceIte, Nat.reduceAdd, Nat.reduceSub, Nat.reduceMul, Nat.reduceEqDiff, Nat.reduceLeDiff, Nat.reduceLT, Int.reduceLT, Int.reduceLE, Int.reduceEq, Int.reduceNe, Int.reduceToNat, Int.reduceAdd, Int.reduceSub, reduceCtorEq, Nat.reduceBEq, Nat.reduceBNe, g2]
  refine ⟨1, seq, _, _, D2, rfl, by simp [u32], q2, fun σ3 D3 q3 f3 => ?_⟩
  obtain ⟨g3, k3⟩ := f3 0 _ g2 (by decide) k2
  simp only [V2_app, Z49, base1, baseE, ↓reduceIte, Nat.reduceAdd, Nat.reduceSub, Nat.reduceMul, Nat.reduceEqDiff, Nat.reduceLeDiff, Nat.reduceLT, Int.reduceLT, Int.reduceLE, Int.reduceEq, Int.reduceNe, Int.reduceToNat, Int.reduceAdd, Int.reduceSub, reduceCtorEq, Nat.reduceBEq, Nat.reduceBNe, g3]
  refine ⟨1, limit, _, _, D3, rfl, by simp [u32], q3, fun σ4 D4 q4 f4 => ?_⟩
  obtain ⟨g4, k4⟩ := f4 0 _ g3 (by decide) k3
  simp only [V2_app, Z49, base1, baseE, ↓reduceIte, Nat.reduceAdd, Nat.reduceSub, Nat.reduceMul, Nat.reduceEqDiff, Nat.reduceLeDiff, Nat.reduceLT, Int.reduceLT, Int.reduceLE, Int.reduceEq, Int.reduceNe, Int.reduceToNat, Int.reduceAdd, Int.reduceSub, reduceCtorEq, Nat.reduceBEq, Nat.reduceBNe, g4]
  refine ⟨1, text, _, _, D4, rfl, by simp only [List.length_append, u32_len, List.length_nil]; omega, q4, fun σ5 D5 q5 f5 => ?_⟩
  obtain ⟨g5, k5⟩ := f5 0 _ g4 (by decide) k4
  simp only [V2_app, Z49, base1, baseE, ↓reduceIte, Nat.reduceAdd, Nat.reduceSub, Nat.reduceMul, Nat.reduceEqDiff, Nat.reduceLeDiff, Nat.reduceLT, Int.reduceLT, Int.reduceLE, Int.reduceEq, Int.reduceNe, Int.reduceToNat, Int.reduceAdd, Int.reduceSub, reduceCtorEq, Nat.reduceBEq, Nat.reduceBNe, g5]
  refine ⟨1, val, _, _, D5, rfl, by simp only [txt, List.length_append, u32_len, List.length_nil]; omega, q5, fun σ6 D6 q6 f6 => ?_⟩
  obtain ⟨g6, k6⟩ := f6 0 _ g5 (by decide) k5
  simp only [V2_app, Z49, base1, baseE, ↓reduceIte, Nat.reduceAdd, Nat.reduceSub, Nat.reduceMul, Nat.reduceEqDiff, Nat.reduceLeDiff, Nat.reduceLT, Int.reduceLT, Int.reduceLE, Int.reduceEq, Int.reduceNe, Int.reduceToNat, Int.reduceAdd, Int.reduceSub, reduceCtorEq, Nat.reduceBEq, Nat.reduceBNe, g6]
  refine ⟨1, from_, _, _, D6, rfl, by simp only [txt, List.length_append, u32_len, List.length_nil]; omega, q6, fun σ7 D7 q7 f7 => ?_⟩
  obtain ⟨g7, k7⟩ := f7 0 _ g6 (by decide) k6
  simp only [V2_app, Z49, base1, baseE, ↓reduceIte, Nat.reduceAdd, Nat.reduceSub, Nat.reduceMul, Nat.reduceEqDiff, Nat.reduceLeDiff, Nat.reduceLT, Int.reduceLT, Int.reduceLE, Int.reduceEq, Int.reduceNe, Int.reduceToNat, Int.reduceAdd, Int.reduceSub, reduceCtorEq, Nat.reduceBEq, Nat.reduceBNe, g7]
  refine ⟨1, to, _, _, D7, rfl, by simp only [txt, List.length_append, u32_len, List.length_nil]; omega, q7, fun σ8 D8 q8 f8 => ?_⟩
  have hbs : [] ++ u32 do_ ++ u32 client ++ u32 seq ++ u32 limit ++ txt text ++ txt val ++ txt from_ ++ txt to = AskV.bytes ⟨do_, client, seq, text, val, from_, to, limit⟩ := by simp [AskV.bytes, AskV.nums, AskV.texts]
  rw [hbs] at q8
  have hbad : (((((((((false || badN do_) || badN client) || badN seq) || badN limit) || badT text) || badT val) || badT from_) || badT to) || decide (32768 < (AskV.bytes ⟨do_, client, seq, text, val, from_, to, limit⟩).length)) = AskV.bad ⟨do_, client, seq, text, val, from_, to, limit⟩ := by
    simp only [AskV.bad, AskV.nums, AskV.texts, List.any_cons, List.any_nil, Bool.or_false, Bool.or_assoc, Bool.false_or]
  generalize ((((((((false || badN do_) || badN client) || badN seq) || badN limit) || badT text) || badT val) || badT from_) || badT to) = B at q8 hbad
  obtain ⟨d, rfl, hd⟩ := pk_some q8 (by simp [AskV.bytes, AskV.nums, u32])
  generalize AskV.bytes ⟨do_, client, seq, text, val, from_, to, limit⟩ = bs at q8 hbad hd ⊢
  rw [← hbad]
  rcases q8 with ⟨h, _⟩ | ⟨d', hd', _, hg, _⟩
  · cases h
  cases hd'
  cases B with
  | true =>
    simp only [V2_app, Z49, base1, baseE, ↓reduceIte, Nat.reduceAdd, Nat.reduceSub, Nat.reduceMul, Nat.reduceEqDiff, Nat.reduceLeDiff, Nat.reduceLT, Int.reduceLT, Int.reduceLE, Int.reduceEq, Int.reduceNe, Int.reduceToNat, Int.reduceAdd, Int.reduceSub, reduceCtorEq, Nat.reduceBEq, Nat.reduceBNe, hg]
    exact ⟨d, hd⟩
  | false =>
    by_cases hl : (32768 : Int) < (bs.length : Int)
    · have hl' : 32768 < bs.length := by omega
      simp only [V2_app, Z49, base1, baseE, ↓reduceIte, Nat.reduceAdd, Nat.reduceSub, Nat.reduceMul, Nat.reduceEqDiff, Nat.reduceLeDiff, Nat.reduceLT, Int.reduceLT, Int.reduceLE, Int.reduceEq, Int.reduceNe, Int.reduceToNat, Int.reduceAdd, Int.reduceSub, reduceCtorEq, Nat.reduceBEq, Nat.reduceBNe, hg, hl]
      exact ⟨d, hd, by simp [hl']⟩
    · have hl' : ¬ 32768 < bs.length := by omega
      simp only [V2_app, Z49, base1, baseE, ↓reduceIte, Nat.reduceAdd, Nat.reduceSub, Nat.reduceMul, Nat.reduceEqDiff, Nat.reduceLeDiff, Nat.reduceLT, Int.reduceLT, Int.reduceLE, Int.reduceEq, Int.reduceNe, Int.reduceToNat, Int.reduceAdd, Int.reduceSub, reduceCtorEq, Nat.reduceBEq, Nat.reduceBNe, hg, hl]
      exact ⟨d, hd, by simp [hl']⟩
/-! Reply. -/
abbrev r50_0 : List MOper := [⟨(some 1), .box (.t 0), none⟩,
  ⟨(some 2), .move (.c (.nilslice)), none⟩,
  ⟨(some 3), .move (.c (.int .i64 0)), none⟩]
def b50_0 : SCode := .region r50_0
abbrev r50_1 : List MOper := [⟨(some 6), .build [.nilslice, .bool false] [], none⟩,
  ⟨(some 7), .box (.t 6), none⟩,
  ⟨(some 4), .move (.t 7), none⟩]
def b50_1 : SCode := .region r50_1
abbrev r50_2 : List MOper := [⟨(some 8), .move (.t 4), none⟩,
  ⟨(some 9), .fieldAddr 0 (.t 1), none⟩,
  ⟨(some 10), .load1 (.t 9), none⟩,
  ⟨(some 11), .call 76 [(.t 8), (.t 10)], none⟩]
def b50_2 : SCode := .region r50_2
abbrev r50_3 : List MOper := [⟨(some 12), .move (.t 4), none⟩,
  ⟨(some 13), .fieldAddr 1 (.t 1), none⟩,
  ⟨(some 14), .load1 (.t 13), none⟩,
  ⟨(some 15), .call 76 [(.t 12), (.t 14)], none⟩]
def b50_3 : SCode := .region r50_3
abbrev r50_4 : List MOper := [⟨(some 16), .move (.t 4), none⟩,
  ⟨(some 17), .fieldAddr 2 (.t 1), none⟩,
  ⟨(some 18), .load1 (.t 17), none⟩,
  ⟨(some 19), .call 76 [(.t 16), (.t 18)], none⟩]
def b50_4 : SCode := .region r50_4
abbrev r50_5 : List MOper := [⟨(some 20), .move (.t 4), none⟩,
  ⟨(some 21), .fieldAddr 3 (.t 1), none⟩,
  ⟨(some 22), .load1 (.t 21), none⟩,
  ⟨(some 23), .call 78 [(.t 20), (.t 22)], none⟩]
def b50_5 : SCode := .region r50_5
abbrev r50_6 : List MOper := [⟨(some 24), .move (.t 4), none⟩,
  ⟨(some 25), .fieldAddr 4 (.t 1), none⟩,
  ⟨(some 26), .load1 (.t 25), none⟩,
  ⟨(some 27), .call 77 [(.t 24), (.t 26)], none⟩]
def b50_6 : SCode := .region r50_6
abbrev r50_7 : List MOper := [⟨(some 28), .move (.t 4), none⟩,
  ⟨(some 29), .fieldAddr 5 (.t 1), none⟩,
  ⟨(some 30), .load1 (.t 29), none⟩,
  ⟨(some 31), .lenSl (.t 30), none⟩,
  ⟨(some 32), .call 76 [(.t 28), (.t 31)], none⟩]
def b50_7 : SCode := .region r50_7
abbrev r50_8 : List MOper := [⟨(some 5), .move (.c (.int .i64 0)), none⟩]
def b50_8 : SCode := .region r50_8
abbrev r50_9 : List MOper := [⟨(some 33), .move (.t 5), none⟩,
  ⟨(some 34), .fieldAddr 5 (.t 1), none⟩,
  ⟨(some 35), .load1 (.t 34), none⟩,
  ⟨(some 36), .lenSl (.t 35), none⟩,
  ⟨(some 37), .bin .lss .num (.t 33) (.t 36), none⟩]
def b50_9 : SCode := .region r50_9
def b50_10 : SCode := .cond (.t 37) .skip (.exit 0)
def b50_11 : SCode := .seq b50_9 b50_10
abbrev r50_12 : List MOper := [⟨(some 40), .move (.t 4), none⟩,
  ⟨(some 41), .fieldAddr 5 (.t 1), none⟩,
  ⟨(some 42), .load1 (.t 41), none⟩,
  ⟨(some 43), .move (.t 5), none⟩,
  ⟨(some 44), .indexAddr 2 (.t 42) (.t 43), none⟩,
  ⟨(some 45), .fieldAddr 0 (.t 44), none⟩,
  ⟨(some 46), .load1 (.t 45), none⟩,
  ⟨(some 47), .call 77 [(.t 40), (.t 46)], none⟩]
def b50_12 : SCode := .region r50_12
abbrev r50_13 : List MOper := [⟨(some 48), .move (.t 4), none⟩,
  ⟨(some 49), .fieldAddr 5 (.t 1), none⟩,
  ⟨(some 50), .load1 (.t 49), none⟩,
  ⟨(some 51), .move (.t 5), none⟩,
  ⟨(some 52), .indexAddr 2 (.t 50) (.t 51), none⟩,
  ⟨(some 53), .fieldAddr 1 (.t 52), none⟩,
  ⟨(some 54), .load1 (.t 53), none⟩,
  ⟨(some 55), .call 77 [(.t 48), (.t 54)], none⟩]
def b50_13 : SCode := .region r50_13
def b50_14 : SCode := .seq b50_12 b50_13
def b50_15 : SCode := .block 1 b50_14
abbrev r50_16 : List MOper := [⟨(some 38), .move (.t 5), none⟩,
  ⟨(some 39), .bin .add .num (.t 38) (.c (.int .i64 1)), none⟩,
  ⟨(some 5), .move (.t 39), none⟩]
def b50_16 : SCode := .region r50_16
def b50_17 : SCode := .seq b50_15 b50_16
def b50_18 : SCode := .seq b50_11 b50_17
def b50_19 : SCode := .loop b50_18
def b50_20 : SCode := .block 0 b50_19
def b50_21 : SCode := .seq b50_8 b50_20
abbrev r50_22 : List MOper := [⟨(some 56), .move (.t 4), none⟩,
  ⟨(some 57), .fieldAddr 6 (.t 1), none⟩,
  ⟨(some 58), .load1 (.t 57), none⟩,
  ⟨(some 59), .call 77 [(.t 56), (.t 58)], none⟩]
def b50_22 : SCode := .region r50_22
abbrev r50_23 : List MOper := [⟨(some 60), .move (.t 4), none⟩,
  ⟨(some 61), .fieldAddr 7 (.t 1), none⟩,
  ⟨(some 62), .load1 (.t 61), none⟩,
  ⟨(some 63), .call 78 [(.t 60), (.t 62)], none⟩]
def b50_23 : SCode := .region r50_23
abbrev r50_24 : List MOper := [⟨(some 64), .move (.t 4), none⟩,
  ⟨(some 65), .nilCheck (.t 64), none⟩,
  ⟨(some 66), .fieldAddr 1 (.t 65), none⟩,
  ⟨(some 67), .load1 (.t 66), none⟩,
  ⟨(some 68), .move (.t 67), none⟩,
  ⟨(some 69), .move (.t 4), (some (68, false))⟩,
  ⟨(some 70), .nilCheck (.t 69), (some (68, false))⟩,
  ⟨(some 71), .fieldAddr 0 (.t 70), (some (68, false))⟩,
  ⟨(some 72), .load1 (.t 71), (some (68, false))⟩,
  ⟨(some 73), .lenSl (.t 72), (some (68, false))⟩,
  ⟨(some 74), .bin .gtr .num (.t 73) (.c (.int .i64 32768)), (some (68, false))⟩,
  ⟨(some 75), .pick (.t 68) (.c (.bool true)) (.t 74), none⟩]
def b50_24 : SCode := .region r50_24
abbrev r50_25 : List MOper := [⟨(some 2), .move (.c (.nilslice)), none⟩,
  ⟨(some 3), .move (.c (.int .i64 1)), none⟩]
def b50_25 : SCode := .region r50_25
def b50_26 : SCode := .seq b50_25 .ret
def b50_27 : SCode := .cond (.t 75) b50_26 .skip
def b50_28 : SCode := .seq b50_24 b50_27
abbrev r50_29 : List MOper := [⟨(some 76), .move (.t 4), none⟩,
  ⟨(some 77), .nilCheck (.t 76), none⟩,
  ⟨(some 78), .fieldAddr 0 (.t 77), none⟩,
  ⟨(some 79), .load1 (.t 78), none⟩,
  ⟨(some 2), .move (.t 79), none⟩,
  ⟨(some 3), .move (.c (.int .i64 0)), none⟩]
def b50_29 : SCode := .region r50_29
def b50_30 : SCode := .seq b50_29 .ret
def b50_31 : SCode := .seq b50_28 b50_30
def b50_32 : SCode := .seq b50_23 b50_31
def b50_33 : SCode := .seq b50_22 b50_32
def b50_34 : SCode := .seq b50_21 b50_33
def b50_35 : SCode := .seq b50_7 b50_34
def b50_36 : SCode := .seq b50_6 b50_35
def b50_37 : SCode := .seq b50_5 b50_36
def b50_38 : SCode := .seq b50_4 b50_37
def b50_39 : SCode := .seq b50_3 b50_38
def b50_40 : SCode := .seq b50_2 b50_39
def b50_41 : SCode := .seq b50_1 b50_40
def b50_42 : SCode := .seq b50_0 b50_41
def s50 : SFunc := ⟨80, [.t 2, .t 3], b50_42⟩
theorem c50 : sFn Try.prog 50 = some s50 := by kernel_rfl
theorem Z50 : XR b50_0 r50_0 ∧ XR b50_1 r50_1 ∧ XR b50_2 r50_2 ∧ XR b50_3 r50_3 ∧ XR b50_4 r50_4 ∧ XR b50_5 r50_5 ∧ XR b50_6 r50_6 ∧ XR b50_7 r50_7 ∧ XR b50_8 r50_8 ∧ XR b50_9 r50_9 ∧ XC b50_10 (.t 37) .skip (.exit 0) ∧ XS b50_11 b50_9 b50_10 ∧ XR b50_12 r50_12 ∧ XR b50_13 r50_13 ∧ XS b50_14 b50_12 b50_13 ∧ XB b50_15 1 b50_14 ∧ XR b50_16 r50_16 ∧ XS b50_17 b50_15 b50_16 ∧ XS b50_18 b50_11 b50_17 ∧ XB b50_20 0 b50_19 ∧ XS b50_21 b50_8 b50_20 ∧ XR b50_22 r50_22 ∧ XR b50_23 r50_23 ∧ XR b50_24 r50_24 ∧ XR b50_25 r50_25 ∧ XS b50_26 b50_25 .ret ∧ XC b50_27 (.t 75) b50_26 .skip ∧ XS b50_28 b50_24 b50_27 ∧ XR b50_29 r50_29 ∧ XS b50_30 b50_29 .ret ∧ XS b50_31 b50_28 b50_30 ∧ XS b50_32 b50_23 b50_31 ∧ XS b50_33 b50_22 b50_32 ∧ XS b50_34 b50_21 b50_33 ∧ XS b50_35 b50_7 b50_34 ∧ XS b50_36 b50_6 b50_35 ∧ XS b50_37 b50_5 b50_36 ∧ XS b50_38 b50_4 b50_37 ∧ XS b50_39 b50_3 b50_38 ∧ XS b50_40 b50_2 b50_39 ∧ XS b50_41 b50_1 b50_40 ∧ XS b50_42 b50_0 b50_41 ∧ XY s50 80 b50_42 [.t 2, .t 3] := ⟨rfl, rfl, rfl, rfl, rfl, rfl, rfl, rfl, rfl, rfl, sC_cond, rfl, rfl, rfl, rfl, rfl, rfl, rfl, rfl, rfl, rfl, rfl, rfl, rfl, rfl, rfl, sC_cond, rfl, rfl, rfl, rfl, rfl, rfl, rfl, rfl, rfl, rfl, rfl, rfl, rfl, rfl, rfl, rfl⟩

def wrI (a : RepV) (n : Nat) (e : Env) (σ : AHeap) : Prop :=
  ∃ (i d : Nat), i ≤ a.l.length ∧ n = a.l.length - i ∧ Pk σ 1 (a.head ++ (a.l.take i).flatMap txt2) (a.badH || (a.l.take i).any badT2) (some d) ∧ hget σ 0 = some a.cells ∧ d ≠ 0 ∧
    e 1 = .ptr 0 0 ∧ e 4 = .ptr 1 0 ∧ e 5 = .int .i64 (i : Int)
theorem wr_step (a : RepV) (hsz : a.bytes.length ≤ 900000000) (Q : AV → AHeap → Prop) (hQ : ∀ σ d, hget σ d = some (a.bytes.map byteAV) → Q (if a.bad = true then .tuple [.nilslice, .int .i64 1] else .tuple [.slice d 0 a.bytes.length none 1, .int .i64 0]) σ) (n : Nat) (e : Env) (σ : AHeap) (h : wrI a n e σ) :
    sC V2 0 b50_18 (unw V2 0 (loopR V2 0 (RetQ [MRes.t 2, MRes.t 3] Q) (.block 0 (.seq b50_33 .fin)) (wrI a) n) .fin) e σ := by
  obtain ⟨i, d, hi, hn, hp, g0, hd0, h1, h4, h5⟩ := h
  rcases Nat.lt_or_ge i a.l.length with hlt | hge
  · have hlt' : (i : Int) < (a.l.length : Int) := by omega
    have hge0 : (0 : Int) ≤ (i : Int) := by omega
    obtain ⟨x, hx⟩ : ∃ x, a.l[i]? = some x := ⟨_, List.getElem?_eq_getElem hlt⟩
    have hxx : (recs a.l)[i]? = some [.str x.1, .str x.2] := by simp [recs, hx]
    have hlen : (recs a.l).length = a.l.length := by simp [recs]
    have htk : a.l.take (i + 1) = a.l.take i ++ [x] := by rw [List.take_add_one, hx]; rfl
    have hw : IntKind.wrap .i64 ((i : Int) + 1) = ((i + 1 : Nat) : Int) := by
      have : a.l.length ≤ a.bytes.length := by
        have : ∀ l : List (List UInt8 × List UInt8), l.length ≤ (l.flatMap txt2).length := by
          intro l; induction l with
          | nil => simp
          | cons a l ih => simp only [List.flatMap_cons, List.length_append, List.length_cons, txt2, txt, u32_len]; omega
        have := this a.l
        simp only [RepV.bytes, List.length_append]; omega
      rw [Gz.wrap64 (by omega)]; omega
    have htot := rep_tot hx
    have hcap : (a.head ++ (a.l.take i).flatMap txt2).length + (8 + x.1.length + x.2.length) ≤ 900000000 := by
      simp only [RepV.bytes, List.length_append, total, List.flatMap_cons, List.flatMap_nil, List.length_nil, txt, u32_len] at hsz htot ⊢; omega
    simp only [RepV.cells] at g0
    simp only [V2_app, Z50, base1, baseE, ↓reduceIte, Nat.reduceAdd, Nat.reduceSub, Nat.reduceMul, Nat.reduceEqDiff, Nat.reduceLeDiff, Nat.reduceLT, Int.reduceLT, Int.reduceLE, Int.reduceEq, Int.reduceNe, Int.reduceToNat, Int.reduceAdd, Int.reduceSub, reduceCtorEq, Nat.reduceBEq, Nat.reduceBNe, loopR_exit, loopR_ret, h1, h4, h5, g0, hlt', hlt, hge0, hxx, hlen, Int.toNat_natCast]
    refine ⟨1, x.1, _, _, some d, rfl, by omega, hp, fun σ1 D1 q1 f1 => ?_⟩
    obtain ⟨g1, k1⟩ := f1 0 _ g0 (by decide) (by simp; exact fun e => hd0 e)
    simp only [V2_app, Z50, base1, baseE, ↓reduceIte, Nat.reduceAdd, Nat.reduceSub, Nat.reduceMul, Nat.reduceEqDiff, Nat.reduceLeDiff, Nat.reduceLT, Int.reduceLT, Int.reduceLE, Int.reduceEq, Int.reduceNe, Int.reduceToNat, Int.reduceAdd, Int.reduceSub, reduceCtorEq, Nat.reduceBEq, Nat.reduceBNe, loopR_exit, loopR_ret, h1, h4, h5, g1, hlt', hlt, hge0, hxx, hlen, Int.toNat_natCast]
    refine ⟨1, x.2, _, _, D1, rfl, by simp only [List.length_append, txt, u32_len] at hcap ⊢; omega, q1, fun σ2 D2 q2 f2 => ?_⟩
    obtain ⟨g2, k2⟩ := f2 0 _ g1 (by decide) k1
    obtain ⟨d2, rfl, hd2⟩ := pk_some q2 (by simp [txt, u32])
    simp only [V2_app, Z50, base1, baseE, ↓reduceIte, Nat.reduceAdd, Nat.reduceSub, Nat.reduceMul, Nat.reduceEqDiff, Nat.reduceLeDiff, Nat.reduceLT, Int.reduceLT, Int.reduceLE, Int.reduceEq, Int.reduceNe, Int.reduceToNat, Int.reduceAdd, Int.reduceSub, reduceCtorEq, Nat.reduceBEq, Nat.reduceBNe, h1, h4, h5, hw]
    rw [loopR_normal]
    refine ⟨a.l.length - (i + 1), _, _, by omega, .refl _ _ _, i + 1, d2, hlt, rfl, ?_, g2, fun e => k2 (by rw [e]), ?_, ?_, ?_⟩
    · have e1 : a.head ++ (a.l.take (i + 1)).flatMap txt2 = a.head ++ (a.l.take i).flatMap txt2 ++ txt x.1 ++ txt x.2 := by rw [htk]; simp [txt2]
      have e2 : (a.badH || (a.l.take (i + 1)).any badT2) = (((a.badH || (a.l.take i).any badT2) || badT x.1) || badT x.2) := by rw [htk]; simp [badT2, Bool.or_assoc]
      rw [e1, e2]; exact q2
    all_goals simp only [putD_some, putD_none, Nat.reduceEqDiff, ↓reduceIte, h1, h4, h5, hw]
  · have hlt' : ¬ (i : Int) < (a.l.length : Int) := by omega
    have hie : i = a.l.length := by omega
    subst hie
    rw [List.take_length] at hp
    have hlen : (recs a.l).length = a.l.length := by simp [recs]
    simp only [RepV.cells] at g0
    simp only [V2_app, Z50, base1, baseE, ↓reduceIte, Nat.reduceAdd, Nat.reduceSub, Nat.reduceMul, Nat.reduceEqDiff, Nat.reduceLeDiff, Nat.reduceLT, Int.reduceLT, Int.reduceLE, Int.reduceEq, Int.reduceNe, Int.reduceToNat, Int.reduceAdd, Int.reduceSub, reduceCtorEq, Nat.reduceBEq, Nat.reduceBNe, loopR_exit, loopR_ret, h1, h4, h5, hlt', g0, hlen]
    refine ⟨1, a.next, _, _, some d, rfl, ?_, hp, fun σ2 D2 q2 f2 => ?_⟩
    · simp only [RepV.bytes, List.length_append, List.flatMap_cons, List.flatMap_nil, List.length_nil, txt, u32_len] at hsz ⊢; omega
    obtain ⟨z2, z3⟩ := f2 0 _ g0 (by decide) (by simp; exact fun e => hd0 e)
    simp only [V2_app, Z50, base1, baseE, ↓reduceIte, Nat.reduceAdd, Nat.reduceSub, Nat.reduceMul, Nat.reduceEqDiff, Nat.reduceLeDiff, Nat.reduceLT, Int.reduceLT, Int.reduceLE, Int.reduceEq, Int.reduceNe, Int.reduceToNat, Int.reduceAdd, Int.reduceSub, reduceCtorEq, Nat.reduceBEq, Nat.reduceBNe, h1, h4, z2]
    refine ⟨1, a.more, _, _, D2, rfl, ?_, q2, fun σ3 D3 q3 f3 => ?_⟩
    · simp only [RepV.bytes, List.length_append, List.flatMap_cons, List.flatMap_nil, List.length_nil, List.append_nil] at hsz ⊢; omega
    obtain ⟨d3, rfl, hd3⟩ := pk_some q3 (by simp [tb])
    have hbs : a.head ++ a.l.flatMap txt2 ++ txt a.next ++ tb a.more = a.bytes := by simp [RepV.bytes]
    rw [hbs] at q3 hd3
    have hbad : (((a.badH || a.l.any badT2) || badT a.next) || decide (32768 < a.bytes.length)) = a.bad := by simp [RepV.bad]
    have hh := hQ σ3 d3 hd3
    rw [← hbad] at hh
    generalize ((a.badH || a.l.any badT2) || badT a.next) = B at q3 hh
    generalize a.bytes = bs at q3 hh hd3
    rcases q3 with ⟨h, _⟩ | ⟨d', hd', _, hg, _⟩
    · cases h
    cases hd'
    cases B with
    | true =>
      simp only [V2_app, Z50, base1, baseE, ↓reduceIte, Nat.reduceAdd, Nat.reduceSub, Nat.reduceMul, Nat.reduceEqDiff, Nat.reduceLeDiff, Nat.reduceLT, Int.reduceLT, Int.reduceLE, Int.reduceEq, Int.reduceNe, Int.reduceToNat, Int.reduceAdd, Int.reduceSub, reduceCtorEq, Nat.reduceBEq, Nat.reduceBNe, h1, h4, hg] at hh ⊢
      exact hh
    | false =>
      by_cases hl : (32768 : Int) < (bs.length : Int)
      · have hl' : 32768 < bs.length := by omega
        simp only [hl', decide_true, Bool.or_true, if_true] at hh
        simp only [V2_app, Z50, base1, baseE, ↓reduceIte, Nat.reduceAdd, Nat.reduceSub, Nat.reduceMul, Nat.reduceEqDiff, Nat.reduceLeDiff, Nat.reduceLT, Int.reduceLT, Int.reduceLE, Int.reduceEq, Int.reduceNe, Int.reduceToNat, Int.reduceAdd, Int.reduceSub, reduceCtorEq, Nat.reduceBEq, Nat.reduceBNe, h1, h4, hg, hl]
        exact hh
      · have hl' : ¬ 32768 < bs.length := by omega
        simp only [hl', decide_false, Bool.or_false, Bool.false_eq_true, if_false] at hh
        simp only [V2_app, Z50, base1, baseE, ↓reduceIte, Nat.reduceAdd, Nat.reduceSub, Nat.reduceMul, Nat.reduceEqDiff, Nat.reduceLeDiff, Nat.reduceLT, Int.reduceLT, Int.reduceLE, Int.reduceEq, Int.reduceNe, Int.reduceToNat, Int.reduceAdd, Int.reduceSub, reduceCtorEq, Nat.reduceBEq, Nat.reduceBNe, h1, h4, hg, hl]
        exact hh
theorem refReply_ok (a : RepV) (hsz : a.bytes.length ≤ 900000000) : Tri Try.prog 50 [.agg a.cells] [] fun r _ => r.cleanD ∧ r = packR a.bad a.bytes := by
  refine pack_less (Tri.of_s c50 V2_sound ?_)
  simp only [RepV.cells]
  simp only [V2_app, Z50, base1, baseE, ↓reduceIte, Nat.reduceAdd, Nat.reduceSub, Nat.reduceMul, Nat.reduceEqDiff, Nat.reduceLeDiff, Nat.reduceLT, Int.reduceLT, Int.reduceLE, Int.reduceEq, Int.reduceNe, Int.reduceToNat, Int.reduceAdd, Int.reduceSub, reduceCtorEq, Nat.reduceBEq, Nat.reduceBNe]
  have hlb : 12 + 1 + (4 + a.val.length) + 4 ≤ 900000000 := by
    simp only [RepV.bytes, RepV.head, List.length_append, List.flatMap_cons, List.flatMap_nil, List.length_nil, u32_len, txt, tb, List.length_cons] at hsz
    omega
  have hrl : (recs a.l).length = a.l.length := by simp [recs]
  refine ⟨1, a.client, [], false, none, rfl, by decide, .inl ⟨rfl, rfl, rfl⟩, fun σ1 D1 q1 f1 => ?_⟩
  obtain ⟨g1, k1⟩ := f1 0 _ rfl (by decide) (by simp)
  simp only [V2_app, Z50, base1, baseE, ↓reduceIte, Nat.reduceAdd, Nat.reduceSub, Nat.reduceMul, Nat.reduceEqDiff, Nat.reduceLeDiff, Nat.reduceLT, Int.reduceLT, Int.reduceLE, Int.reduceEq, Int.reduceNe, Int.reduceToNat, Int.reduceAdd, Int.reduceSub, reduceCtorEq, Nat.reduceBEq, Nat.reduceBNe, g1]
  refine ⟨1, a.seq, _, _, D1, rfl, by simp [u32], q1, fun σ2 D2 q2 f2 => ?_⟩
  obtain ⟨g2, k2⟩ := f2 0 _ g1 (by decide) k1
  simp only [V2_app, Z50, base1, baseE, ↓reduceIte, Nat.reduceAdd, Nat.reduceSub, Nat.reduceMul, Nat.reduceEqDiff, Nat.reduceLeDiff, Nat.reduceLT, Int.reduceLT, Int.reduceLE, Int.reduceEq, Int.reduceNe, Int.reduceToNat, Int.reduceAdd, Int.reduceSub, reduceCtorEq, Nat.reduceBEq, Nat.reduceBNe, g2]
  refine ⟨1, a.err, _, _, D2, rfl, by simp [u32], q2, fun σ3 D3 q3 f3 => ?_⟩
  obtain ⟨g3, k3⟩ := f3 0 _ g2 (by decide) k2
  simp only [V2_app, Z50, base1, baseE, ↓reduceIte, Nat.reduceAdd, Nat.reduceSub, Nat.reduceMul, Nat.reduceEqDiff, Nat.reduceLeDiff, Nat.reduceLT, Int.reduceLT, Int.reduceLE, Int.reduceEq, Int.reduceNe, Int.reduceToNat, Int.reduceAdd, Int.reduceSub, reduceCtorEq, Nat.reduceBEq, Nat.reduceBNe, g3]
  refine ⟨1, a.found, _, _, D3, rfl, by simp [u32], q3, fun σ4 D4 q4 f4 => ?_⟩
  obtain ⟨g4, k4⟩ := f4 0 _ g3 (by decide) k3
  simp only [V2_app, Z50, base1, baseE, ↓reduceIte, Nat.reduceAdd, Nat.reduceSub, Nat.reduceMul, Nat.reduceEqDiff, Nat.reduceLeDiff, Nat.reduceLT, Int.reduceLT, Int.reduceLE, Int.reduceEq, Int.reduceNe, Int.reduceToNat, Int.reduceAdd, Int.reduceSub, reduceCtorEq, Nat.reduceBEq, Nat.reduceBNe, g4]
  refine ⟨1, a.val, _, _, D4, rfl, by simp only [tb, List.length_append, u32_len, List.length_nil, List.length_cons]; omega, q4, fun σ5 D5 q5 f5 => ?_⟩
  obtain ⟨g5, k5⟩ := f5 0 _ g4 (by decide) k4
  simp only [V2_app, Z50, base1, baseE, ↓reduceIte, Nat.reduceAdd, Nat.reduceSub, Nat.reduceMul, Nat.reduceEqDiff, Nat.reduceLeDiff, Nat.reduceLT, Int.reduceLT, Int.reduceLE, Int.reduceEq, Int.reduceNe, Int.reduceToNat, Int.reduceAdd, Int.reduceSub, reduceCtorEq, Nat.reduceBEq, Nat.reduceBNe, g5, hrl]
  refine ⟨1, (a.l.length : Int), _, _, D5, rfl, by simp only [tb, txt, List.length_append, u32_len, List.length_nil, List.length_cons]; omega, q5, fun σ6 D6 q6 f6 => ?_⟩
  obtain ⟨g6, k6⟩ := f6 0 _ g5 (by decide) k5
  obtain ⟨d6, rfl, hd6⟩ := pk_some q6 (by simp [u32])
  simp only [V2_app, Z50, base1, baseE, ↓reduceIte, Nat.reduceAdd, Nat.reduceSub, Nat.reduceMul, Nat.reduceEqDiff, Nat.reduceLeDiff, Nat.reduceLT, Int.reduceLT, Int.reduceLE, Int.reduceEq, Int.reduceNe, Int.reduceToNat, Int.reduceAdd, Int.reduceSub, reduceCtorEq, Nat.reduceBEq, Nat.reduceBNe, g6]
  refine sC_inv (a := b50_18) (wrI a) a.l.length _ σ6 (.refl _ _ _) ⟨0, d6, Nat.zero_le _, rfl, ?_, g6, fun e => k6 (by rw [e]), rfl, rfl, rfl⟩ (wr_step a hsz _ fun σ d hd => ⟨d, hd, rfl⟩)
  simpa [RepV.head, RepV.badH, Bool.or_assoc] using q6
end Go.Proofs.Ytndlgmciplckjaa.note
