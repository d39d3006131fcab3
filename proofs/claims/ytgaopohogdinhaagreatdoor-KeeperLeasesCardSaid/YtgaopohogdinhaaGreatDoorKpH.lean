/- KeeperLeases, walked: yes, whatever the grants, whatever the length. No condition. -/
import Derived.Test.YtgaopohogdinhaaGreatDoorTF
import Derived.Test.YtgaopohogdinhaaGreatDoorKpG
set_option linter.unusedVariables false
set_option linter.unusedSimpArgs false
namespace Go.Proofs.YtgaopohogdinhaaGreatDoor.keep
open Go.ChangeShapes Go.WideShapes Go.ChangeAt Go.RowKit Go.Gz Go.Proofs.YtgaopohogdinhaaGreatDoor.note
section
variable {C : PCall} {n0 : Nat} {R : MExit → Env → AHeap → Prop} {k : Cont} {e : Env} {σ : AHeap}
abbrev r3_0 : List MOper := [⟨(some 4), .move (.c (.bool false)), none⟩]
def b3_0 : SCode := .region r3_0
abbrev r3_1 : List MOper := [⟨(some 11), .call 5 [], none⟩,
  ⟨(some 12), .un .not (.t 11), none⟩]
def b3_1 : SCode := .region r3_1
abbrev r3_2 : List MOper := [⟨(some 4), .move (.c (.bool false)), none⟩]
def b3_2 : SCode := .region r3_2
def b3_3 : SCode := .seq b3_2 .ret
def b3_4 : SCode := .cond (.t 12) b3_3 .skip
def b3_5 : SCode := .seq b3_1 b3_4
abbrev r3_6 : List MOper := [⟨(some 13), .move (.t 0), none⟩,
  ⟨(some 14), .lenSl (.t 13), none⟩,
  ⟨(some 15), .bin .gtr .num (.t 14) (.c (.int .i64 60)), none⟩]
def b3_6 : SCode := .region r3_6
abbrev r3_7 : List MOper := [⟨(some 4), .move (.c (.bool true)), none⟩]
def b3_7 : SCode := .region r3_7
def b3_8 : SCode := .seq b3_7 .ret
def b3_9 : SCode := .cond (.t 15) b3_8 .skip
def b3_10 : SCode := .seq b3_6 b3_9
abbrev r3_11 : List MOper := [⟨(some 16), .move (.t 1), none⟩,
  ⟨(some 17), .convInt .i64 (.t 16), none⟩,
  ⟨(some 18), .bin .rem .num (.t 17) (.c (.int .i64 6)), none⟩,
  ⟨(some 19), .bin .add .num (.c (.int .i64 1)) (.t 18), none⟩,
  ⟨(some 5), .move (.t 19), none⟩]
def b3_11 : SCode := .region r3_11
abbrev r3_12 : List MOper := [⟨(some 21), .call 7 [], none⟩,
  ⟨(some 22), .call 8 [], none⟩,
  ⟨(some 23), .move (.t 5), none⟩,
  ⟨(some 24), .call 6 [(.c (.int .i64 1)), (.t 21), (.t 22), (.c (.int .i64 3)), (.t 23)], none⟩,
  ⟨(some 20), .move (.t 24), none⟩,
  ⟨(some 25), .extract (.t 20) 0, none⟩,
  ⟨(some 26), .extract (.t 20) 1, none⟩,
  ⟨(some 6), .move (.t 25), none⟩,
  ⟨(some 7), .move (.t 26), none⟩]
def b3_12 : SCode := .region r3_12
abbrev r3_13 : List MOper := [⟨(some 27), .move (.t 7), none⟩,
  ⟨(some 28), .bin .neq .num (.t 27) (.c (.int .i64 0)), none⟩,
  ⟨(some 29), .move (.t 28), none⟩,
  ⟨(some 30), .move (.t 6), (some (29, false))⟩,
  ⟨(some 31), .bin .eql .nilp (.t 30) (.c (.nilptr)), (some (29, false))⟩,
  ⟨(some 32), .pick (.t 29) (.c (.bool true)) (.t 31), none⟩]
def b3_13 : SCode := .region r3_13
abbrev r3_14 : List MOper := [⟨(some 4), .move (.c (.bool false)), none⟩]
def b3_14 : SCode := .region r3_14
def b3_15 : SCode := .seq b3_14 .ret
def b3_16 : SCode := .cond (.t 32) b3_15 .skip
def b3_17 : SCode := .seq b3_13 b3_16
abbrev r3_18 : List MOper := [⟨(some 8), .move (.c (.int .i64 0)), none⟩]
def b3_18 : SCode := .region r3_18
abbrev r3_19 : List MOper := [⟨(some 9), .move (.c (.int .i64 0)), none⟩]
def b3_19 : SCode := .region r3_19
abbrev r3_20 : List MOper := [⟨(some 33), .move (.t 9), none⟩,
  ⟨(some 34), .move (.t 0), none⟩,
  ⟨(some 35), .lenSl (.t 34), none⟩,
  ⟨(some 36), .bin .lss .num (.t 33) (.t 35), none⟩]
def b3_20 : SCode := .region r3_20
def b3_21 : SCode := .cond (.t 36) .skip (.exit 0)
def b3_22 : SCode := .seq b3_20 b3_21
abbrev r3_23 : List MOper := [⟨(some 39), .move (.t 0), none⟩,
  ⟨(some 40), .move (.t 9), none⟩,
  ⟨(some 41), .indexAddr 1 (.t 39) (.t 40), none⟩,
  ⟨(some 42), .load1 (.t 41), none⟩,
  ⟨(some 43), .bin .and .num (.t 42) (.c (.int .u8 1)), none⟩,
  ⟨(some 44), .bin .eql .num (.t 43) (.c (.int .u8 0)), none⟩]
def b3_23 : SCode := .region r3_23
abbrev r3_24 : List MOper := [⟨(some 45), .move (.t 6), none⟩,
  ⟨(some 46), .call 9 [(.t 45)], none⟩]
def b3_24 : SCode := .region r3_24
abbrev r3_25 : List MOper := [⟨(some 47), .move (.t 0), none⟩,
  ⟨(some 48), .move (.t 9), none⟩,
  ⟨(some 49), .indexAddr 1 (.t 47) (.t 48), none⟩,
  ⟨(some 50), .load1 (.t 49), none⟩,
  ⟨(some 51), .bin .shr .num (.t 50) (.c (.int .u64 1)), none⟩,
  ⟨(some 52), .convInt .i64 (.t 51), none⟩,
  ⟨(some 53), .bin .rem .num (.t 52) (.c (.int .i64 12)), none⟩,
  ⟨(some 10), .move (.t 53), none⟩]
def b3_25 : SCode := .region r3_25
abbrev r3_26 : List MOper := [⟨(some 54), .move (.t 6), none⟩,
  ⟨(some 55), .move (.t 10), none⟩,
  ⟨(some 56), .build [.str [], .str [], .int .i64 0, .int .i64 0] [(2, 1, (.c (.int .i64 1))), (3, 1, (.c (.int .i64 4)))], none⟩,
  ⟨(some 57), .buildSlice [.str [], .str [], .int .i64 0, .int .i64 0] 4 1 [(0, 4, (.t 56))], none⟩,
  ⟨(some 58), .build [.int .i64 0, .nilslice] [(0, 1, (.c (.int .i64 4))), (1, 1, (.t 57))], none⟩,
  ⟨(some 59), .call 11 [(.t 58)], none⟩,
  ⟨(some 60), .build [.int .i64 0, .int .i64 0, .int .i64 0, .int .i64 0, .int .i64 0, .int .i64 0, .int .i64 0, .int .i64 0, .str [], .str [], .str [], .str [], .int .i64 0, .int .i64 0, .int .i64 0, .int .i64 0, .bool false, .str [], .nilslice, .str [], .bool false, .str [], .str [], .nilslice, .nilslice, .int .i64 0, .nilslice] [(0, 1, (.c (.int .i64 6))), (1, 1, (.c (.int .i64 0))), (2, 1, (.c (.int .i64 1))), (4, 1, (.t 55)), (25, 2, (.t 59))], none⟩,
  ⟨(some 61), .call 10 [(.t 54), (.t 60)], none⟩]
def b3_26 : SCode := .region r3_26
abbrev r3_27 : List MOper := [⟨(some 62), .move (.t 10), none⟩,
  ⟨(some 63), .bin .geq .num (.t 62) (.c (.int .i64 1)), none⟩,
  ⟨(some 64), .move (.t 63), none⟩,
  ⟨(some 65), .move (.t 10), (some (64, true))⟩,
  ⟨(some 66), .move (.t 6), (some (64, true))⟩,
  ⟨(some 67), .call 12 [(.t 66)], (some (64, true))⟩,
  ⟨(some 68), .bin .leq .num (.t 65) (.t 67), (some (64, true))⟩,
  ⟨(some 69), .pick (.t 64) (.t 68) (.c (.bool false)), none⟩]
def b3_27 : SCode := .region r3_27
abbrev r3_28 : List MOper := [⟨(some 70), .move (.t 8), none⟩,
  ⟨(some 71), .move (.t 10), none⟩,
  ⟨(some 72), .move (.t 5), none⟩,
  ⟨(some 73), .bin .add .num (.t 71) (.t 72), none⟩,
  ⟨(some 74), .minmax true [(.t 70), (.t 73)], none⟩,
  ⟨(some 8), .move (.t 74), none⟩]
def b3_28 : SCode := .region r3_28
def b3_29 : SCode := .cond (.t 69) b3_28 .skip
def b3_30 : SCode := .seq b3_27 b3_29
def b3_31 : SCode := .seq b3_26 b3_30
def b3_32 : SCode := .seq b3_25 b3_31
def b3_33 : SCode := .cond (.t 44) b3_24 b3_32
def b3_34 : SCode := .seq b3_23 b3_33
abbrev r3_35 : List MOper := [⟨(some 75), .move (.t 6), none⟩,
  ⟨(some 76), .call 13 [(.t 75)], none⟩,
  ⟨(some 77), .move (.t 6), none⟩,
  ⟨(some 78), .call 12 [(.t 77)], none⟩,
  ⟨(some 79), .move (.t 8), none⟩,
  ⟨(some 80), .bin .lss .num (.t 78) (.t 79), none⟩,
  ⟨(some 81), .bin .neq .bool (.t 76) (.t 80), none⟩]
def b3_35 : SCode := .region r3_35
abbrev r3_36 : List MOper := [⟨(some 4), .move (.c (.bool false)), none⟩]
def b3_36 : SCode := .region r3_36
def b3_37 : SCode := .seq b3_36 .ret
def b3_38 : SCode := .cond (.t 81) b3_37 .skip
def b3_39 : SCode := .seq b3_35 b3_38
def b3_40 : SCode := .seq b3_34 b3_39
def b3_41 : SCode := .block 1 b3_40
abbrev r3_42 : List MOper := [⟨(some 37), .move (.t 9), none⟩,
  ⟨(some 38), .bin .add .num (.t 37) (.c (.int .i64 1)), none⟩,
  ⟨(some 9), .move (.t 38), none⟩]
def b3_42 : SCode := .region r3_42
def b3_43 : SCode := .seq b3_41 b3_42
def b3_44 : SCode := .seq b3_22 b3_43
def b3_45 : SCode := .loop b3_44
def b3_46 : SCode := .block 0 b3_45
def b3_47 : SCode := .seq b3_19 b3_46
abbrev r3_48 : List MOper := [⟨(some 4), .move (.c (.bool true)), none⟩]
def b3_48 : SCode := .region r3_48
def b3_49 : SCode := .seq b3_48 .ret
def b3_50 : SCode := .seq b3_47 b3_49
def b3_51 : SCode := .seq b3_18 b3_50
def b3_52 : SCode := .seq b3_17 b3_51
def b3_53 : SCode := .seq b3_12 b3_52
def b3_54 : SCode := .seq b3_11 b3_53
def b3_55 : SCode := .seq b3_10 b3_54
def b3_56 : SCode := .seq b3_5 b3_55
def b3_57 : SCode := .seq b3_0 b3_56
def s3 : SFunc := ⟨82, [.t 4], b3_57⟩
theorem c3 : sFn Tryz.prog 3 = some s3 := by kernel_rfl
theorem x3_39 : XS b3_39 b3_35 b3_38 := rfl
theorem Z3 : XR b3_0 r3_0 ∧ XR b3_1 r3_1 ∧ XR b3_2 r3_2 ∧ XS b3_3 b3_2 .ret ∧ XC b3_4 (.t 12) b3_3 .skip ∧ XS b3_5 b3_1 b3_4 ∧ XR b3_6 r3_6 ∧ XR b3_7 r3_7 ∧ XS b3_8 b3_7 .ret ∧ XC b3_9 (.t 15) b3_8 .skip ∧ XS b3_10 b3_6 b3_9 ∧ XR b3_11 r3_11 ∧ XR b3_12 r3_12 ∧ XR b3_13 r3_13 ∧ XR b3_14 r3_14 ∧ XS b3_15 b3_14 .ret ∧ XC b3_16 (.t 32) b3_15 .skip ∧ XS b3_17 b3_13 b3_16 ∧ XR b3_18 r3_18 ∧ XR b3_19 r3_19 ∧ XR b3_20 r3_20 ∧ XC b3_21 (.t 36) .skip (.exit 0) ∧ XS b3_22 b3_20 b3_21 ∧ XR b3_23 r3_23 ∧ XR b3_24 r3_24 ∧ XR b3_25 r3_25 ∧ XR b3_26 r3_26 ∧ XR b3_27 r3_27 ∧ XR b3_28 r3_28 ∧ XC b3_29 (.t 69) b3_28 .skip ∧ XS b3_30 b3_27 b3_29 ∧ XS b3_31 b3_26 b3_30 ∧ XS b3_32 b3_25 b3_31 ∧ XC b3_33 (.t 44) b3_24 b3_32 ∧ XS b3_34 b3_23 b3_33 ∧ XR b3_35 r3_35 ∧ XR b3_36 r3_36 ∧ XS b3_37 b3_36 .ret ∧ XC b3_38 (.t 81) b3_37 .skip ∧ XS b3_40 b3_34 b3_39 ∧ XB b3_41 1 b3_40 ∧ XR b3_42 r3_42 ∧ XS b3_43 b3_41 b3_42 ∧ XS b3_44 b3_22 b3_43 ∧ XB b3_46 0 b3_45 ∧ XS b3_47 b3_19 b3_46 ∧ XR b3_48 r3_48 ∧ XS b3_49 b3_48 .ret ∧ XS b3_50 b3_47 b3_49 ∧ XS b3_51 b3_18 b3_50 ∧ XS b3_52 b3_17 b3_51 ∧ XS b3_53 b3_12 b3_52 ∧ XS b3_54 b3_11 b3_53 ∧ XS b3_55 b3_10 b3_54 ∧ XS b3_56 b3_5 b3_55 ∧ XS b3_57 b3_0 b3_56 ∧ XY s3 82 b3_57 [.t 4] := ⟨rfl, rfl, rfl, rfl, sC_cond, rfl, rfl, rfl, rfl, sC_cond, rfl, rfl, rfl, rfl, rfl, rfl, sC_cond, rfl, rfl, rfl, rfl, sC_cond, rfl, rfl, rfl, rfl, rfl, rfl, rfl, sC_cond, rfl, rfl, rfl, sC_cond, rfl, rfl, rfl, rfl, sC_cond, rfl, rfl, rfl, rfl, rfl, rfl, rfl, rfl, rfl, rfl, rfl, rfl, rfl, rfl, rfl, rfl, rfl, rfl⟩

end
set_option maxHeartbeats 4000000
set_option maxRecDepth 10000
theorem giveA {P : Program} {f : FuncId} {cs cs1 : List AV} {σ : AHeap} (d : Nat) {Q : AV → Prop} (hl : cs.length = cs1.length) (hg : ∀ (i : Nat) (x y : AV), cs[i]? = some x → cs1[i]? = some y → Given σ d x y)
    (h : Tri P f [.agg cs1] [] fun r _ => r.pure = true ∧ Q r) : Tri P f [.agg cs] σ fun r σ' => Q r ∧ σ' = hkill σ d := by
  refine ⟨h.1, fun ρ w G args' hw hargs => ?_⟩
  have hp : pureL [AV.agg cs1] = true := by
    have : pureL cs1 = true := pureL_of fun y hy => by
      obtain ⟨i, hi⟩ := List.getElem?_of_mem hy
      have hlt : i < cs.length := by rw [hl]; exact idx_lt hi
      exact given_pure (hg i cs[i] y (List.getElem?_eq_getElem hlt) hi)
    simp only [pureL, AV.pure, this, Bool.and_self]
  have hk := kill_keeps σ ρ w d
  refine ((Tri.pureD hp h (hkill σ d)).2 ρ w G args' (kill_wrel hw d) ⟨hargs.1, fun i y v hy hv => ?_⟩).mono ?_
  · match i with
    | 0 =>
      simp at hy; subst hy
      obtain ⟨us, rfl, hu⟩ := (hargs.2 0 _ v rfl hv).agg_inv
      refine LRel.agg ⟨by rw [← hl]; exact hu.1, fun j z u hz hu' => ?_⟩
      have hlt : j < cs.length := by rw [hl]; exact idx_lt hz
      exact given_rel hw (hg j cs[j] z (List.getElem?_eq_getElem hlt) hz) (hu.2 j _ u (List.getElem?_eq_getElem hlt) hu')
    | n + 1 => simp at hy
  · rintro e w' ⟨v, ρ', r, σ', h1, h2, k1, k2, k3⟩
    exact ⟨v, ρ', r, σ', h1, h2, hk.trans k1, k2, k3⟩
theorem frame_out {P : Program} {f : FuncId} {args : List AV} {Q : AV → AHeap → Prop} (h : Tri P f args [] Q) : Tri P f args [] Q := h
/-- The one shard of the grants' atlas. -/
def sh1 : ShV := ⟨[], [], 1, 4⟩
abbrev sh1C : List AV := [.str [], .str [], .int .i64 1, .int .i64 4]
def made14S (args : List AV) (σ : AHeap) (K : AV → AHeap → Prop) : Prop := ∃ d : Nat, args = [.agg [.int .i64 4, .slice d 0 1 (some 1) 4]] ∧ hget σ d = some sh1C ∧ K (.agg [.int .i64 4, .imm [sh1C] false false]) (hkill σ d)
theorem made14S_ok (args : List AV) (σ : AHeap) (K : AV → AHeap → Prop) (h : made14S args σ K) : Tri Tryz.prog 11 args σ K := by
  obtain ⟨d, rfl, hd, h⟩ := h
  refine (giveA (cs := [.int .i64 4, .slice d 0 1 (some 1) 4]) (cs1 := [.int .i64 4, .imm [sh1C] false false]) (σ := σ) d rfl ?_ (made14_ok 4 [sh1] (by decide))).mono fun r σ' hr => by rw [hr.1, hr.2]; exact h
  intro i x y hx hy
  match i with
  | 0 => simp at hx hy; subst hx; subst hy; exact .inl ⟨rfl, rfl⟩
  | 1 => simp at hx hy; subst hx; subst hy; exact .inr (.inr ⟨0, 1, some 1, 4, _, [sh1C], rfl, rfl, hd, rfl, rfl, by intro r hr; simp at hr; subst hr; rfl, rfl⟩)
  | n + 2 => simp at hx
def H3 : PCall := rowQ 5 awakeD (rowQ 7 tableD (rowQ 8 newD (rowQ 6 kopenD (rowQ 9 tickD (rowQ 11 made14S (rowQ 10 hearGD (rowQ 12 clockD (rowQ 13 leasedD noCall))))))))
theorem H3_app {f : FuncId} {args : List AV} {σ : AHeap} {K : AV → AHeap → Prop} : H3 f args σ K = rowQ 5 awakeD (rowQ 7 tableD (rowQ 8 newD (rowQ 6 kopenD (rowQ 9 tickD (rowQ 11 made14S (rowQ 10 hearGD (rowQ 12 clockD (rowQ 13 leasedD noCall)))))))) f args σ K := _root_.id rfl
theorem H3_sound : Sound Tryz.prog H3 := rowQ_sound awakeD_ok (rowQ_sound tableD_ok (rowQ_sound newD_ok (rowQ_sound kopenD_ok (rowQ_sound tickD_ok (rowQ_sound made14S_ok (rowQ_sound hearGD_ok (rowQ_sound clockD_ok (rowQ_sound leasedD_ok (noCall_sound _)))))))))
theorem yes_true {σ : AHeap} : Yes (.bool true) σ := rfl
abbrev grC (l : List UInt8) : List (List AV) := l.map fun b => [.int .u8 (b.toNat : Int)]
/-- A lease, and when it ends. -/
def LeaseAt (c len e b f en : Int) : Prop := (e = 0 ∧ b = 0 ∧ f = 0 ∧ en = 0) ∨ (e = 4 ∧ f = len ∧ 1 ≤ b ∧ b ≤ c ∧ b ≤ 12 ∧ en = b + len)
theorem wr64 {z : Int} (h1 : 0 ≤ z) (h2 : z ≤ 1000000) : IntKind.wrap .i64 z = z := Gz.wrap64 (by omega)
theorem hold_at {c len e b f en : Int} (h : LeaseAt c len e b f en) (c0 : 0 ≤ c) (c1 : c ≤ 100) (l1 : 1 ≤ len) (l6 : len ≤ 6) : holdB e b f c = decide (c < en) := by
  rcases h with ⟨rfl, rfl, rfl, rfl⟩ | ⟨rfl, rfl, h1, h2, h3, rfl⟩
  · have : ¬ c < 0 := by omega
    rw [decide_eq_false this]
    rfl
  · unfold holdB lmayB
    rw [wr64 (by omega) (by omega)]
    have d1 : decide ((1 : Int) ≤ 4) = true := rfl
    have d2 : decide ((0 : Int) ≤ b) = true := decide_eq_true (by omega)
    have d3 : decide (b ≤ (1099511627776 : Int)) = true := decide_eq_true (by omega)
    have d4 : decide ((1 : Int) ≤ f) = true := decide_eq_true (by omega)
    have d5 : decide (f ≤ (1099511627776 : Int)) = true := decide_eq_true (by omega)
    have d6 : decide (b ≤ c) = true := decide_eq_true h2
    rw [d1, d2, d3, d4, d5, d6]
    rfl
theorem may_len {b len : Int} (h1 : 0 ≤ b) (h3 : b ≤ 12) (l1 : 1 ≤ len) (l6 : len ≤ 6) : lmayB 4 b len = true := by
  unfold lmayB
  have d1 : decide ((1 : Int) ≤ 4) = true := rfl
  have d2 : decide ((0 : Int) ≤ b) = true := decide_eq_true (by omega)
  have d3 : decide (b ≤ (1099511627776 : Int)) = true := decide_eq_true (by omega)
  have d4 : decide ((1 : Int) ≤ len) = true := decide_eq_true (by omega)
  have d5 : decide (len ≤ (1099511627776 : Int)) = true := decide_eq_true (by omega)
  rw [d1, d2, d3, d4, d5]
  rfl
def enB (c len en t : Int) : Int := if (decide (1 ≤ t) && decide (t ≤ c)) = true then (if t + len > en then t + len else en) else en
theorem grant_at {c len e b f en t : Int} (h : LeaseAt c len e b f en) (c1 : c ≤ 100) (l1 : 1 ≤ len) (l6 : len ≤ 6) (t0 : 0 ≤ t) (t1 : t ≤ 11) : ∃ e' b' f', grantL c len e b f 4 t = leaseC e' b' f' ∧ LeaseAt c len e' b' f' (enB c len en t) := by
  unfold grantL enB
  by_cases hc : (decide (1 ≤ t) && decide (t ≤ c)) = true
  · rw [if_pos hc, if_pos hc]
    rw [Bool.and_eq_true, decide_eq_true_eq, decide_eq_true_eq] at hc
    obtain ⟨q1, q2⟩ := hc
    have mt := may_len (b := t) (by omega) (by omega) l1 l6
    unfold laterL
    rcases h with ⟨rfl, rfl, rfl, rfl⟩ | ⟨rfl, rfl, h1, h2, h3, rfl⟩
    · have m0 : lmayB 0 0 0 = false := rfl
      rw [m0, mt]
      refine ⟨4, t, len, rfl, .inr ⟨rfl, rfl, q1, q2, by omega, ?_⟩⟩
      rw [if_pos (by omega)]
    · have mb := may_len (b := b) (by omega) (by omega) l1 l6
      rw [mb, mt]
      have e1 : cmprZ 4 t f 4 b f = cmpZ (t + f) (b + f) := by
        unfold cmprZ
        rw [if_pos (by decide), wr64 (by omega) (by omega), wr64 (by omega) (by omega)]
      simp only [if_true, e1]
      by_cases hlt : b < t
      · have e2 : cmpZ (t + f) (b + f) = 1 := by unfold cmpZ; rw [if_neg (by omega), if_pos (by omega)]
        rw [e2, if_pos (by decide), if_pos (by omega)]
        exact ⟨4, t, f, rfl, .inr ⟨rfl, rfl, q1, q2, by omega, rfl⟩⟩
      · have e2 : ¬ 0 < cmpZ (t + f) (b + f) := by unfold cmpZ; split <;> (try split) <;> omega
        rw [if_neg e2, if_neg (by omega)]
        exact ⟨4, b, f, rfl, .inr ⟨rfl, rfl, h1, h2, h3, rfl⟩⟩
  · rw [if_neg hc, if_neg hc]
    exact ⟨e, b, f, rfl, h⟩
theorem later_c {c len e b f en : Int} (h : LeaseAt c len e b f en) : LeaseAt (c + 1) len e b f en := by
  rcases h with h | ⟨h1, h2, h3, h4, h5, h6⟩
  · exact .inl h
  · exact .inr ⟨h1, h2, h3, by omega, h5, h6⟩
def grantN (t : Int) : NoteV := ⟨6, 0, 1, 0, t, ask0, rep0, [], [], [], [], 4, [sh1]⟩
abbrev grantC (t : Int) : List AV := [.int .i64 6, .int .i64 0, .int .i64 1, .int .i64 0, .int .i64 t, .int .i64 0, .int .i64 0, .int .i64 0, .str [], .str [], .str [], .str [], .int .i64 0, .int .i64 0, .int .i64 0, .int .i64 0, .bool false, .str [], .nilslice, .str [], .bool false, .str [], .str [], .nilslice, .nilslice, .int .i64 4, .imm [sh1C] false false]
theorem grant_sz (t : Int) : (grantN t).sz := plain_sz rfl rfl rfl rfl rfl rfl (by simp [grantN]) (by intro x hx; simp [grantN] at hx; subst hx; decide) (show (List.flatMap (fun x => txt (ShV.bytes x)) [sh1]).length ≤ _ by decide)
theorem grant_may {t : Int} (t0 : 0 ≤ t) (t1 : t ≤ 11) : mayB (grantN t) = true := by
  have d1 : numB t = true := by
    unfold numB
    rw [decide_eq_true (show 0 ≤ t by omega), decide_eq_true (show t ≤ 268435455 by omega)]; rfl
  have hd : headB (grantN t) = true := by
    show (!decide ((6 : Int) < 1) && (!decide ((12 : Int) < 6) && (partyB 0 && (partyB 1 && (!decide ((0 : Int) = 1) && (numB 0 && numB t)))))) = true
    rw [d1]; rfl
  have ht : tickB (grantN t) = true := by
    show (decide (t = 0) || [5, 6].contains (6 : Int)) = true
    rw [show [5, 6].contains (6 : Int) = true by decide, Bool.or_true]
  have ha : asksB (grantN t) = asksB (grantN 0) := rfl
  have hs : spansB (grantN t) = spansB (grantN 0) := rfl
  have hm : mapsB (grantN t) = mapsB (grantN 0) := rfl
  have r1 : asksB (grantN 0) = true := by decide +kernel
  have r2 : spansB (grantN 0) = true := by decide +kernel
  have r3 : mapsB (grantN 0) = true := by decide +kernel
  unfold mayB
  rw [hd, ht, ha, hs, hm, r1, r2, r3]
  rfl
theorem byte_and (x : Int) : ∃ y, abin .and .num (.int .u8 x) (.int .u8 1) = some (.int .u8 y) := ⟨_, rfl⟩
theorem byte_shr {x : Int} (h0 : 0 ≤ x) (h1 : x ≤ 255) : ∃ y, abin .shr .num (.int .u8 x) (.int .u64 1) = some (.int .u8 y) ∧ 0 ≤ y ∧ y ≤ 255 := by
  refine ⟨x.fdiv 2, rfl, ?_, ?_⟩ <;> rw [Int.fdiv_eq_ediv_of_nonneg _ (by decide)] <;> omega
theorem byte_rem {y : Int} (h0 : 0 ≤ y) : ∃ t, abin .rem .num (.int .i64 y) (.int .i64 12) = some (.int .i64 t) ∧ 0 ≤ t ∧ t ≤ 11 := by
  refine ⟨y.tmod 12, rfl, ?_, ?_⟩ <;> rw [Int.tmod_eq_emod_of_nonneg h0] <;> omega
def lsI (l : List UInt8) (len : Int) (m : Nat) (e : Env) (σ : AHeap) : Prop :=
  ∃ (i kb s : Nat) (c a b f en : Int), i ≤ l.length ∧ m = l.length - i ∧ 0 ≤ c ∧ c ≤ i ∧ LeaseAt c len a b f en ∧ hget σ kb = some (keepC 1 s c len a b f) ∧ e 0 = .imm (grC l) false false ∧ e 5 = .int .i64 len ∧ e 6 = .ptr kb 0 ∧ e 8 = .int .i64 en ∧ e 9 = .int .i64 (i : Int)
theorem ls_step (l : List UInt8) (hl : l.length ≤ 60) (len : Int) (l1 : 1 ≤ len) (l6 : len ≤ 6) (m : Nat) (e : Env) (σ : AHeap) (h : lsI l len m e σ) :
    sC H3 0 b3_44 (unw H3 0 (loopR H3 0 (RetQ [.t 4] Yes) (.block 0 (.seq b3_49 .fin)) (lsI l len) m) .fin) e σ := by
  obtain ⟨i, kb, s, c, a, b, f, en, hi, hm, c0, ci, hL, hk, e0, e5, e6, e8, e9⟩ := h
  have hmap : (grC l).length = l.length := by simp
  rcases Nat.lt_or_ge i l.length with hlt | hge
  · have hlt' : (i : Int) < (l.length : Int) := by omega
    have hge0 : (0 : Int) ≤ (i : Int) := by omega
    obtain ⟨x, hx⟩ : ∃ x, l[i]? = some x := ⟨_, List.getElem?_eq_getElem hlt⟩
    have hxr : (grC l)[i]? = some [.int .u8 (x.toNat : Int)] := by simp [hx]
    obtain ⟨y, hy⟩ := byte_and (x.toNat : Int)
    have hwr : IntKind.wrap .i64 ((i : Int) + 1) = ((i + 1 : Nat) : Int) := by rw [Gz.wrap64 (by omega)]; omega
    have k2 : ∀ a b f c : Int, (keepC 1 s c len a b f)[2]? = some (.int .i64 c) := fun _ _ _ _ => rfl
    have fin : ∀ (e : Env) (σ : AHeap) (c a b f en : Int), 0 ≤ c → c ≤ ((i + 1 : Nat) : Int) → LeaseAt c len a b f en → hget σ kb = some (keepC 1 s c len a b f) → e 0 = .imm (grC l) false false → e 5 = .int .i64 len → e 6 = .ptr kb 0 → e 8 = .int .i64 en → e 9 = .int .i64 (i : Int) →
        sC H3 0 b3_39 (unw H3 0 (loopR H3 0 (RetQ [.t 4] Yes) (.block 0 (.seq b3_49 .fin)) (lsI l len) m) (.block 1 (.seq b3_42 .fin))) e σ := by
      intro e σ c a b f en c0 ci hL hk e0 e5 e6 e8 e9
      simp only [H3_app, Z3, x3_39, base1, ↓reduceIte, Nat.reduceAdd, Nat.reduceSub, Nat.reduceMul, Nat.reduceEqDiff, Nat.reduceLeDiff, Nat.reduceLT, Int.reduceLT, Int.reduceLE, Int.reduceEq, Int.reduceNe, Int.reduceToNat, Int.reduceAdd, Int.reduceSub, reduceCtorEq, Nat.reduceBEq, Nat.reduceBNe, loopR_exit, loopR_ret, lenOf_imm, e0, e5, e6, e8, e9]
      refine ⟨kb, 1, s, c, len, a, b, f, rfl, hk, ?_⟩
      simp only [H3_app, Z3, x3_39, base1, ↓reduceIte, Nat.reduceAdd, Nat.reduceSub, Nat.reduceMul, Nat.reduceEqDiff, Nat.reduceLeDiff, Nat.reduceLT, Int.reduceLT, Int.reduceLE, Int.reduceEq, Int.reduceNe, Int.reduceToNat, Int.reduceAdd, Int.reduceSub, reduceCtorEq, Nat.reduceBEq, Nat.reduceBNe, loopR_exit, loopR_ret, lenOf_imm, e0, e5, e6, e8, e9]
      refine ⟨kb, _, c, rfl, hk, k2 _ _ _ _, ?_⟩
      have hh := hold_at hL c0 (by omega) l1 l6
      simp only [H3_app, Z3, x3_39, base1, ↓reduceIte, Nat.reduceAdd, Nat.reduceSub, Nat.reduceMul, Nat.reduceEqDiff, Nat.reduceLeDiff, Nat.reduceLT, Int.reduceLT, Int.reduceLE, Int.reduceEq, Int.reduceNe, Int.reduceToNat, Int.reduceAdd, Int.reduceSub, reduceCtorEq, Nat.reduceBEq, Nat.reduceBNe, loopR_exit, loopR_ret, lenOf_imm, e0, e5, e6, e8, e9, hh, bne_self_eq_false, hwr]
      exact ⟨l.length - (i + 1), _, σ, by omega, .refl _ _ _, i + 1, kb, s, c, a, b, f, en, by omega, rfl, c0, ci, hL, hk, e0, e5, e6, e8, rfl⟩
    by_cases hz : y = 0
    · simp only [H3_app, Z3, base1, ↓reduceIte, Nat.reduceAdd, Nat.reduceSub, Nat.reduceMul, Nat.reduceEqDiff, Nat.reduceLeDiff, Nat.reduceLT, Int.reduceLT, Int.reduceLE, Int.reduceEq, Int.reduceNe, Int.reduceToNat, Int.reduceAdd, Int.reduceSub, reduceCtorEq, Nat.reduceBEq, Nat.reduceBNe, loopR_exit, loopR_ret, lenOf_imm, e0, e5, e6, e8, e9, hmap, hlt', hlt, hge0, Int.toNat_natCast, hxr, hy, hz, decide_true]
      refine ⟨kb, 1, s, c, len, a, b, f, rfl, hk, Gz.wrap64 (by omega), fun r σ' h1 _ _ => ?_⟩
      simp only [H3_app, Z3, base1, ↓reduceIte, Nat.reduceAdd, Nat.reduceSub, Nat.reduceMul, Nat.reduceEqDiff, Nat.reduceLeDiff, Nat.reduceLT, Int.reduceLT, Int.reduceLE, Int.reduceEq, Int.reduceNe, Int.reduceToNat, Int.reduceAdd, Int.reduceSub, reduceCtorEq, Nat.reduceBEq, Nat.reduceBNe, loopR_exit, loopR_ret, lenOf_imm, e0, e5, e6, e8, e9]
      exact fin _ _ (c + 1) a b f en (by omega) (by omega) (later_c hL) h1 e0 e5 e6 e8 e9
    · have hb1 : (0 : Int) ≤ (x.toNat : Int) := by omega
      have hb2 : (x.toNat : Int) ≤ 255 := by have := x.toNat_lt; omega
      obtain ⟨v, hv, v0, v1⟩ := byte_shr hb1 hb2
      have hwv : IntKind.wrap .i64 v = v := wr64 v0 (by omega)
      obtain ⟨t, ht, t0, t1⟩ := byte_rem v0
      simp only [H3_app, Z3, base1, ↓reduceIte, Nat.reduceAdd, Nat.reduceSub, Nat.reduceMul, Nat.reduceEqDiff, Nat.reduceLeDiff, Nat.reduceLT, Int.reduceLT, Int.reduceLE, Int.reduceEq, Int.reduceNe, Int.reduceToNat, Int.reduceAdd, Int.reduceSub, reduceCtorEq, Nat.reduceBEq, Nat.reduceBNe, loopR_exit, loopR_ret, lenOf_imm, e0, e5, e6, e8, e9, hmap, hlt', hlt, hge0, Int.toNat_natCast, hxr, hy, hz, decide_false, hv, hwv, ht]
      have hkl := hget_lt hk
      refine ⟨σ.length, rfl, push_new rfl, ?_⟩
      have hk' : hget (hkill (hpush σ sh1C) σ.length) kb = some (keepC 1 s c len a b f) := by rw [kill_other (by omega)]; exact push_old hk
      obtain ⟨a', b', f', hG, hL'⟩ := grant_at hL (by omega) l1 l6 t0 t1
      simp only [H3_app, Z3, base1, ↓reduceIte, Nat.reduceAdd, Nat.reduceSub, Nat.reduceMul, Nat.reduceEqDiff, Nat.reduceLeDiff, Nat.reduceLT, Int.reduceLT, Int.reduceLE, Int.reduceEq, Int.reduceNe, Int.reduceToNat, Int.reduceAdd, Int.reduceSub, reduceCtorEq, Nat.reduceBEq, Nat.reduceBNe, loopR_exit, loopR_ret, lenOf_imm, e0, e5, e6, e8, e9]
      refine ⟨kb, 1, s, c, len, a, b, f, grantC t, grantN t, a', b', f', rfl, hk', rfl, grant_sz t, grant_may t0 t1, rfl, rfl, hG, fun σ' h1 _ => ?_⟩
      have g1 : decide (t ≥ 1) = decide (1 ≤ t) := rfl
      unfold enB at hL'
      cases c1 : decide (1 ≤ t) with
      | false =>
        rw [c1] at hL'
        simp only [H3_app, Z3, base1, ↓reduceIte, Nat.reduceAdd, Nat.reduceSub, Nat.reduceMul, Nat.reduceEqDiff, Nat.reduceLeDiff, Nat.reduceLT, Int.reduceLT, Int.reduceLE, Int.reduceEq, Int.reduceNe, Int.reduceToNat, Int.reduceAdd, Int.reduceSub, reduceCtorEq, Nat.reduceBEq, Nat.reduceBNe, loopR_exit, loopR_ret, lenOf_imm, e0, e5, e6, e8, e9, g1, c1]
        exact fin _ _ c a' b' f' en c0 (by omega) hL' h1 e0 e5 e6 e8 e9
      | true =>
        simp only [H3_app, Z3, base1, ↓reduceIte, Nat.reduceAdd, Nat.reduceSub, Nat.reduceMul, Nat.reduceEqDiff, Nat.reduceLeDiff, Nat.reduceLT, Int.reduceLT, Int.reduceLE, Int.reduceEq, Int.reduceNe, Int.reduceToNat, Int.reduceAdd, Int.reduceSub, reduceCtorEq, Nat.reduceBEq, Nat.reduceBNe, loopR_exit, loopR_ret, lenOf_imm, e0, e5, e6, e8, e9, g1, c1]
        refine ⟨kb, _, c, rfl, h1, rfl, ?_⟩
        cases c2 : decide (t ≤ c) with
        | false =>
          rw [c1, c2] at hL'
          simp only [H3_app, Z3, base1, ↓reduceIte, Nat.reduceAdd, Nat.reduceSub, Nat.reduceMul, Nat.reduceEqDiff, Nat.reduceLeDiff, Nat.reduceLT, Int.reduceLT, Int.reduceLE, Int.reduceEq, Int.reduceNe, Int.reduceToNat, Int.reduceAdd, Int.reduceSub, reduceCtorEq, Nat.reduceBEq, Nat.reduceBNe, loopR_exit, loopR_ret, lenOf_imm, e0, e5, e6, e8, e9, g1, c1, c2]
          exact fin _ _ c a' b' f' en c0 (by omega) hL' h1 e0 e5 e6 e8 e9
        | true =>
          rw [c1, c2] at hL'
          have hwa : IntKind.wrap .i64 (t + len) = t + len := wr64 (by omega) (by omega)
          simp only [H3_app, Z3, base1, ↓reduceIte, Nat.reduceAdd, Nat.reduceSub, Nat.reduceMul, Nat.reduceEqDiff, Nat.reduceLeDiff, Nat.reduceLT, Int.reduceLT, Int.reduceLE, Int.reduceEq, Int.reduceNe, Int.reduceToNat, Int.reduceAdd, Int.reduceSub, reduceCtorEq, Nat.reduceBEq, Nat.reduceBNe, loopR_exit, loopR_ret, lenOf_imm, e0, e5, e6, e8, e9, g1, c1, c2, hwa]
          exact fin _ _ c a' b' f' _ c0 (by omega) hL' h1 e0 e5 e6 rfl e9
  · have hie : i = l.length := by omega
    subst hie
    have hnl : ¬ ((l.length : Int) < (l.length : Int)) := by omega
    simp only [H3_app, Z3, base1, ↓reduceIte, Nat.reduceAdd, Nat.reduceSub, Nat.reduceMul, Nat.reduceEqDiff, Nat.reduceLeDiff, Nat.reduceLT, Int.reduceLT, Int.reduceLE, Int.reduceEq, Int.reduceNe, Int.reduceToNat, Int.reduceAdd, Int.reduceSub, reduceCtorEq, Nat.reduceBEq, Nat.reduceBNe, loopR_exit, loopR_ret, lenOf_imm, e0, e5, e6, e8, e9, hmap, hnl, decide_false]
    exact yes_true
theorem byte_rem6 {y : Int} (h0 : 0 ≤ y) : ∃ t, abin .rem .num (.int .i64 y) (.int .i64 6) = some (.int .i64 t) ∧ 0 ≤ t ∧ t ≤ 5 := by
  refine ⟨y.tmod 6, rfl, ?_, ?_⟩ <;> rw [Int.tmod_eq_emod_of_nonneg h0] <;> omega
theorem leases_ok (l : List UInt8) (z : Int) (z0 : 0 ≤ z) (z1 : z ≤ 255) : Tri Tryz.prog 3 [.imm (grC l) false false, .int .u8 z] [] Yes := by
  refine Tri.of_s c3 H3_sound ?_
  have hmap : (grC l).length = l.length := by simp
  simp only [H3_app, awakeD_eq, tableD_eq, newD_eq, Z3, x3_39, base1, ↓reduceIte, Nat.reduceAdd, Nat.reduceSub, Nat.reduceMul, Nat.reduceEqDiff, Nat.reduceLeDiff, Nat.reduceLT, Int.reduceLT, Int.reduceLE, Int.reduceEq, Int.reduceNe, Int.reduceToNat, Int.reduceAdd, Int.reduceSub, reduceCtorEq, Nat.reduceBEq, Nat.reduceBNe, lenOf_imm, hmap]
  by_cases hbig : (60 : Int) < (l.length : Int)
  · have hbig' : (l.length : Int) > 60 := hbig
    simp only [H3_app, awakeD_eq, tableD_eq, newD_eq, Z3, x3_39, base1, ↓reduceIte, Nat.reduceAdd, Nat.reduceSub, Nat.reduceMul, Nat.reduceEqDiff, Nat.reduceLeDiff, Nat.reduceLT, Int.reduceLT, Int.reduceLE, Int.reduceEq, Int.reduceNe, Int.reduceToNat, Int.reduceAdd, Int.reduceSub, reduceCtorEq, Nat.reduceBEq, Nat.reduceBNe, lenOf_imm, hmap, hbig, hbig', decide_true]
    exact yes_true
  · have hbig' : ¬ (l.length : Int) > 60 := hbig
    obtain ⟨t, ht, t0, t1⟩ := byte_rem6 z0
    have hwz : IntKind.wrap .i64 z = z := wr64 z0 (by omega)
    have hwt : IntKind.wrap .i64 (1 + t) = 1 + t := wr64 (by omega) (by omega)
    simp only [H3_app, awakeD_eq, tableD_eq, newD_eq, Z3, base1, ↓reduceIte, Nat.reduceAdd, Nat.reduceSub, Nat.reduceMul, Nat.reduceEqDiff, Nat.reduceLeDiff, Nat.reduceLT, Int.reduceLT, Int.reduceLE, Int.reduceEq, Int.reduceNe, Int.reduceToNat, Int.reduceAdd, Int.reduceSub, reduceCtorEq, Nat.reduceBEq, Nat.reduceBNe, lenOf_imm, hmap, hbig, hbig', decide_false, hwz, ht, hwt]
    refine ⟨0, 1, 3, 1 + t, rfl, rfl, rfl, rfl, rfl, rfl, decide_eq_false (by omega), decide_eq_false (by omega), fun k s σ' h1 h2 h3 => ?_⟩
    simp only [H3_app, awakeD_eq, tableD_eq, newD_eq, Z3, base1, ↓reduceIte, Nat.reduceAdd, Nat.reduceSub, Nat.reduceMul, Nat.reduceEqDiff, Nat.reduceLeDiff, Nat.reduceLT, Int.reduceLT, Int.reduceLE, Int.reduceEq, Int.reduceNe, Int.reduceToNat, Int.reduceAdd, Int.reduceSub, reduceCtorEq, Nat.reduceBEq, Nat.reduceBNe, lenOf_imm, hmap, hbig, hbig', decide_false]
    exact sC_inv (a := b3_44) (lsI l (1 + t)) l.length _ _ (.refl _ _ _) ⟨0, k, s, 0, 0, 0, 0, 0, Nat.zero_le _, rfl, by omega, by omega, .inl ⟨rfl, rfl, rfl, rfl⟩, h1, rfl, rfl, rfl, rfl, rfl⟩ (ls_step l (by omega) (1 + t) (by omega) (by omega))
end Go.Proofs.YtgaopohogdinhaaGreatDoor.keep
