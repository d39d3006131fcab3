/- The reference's sort key of a text, with the table that stores are given: some answer, the same whenever it is asked. No condition. -/
import Derived.Test.YtmjnmnhpmbbmgaaTC
set_option linter.unusedVariables false
set_option linter.unusedSimpArgs false
namespace Go.Proofs.Ytmjnmnhpmbbmgaa.tour
open Go.ChangeShapes Go.WideShapes Go.ChangeAt Go.RowKit Go.Gz Go.Gz.H
abbrev r28_0 : List MOper := [⟨(some 2), .box (.t 0), none⟩,
  ⟨(some 4), .move (.c (.str [])), none⟩,
  ⟨(some 5), .move (.c (.int .i64 0)), none⟩]
def b28_0 : SCode := .region r28_0
abbrev r28_1 : List MOper := [⟨(some 13), .loadN 4 (.t 2), none⟩,
  ⟨(some 14), .call 48 [(.t 13)], none⟩,
  ⟨(some 15), .un .not (.t 14), none⟩]
def b28_1 : SCode := .region r28_1
abbrev r28_2 : List MOper := [⟨(some 4), .move (.c (.str [])), none⟩,
  ⟨(some 5), .move (.c (.int .i64 4)), none⟩]
def b28_2 : SCode := .region r28_2
def b28_3 : SCode := .seq b28_2 .ret
def b28_4 : SCode := .cond (.t 15) b28_3 .skip
def b28_5 : SCode := .seq b28_1 b28_4
abbrev r28_6 : List MOper := [⟨(some 16), .move (.t 1), none⟩,
  ⟨(some 17), .lenStr (.t 16), none⟩,
  ⟨(some 18), .bin .gtr .num (.t 17) (.c (.int .i64 64)), none⟩]
def b28_6 : SCode := .region r28_6
abbrev r28_7 : List MOper := [⟨(some 4), .move (.c (.str [])), none⟩,
  ⟨(some 5), .move (.c (.int .i64 3)), none⟩]
def b28_7 : SCode := .region r28_7
def b28_8 : SCode := .seq b28_7 .ret
def b28_9 : SCode := .cond (.t 18) b28_8 .skip
def b28_10 : SCode := .seq b28_6 b28_9
abbrev r28_11 : List MOper := [⟨(some 20), .move (.t 1), none⟩,
  ⟨(some 21), .call 49 [(.t 20)], none⟩,
  ⟨(some 19), .move (.t 21), none⟩,
  ⟨(some 22), .extract (.t 19) 0, none⟩,
  ⟨(some 23), .extract (.t 19) 1, none⟩,
  ⟨(some 6), .move (.t 22), none⟩,
  ⟨(some 7), .move (.t 23), none⟩]
def b28_11 : SCode := .region r28_11
abbrev r28_12 : List MOper := [⟨(some 24), .move (.t 7), none⟩,
  ⟨(some 25), .bin .neq .num (.t 24) (.c (.int .i64 0)), none⟩]
def b28_12 : SCode := .region r28_12
abbrev r28_13 : List MOper := [⟨(some 26), .move (.t 7), none⟩,
  ⟨(some 4), .move (.c (.str [])), none⟩,
  ⟨(some 5), .move (.t 26), none⟩]
def b28_13 : SCode := .region r28_13
def b28_14 : SCode := .seq b28_13 .ret
def b28_15 : SCode := .cond (.t 25) b28_14 .skip
def b28_16 : SCode := .seq b28_12 b28_15
abbrev r28_17 : List MOper := [⟨(some 28), .loadN 4 (.t 2), none⟩,
  ⟨(some 29), .move (.t 6), none⟩,
  ⟨(some 30), .call 50 [(.t 28), (.t 29)], none⟩,
  ⟨(some 27), .move (.t 30), none⟩,
  ⟨(some 31), .extract (.t 27) 0, none⟩,
  ⟨(some 32), .extract (.t 27) 1, none⟩,
  ⟨(some 8), .move (.t 31), none⟩,
  ⟨(some 7), .move (.t 32), none⟩]
def b28_17 : SCode := .region r28_17
abbrev r28_18 : List MOper := [⟨(some 33), .move (.t 7), none⟩,
  ⟨(some 34), .bin .neq .num (.t 33) (.c (.int .i64 0)), none⟩]
def b28_18 : SCode := .region r28_18
abbrev r28_19 : List MOper := [⟨(some 35), .move (.t 7), none⟩,
  ⟨(some 4), .move (.c (.str [])), none⟩,
  ⟨(some 5), .move (.t 35), none⟩]
def b28_19 : SCode := .region r28_19
def b28_20 : SCode := .seq b28_19 .ret
def b28_21 : SCode := .cond (.t 34) b28_20 .skip
def b28_22 : SCode := .seq b28_18 b28_21
abbrev r28_23 : List MOper := [⟨(some 9), .move (.c (.nilslice)), none⟩]
def b28_23 : SCode := .region r28_23
abbrev r28_24 : List MOper := [⟨(some 36), .loadN 4 (.t 2), none⟩,
  ⟨(some 37), .move (.t 8), none⟩,
  ⟨(some 38), .call 51 [(.t 36), (.t 37)], none⟩,
  ⟨(some 10), .alloc [.nilslice, .nilslice, .nilslice, .nilslice], none⟩,
  ⟨none, .store 4 (.t 10) (.t 38), none⟩]
def b28_24 : SCode := .region r28_24
abbrev r28_25 : List MOper := [⟨(some 11), .move (.c (.int .i64 0)), none⟩]
def b28_25 : SCode := .region r28_25
abbrev r28_26 : List MOper := [⟨(some 39), .move (.t 11), none⟩,
  ⟨(some 40), .bin .lss .num (.t 39) (.c (.int .i64 4)), none⟩]
def b28_26 : SCode := .region r28_26
def b28_27 : SCode := .cond (.t 40) .skip (.exit 0)
def b28_28 : SCode := .seq b28_26 b28_27
abbrev r28_29 : List MOper := [⟨(some 43), .move (.t 11), none⟩,
  ⟨(some 44), .bin .gtr .num (.t 43) (.c (.int .i64 0)), none⟩]
def b28_29 : SCode := .region r28_29
abbrev r28_30 : List MOper := [⟨(some 45), .move (.t 9), none⟩,
  ⟨(some 46), .buildSlice [.int .u8 0] 1 2 [(0, 1, (.c (.int .u8 0))), (1, 1, (.c (.int .u8 0)))], none⟩,
  ⟨(some 47), .append 1 1 (.t 45) (.t 46), none⟩,
  ⟨(some 9), .move (.t 47), none⟩]
def b28_30 : SCode := .region r28_30
def b28_31 : SCode := .cond (.t 44) b28_30 .skip
def b28_32 : SCode := .seq b28_29 b28_31
abbrev r28_33 : List MOper := [⟨(some 12), .move (.c (.int .i64 0)), none⟩]
def b28_33 : SCode := .region r28_33
abbrev r28_34 : List MOper := [⟨(some 48), .move (.t 12), none⟩,
  ⟨(some 49), .move (.t 11), none⟩,
  ⟨(some 50), .indexArrAddr 4 1 (.t 10) (.t 49), none⟩,
  ⟨(some 51), .load1 (.t 50), none⟩,
  ⟨(some 52), .lenSl (.t 51), none⟩,
  ⟨(some 53), .bin .lss .num (.t 48) (.t 52), none⟩]
def b28_34 : SCode := .region r28_34
def b28_35 : SCode := .cond (.t 53) .skip (.exit 2)
def b28_36 : SCode := .seq b28_34 b28_35
abbrev t28_37 : LTree := (.quiet ⟨(some 56), .move (.t 9), none⟩ 0
  (.quiet ⟨(some 57), .move (.t 11), none⟩ 1
  (.quiet ⟨(some 58), .indexArrAddr 4 1 (.t 10) (.t 57), none⟩ 2
  (.quiet ⟨(some 59), .load1 (.t 58), none⟩ 3
  (.quiet ⟨(some 60), .move (.t 12), none⟩ 4
  (.quiet ⟨(some 61), .indexAddr 1 (.t 59) (.t 60), none⟩ 5
  (.quiet ⟨(some 62), .load1 (.t 61), none⟩ 6
  (.quiet ⟨(some 63), .bin .shr .num (.t 62) (.c (.int .u64 8)), none⟩ 7
  (.quiet ⟨(some 64), .convInt .u8 (.t 63), none⟩ 8
  (.quiet ⟨(some 65), .move (.t 11), none⟩ 9
  (.quiet ⟨(some 66), .indexArrAddr 4 1 (.t 10) (.t 65), none⟩ 10
  (.quiet ⟨(some 67), .load1 (.t 66), none⟩ 11
  (.quiet ⟨(some 68), .move (.t 12), none⟩ 12
  (.quiet ⟨(some 69), .indexAddr 1 (.t 67) (.t 68), none⟩ 13
  (.quiet ⟨(some 70), .load1 (.t 69), none⟩ 14
  (.quiet ⟨(some 71), .convInt .u8 (.t 70), none⟩ 15
  (.loud ⟨(some 72), .buildSlice [.int .u8 0] 1 2 [(0, 1, (.t 64)), (1, 1, (.t 71))], none⟩ []
  (.loud ⟨(some 73), .append 1 1 (.t 56) (.t 72), none⟩ []
  (.quiet ⟨(some 9), .move (.t 73), none⟩ 18
  .leaf) .stop) .stop)))))))))))))))))
def b28_37 : SCode := .draw t28_37
def b28_38 : SCode := .block 3 b28_37
abbrev r28_39 : List MOper := [⟨(some 54), .move (.t 12), none⟩,
  ⟨(some 55), .bin .add .num (.t 54) (.c (.int .i64 1)), none⟩,
  ⟨(some 12), .move (.t 55), none⟩]
def b28_39 : SCode := .region r28_39
def b28_40 : SCode := .seq b28_38 b28_39
def b28_41 : SCode := .seq b28_36 b28_40
def b28_42 : SCode := .loop b28_41
def b28_43 : SCode := .block 2 b28_42
def b28_44 : SCode := .seq b28_33 b28_43
def b28_45 : SCode := .seq b28_32 b28_44
def b28_46 : SCode := .block 1 b28_45
abbrev r28_47 : List MOper := [⟨(some 41), .move (.t 11), none⟩,
  ⟨(some 42), .bin .add .num (.t 41) (.c (.int .i64 1)), none⟩,
  ⟨(some 11), .move (.t 42), none⟩]
def b28_47 : SCode := .region r28_47
def b28_48 : SCode := .seq b28_46 b28_47
def b28_49 : SCode := .seq b28_28 b28_48
def b28_50 : SCode := .loop b28_49
def b28_51 : SCode := .block 0 b28_50
def b28_52 : SCode := .seq b28_25 b28_51
abbrev r28_53 : List MOper := [⟨(some 74), .move (.t 9), none⟩,
  ⟨(some 75), .lenSl (.t 74), none⟩,
  ⟨(some 76), .bin .gtr .num (.t 75) (.c (.int .i64 640)), none⟩]
def b28_53 : SCode := .region r28_53
abbrev r28_54 : List MOper := [⟨(some 4), .move (.c (.str [])), none⟩,
  ⟨(some 5), .move (.c (.int .i64 3)), none⟩]
def b28_54 : SCode := .region r28_54
def b28_55 : SCode := .seq b28_54 .ret
def b28_56 : SCode := .cond (.t 76) b28_55 .skip
def b28_57 : SCode := .seq b28_53 b28_56
abbrev r28_58 : List MOper := [⟨(some 77), .move (.t 9), none⟩,
  ⟨(some 78), .ofBytes (.t 77), none⟩,
  ⟨(some 4), .move (.t 78), none⟩,
  ⟨(some 5), .move (.c (.int .i64 0)), none⟩]
def b28_58 : SCode := .region r28_58
def b28_59 : SCode := .seq b28_58 .ret
def b28_60 : SCode := .seq b28_57 b28_59
def b28_61 : SCode := .seq b28_52 b28_60
def b28_62 : SCode := .seq b28_24 b28_61
def b28_63 : SCode := .seq b28_23 b28_62
def b28_64 : SCode := .seq b28_22 b28_63
def b28_65 : SCode := .seq b28_17 b28_64
def b28_66 : SCode := .seq b28_16 b28_65
def b28_67 : SCode := .seq b28_11 b28_66
def b28_68 : SCode := .seq b28_10 b28_67
def b28_69 : SCode := .seq b28_5 b28_68
def b28_70 : SCode := .seq b28_0 b28_69
def s28 : SFunc := ⟨79, [.t 4, .t 5], b28_70⟩
theorem c28 : sFn Try.prog 28 = some s28 := by kernel_rfl
theorem x28_49 : XS b28_49 b28_28 b28_48 := rfl
theorem Z28 : XR b28_0 r28_0 ∧ XR b28_1 r28_1 ∧ XR b28_2 r28_2 ∧ XS b28_3 b28_2 .ret ∧ XC b28_4 (.t 15) b28_3 .skip ∧ XS b28_5 b28_1 b28_4 ∧ XR b28_6 r28_6 ∧ XR b28_7 r28_7 ∧ XS b28_8 b28_7 .ret ∧ XC b28_9 (.t 18) b28_8 .skip ∧ XS b28_10 b28_6 b28_9 ∧ XR b28_11 r28_11 ∧ XR b28_12 r28_12 ∧ XR b28_13 r28_13 ∧ XS b28_14 b28_13 .ret ∧ XC b28_15 (.t 25) b28_14 .skip ∧ XS b28_16 b28_12 b28_15 ∧ XR b28_17 r28_17 ∧ XR b28_18 r28_18 ∧ XR b28_19 r28_19 ∧ XS b28_20 b28_19 .ret ∧ XC b28_21 (.t 34) b28_20 .skip ∧ XS b28_22 b28_18 b28_21 ∧ XR b28_23 r28_23 ∧ XR b28_24 r28_24 ∧ XR b28_25 r28_25 ∧ XR b28_26 r28_26 ∧ XC b28_27 (.t 40) .skip (.exit 0) ∧ XS b28_28 b28_26 b28_27 ∧ XR b28_29 r28_29 ∧ XR b28_30 r28_30 ∧ XC b28_31 (.t 44) b28_30 .skip ∧ XS b28_32 b28_29 b28_31 ∧ XR b28_33 r28_33 ∧ XR b28_34 r28_34 ∧ XC b28_35 (.t 53) .skip (.exit 2) ∧ XS b28_36 b28_34 b28_35 ∧ XT b28_37 t28_37 ∧ XB b28_38 3 b28_37 ∧ XR b28_39 r28_39 ∧ XS b28_40 b28_38 b28_39 ∧ XS b28_41 b28_36 b28_40 ∧ XB b28_43 2 b28_42 ∧ XS b28_44 b28_33 b28_43 ∧ XS b28_45 b28_32 b28_44 ∧ XB b28_46 1 b28_45 ∧ XR b28_47 r28_47 ∧ XS b28_48 b28_46 b28_47 ∧ XB b28_51 0 b28_50 ∧ XS b28_52 b28_25 b28_51 ∧ XR b28_53 r28_53 ∧ XR b28_54 r28_54 ∧ XS b28_55 b28_54 .ret ∧ XC b28_56 (.t 76) b28_55 .skip ∧ XS b28_57 b28_53 b28_56 ∧ XR b28_58 r28_58 ∧ XS b28_59 b28_58 .ret ∧ XS b28_60 b28_57 b28_59 ∧ XS b28_61 b28_52 b28_60 ∧ XS b28_62 b28_24 b28_61 ∧ XS b28_63 b28_23 b28_62 ∧ XS b28_64 b28_22 b28_63 ∧ XS b28_65 b28_17 b28_64 ∧ XS b28_66 b28_16 b28_65 ∧ XS b28_67 b28_11 b28_66 ∧ XS b28_68 b28_10 b28_67 ∧ XS b28_69 b28_5 b28_68 ∧ XS b28_70 b28_0 b28_69 ∧ XY s28 79 b28_70 [.t 4, .t 5] := ⟨rfl, rfl, rfl, rfl, sC_cond, rfl, rfl, rfl, rfl, sC_cond, rfl, rfl, rfl, rfl, rfl, sC_cond, rfl, rfl, rfl, rfl, rfl, sC_cond, rfl, rfl, rfl, rfl, rfl, sC_cond, rfl, rfl, rfl, sC_cond, rfl, rfl, rfl, sC_cond, rfl, rfl, rfl, rfl, rfl, rfl, rfl, rfl, rfl, rfl, rfl, rfl, rfl, rfl, rfl, rfl, rfl, sC_cond, rfl, rfl, rfl, rfl, rfl, rfl, rfl, rfl, rfl, rfl, rfl, rfl, rfl, rfl, rfl⟩

set_option maxHeartbeats 4000000
set_option maxRecDepth 10000
def bOf (x : Int) : UInt8 := UInt8.ofNat (IntKind.wrap .u8 x).toNat
theorem byteAV_bOf (x : Int) : byteAV (bOf x) = .int .u8 (IntKind.wrap .u8 x) := by
  have h : IntKind.wrap .u8 x = x % 256 := IntKind.wrap_u8 x
  unfold byteAV bOf
  rw [h]
  congr 1
  have h1 : (x % 256).toNat < 256 := by omega
  rw [show (UInt8.ofNat (x % 256).toNat).toNat = (x % 256).toNat from by simp [UInt8.toNat_ofNat']; omega]
  omega
theorem rws_len1 (bs : List UInt8) : ∀ r ∈ rws bs, r.length = 1 := fun r hr => by
  obtain ⟨b, _, rfl⟩ := List.mem_map.1 hr
  rfl
def lst (p : List Int × List Int × List Int) : Nat → List Int
  | 0 => p.1
  | 1 => p.2.1
  | 2 => p.2.2
  | _ => []
theorem lst_at (p : List Int × List Int × List Int) {k : Nat} (hk : k < 4) : ∃ x, (levC p)[k]? = some x ∧ lenSl x = some (lst p k).length ∧ ∀ (j : Nat) n, (lst p k)[j]? = some n → iAddr 1 x (.int .i64 (j : Int)) = some (.iptr [.int .i64 n]) := by
  have key : ∀ (l : List Int) (j : Nat) n, l[j]? = some n → iAddr 1 (.imm (inC l) false false) (.int .i64 (j : Int)) = some (.iptr [.int .i64 n]) := fun l j n h => by
    have hlt := (List.getElem?_eq_some_iff.1 h).1
    have e1 : (inC l)[j]? = some [.int .i64 n] := by rw [inC, List.getElem?_map, h]; rfl
    have h0 : (0 : Int) ≤ (j : Int) := by omega
    have h1 : (j : Int) < ((inC l).length : Int) := by simp; omega
    simp only [iAddr, inRange_int, h0, h1, Int.toNat_natCast, Option.bind_some, e1, List.length_cons, List.length_nil, if_true]
    simp [hlt]
    exact (List.getElem?_eq_some_iff.1 h).2
  match k, hk with
  | 0, _ => exact ⟨_, rfl, by show some _ = _; simp [lst], fun j n h => key _ j n h⟩
  | 1, _ => exact ⟨_, rfl, by show some _ = _; simp [lst], fun j n h => key _ j n h⟩
  | 2, _ => exact ⟨_, rfl, by show some _ = _; simp [lst], fun j n h => key _ j n h⟩
  | 3, _ => exact ⟨_, rfl, rfl, fun j n h => by simp [lst] at h⟩
abbrev MkI := {p : List UInt8 × Int // p.1.length ≤ 640 ∧ (p.2 ≠ 0 → p.1 = [])}
abbrev ansMk (p : List UInt8 × Int) : AV := .tuple [.str p.1, .int .i64 p.2]
def MkQ (p : MkI) (r : AV) (_ : AHeap) : Prop := r.pure = true ∧ r = ansMk p.1
def U28 : PCall := rowQ 48 tabD (rowQ 49 readD (rowQ 50 elemD (rowQ 51 levD noCall)))
theorem U28_app {f : FuncId} {args : List AV} {σ : AHeap} {K : AV → AHeap → Prop} : U28 f args σ K = rowQ 48 tabD (rowQ 49 readD (rowQ 50 elemD (rowQ 51 levD noCall))) f args σ K := _root_.id rfl
theorem U28_sound : Sound Try.prog U28 := rowQ_sound tabD_ok (rowQ_sound readD_ok (rowQ_sound elemD_ok (rowQ_sound levD_ok (noCall_sound _))))
theorem U28_one : OneC U28 := one_row tabD_one (one_row readD_one (one_row elemD_one (one_row levD_one one_none)))
abbrev MkR : MExit → Env → AHeap → Prop := RetQ [.t 4, .t 5] fun r σ => ∃ p, MkQ p r σ
theorem mk_err (x : Int) (hx : x ≠ 0) (σ : AHeap) : ∃ p, MkQ p (.tuple [.str [], .int .i64 x]) σ := ⟨⟨([], x), by simp, fun _ => rfl⟩, rfl, rfl⟩
def moI (p : List Int × List Int × List Int) (X : Nat) (m : Nat) (e : Env) (σ : AHeap) : Prop :=
  ∃ (k : Nat) (bs : List UInt8) (Bv : AV), k ≤ 4 ∧ m = 4 - k ∧ hget σ X = some (levC p) ∧ Grow σ Bv 1 (rws bs) ∧ LvD Bv ≠ some X ∧ bs.length ≤ k * 2002 ∧ e 9 = Bv ∧ e 10 = .ptr X 0 ∧ e 11 = .int .i64 (k : Int)
abbrev LR28 (p : List Int × List Int × List Int) (X m : Nat) : MExit → Env → AHeap → Prop := loopR U28 0 MkR (.block 0 (.seq b28_60 .fin)) (moI p X) m
def miI (p : List Int × List Int × List Int) (X k : Nat) (m : Nat) (e : Env) (σ : AHeap) : Prop :=
  ∃ (j : Nat) (bs : List UInt8) (Bv : AV), j ≤ (lst p k).length ∧ m = (lst p k).length - j ∧ hget σ X = some (levC p) ∧ Grow σ Bv 1 (rws bs) ∧ LvD Bv ≠ some X ∧ bs.length ≤ k * 2002 + 2 + 2 * j ∧ e 9 = Bv ∧ e 10 = .ptr X 0 ∧ e 11 = .int .i64 (k : Int) ∧ e 12 = .int .i64 (j : Int)
theorem mkey_in (p : List Int × List Int × List Int) (hp : ∀ k, (lst p k).length ≤ 1000) (X k : Nat) (hk : k < 4) (m0 : Nat) (hm0 : m0 = 4 - k) (m : Nat) (e : Env) (σ : AHeap) (h : miI p X k m e σ) :
    sC U28 0 b28_41 (unw U28 0 (loopR U28 0 (LR28 p X m0) (.block 2 (.block 1 (.seq b28_47 .fin))) (miI p X k) m) .fin) e σ := by
  obtain ⟨j, bs, Bv, hj, hm, hX, hg, hBX, hbl, e9, e10, e11, e12⟩ := h
  obtain ⟨x, hx, hxl, hxi⟩ := lst_at p hk
  have hpk := hp k
  have hk0 : (0 : Int) ≤ (k : Int) := by omega
  have hk4 : (k : Int) < 4 := by omega
  have hwk : IntKind.wrap .i64 ((k : Int) + 1) = ((k + 1 : Nat) : Int) := by rw [Gz.wrap64 (by omega)]; omega
  have hwj : IntKind.wrap .i64 ((j : Int) + 1) = ((j + 1 : Nat) : Int) := by rw [Gz.wrap64 (by omega)]; omega
  by_cases hlt' : (j : Int) < ((lst p k).length : Int)
  · have hlt : j < (lst p k).length := by omega
    obtain ⟨n, hn⟩ : ∃ n, (lst p k)[j]? = some n := ⟨_, List.getElem?_eq_getElem hlt⟩
    have hxn := hxi j n hn
    have he1 : elemsOf (hpush σ [.int .u8 (IntKind.wrap .u8 (n.fdiv 256)), .int .u8 (IntKind.wrap .u8 n)]) 1 (.slice σ.length 0 2 (some 2) 1) = some (rws [bOf (n.fdiv 256), bOf n]).flatten := by
      simp only [elemsOf, if_true, push_new rfl, Option.bind_some, rws, List.map_cons, List.map_nil, byteAV_bOf]; rfl
    have hg1 := grow_frame hg (τ := hpush σ [.int .u8 (IntKind.wrap .u8 (n.fdiv 256)), .int .u8 (IntKind.wrap .u8 n)]) fun j c hj _ => push_old hj
    obtain ⟨v, τ, a1, a2, a3, a4, a5⟩ := grow_any (b := 1) (by decide) hg1 (ys := rws [bOf (n.fdiv 256), bOf n]) (by simp [rws]; omega) he1 rfl (rws_len1 _) (by rw [show rws [bOf (n.fdiv 256), bOf n] = [bOf (n.fdiv 256), bOf n].map fun b => [byteAV b] from rfl, rows_flat]; exact byte_cell _)
    have sh : ((2 : Int) ^ (min 8 (IntKind.bits .i64))) = 256 := rfl
    simp only [U28_app, Z28, x28_49, base1, ↓reduceIte, Nat.reduceAdd, Nat.reduceSub, Nat.reduceMul, Nat.reduceEqDiff, Nat.reduceLeDiff, Nat.reduceLT, Int.reduceLT, Int.reduceLE, Int.reduceEq, Int.reduceNe, Int.reduceToNat, Int.reduceAdd, Int.reduceSub, reduceCtorEq, Nat.reduceBEq, Nat.reduceBNe, LR28, loopR_exit, loopR_ret, e9, e10, e11, e12, hX, hx, hxl, Option.map_some, hk0, hk4, hk, Int.toNat_natCast, hlt', hxn, sh, a1, a2, a3, hwj]
    rw [loopR_normal]
    exact ⟨(lst p k).length - (j + 1), _, _, by omega, .refl _ _ _, j + 1, bs ++ [bOf (n.fdiv 256), bOf n], v, hlt, rfl, (a4 _ _ (push_old hX) hBX).1, by rw [rws, List.map_append]; exact a5, (a4 _ _ (push_old hX) hBX).2, by simp; omega, rfl, e10, e11, rfl⟩
  · simp only [U28_app, Z28, x28_49, base1, ↓reduceIte, Nat.reduceAdd, Nat.reduceSub, Nat.reduceMul, Nat.reduceEqDiff, Nat.reduceLeDiff, Nat.reduceLT, Int.reduceLT, Int.reduceLE, Int.reduceEq, Int.reduceNe, Int.reduceToNat, Int.reduceAdd, Int.reduceSub, reduceCtorEq, Nat.reduceBEq, Nat.reduceBNe, LR28, loopR_exit, loopR_ret, e9, e10, e11, e12, hX, hx, hxl, Option.map_some, hk0, hk4, hk, Int.toNat_natCast, hlt', hwk]
    rw [loopR_normal]
    exact ⟨4 - (k + 1), _, _, by omega, .refl _ _ _, k + 1, bs, Bv, by omega, rfl, hX, hg, hBX, by omega, e9, e10, rfl⟩
theorem mkey_step (p : List Int × List Int × List Int) (hp : ∀ k, (lst p k).length ≤ 1000) (X : Nat) (m : Nat) (e : Env) (σ : AHeap) (h : moI p X m e σ) : sC U28 0 b28_49 (unw U28 0 (LR28 p X m) .fin) e σ := by
  obtain ⟨k, bs, Bv, hk, hm, hX, hg, hBX, hbl, e9, e10, e11⟩ := h
  by_cases hk4 : (k : Int) < 4
  · by_cases hk0 : (0 : Int) < (k : Int)
    · have he1 : elemsOf (hpush σ [.int .u8 0, .int .u8 0]) 1 (.slice σ.length 0 2 (some 2) 1) = some (rws [0, 0]).flatten := by
        simp only [elemsOf, if_true, push_new rfl, Option.bind_some]; rfl
      have hg1 := grow_frame hg (τ := hpush σ [.int .u8 0, .int .u8 0]) fun j c hj _ => push_old hj
      obtain ⟨v, τ, a1, a2, a3, a4, a5⟩ := grow_any (b := 1) (by decide) hg1 (ys := rws [0, 0]) (by simp [rws]; omega) he1 rfl (rws_len1 _) rfl
      simp only [U28_app, Z28, x28_49, base1, ↓reduceIte, Nat.reduceAdd, Nat.reduceSub, Nat.reduceMul, Nat.reduceEqDiff, Nat.reduceLeDiff, Nat.reduceLT, Int.reduceLT, Int.reduceLE, Int.reduceEq, Int.reduceNe, Int.reduceToNat, Int.reduceAdd, Int.reduceSub, reduceCtorEq, Nat.reduceBEq, Nat.reduceBNe, LR28, loopR_exit, loopR_ret, e9, e10, e11, hk4, hk0, a1, a2, a3]
      exact sC_inv (a := b28_41) (miI p X k) (lst p k).length _ _ (.refl _ _ _) ⟨0, bs ++ [0, 0], v, Nat.zero_le _, rfl, (a4 _ _ (push_old hX) hBX).1, by rw [rws, List.map_append]; exact a5, (a4 _ _ (push_old hX) hBX).2, by simp; omega, rfl, e10, e11, rfl⟩ (mkey_in p hp X k (by omega) m hm)
    · simp only [U28_app, Z28, x28_49, base1, ↓reduceIte, Nat.reduceAdd, Nat.reduceSub, Nat.reduceMul, Nat.reduceEqDiff, Nat.reduceLeDiff, Nat.reduceLT, Int.reduceLT, Int.reduceLE, Int.reduceEq, Int.reduceNe, Int.reduceToNat, Int.reduceAdd, Int.reduceSub, reduceCtorEq, Nat.reduceBEq, Nat.reduceBNe, LR28, loopR_exit, loopR_ret, e9, e10, e11, hk4, hk0]
      exact sC_inv (a := b28_41) (miI p X k) (lst p k).length _ _ (.refl _ _ _) ⟨0, bs, Bv, Nat.zero_le _, rfl, hX, hg, hBX, by omega, e9, e10, e11, rfl⟩ (mkey_in p hp X k (by omega) m hm)
  · have hls : lenSl Bv = some bs.length := grow_lenS ⟨hg, by simp [rws]⟩
    have hob : Gz.ofBytes σ Bv = some bs := by
      rcases hg with ⟨rfl, h0⟩ | ⟨d, rfl, hd, _⟩
      · have : bs = [] := by cases bs with
          | nil => rfl
          | cons => cases h0
        rw [this]; rfl
      · show ((if 1 = 1 then (hget σ d).bind (sub · 0 ((rws bs).length * 1)) else none).bind bytesOf) = some bs
        rw [if_pos rfl, hd, Nat.mul_one]
        simp only [Option.bind_some, rws]
        rw [rows_flat, sub_all (by simp)]
        exact bytes_ofR bs
    by_cases h640 : (640 : Int) < (bs.length : Int)
    · simp only [U28_app, Z28, x28_49, base1, ↓reduceIte, Nat.reduceAdd, Nat.reduceSub, Nat.reduceMul, Nat.reduceEqDiff, Nat.reduceLeDiff, Nat.reduceLT, Int.reduceLT, Int.reduceLE, Int.reduceEq, Int.reduceNe, Int.reduceToNat, Int.reduceAdd, Int.reduceSub, reduceCtorEq, Nat.reduceBEq, Nat.reduceBNe, LR28, loopR_exit, loopR_ret, e9, e10, e11, hk4, hls, Option.map_some, h640]
      exact mk_err 3 (by decide) _
    · simp only [U28_app, Z28, x28_49, base1, ↓reduceIte, Nat.reduceAdd, Nat.reduceSub, Nat.reduceMul, Nat.reduceEqDiff, Nat.reduceLeDiff, Nat.reduceLT, Int.reduceLT, Int.reduceLE, Int.reduceEq, Int.reduceNe, Int.reduceToNat, Int.reduceAdd, Int.reduceSub, reduceCtorEq, Nat.reduceBEq, Nat.reduceBNe, LR28, loopR_exit, loopR_ret, e9, e10, e11, hk4, hls, Option.map_some, h640, hob]
      exact ⟨⟨(bs, 0), by show bs.length ≤ _; omega, fun h => absurd rfl h⟩, rfl, rfl⟩
theorem make_some (s : List UInt8) (hs : s.length ≤ 140737488351232) : sF U28 s28 [.agg tabC, .str s] [] fun r σ => ∃ p, MkQ p r σ := by
  simp only [U28_app, Z28, base1, ↓reduceIte, Nat.reduceAdd, Nat.reduceSub, Nat.reduceMul, Nat.reduceEqDiff, Nat.reduceLeDiff, Nat.reduceLT, Int.reduceLT, Int.reduceLE, Int.reduceEq, Int.reduceNe, Int.reduceToNat, Int.reduceAdd, Int.reduceSub, reduceCtorEq, Nat.reduceBEq, Nat.reduceBNe]
  refine ⟨rfl, ?_⟩
  by_cases h64 : (64 : Int) < (s.length : Int)
  · simp only [U28_app, Z28, base1, ↓reduceIte, Nat.reduceAdd, Nat.reduceSub, Nat.reduceMul, Nat.reduceEqDiff, Nat.reduceLeDiff, Nat.reduceLT, Int.reduceLT, Int.reduceLE, Int.reduceEq, Int.reduceNe, Int.reduceToNat, Int.reduceAdd, Int.reduceSub, reduceCtorEq, Nat.reduceBEq, Nat.reduceBNe, h64]
    exact mk_err 3 (by decide) _
  · simp only [U28_app, Z28, base1, ↓reduceIte, Nat.reduceAdd, Nat.reduceSub, Nat.reduceMul, Nat.reduceEqDiff, Nat.reduceLeDiff, Nat.reduceLT, Int.reduceLT, Int.reduceLE, Int.reduceEq, Int.reduceNe, Int.reduceToNat, Int.reduceAdd, Int.reduceSub, reduceCtorEq, Nat.reduceBEq, Nat.reduceBNe, h64]
    refine ⟨s, rfl, by omega, ?_⟩
    have hR := (readS s).2
    cases hr : (readS s).1 with
    | none =>
      simp only [U28_app, Z28, base1, ↓reduceIte, Nat.reduceAdd, Nat.reduceSub, Nat.reduceMul, Nat.reduceEqDiff, Nat.reduceLeDiff, Nat.reduceLT, Int.reduceLT, Int.reduceLE, Int.reduceEq, Int.reduceNe, Int.reduceToNat, Int.reduceAdd, Int.reduceSub, reduceCtorEq, Nat.reduceBEq, Nat.reduceBNe, ansRd]
      exact mk_err 2 (by decide) _
    | some l =>
      have hl := hR l hr
      simp only [U28_app, Z28, base1, ↓reduceIte, Nat.reduceAdd, Nat.reduceSub, Nat.reduceMul, Nat.reduceEqDiff, Nat.reduceLeDiff, Nat.reduceLT, Int.reduceLT, Int.reduceLE, Int.reduceEq, Int.reduceNe, Int.reduceToNat, Int.reduceAdd, Int.reduceSub, reduceCtorEq, Nat.reduceBEq, Nat.reduceBNe, ansRd]
      refine ⟨l, rfl, by omega, ?_⟩
      have hE := elem_len l
      cases he : elemS l with
      | none =>
        simp only [U28_app, Z28, base1, ↓reduceIte, Nat.reduceAdd, Nat.reduceSub, Nat.reduceMul, Nat.reduceEqDiff, Nat.reduceLeDiff, Nat.reduceLT, Int.reduceLT, Int.reduceLE, Int.reduceEq, Int.reduceNe, Int.reduceToNat, Int.reduceAdd, Int.reduceSub, reduceCtorEq, Nat.reduceBEq, Nat.reduceBNe, ansEl]
        exact mk_err 2 (by decide) _
      | some es =>
        have hes := hE es he
        simp only [U28_app, Z28, base1, ↓reduceIte, Nat.reduceAdd, Nat.reduceSub, Nat.reduceMul, Nat.reduceEqDiff, Nat.reduceLeDiff, Nat.reduceLT, Int.reduceLT, Int.reduceLE, Int.reduceEq, Int.reduceNe, Int.reduceToNat, Int.reduceAdd, Int.reduceSub, reduceCtorEq, Nat.reduceBEq, Nat.reduceBNe, ansEl]
        refine ⟨es, rfl, by omega, ?_⟩
        obtain ⟨p1, p2, p3⟩ := (levS es).2
        generalize (levS es).1 = p at p1 p2 p3 ⊢
        simp only [U28_app, Z28, base1, ↓reduceIte, Nat.reduceAdd, Nat.reduceSub, Nat.reduceMul, Nat.reduceEqDiff, Nat.reduceLeDiff, Nat.reduceLT, Int.reduceLT, Int.reduceLE, Int.reduceEq, Int.reduceNe, Int.reduceToNat, Int.reduceAdd, Int.reduceSub, reduceCtorEq, Nat.reduceBEq, Nat.reduceBNe]
        exact sC_inv (a := b28_49) (moI p 1) 4 _ _ (.refl _ _ _) ⟨0, [], .nilslice, by decide, rfl, rfl, .inl ⟨rfl, rfl⟩, by simp [LvD], by decide, rfl, rfl, rfl⟩ (mkey_step p (fun k => by
          match k with
          | 0 => show p.1.length ≤ 1000; omega
          | 1 => show p.2.1.length ≤ 1000; omega
          | 2 => show p.2.2.length ≤ 1000; omega
          | n + 3 => simp [lst]) 1)
theorem make_ex (s : List UInt8) : ∃ p : MkI, s.length ≤ 140737488351232 → Tri Try.prog 28 [.agg tabC, .str s] [] (MkQ p) := by
  by_cases h : s.length ≤ 140737488351232
  · obtain ⟨v, hv⟩ := Tri.one c28 U28_sound U28_one (by kernel_rfl) (make_some s h)
    exact ⟨v, fun _ => hv⟩
  · exact ⟨⟨([], 0), by simp, fun _ => rfl⟩, fun h1 => absurd h1 h⟩
noncomputable def makeS (s : List UInt8) : List UInt8 × Int := (Classical.choose (make_ex s)).1
theorem makeS_len (s : List UInt8) : (makeS s).1.length ≤ 640 := (Classical.choose (make_ex s)).2.1
def makeD (args : List AV) (σ : AHeap) (K : AV → AHeap → Prop) : Prop := ∃ s : List UInt8, args = [.agg tabC, .str s] ∧ s.length ≤ 140737488351232 ∧ K (.tuple [.str (makeS s).1, .int .i64 (makeS s).2]) σ
theorem makeD_ok (args : List AV) (σ : AHeap) (K : AV → AHeap → Prop) (h : makeD args σ K) : Tri Try.prog 28 args σ K := by
  obtain ⟨s, rfl, hs, h⟩ := h
  refine (Tri.pureD ?_ (Classical.choose_spec (make_ex s) hs) σ).mono fun x σ' hr => by rw [hr.1, hr.2]; exact h
  have := tab_pure1
  simp only [pureL, Bool.and_true] at this ⊢
  rw [this]; rfl
end Go.Proofs.Ytmjnmnhpmbbmgaa.tour

/- The reference's map of records: where a key is, what it has, how it is put. No condition. -/
set_option linter.unusedVariables false
set_option linter.unusedSimpArgs false
namespace Go.Proofs.Ytmjnmnhpmbbmgaa.tour
open Go.ChangeShapes Go.WideShapes Go.ChangeAt Go.RowKit Go.Gz Go.Gz.H
abbrev r52_0 : List MOper := [⟨(some 4), .move (.c (.int .i64 0)), none⟩,
  ⟨(some 5), .move (.c (.bool false)), none⟩]
def b52_0 : SCode := .region r52_0
abbrev r52_1 : List MOper := [⟨(some 6), .move (.c (.int .i64 0)), none⟩]
def b52_1 : SCode := .region r52_1
abbrev r52_2 : List MOper := [⟨(some 7), .move (.t 6), none⟩,
  ⟨(some 8), .move (.t 0), none⟩,
  ⟨(some 9), .nilCheck (.t 8), none⟩,
  ⟨(some 10), .fieldAddr 0 (.t 9), none⟩,
  ⟨(some 11), .load1 (.t 10), none⟩,
  ⟨(some 12), .lenSl (.t 11), none⟩,
  ⟨(some 13), .bin .lss .num (.t 7) (.t 12), none⟩,
  ⟨(some 14), .move (.t 13), none⟩,
  ⟨(some 15), .move (.t 0), (some (14, true))⟩,
  ⟨(some 16), .nilCheck (.t 15), (some (14, true))⟩,
  ⟨(some 17), .fieldAddr 0 (.t 16), (some (14, true))⟩,
  ⟨(some 18), .load1 (.t 17), (some (14, true))⟩,
  ⟨(some 19), .move (.t 6), (some (14, true))⟩,
  ⟨(some 20), .indexAddr 3 (.t 18) (.t 19), (some (14, true))⟩,
  ⟨(some 21), .fieldAddr 0 (.t 20), (some (14, true))⟩,
  ⟨(some 22), .load1 (.t 21), (some (14, true))⟩,
  ⟨(some 23), .move (.t 1), (some (14, true))⟩,
  ⟨(some 24), .bin .lss .num (.t 22) (.t 23), (some (14, true))⟩,
  ⟨(some 25), .pick (.t 14) (.t 24) (.c (.bool false)), none⟩]
def b52_2 : SCode := .region r52_2
def b52_3 : SCode := .cond (.t 25) .skip (.exit 0)
def b52_4 : SCode := .seq b52_2 b52_3
abbrev r52_5 : List MOper := [⟨(some 26), .move (.t 6), none⟩,
  ⟨(some 27), .bin .add .num (.t 26) (.c (.int .i64 1)), none⟩,
  ⟨(some 6), .move (.t 27), none⟩]
def b52_5 : SCode := .region r52_5
def b52_6 : SCode := .block 1 b52_5
def b52_7 : SCode := .seq b52_4 b52_6
def b52_8 : SCode := .loop b52_7
def b52_9 : SCode := .block 0 b52_8
abbrev t52_10 : LTree := (.quiet ⟨(some 28), .move (.t 6), none⟩ 0
  (.quiet ⟨(some 29), .move (.t 6), none⟩ 1
  (.quiet ⟨(some 30), .move (.t 0), none⟩ 2
  (.quiet ⟨(some 31), .nilCheck (.t 30), none⟩ 3
  (.quiet ⟨(some 32), .fieldAddr 0 (.t 31), none⟩ 4
  (.quiet ⟨(some 33), .load1 (.t 32), none⟩ 5
  (.quiet ⟨(some 34), .lenSl (.t 33), none⟩ 6
  (.quiet ⟨(some 35), .bin .lss .num (.t 29) (.t 34), none⟩ 7
  (.quiet ⟨(some 36), .move (.t 35), none⟩ 8
  (.quiet ⟨(some 37), .move (.t 0), (some (36, true))⟩ 9
  (.quiet ⟨(some 38), .nilCheck (.t 37), (some (36, true))⟩ 10
  (.quiet ⟨(some 39), .fieldAddr 0 (.t 38), (some (36, true))⟩ 11
  (.quiet ⟨(some 40), .load1 (.t 39), (some (36, true))⟩ 12
  (.quiet ⟨(some 41), .move (.t 6), (some (36, true))⟩ 13
  (.quiet ⟨(some 42), .indexAddr 3 (.t 40) (.t 41), (some (36, true))⟩ 14
  (.quiet ⟨(some 43), .fieldAddr 0 (.t 42), (some (36, true))⟩ 15
  (.quiet ⟨(some 44), .load1 (.t 43), (some (36, true))⟩ 16
  (.quiet ⟨(some 45), .move (.t 1), (some (36, true))⟩ 17
  (.quiet ⟨(some 46), .bin .eql .num (.t 44) (.t 45), (some (36, true))⟩ 18
  (.quiet ⟨(some 47), .pick (.t 36) (.t 46) (.c (.bool false)), none⟩ 19
  (.quiet ⟨(some 4), .move (.t 28), none⟩ 20
  (.quiet ⟨(some 5), .move (.t 47), none⟩ 21
  .leaf))))))))))))))))))))))
def b52_10 : SCode := .draw t52_10
def b52_11 : SCode := .seq b52_10 .ret
def b52_12 : SCode := .seq b52_9 b52_11
def b52_13 : SCode := .seq b52_1 b52_12
def b52_14 : SCode := .seq b52_0 b52_13
def s52 : SFunc := ⟨48, [.t 4, .t 5], b52_14⟩
theorem c52 : sFn Try.prog 52 = some s52 := by kernel_rfl
theorem Z52 : XR b52_0 r52_0 ∧ XR b52_1 r52_1 ∧ XR b52_2 r52_2 ∧ XC b52_3 (.t 25) .skip (.exit 0) ∧ XS b52_4 b52_2 b52_3 ∧ XR b52_5 r52_5 ∧ XB b52_6 1 b52_5 ∧ XS b52_7 b52_4 b52_6 ∧ XB b52_9 0 b52_8 ∧ XT b52_10 t52_10 ∧ XS b52_11 b52_10 .ret ∧ XS b52_12 b52_9 b52_11 ∧ XS b52_13 b52_1 b52_12 ∧ XS b52_14 b52_0 b52_13 ∧ XY s52 48 b52_14 [.t 4, .t 5] := ⟨rfl, rfl, rfl, sC_cond, rfl, rfl, rfl, rfl, rfl, rfl, rfl, rfl, rfl, rfl, rfl⟩

set_option maxHeartbeats 4000000
set_option maxRecDepth 10000
abbrev Bs := List UInt8
abbrev Rw := Bs × Bs × Bs
abbrev rowC (l : List Rw) : List (List AV) := l.map fun (r : Rw) => [AV.str r.1, AV.str r.2.1, AV.str r.2.2]
theorem rowC_len3 (l : List Rw) : ∀ r ∈ rowC l, r.length = 3 := fun r hr => by
  obtain ⟨b, _, rfl⟩ := List.mem_map.1 hr
  rfl
def atS (l : List Rw) (key : Bs) : Nat := (l.takeWhile fun r => lessBytes r.1 key).length
def fdK (l : List Rw) (key : Bs) : Bool := match l[atS l key]? with
  | some r => decide (r.1 = key)
  | none => false
theorem at_le (l : List Rw) (key : Bs) : atS l key ≤ l.length := by
  unfold atS
  induction l with
  | nil => simp
  | cons x l ih =>
    rw [List.takeWhile_cons]
    split
    · simp only [List.length_cons]; omega
    · simp
theorem at_is : ∀ {l : List Rw} {key : Bs} {k : Nat}, k ≤ l.length → (∀ r ∈ l.take k, lessBytes r.1 key = true) → (∀ r, l[k]? = some r → lessBytes r.1 key = false) → atS l key = k
  | [], key, k, hk, _, _ => by simp at hk; subst hk; rfl
  | x :: l, key, 0, _, _, h2 => by
    have := h2 x rfl
    unfold atS
    rw [List.takeWhile_cons, this]; rfl
  | x :: l, key, k + 1, hk, h1, h2 => by
    have hx : lessBytes x.1 key = true := h1 x (by simp)
    have ih := at_is (l := l) (key := key) (k := k) (by simpa using hk) (fun r hr => h1 r (by simp [hr])) (fun r hr => h2 r (by simpa using hr))
    unfold atS at ih ⊢
    rw [List.takeWhile_cons, hx]
    simp [ih]
/-- A list of rows at a cell. -/
def MapAt (σ : AHeap) (H off : Nat) (cells : List AV) (Mv : AV) (rows : List Rw) : Prop := hget σ H = some cells ∧ cells[off]? = some Mv ∧ Grow σ Mv 3 (rowC rows) ∧ rows.length ≤ 100000
def maI (σ0 : AHeap) (rows : List Rw) (H off : Nat) (key : Bs) (m : Nat) (e : Env) (σ : AHeap) : Prop := ∃ k : Nat, k ≤ rows.length ∧ m = rows.length - k ∧ σ = σ0 ∧ (∀ r ∈ rows.take k, lessBytes r.1 key = true) ∧ e 0 = .ptr H off ∧ e 1 = .str key ∧ e 6 = .int .i64 (k : Int)
def matD (args : List AV) (σ : AHeap) (K : AV → AHeap → Prop) : Prop := ∃ (H off : Nat) (cells : List AV) (Mv : AV) (rows : List Rw) (key : Bs), args = [.ptr H off, .str key] ∧ MapAt σ H off cells Mv rows ∧ K (.tuple [.int .i64 (atS rows key : Int), .bool (fdK rows key)]) σ
theorem matD_ok (args : List AV) (σ : AHeap) (K : AV → AHeap → Prop) (h : matD args σ K) : Tri Try.prog 52 args σ K := by
  obtain ⟨H, off, cells, Mv, rows, key, rfl, ⟨hH, hM, hg, hl⟩, h⟩ := h
  refine Tri.of_s c52 (noCall_sound _) ?_
  have lr : (rowC rows).length = rows.length := by simp
  simp only [Z52, base1, ↓reduceIte, Nat.reduceAdd, Nat.reduceSub, Nat.reduceMul, Nat.reduceEqDiff, Nat.reduceLeDiff, Nat.reduceLT, Int.reduceLT, Int.reduceLE, Int.reduceEq, Int.reduceNe, Int.reduceToNat, Int.reduceAdd, Int.reduceSub, reduceCtorEq, Nat.reduceBEq, Nat.reduceBNe]
  refine sC_inv (a := b52_7) (maI σ rows H off key) rows.length _ _ (.refl _ _ _) ⟨0, Nat.zero_le _, rfl, rfl, (fun r hr => by simp at hr), rfl, rfl, rfl⟩ ?_
  rintro m e σ' ⟨k, hk, hm, rfl, hless, e0, e1, e6⟩
  have hwr : IntKind.wrap .i64 ((k : Int) + 1) = ((k + 1 : Nat) : Int) := by rw [Gz.wrap64 (by omega)]; omega
  rcases hg with ⟨rfl, h0⟩ | ⟨d, rfl, hd, h3, hc⟩
  · have hr0 : rows = [] := by cases rows with
      | nil => rfl
      | cons => cases h0
    subst hr0
    have hk0 : k = 0 := by simpa using hk
    subst hk0
    simp only [Z52, base1, ↓reduceIte, Nat.reduceAdd, Nat.reduceSub, Nat.reduceMul, Nat.reduceEqDiff, Nat.reduceLeDiff, Nat.reduceLT, Int.reduceLT, Int.reduceLE, Int.reduceEq, Int.reduceNe, Int.reduceToNat, Int.reduceAdd, Int.reduceSub, reduceCtorEq, Nat.reduceBEq, Nat.reduceBNe, loopR_exit, loopR_ret, lenOf_nilS, e0, e1, e6, hH, hM]
    exact h
  · rw [lr] at hM
    have l0 : lenOf (.slice d 0 rows.length none 3) = some rows.length := rfl
    by_cases hlt' : (k : Int) < (rows.length : Int)
    · have hlt : k < rows.length := by omega
      have hge0 : (0 : Int) ≤ (k : Int) := by omega
      obtain ⟨r, hr⟩ : ∃ r, rows[k]? = some r := ⟨_, List.getElem?_eq_getElem hlt⟩
      have hcell : (rowC rows).flatten[k * 3]? = some (.str r.1) := by
        have := flat_at (j := 0) h3 (i := k) (row := [.str r.1, .str r.2.1, .str r.2.2]) (x := .str r.1) (by rw [rowC, List.getElem?_map, hr]; rfl) rfl
        simpa using this
      cases hls : lessBytes r.1 key with
      | true =>
        simp only [Z52, base1, ↓reduceIte, Nat.reduceAdd, Nat.reduceSub, Nat.reduceMul, Nat.reduceEqDiff, Nat.reduceLeDiff, Nat.reduceLT, Int.reduceLT, Int.reduceLE, Int.reduceEq, Int.reduceNe, Int.reduceToNat, Int.reduceAdd, Int.reduceSub, reduceCtorEq, Nat.reduceBEq, Nat.reduceBNe, loopR_exit, loopR_ret, l0, e0, e1, e6, hH, hM, hlt', hlt, hge0, Int.toNat_natCast, hd, hcell, hls, hwr]
        rw [loopR_normal]
        refine ⟨rows.length - (k + 1), _, _, by omega, .refl _ _ _, k + 1, hlt, rfl, rfl, fun x hx => ?_, e0, e1, rfl⟩
        rw [List.take_add_one, hr] at hx
        rcases List.mem_append.1 hx with h | h
        · exact hless x h
        · simp at h; subst h; exact hls
      | false =>
        have hat := at_is hk hless (fun x hx => by rw [hr] at hx; cases hx; exact hls)
        have hfd : fdK rows key = decide (r.1 = key) := by unfold fdK; rw [hat, hr]
        rw [hat, hfd] at h
        simp only [Z52, base1, ↓reduceIte, Nat.reduceAdd, Nat.reduceSub, Nat.reduceMul, Nat.reduceEqDiff, Nat.reduceLeDiff, Nat.reduceLT, Int.reduceLT, Int.reduceLE, Int.reduceEq, Int.reduceNe, Int.reduceToNat, Int.reduceAdd, Int.reduceSub, reduceCtorEq, Nat.reduceBEq, Nat.reduceBNe, loopR_exit, loopR_ret, l0, e0, e1, e6, hH, hM, hlt', hlt, hge0, Int.toNat_natCast, hd, hcell, hls]
        exact h
    · have hke : k = rows.length := by omega
      have hat := at_is hk hless (fun x hx => by rw [hke] at hx; simp at hx)
      have hfd : fdK rows key = false := by unfold fdK; rw [hat, hke]; simp
      rw [hat, hfd] at h
      simp only [Z52, base1, ↓reduceIte, Nat.reduceAdd, Nat.reduceSub, Nat.reduceMul, Nat.reduceEqDiff, Nat.reduceLeDiff, Nat.reduceLT, Int.reduceLT, Int.reduceLE, Int.reduceEq, Int.reduceNe, Int.reduceToNat, Int.reduceAdd, Int.reduceSub, reduceCtorEq, Nat.reduceBEq, Nat.reduceBNe, loopR_exit, loopR_ret, l0, e0, e1, e6, hH, hM, hlt']
      exact h
end Go.Proofs.Ytmjnmnhpmbbmgaa.tour

/- The reference's map of records: what a key has. No condition. -/
set_option linter.unusedVariables false
set_option linter.unusedSimpArgs false
namespace Go.Proofs.Ytmjnmnhpmbbmgaa.tour
open Go.ChangeShapes Go.WideShapes Go.ChangeAt Go.RowKit Go.Gz Go.Gz.H
abbrev r39_0 : List MOper := [⟨(some 4), .alloc [.str [], .str []], none⟩,
  ⟨(some 5), .move (.c (.bool false)), none⟩]
def b39_0 : SCode := .region r39_0
abbrev r39_1 : List MOper := [⟨(some 9), .move (.t 0), none⟩,
  ⟨(some 10), .move (.t 1), none⟩,
  ⟨(some 11), .call 52 [(.t 9), (.t 10)], none⟩,
  ⟨(some 8), .move (.t 11), none⟩,
  ⟨(some 12), .extract (.t 8) 0, none⟩,
  ⟨(some 13), .extract (.t 8) 1, none⟩,
  ⟨(some 6), .move (.t 12), none⟩,
  ⟨(some 7), .move (.t 13), none⟩]
def b39_1 : SCode := .region r39_1
abbrev r39_2 : List MOper := [⟨(some 14), .move (.t 7), none⟩,
  ⟨(some 15), .un .not (.t 14), none⟩]
def b39_2 : SCode := .region r39_2
abbrev r39_3 : List MOper := [⟨(some 16), .build [.str [], .str []] [], none⟩,
  ⟨none, .store 2 (.t 4) (.t 16), none⟩,
  ⟨(some 5), .move (.c (.bool false)), none⟩]
def b39_3 : SCode := .region r39_3
def b39_4 : SCode := .seq b39_3 .ret
def b39_5 : SCode := .cond (.t 15) b39_4 .skip
def b39_6 : SCode := .seq b39_2 b39_5
abbrev r39_7 : List MOper := [⟨(some 17), .move (.t 0), none⟩,
  ⟨(some 18), .nilCheck (.t 17), none⟩,
  ⟨(some 19), .fieldAddr 0 (.t 18), none⟩,
  ⟨(some 20), .load1 (.t 19), none⟩,
  ⟨(some 21), .move (.t 6), none⟩,
  ⟨(some 22), .indexAddr 3 (.t 20) (.t 21), none⟩,
  ⟨(some 23), .fieldAddr 1 (.t 22), none⟩,
  ⟨(some 24), .loadN 2 (.t 23), none⟩,
  ⟨none, .store 2 (.t 4) (.t 24), none⟩,
  ⟨(some 5), .move (.c (.bool true)), none⟩]
def b39_7 : SCode := .region r39_7
def b39_8 : SCode := .seq b39_7 .ret
def b39_9 : SCode := .seq b39_6 b39_8
def b39_10 : SCode := .seq b39_1 b39_9
def b39_11 : SCode := .seq b39_0 b39_10
def s39 : SFunc := ⟨25, [.cN 4 2, .t 5], b39_11⟩
theorem c39 : sFn Try.prog 39 = some s39 := by kernel_rfl
theorem Z39 : XR b39_0 r39_0 ∧ XR b39_1 r39_1 ∧ XR b39_2 r39_2 ∧ XR b39_3 r39_3 ∧ XS b39_4 b39_3 .ret ∧ XC b39_5 (.t 15) b39_4 .skip ∧ XS b39_6 b39_2 b39_5 ∧ XR b39_7 r39_7 ∧ XS b39_8 b39_7 .ret ∧ XS b39_9 b39_6 b39_8 ∧ XS b39_10 b39_1 b39_9 ∧ XS b39_11 b39_0 b39_10 ∧ XY s39 25 b39_11 [.cN 4 2, .t 5] := ⟨rfl, rfl, rfl, rfl, rfl, sC_cond, rfl, rfl, rfl, rfl, rfl, rfl, rfl⟩

set_option maxHeartbeats 4000000
set_option maxRecDepth 10000
theorem Kp.push {σ : AHeap} {c : List AV} : Kp σ (hpush σ c) := fun j x h => push_old h
theorem Kp.pushSet {σ : AHeap} {c d : List AV} : Kp σ (hset (hpush σ c) σ.length d) := fun j x h => al_frame h
theorem Kp.grow {σ τ : AHeap} {Lv : AV} {w : Nat} {rows : List (List AV)} (hk : Kp σ τ) (h : Grow σ Lv w rows) : Grow τ Lv w rows := grow_frame h fun j c hj _ => hk j c hj
theorem Kp.map {σ τ : AHeap} {H off : Nat} {cells : List AV} {Mv : AV} {rows : List Rw} (hk : Kp σ τ) (h : MapAt σ H off cells Mv rows) : MapAt τ H off cells Mv rows := ⟨hk _ _ h.1, h.2.1, hk.grow h.2.2.1, h.2.2.2⟩
theorem flat_sub {w : Nat} {rows : List (List AV)} {i j n : Nat} {row : List AV} (h : ∀ r ∈ rows, r.length = w) (hr : rows[i]? = some row) (hj : j + n ≤ w) : sub rows.flatten (i * w + j) n = some ((row.drop j).take n) := by
  have hi := (List.getElem?_eq_some_iff.1 hr).1
  have hw := h row (List.mem_of_getElem? hr)
  have hs : rows = rows.take i ++ row :: rows.drop (i + 1) := by
    have h1 := List.getElem?_eq_some_iff.1 hr
    rw [← h1.2]
    simp
  have ht : (rows.take i).flatten.length = i * w := by
    rw [flat_len (w := w) fun r hr => h r (List.mem_of_mem_take hr), List.length_take, Nat.min_eq_left (by omega)]
  have hlen : rows.flatten.length = rows.length * w := flat_len h
  have hmul : i * w + w ≤ rows.length * w := by
    have : (i + 1) * w ≤ rows.length * w := Nat.mul_le_mul_right _ hi
    rw [Nat.add_mul, Nat.one_mul] at this; exact this
  unfold sub
  rw [if_pos (by omega)]
  congr 1
  have hf : rows.flatten = (rows.take i).flatten ++ (row ++ (rows.drop (i + 1)).flatten) := by
    conv => lhs; rw [hs]
    simp
  rw [hf, List.drop_append, List.drop_eq_nil_of_le (by omega), List.nil_append, ht, Nat.add_sub_cancel_left, List.drop_append_of_le_length (by omega), List.take_append_of_le_length (by rw [List.length_drop]; omega)]
def getS (rows : List Rw) (key : Bs) : Bs × Bs := if fdK rows key then (rows[atS rows key]?.map fun r => r.2).getD ([], []) else ([], [])
def getD (args : List AV) (σ : AHeap) (K : AV → AHeap → Prop) : Prop := ∃ (H off : Nat) (cells : List AV) (Mv : AV) (rows : List Rw) (key : Bs), args = [.ptr H off, .str key] ∧ MapAt σ H off cells Mv rows ∧ ∀ σ', Kp σ σ' → K (.tuple [.agg [.str (getS rows key).1, .str (getS rows key).2], .bool (fdK rows key)]) σ'
def U39 : PCall := rowQ 52 matD noCall
theorem U39_app {f : FuncId} {args : List AV} {σ : AHeap} {K : AV → AHeap → Prop} : U39 f args σ K = rowQ 52 matD noCall f args σ K := _root_.id rfl
theorem U39_sound : Sound Try.prog U39 := rowQ_sound matD_ok (noCall_sound _)
theorem getD_ok (args : List AV) (σ : AHeap) (K : AV → AHeap → Prop) (h : getD args σ K) : Tri Try.prog 39 args σ K := by
  obtain ⟨H, off, cells, Mv, rows, key, rfl, hM, h⟩ := h
  refine Tri.of_s c39 U39_sound ?_
  simp only [U39_app, Z39, base1, ↓reduceIte, Nat.reduceAdd, Nat.reduceSub, Nat.reduceMul, Nat.reduceEqDiff, Nat.reduceLeDiff, Nat.reduceLT, Int.reduceLT, Int.reduceLE, Int.reduceEq, Int.reduceNe, Int.reduceToNat, Int.reduceAdd, Int.reduceSub, reduceCtorEq, Nat.reduceBEq, Nat.reduceBNe]
  have hM1 : MapAt (hpush σ [.str [], .str []]) H off cells Mv rows := Kp.push.map hM
  refine ⟨H, off, cells, Mv, rows, key, rfl, hM1, ?_⟩
  obtain ⟨hH, hc, hg, hl⟩ := hM1
  have hp := push_new (σ := σ) (c := [.str [], .str []]) rfl
  cases hf : fdK rows key with
  | false =>
    have hgs : getS rows key = ([], []) := by unfold getS; rw [hf]; rfl
    rw [hgs, hf] at h
    simp only [U39_app, Z39, base1, ↓reduceIte, Nat.reduceAdd, Nat.reduceSub, Nat.reduceMul, Nat.reduceEqDiff, Nat.reduceLeDiff, Nat.reduceLT, Int.reduceLT, Int.reduceLE, Int.reduceEq, Int.reduceNe, Int.reduceToNat, Int.reduceAdd, Int.reduceSub, reduceCtorEq, Nat.reduceBEq, Nat.reduceBNe, hp, set_same hp]
    exact h _ Kp.pushSet
  | true =>
    obtain ⟨r, hr⟩ : ∃ r, rows[atS rows key]? = some r := by
      unfold fdK at hf
      split at hf
      · exact ⟨_, by assumption⟩
      · cases hf
    have hgs : getS rows key = r.2 := by unfold getS; rw [hf, hr]; rfl
    rw [hgs, hf] at h
    rcases hg with ⟨rfl, h0⟩ | ⟨d, rfl, hd, h3, hcl⟩
    · have hr0 : rows = [] := by cases rows with
        | nil => rfl
        | cons => cases h0
      subst hr0; cases hr
    · have lr : (rowC rows).length = rows.length := by simp
      have hlt := (List.getElem?_eq_some_iff.1 hr).1
      have hlt' : (atS rows key : Int) < (rows.length : Int) := by omega
      have hge0 : (0 : Int) ≤ (atS rows key : Int) := by omega
      rw [lr] at hc
      have row : (rowC rows)[atS rows key]? = some [.str r.1, .str r.2.1, .str r.2.2] := by rw [rowC, List.getElem?_map, hr]; rfl
      have c1 : sub (rowC rows).flatten (atS rows key * 3 + 1) 2 = some [.str r.2.1, .str r.2.2] := flat_sub h3 row (by decide)
      simp only [U39_app, Z39, base1, ↓reduceIte, Nat.reduceAdd, Nat.reduceSub, Nat.reduceMul, Nat.reduceEqDiff, Nat.reduceLeDiff, Nat.reduceLT, Int.reduceLT, Int.reduceLE, Int.reduceEq, Int.reduceNe, Int.reduceToNat, Int.reduceAdd, Int.reduceSub, reduceCtorEq, Nat.reduceBEq, Nat.reduceBNe, hp, set_same hp, hH, hc, hd, hlt, hlt', hge0, Int.toNat_natCast, c1]
      exact h _ Kp.pushSet
end Go.Proofs.Ytmjnmnhpmbbmgaa.tour

/- The reference's map of records: a record is put. No condition. -/
set_option linter.unusedVariables false
set_option linter.unusedSimpArgs false
namespace Go.Proofs.Ytmjnmnhpmbbmgaa.tour
open Go.ChangeShapes Go.WideShapes Go.ChangeAt Go.RowKit Go.Gz Go.Gz.H
abbrev r29_0 : List MOper := [⟨(some 5), .box (.t 2), none⟩,
  ⟨(some 6), .move (.c (.bool false)), none⟩]
def b29_0 : SCode := .region r29_0
abbrev r29_1 : List MOper := [⟨(some 11), .move (.t 0), none⟩,
  ⟨(some 12), .move (.t 1), none⟩,
  ⟨(some 13), .call 52 [(.t 11), (.t 12)], none⟩,
  ⟨(some 10), .move (.t 13), none⟩,
  ⟨(some 14), .extract (.t 10) 0, none⟩,
  ⟨(some 15), .extract (.t 10) 1, none⟩,
  ⟨(some 7), .move (.t 14), none⟩,
  ⟨(some 8), .move (.t 15), none⟩]
def b29_1 : SCode := .region r29_1
abbrev r29_2 : List MOper := [⟨(some 16), .move (.t 0), none⟩,
  ⟨(some 17), .nilCheck (.t 16), none⟩,
  ⟨(some 18), .fieldAddr 0 (.t 17), none⟩,
  ⟨(some 19), .load1 (.t 18), none⟩,
  ⟨(some 20), .move (.t 7), none⟩,
  ⟨(some 21), .slice 3 (.t 19) (some (.t 20)) none none, none⟩,
  ⟨(some 9), .move (.t 21), none⟩]
def b29_2 : SCode := .region r29_2
abbrev r29_3 : List MOper := [⟨(some 22), .move (.t 8), none⟩]
def b29_3 : SCode := .region r29_3
abbrev r29_4 : List MOper := [⟨(some 23), .move (.t 0), none⟩,
  ⟨(some 24), .nilCheck (.t 23), none⟩,
  ⟨(some 25), .fieldAddr 0 (.t 24), none⟩,
  ⟨(some 26), .load1 (.t 25), none⟩,
  ⟨(some 27), .move (.t 7), none⟩,
  ⟨(some 28), .bin .add .num (.t 27) (.c (.int .i64 1)), none⟩,
  ⟨(some 29), .slice 3 (.t 26) (some (.t 28)) none none, none⟩,
  ⟨(some 9), .move (.t 29), none⟩]
def b29_4 : SCode := .region r29_4
def b29_5 : SCode := .cond (.t 22) b29_4 .skip
def b29_6 : SCode := .seq b29_3 b29_5
abbrev t29_7 : LTree := (.quiet ⟨(some 30), .move (.t 0), none⟩ 0
  (.quiet ⟨(some 31), .move (.t 0), none⟩ 1
  (.quiet ⟨(some 32), .nilCheck (.t 31), none⟩ 2
  (.quiet ⟨(some 33), .fieldAddr 0 (.t 32), none⟩ 3
  (.quiet ⟨(some 34), .load1 (.t 33), none⟩ 4
  (.quiet ⟨(some 35), .move (.t 7), none⟩ 5
  (.quiet ⟨(some 36), .slice 3 (.t 34) none (some (.t 35)) none, none⟩ 6
  (.quiet ⟨(some 38), .move (.t 1), none⟩ 8
  (.quiet ⟨(some 39), .loadN 2 (.t 5), none⟩ 9
  (.quiet ⟨(some 40), .build [.str [], .str [], .str []] [(0, 1, (.t 38)), (1, 2, (.t 39))], none⟩ 10
  (.quiet ⟨(some 43), .move (.t 9), none⟩ 13
  (.loud ⟨(some 37), .append 3 48 (.c (.nilslice)) (.t 36), none⟩ [9]
  (.loud ⟨(some 41), .buildSlice [.str [], .str [], .str []] 3 1 [(0, 3, (.t 40))], none⟩ [4]
  (.loud ⟨(some 42), .append 3 48 (.t 37) (.t 41), none⟩ []
  (.loud ⟨(some 44), .append 3 48 (.t 42) (.t 43), none⟩ []
  (.quiet ⟨(some 45), .nilCheck (.t 30), none⟩ 15
  (.quiet ⟨(some 46), .fieldAddr 0 (.t 45), none⟩ 16
  (.loud ⟨none, .store 1 (.t 46) (.t 44), none⟩ []
  .leaf .stop))) .stop) .stop) .stop) (.loud ⟨(some 41), .buildSlice [.str [], .str [], .str []] 3 1 [(0, 3, (.t 40))], none⟩ [4]
  (.loud ⟨(some 37), .append 3 48 (.c (.nilslice)) (.t 36), none⟩ [9]
  (.loud ⟨(some 42), .append 3 48 (.t 37) (.t 41), none⟩ []
  (.loud ⟨(some 44), .append 3 48 (.t 42) (.t 43), none⟩ []
  (.quiet ⟨(some 45), .nilCheck (.t 30), none⟩ 15
  (.quiet ⟨(some 46), .fieldAddr 0 (.t 45), none⟩ 16
  (.loud ⟨none, .store 1 (.t 46) (.t 44), none⟩ []
  .leaf .stop))) .stop) .stop) .stop) .stop)))))))))))))
def b29_7 : SCode := .draw t29_7
abbrev r29_8 : List MOper := [⟨(some 47), .move (.t 8), none⟩,
  ⟨(some 6), .move (.t 47), none⟩]
def b29_8 : SCode := .region r29_8
def b29_9 : SCode := .seq b29_8 .ret
def b29_10 : SCode := .seq b29_7 b29_9
def b29_11 : SCode := .seq b29_6 b29_10
def b29_12 : SCode := .seq b29_2 b29_11
def b29_13 : SCode := .seq b29_1 b29_12
def b29_14 : SCode := .seq b29_0 b29_13
def s29 : SFunc := ⟨48, [.t 6], b29_14⟩
theorem c29 : sFn Try.prog 29 = some s29 := by kernel_rfl
theorem Z29 : XR b29_0 r29_0 ∧ XR b29_1 r29_1 ∧ XR b29_2 r29_2 ∧ XR b29_3 r29_3 ∧ XR b29_4 r29_4 ∧ XC b29_5 (.t 22) b29_4 .skip ∧ XS b29_6 b29_3 b29_5 ∧ XT b29_7 t29_7 ∧ XR b29_8 r29_8 ∧ XS b29_9 b29_8 .ret ∧ XS b29_10 b29_7 b29_9 ∧ XS b29_11 b29_6 b29_10 ∧ XS b29_12 b29_2 b29_11 ∧ XS b29_13 b29_1 b29_12 ∧ XS b29_14 b29_0 b29_13 ∧ XY s29 48 b29_14 [.t 6] := ⟨rfl, rfl, rfl, rfl, rfl, sC_cond, rfl, rfl, rfl, rfl, rfl, rfl, rfl, rfl, rfl, rfl⟩

set_option maxHeartbeats 4000000
set_option maxRecDepth 10000
/-- What shows some rows, wherever its block stays. -/
def Shows (σ : AHeap) (Mv : AV) (w : Nat) (x : AV) (rows : List (List AV)) : Prop := lenOf x = some rows.length ∧ (∀ τ, (∀ j c, hget σ j = some c → LvD Mv = some j → hget τ j = some c) → elemsOf τ w x = some rows.flatten)
theorem part_rows {w : Nat} {rows : List (List AV)} (h3 : ∀ r ∈ rows, r.length = w) (hc : rows.flatten.all (fun x => x.isCell) = true) (k : Nat) (hk : k ≤ rows.length) :
    sub rows.flatten 0 (k * w) = some (rows.take k).flatten ∧ sub rows.flatten (k * w) ((rows.length - k) * w) = some (rows.drop k).flatten ∧ (rows.take k).flatten.all (fun x => x.isCell) = true ∧ (rows.drop k).flatten.all (fun x => x.isCell) = true := by
  have hsplit : rows.flatten = (rows.take k).flatten ++ (rows.drop k).flatten := by rw [← List.flatten_append, List.take_append_drop]
  have lt : (rows.take k).flatten.length = k * w := by rw [flat_len (w := w) fun r hr => h3 r (List.mem_of_mem_take hr), List.length_take, Nat.min_eq_left hk]
  have ld : (rows.drop k).flatten.length = (rows.length - k) * w := by rw [flat_len (w := w) fun r hr => h3 r (List.mem_of_mem_drop hr), List.length_drop]
  rw [hsplit, List.all_append] at hc
  have hc2 := (Bool.and_eq_true _ _ ▸ hc : _ ∧ _)
  refine ⟨?_, ?_, hc2.1, hc2.2⟩
  · unfold sub
    rw [if_pos (by rw [hsplit, List.length_append, lt]; omega), List.drop_zero, hsplit, List.take_append_of_le_length (by omega), List.take_of_length_le (by omega)]
  · unfold sub
    rw [if_pos (by rw [hsplit, List.length_append, lt, ld]; omega), hsplit, List.drop_append, List.drop_eq_nil_of_le (by omega), lt, Nat.sub_self, List.drop_zero, List.nil_append, List.take_of_length_le (by omega)]
theorem cut_to {σ : AHeap} {Mv : AV} {w sz k : Nat} {rows : List (List AV)} (hg : Grow σ Mv w rows) (hk : k ≤ rows.length) : ∃ x, evSlice w Mv none (some (.int .i64 (k : Int))) none = some x ∧ Shows σ Mv w x (rows.take k) := by
  rcases hg with ⟨rfl, rfl⟩ | ⟨d, rfl, hd, h3, hc⟩
  · have : k = 0 := by simpa using hk
    subst this
    exact ⟨.nilslice, rfl, rfl, fun _ _ => rfl⟩
  · refine ⟨_, ev_to hk, ?_, fun τ hτ => ?_⟩
    · show some k = _
      rw [List.length_take, Nat.min_eq_left hk]
    · simp only [elemsOf, if_true, hτ d _ hd rfl, Option.bind_some]
      exact (part_rows h3 hc k hk).1
theorem cut_from {σ : AHeap} {Mv : AV} {w sz k : Nat} {rows : List (List AV)} (hg : Grow σ Mv w rows) (hk : k ≤ rows.length) : ∃ x, evSlice w Mv (some (.int .i64 (k : Int))) none none = some x ∧ Shows σ Mv w x (rows.drop k) := by
  rcases hg with ⟨rfl, rfl⟩ | ⟨d, rfl, hd, h3, hc⟩
  · have : k = 0 := by simpa using hk
    subst this
    exact ⟨.nilslice, rfl, rfl, fun _ _ => rfl⟩
  · refine ⟨_, ev_from hk, ?_, fun τ hτ => ?_⟩
    · show some (rows.length - k) = _
      rw [List.length_drop]
    · simp only [elemsOf, if_true, hτ d _ hd rfl, Option.bind_some]
      exact (part_rows h3 hc k hk).2.1
/-- A row is put between: both orders in which it may be made. -/
theorem ins_grow {σ : AHeap} {Mv x y : AV} {w b k k' : Nat} {rows : List (List AV)} (hb : b ≤ 1000) (hg : Grow σ Mv w rows) (hk : k ≤ rows.length) (hk' : k' ≤ rows.length) (hbig : rows.length ≤ 1000000)
    (hx : Shows σ Mv w x (rows.take k)) (hy : Shows σ Mv w y (rows.drop k')) (row : List AV) (hw : row.length = w) (hc : row.all (fun x => x.isCell) = true) :
    (∃ v1 τ1 v2 τ2 v τ, (Kp σ τ1 ∧ Kp σ τ2) ∧ evAppend w b .nilslice x σ = some (v1, τ1) ∧ v1.isCell = true ∧ v1.cells? = some [v1] ∧ evAppend w b v1 (.slice τ1.length 0 1 (some 1) w) (hpush τ1 row) = some (v2, τ2) ∧ v2.isCell = true ∧ v2.cells? = some [v2] ∧ evAppend w b v2 y τ2 = some (v, τ) ∧ v.isCell = true ∧ v.cells? = some [v] ∧ Kp σ τ ∧ (∀ j c, hget σ j = some c → LvD v ≠ some j) ∧ Grow τ v w (rows.take k ++ row :: rows.drop k')) ∧
    (∃ v1 τ1 v2 τ2 v τ, (Kp σ τ1 ∧ Kp σ τ2) ∧ evAppend w b .nilslice x (hpush σ row) = some (v1, τ1) ∧ v1.isCell = true ∧ v1.cells? = some [v1] ∧ evAppend w b v1 (.slice σ.length 0 1 (some 1) w) τ1 = some (v2, τ2) ∧ v2.isCell = true ∧ v2.cells? = some [v2] ∧ evAppend w b v2 y τ2 = some (v, τ) ∧ v.isCell = true ∧ v.cells? = some [v] ∧ Kp σ τ ∧ (∀ j c, hget σ j = some c → LvD v ≠ some j) ∧ Grow τ v w (rows.take k ++ row :: rows.drop k')) := by
  have hp : (∀ r ∈ rows, r.length = w) ∧ rows.flatten.all (fun x => x.isCell) = true := by
    rcases hg with ⟨rfl, rfl⟩ | ⟨d, rfl, hd, h3, hc⟩
    · exact ⟨fun r hr => by simp at hr, rfl⟩
    · exact ⟨h3, hc⟩
  have pk := part_rows hp.1 hp.2 k hk
  have pk' := part_rows hp.1 hp.2 k' hk'
  have lt : ∀ r ∈ rows.take k, r.length = w := fun r hr => hp.1 r (List.mem_of_mem_take hr)
  have ld : ∀ r ∈ rows.drop k', r.length = w := fun r hr => hp.1 r (List.mem_of_mem_drop hr)
  have n1 : (rows.take k).length ≤ 1000000 := by rw [List.length_take]; omega
  have n2 : (rows.drop k').length ≤ 1000000 := by rw [List.length_drop]; omega
  have e3 : rows.take k ++ [row] ++ rows.drop k' = rows.take k ++ row :: rows.drop k' := by simp
  constructor
  · obtain ⟨v1, τ1, a1, a2, a3, a4, a5⟩ := grow_any hb (σ := σ) (Lv := .nilslice) (.inl ⟨rfl, rfl⟩) (ys := rows.take k) (by simp only [List.length_nil]; omega) (hx.2 σ fun _ _ h _ => h) hx.1 lt pk.2.2.1
    rw [List.nil_append] at a5
    obtain ⟨v2, τ2, b1, b2, b3, b4, b5⟩ := grow_one hb a5 (by omega) row hw hc
    have k1 : Kp σ τ1 := fun j c h => (a4 j c h (by simp [LvD])).1
    have k2 : Kp σ τ2 := fun j c h => (b4 j c (k1 j c h) (a4 j c h (by simp [LvD])).2).1
    obtain ⟨v3, τ3, c1, c2, c3, c4, c5⟩ := grow_any hb b5 (ys := rows.drop k') (by simp only [List.length_append, List.length_cons, List.length_nil]; omega) (hy.2 τ2 fun j c h _ => k2 j c h) hy.1 ld pk'.2.2.2
    have b4' := fun j c h => (b4 j c (k1 j c h) (a4 j c h (by simp [LvD])).2).2
    exact ⟨v1, τ1, v2, τ2, v3, τ3, ⟨k1, k2⟩, a1, a2, a3, b1, b2, b3, c1, c2, c3, fun j c h => (c4 j c (k2 j c h) (b4' j c h)).1, fun j c h => (c4 j c (k2 j c h) (b4' j c h)).2, by rw [← e3]; exact c5⟩
  · have k0 : Kp σ (hpush σ row) := Kp.push
    obtain ⟨v1, τ1, a1, a2, a3, a4, a5⟩ := grow_any hb (σ := hpush σ row) (Lv := .nilslice) (.inl ⟨rfl, rfl⟩) (ys := rows.take k) (by simp only [List.length_nil]; omega) (hx.2 _ fun _ _ h _ => k0 _ _ h) hx.1 lt pk.2.2.1
    rw [List.nil_append] at a5
    have k1 : Kp (hpush σ row) τ1 := fun j c h => (a4 j c h (by simp [LvD])).1
    have hrow : hget τ1 σ.length = some row := k1 _ _ (push_new rfl)
    obtain ⟨v2, τ2, b1, b2, b3, b4, b5⟩ := grow_any hb a5 (ys := [row]) (x := .slice σ.length 0 1 (some 1) w) (by simp only [List.length_cons, List.length_nil]; omega) (by
      simp only [elemsOf, if_true, hrow, Option.bind_some]
      rw [show [row].flatten = row by simp]
      exact sub_all (by omega)) rfl (by simpa using hw) (by simpa using hc)
    have b4' := fun j c h => b4 j c (k1 j c h) (a4 j c h (by simp [LvD])).2
    obtain ⟨v3, τ3, c1, c2, c3, c4, c5⟩ := grow_any hb b5 (ys := rows.drop k') (by simp only [List.length_append, List.length_cons, List.length_nil]; omega) (hy.2 τ2 fun j c h _ => (b4' j c (k0 j c h)).1) hy.1 ld pk'.2.2.2
    exact ⟨v1, τ1, v2, τ2, v3, τ3, ⟨k0.trans k1, fun j c h => (b4' j c (k0 j c h)).1⟩, a1, a2, a3, b1, b2, b3, c1, c2, c3, fun j c h => (c4 j c (b4' j c (k0 j c h)).1 (b4' j c (k0 j c h)).2).1, fun j c h => (c4 j c (b4' j c (k0 j c h)).1 (b4' j c (k0 j c h)).2).2, by rw [← e3]; exact c5⟩
def putS (rows : List Rw) (key : Bs) (r : Bs × Bs) : List Rw := rows.take (atS rows key) ++ (key, r) :: rows.drop (if fdK rows key then atS rows key + 1 else atS rows key)
theorem fd_lt {rows : List Rw} {key : Bs} (h : fdK rows key = true) : atS rows key < rows.length := by
  unfold fdK at h
  split at h
  · rename_i r hr; exact (List.getElem?_eq_some_iff.1 hr).1
  · cases h
theorem putS_len {rows : List Rw} {key : Bs} {r : Bs × Bs} : (putS rows key r).length ≤ rows.length + 1 := by
  have := at_le rows key
  unfold putS
  split <;> simp <;> omega
def putK (σ : AHeap) (H off : Nat) (cells : List AV) (rows : List Rw) (key : Bs) (r : Bs × Bs) (K : AV → AHeap → Prop) : Prop :=
  ∀ σ' Mv', (∀ j c, hget σ j = some c → j ≠ H → hget σ' j = some c) → (∀ j c, hget σ j = some c → LvD Mv' ≠ some j) → hget σ' H = some (cells.set off Mv') → Grow σ' Mv' 3 (rowC (putS rows key r)) → K (.bool (fdK rows key)) σ'
def putD' (args : List AV) (σ : AHeap) (K : AV → AHeap → Prop) : Prop := ∃ (H off : Nat) (cells : List AV) (Mv : AV) (rows : List Rw) (key : Bs) (r : Bs × Bs), args = [.ptr H off, .str key, .agg [.str r.1, .str r.2]] ∧ MapAt σ H off cells Mv rows ∧ LvD Mv ≠ some H ∧ putK σ H off cells rows key r K
theorem putD_ok (args : List AV) (σ : AHeap) (K : AV → AHeap → Prop) (h : putD' args σ K) : Tri Try.prog 29 args σ K := by
  obtain ⟨H, off, cells, Mv, rows, key, r, rfl, hM0, hMH, h⟩ := h
  refine Tri.of_s c29 U39_sound ?_
  simp only [U39_app, Z29, base1, ↓reduceIte, Nat.reduceAdd, Nat.reduceSub, Nat.reduceMul, Nat.reduceEqDiff, Nat.reduceLeDiff, Nat.reduceLT, Int.reduceLT, Int.reduceLE, Int.reduceEq, Int.reduceNe, Int.reduceToNat, Int.reduceAdd, Int.reduceSub, reduceCtorEq, Nat.reduceBEq, Nat.reduceBNe]
  have kp0 : Kp σ (hpush σ [.str r.1, .str r.2]) := Kp.push
  have hM := kp0.map hM0
  refine ⟨H, off, cells, Mv, rows, key, rfl, hM, ?_⟩
  have hp := push_new (σ := σ) (c := [.str r.1, .str r.2]) rfl
  obtain ⟨hH, hc, hg, hl⟩ := hM
  generalize hσ1 : hpush σ [.str r.1, .str r.2] = σ1 at hH hg hp kp0
  have ha := at_le rows key
  have ll : (rowC rows).length = rows.length := by simp
  obtain ⟨x, x1, x2⟩ := cut_to (sz := 48) (k := atS rows key) hg (by omega)
  have hoff : off < cells.length := (List.getElem?_eq_some_iff.1 hc).1
  have fin : ∀ v τ, Kp σ1 τ → (∀ j c, hget σ1 j = some c → LvD v ≠ some j) → Grow τ v 3 ((rowC rows).take (atS rows key) ++ [AV.str key, .str r.1, .str r.2] :: (rowC rows).drop (if fdK rows key then atS rows key + 1 else atS rows key)) → K (.bool (fdK rows key)) (hset τ H (cells.set off v)) := by
    intro v τ k1 k2 k3
    refine h _ v (fun j c hj hn => by rw [set_other (Ne.symm hn)]; exact k1 j c (kp0 j c hj)) (fun j c hj => k2 j c (kp0 j c hj)) (set_same (k1 _ _ hH)) ?_
    have e : rowC (putS rows key r) = (rowC rows).take (atS rows key) ++ [AV.str key, .str r.1, .str r.2] :: (rowC rows).drop (if fdK rows key then atS rows key + 1 else atS rows key) := by
      simp [putS, rowC, List.map_take, List.map_drop]
    rw [e]
    exact grow_frame k3 fun j c hj hd => by rw [set_other (fun e => k2 H _ hH (by rw [hd, e]))]; exact hj
  cases hf : fdK rows key with
  | false =>
    rw [hf] at fin
    obtain ⟨y, y1, y2⟩ := cut_from (sz := 48) (k := atS rows key) hg (by omega)
    obtain ⟨⟨v1, τ1, v2, τ2, v, τ, o0, o1, o2, o3, o4, o5, o6, o7, o8, o9, p1, p2, p3⟩, w1, π1, w2, π2, w, π, q0, q1, q2, q3, q4, q5, q6, q7, q8, q9, r1, r2, r3⟩ := ins_grow (b := 48) (by decide) hg (by omega) (by omega) (by omega) x2 y2 [.str key, .str r.1, .str r.2] rfl rfl
    have hτ := p1 _ _ hH
    have hπ := r1 _ _ hH
    have t1 := o0.1 _ _ hp
    have t3 := q0.1 _ _ hp
    have t4 := push_old (c := [AV.str key, .str r.1, .str r.2]) hH
    have t2 := push_old (c := [AV.str key, .str r.1, .str r.2]) (o0.1 _ _ hH)
    simp only [U39_app, Z29, base1, ↓reduceIte, Nat.reduceAdd, Nat.reduceSub, Nat.reduceMul, Nat.reduceEqDiff, Nat.reduceLeDiff, Nat.reduceLT, Int.reduceLT, Int.reduceLE, Int.reduceEq, Int.reduceNe, Int.reduceToNat, Int.reduceAdd, Int.reduceSub, reduceCtorEq, Nat.reduceBEq, Nat.reduceBNe, hσ1, hp, hH, hc, x1, y1, o1, o2, o3, o4, o5, o6, o7, o8, o9, q1, q2, q3, q4, q5, q6, q7, q8, q9, hτ, hπ, t1, t2, t3, t4, put_one1 hoff]
    exact ⟨fin _ _ p1 p2 p3, fin _ _ r1 r2 r3⟩
  | true =>
    rw [hf] at fin
    have hlt := fd_lt hf
    have hwr : IntKind.wrap .i64 ((atS rows key : Int) + 1) = ((atS rows key + 1 : Nat) : Int) := by rw [Gz.wrap64 (by omega)]; omega
    obtain ⟨z, z1, z2⟩ := cut_from (sz := 48) (k := atS rows key) hg (by omega)
    obtain ⟨y, y1, y2⟩ := cut_from (sz := 48) (k := atS rows key + 1) hg (by omega)
    obtain ⟨⟨v1, τ1, v2, τ2, v, τ, o0, o1, o2, o3, o4, o5, o6, o7, o8, o9, p1, p2, p3⟩, w1, π1, w2, π2, w, π, q0, q1, q2, q3, q4, q5, q6, q7, q8, q9, r1, r2, r3⟩ := ins_grow (b := 48) (by decide) hg (by omega) (by omega) (by omega) x2 y2 [.str key, .str r.1, .str r.2] rfl rfl
    have hτ := p1 _ _ hH
    have hπ := r1 _ _ hH
    have t1 := o0.1 _ _ hp
    have t3 := q0.1 _ _ hp
    have t4 := push_old (c := [AV.str key, .str r.1, .str r.2]) hH
    have t2 := push_old (c := [AV.str key, .str r.1, .str r.2]) (o0.1 _ _ hH)
    simp only [U39_app, Z29, base1, ↓reduceIte, Nat.reduceAdd, Nat.reduceSub, Nat.reduceMul, Nat.reduceEqDiff, Nat.reduceLeDiff, Nat.reduceLT, Int.reduceLT, Int.reduceLE, Int.reduceEq, Int.reduceNe, Int.reduceToNat, Int.reduceAdd, Int.reduceSub, reduceCtorEq, Nat.reduceBEq, Nat.reduceBNe, hσ1, hp, hH, hc, x1, y1, z1, hwr, o1, o2, o3, o4, o5, o6, o7, o8, o9, q1, q2, q3, q4, q5, q6, q7, q8, q9, hτ, hπ, t1, t2, t3, t4, put_one1 hoff]
    exact ⟨fin _ _ p1 p2 p3, fin _ _ r1 r2 r3⟩
end Go.Proofs.Ytmjnmnhpmbbmgaa.tour
